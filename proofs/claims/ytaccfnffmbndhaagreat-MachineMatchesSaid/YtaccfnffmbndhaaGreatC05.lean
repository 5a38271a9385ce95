/- No condition. -/
import Derived.Test.YtaccfnffmbndhaaGreatC00
import Derived.Test.YtaccfnffmbndhaaGreatC04
import Derived.Test.YtaccfnffmbndhaaGreatC01
import Derived.WalkSpells
import Derived.Test.YtaccfnffmbndhaaGreatC02
import Derived.Test.YtaccfnffmbndhaaGreatProg
import Derived.BigQuiet
import Derived.Deep.QuietTactic
import Derived.Deep.RegionHeld3
import Derived.IntWalk
import Derived.KernelRfl
import Derived.Lib.Mul64
import Derived.Laws.Bits64b
set_option linter.unusedSimpArgs false
set_option linter.unusedVariables false
set_option maxRecDepth 100000
set_option maxHeartbeats 4000000
namespace Go.Proofs.YtaccfnffmbndhaaGreat
open Go.RowKit
def ln (p:Pln) (m:Nat):List Int:=(List.range m).map fun x=>((aD p x 0).length:Int)
theorem yK (p:Pln) (m:Nat):ln p (m+1)=ln p m++[((aD p m 0).length:Int)]:=by simp [ln,Kw]
theorem sZ (p:Pln) (m:Nat):(ln p m).length=m:=by simp [ln]
def et (w:World) (P:Nat) (p:Pln) (u v x B C y i:Value):Prop:=∃BA bc o A j q,w.heap[P]?=some (.cells #[u,v,x,B,KL (p.W:Nat),C,KL (p.mi:Nat),y,KL (p.bu:Nat),KL (p.ck:Nat),KL (p.wi:Nat),i,.slice BA p.buks.length bc,.slice o p.grps.length A,.slice j p.W q] 199 (0,0))∧Rd w BA (aF p.buks)∧Rd w o (aF p.grps)∧Rd w j (aq .i64 (ln p p.W))
theorem et.below {w q:World} {P:Nat} {p:Pln} {o u v y A x i:Value} (h:et w P p o u v y A x i) (j:Below w.heap.size w q):et q P p o u v y A x i:=by
 obtain ⟨BA,bc,L,I,H,B,h1,C,J,D⟩:=h
 exact ⟨BA,bc,L,I,H,B,sb h1 _ j,C.below j,J.below j,D.below j⟩
theorem et.agr {B:Nat} {u v:World} {P:Nat} {p:Pln} {o q x A C y i:Value} (h:et (fB B u) P p o q x A C y i) (j:Agr B u v):et v P p o q x A C y i:=by
 obtain ⟨BA,bc,O,L,J,D,h1,H,N,I⟩:=h
 exact ⟨BA,bc,O,L,J,D,qp (xs:=[_,_,_,_,_,_,_,_,_,_,_,_,_,_]) h1 j,j3 H j,j3 N j,j3 I j⟩
theorem Bs (p:Pln) (T N U V R I A:Value) (w:World) (hp:cN p) (hn:1≤p.n) (c9:p.bu≤1048576) (bV:p.wi≤1048576)
  (b7:∀i,Below w.heap.size w i→Calls Tryz.prog 88 #[.agg #[T,N,U,V,KL (p.W:Nat),R,KL (p.mi:Nat),I,KL (p.bu:Nat),KL (p.ck:Nat),KL (p.wi:Nat),A]] i fun e a6=>e=.returned (KL 0)∧Below i.heap.size i a6):
  Calls Tryz.prog 45 #[.agg #[T,N,U,V,KL (p.W:Nat),R,KL (p.mi:Nat),I,KL (p.bu:Nat),KL (p.ck:Nat),KL (p.wi:Nat),A],KL (p.n:Nat)] w fun e i=>∃P,e=.returned (.tuple #[.pointer (some ⟨P,0,none⟩),.bool true])∧w.heap.size≤P∧et (fB w.heap.size i) P p T N U V R I A∧Below w.heap.size w i:=by
 obtain ⟨W0,hW0⟩:∃W0,w.alloc (.cells #[T,N,U,V,KL (p.W:Nat),R,KL (p.mi:Nat),I,KL (p.bu:Nat),KL (p.ck:Nat),KL (p.wi:Nat),A] 24)=W0:=⟨_,rfl⟩
 have g0:W0.heap[w.heap.size]?=some (.cells #[T,N,U,V,KL (p.W:Nat),R,KL (p.mi:Nat),I,KL (p.bu:Nat),KL (p.ck:Nat),KL (p.wi:Nat),A] 24 (0,0)):=by rw [←hW0];exact JE w _
 have a4:Below w.heap.size w W0:=by rw [←hW0];exact (br w).alloc (JD _) _
 have bi:=fun i (q:Below W0.heap.size W0 i)=>b7 i (a4.trans (q.mono a4.size))
 have t0:=fun i q=>jN (sb g0 i q)
 have co:¬((p.n:Int)<1):=by omega
 have cl:=hp.n
 have cA:¬((p.n:Int)>1048576):=by omega
 have ct:¬(1048576<(p.n:Int)):=by omega
 have cw:=hp.W1;have cx:=hp.W8;have bn:=hp.bu;have b2:=hp.wi
 have ad:p.buks=m6 p.n p.bu:=rfl
 have ab:p.grps=eR p.buks.length p.wi:=rfl
 have cv:=hp.buks
 obtain ⟨cd,O,bM,cy,bd,bf⟩:=ai hW0 a4 bi g0 ad ab
 have q0:=br W0
 clear hW0 g0 a4 bi b7 ad ab
 go_enter Tryz.func45,Tryz.ntmps45
 go_wp2_with fail
 rw [cd.out]
 refine (bM.out _ q0).mono ?_
 rintro e w1 ⟨rfl,k1⟩
 have q1:=bt q0 k1
 go_wp2_with fail
 refine (wW p.n p.bu _ (by omega) bn c9).mono ?_
 rintro e w2 ⟨v2,rfl,o2,k2⟩
 have q2:=bt q1 k2
 rw [←bd.out] at o2
 obtain ⟨BA,bc,rfl,_⟩:=aw o2
 go_wp2_with fail
 refine HA.g (fun i:World=>Below W0.heap.size W0 i) ?_
 refine HA.t ?_ [0,1,2,3,4,5] q2.drew ?_
 refine HA.c 6 (yO p.buks.length p.wi _ (by omega) b2 bV) ?_
 rintro e C ⟨v3,rfl,o3,k3⟩
 have q3:=bt q2.drew k3
 rw [←bf.out] at o3
 obtain ⟨GA,gc,rfl,_⟩:=aw o3
 refine ⟨_,rfl,q3,fun _=>?_⟩
 refine HA.t ?_ [7,8] q3 ?_
 obtain ⟨D,Q⟩:∃D,C.alloc (.cells #[T,N,U,V,KL (p.W:Nat),R,KL (p.mi:Nat),I,KL (p.bu:Nat),KL (p.ck:Nat),KL (p.wi:Nat),A,.slice BA p.buks.length bc,.slice GA p.grps.length gc,KN] 199)=D:=⟨_,rfl⟩
 have k5:Below C.heap.size C D:=by rw [←Q];exact (br C).alloc (JD _) _
 refine HA.v 9 D (.pointer (some ⟨C.heap.size,0,none⟩)) (bt q3 k5) ?_ (he:=by subst Q;go_simp)
 refine HA.t ?_ [10] (bt q3 k5) ?_
 refine HA.d ?_
 simp only [Exit.then]
 have g5:D.heap[C.heap.size]?=some (.cells #[T,N,U,V,KL (p.W:Nat),R,KL (p.mi:Nat),I,KL (p.bu:Nat),KL (p.ck:Nat),KL (p.wi:Nat),A,.slice BA p.buks.length bc,.slice GA p.grps.length gc,KN] 199 (0,0)):=by rw [←Q];exact JE C _
 have Z:D.heap.size=C.heap.size+1:=by rw [←Q];simp
 have q5:=bt q3 k5
 have be:=(O.out.trans (q2.mono O.out.size))
 have b9:w.heap.size≤C.heap.size:=JJ be.size (JJ (JD _) k3.size)
 have aM:=ap (ap (bC o2 1) k3) k5
 have aR:=ap o3 k5
 have b6:=Rd.own aM
 have bo:=Rd.own aR
 have bX:∀y,BA=some y→y.block<D.heap.size:=fun y x=>(jc aM y x).2
 have bz:∀y,GA=some y→y.block<D.heap.size:=fun y x=>(jc aR y x).2
 have a8:∀y,BA=some y→w.heap.size≤y.block∧y.block<C.heap.size:=fun y x=>⟨JJ (JJ O.out.size q1.size) (jc o2 y x).1,JK (jc o2 y x).2 k3.size⟩
 have ao:∀y,GA=some y→w.heap.size≤y.block∧y.block<C.heap.size:=fun y x=>⟨JJ be.size (jc o3 y x).1,(jc o3 y x).2⟩
 obtain ⟨b3,bv,J,L,H5,bh,bU,b1⟩:=ak b6 bo a8 ao g5 Z q5 b9
 have t5:=fun i q=>t0 i (bt q5 q)
 have bA:=br D
 clear Q g5 Z aM aR o2 o3 b6 bo bX bz a8 ao k3 k5 q0 q1 q2 q3 q5 t0 b9
 go_wp2_with fail
 clear t5 bA
 go_loopw [36] (fun y wr=>∃m:Nat,m≤p.W∧y=KL m∧∃v,wr.heap[C.heap.size]?=some (.cells #[T,N,U,V,KL (p.W:Nat),R,KL (p.mi:Nat),I,KL (p.bu:Nat),KL (p.ck:Nat),KL (p.wi:Nat),A,.slice BA p.buks.length bc,.slice GA p.grps.length gc,v] 199 (0,0))∧wr.ownsRow D.heap.size 3 1 v m (aq .i64 (ln p m))∧Keep (fun j=>j=C.heap.size) D wr) (fun y _=>p.W-(intOf y).toNat)
 case atStart=>exact ⟨0,JH _,rfl,_,H5.out,JO _ _ _ _,Keep.refl _ _⟩
 case round=>
  obtain ⟨m,hm,rfl,v,hP,X,H⟩:=hrel
  by_cases bN:m<p.W
  ·have c8:(m:Int)<p.W:=by omega
   have cs:IntKind.i64.wrap ((m:Int)+1)=((m+1:Nat):Int):=by rw [JI _ (by omega)];push_cast;rfl
   have bG:=JC hP
   have kP:=fun i (q:Keep (fun j=>v.ownBlock=some j) wr i)=>(q.block _ bG (fun h=>an hP (by decide) X h.symm)).trans hP
   have tP:=fun i q=>jM (kP i q)
   have Z:=bh.out
   have bb:∀i,Keep (fun j=>v.ownBlock=some j) wr i→Calls Tryz.prog 101 #[.agg #[T,N,U,V,KL (p.W:Nat),R,KL (p.mi:Nat),I,KL (p.bu:Nat),KL (p.ck:Nat),KL (p.wi:Nat),A,.slice BA p.buks.length bc,.slice GA p.grps.length gc],KL (m:Nat),KL 0] i fun e a6=>∃v,e=.returned v∧a6.ownsRow i.heap.size 56 12 v (aD p m 0).length (bH (aD p m 0))∧Below i.heap.size i a6:=fun i q=>
    tc p 0 m T N U V R I (KL (p.bu:Nat)) (KL (p.wi:Nat)) A BA GA bc gc i hp bN
     (q.rd (H.rd b3.out (fun y x=>by have:=J.out y x;omega)) (fun y x e=>by have:=(X.lt _ e).1;have:=J.out y x;omega))
     (q.rd (H.rd bv.out (fun y x=>by have:=L.out y x;omega)) (fun y x e=>by have:=(X.lt _ e).1;have:=L.out y x;omega))
     (fun y x=>by have:=J.out y x;have:=q.size;have:=H.size;omega) (fun y x=>by have:=L.out y x;have:=q.size;have:=H.size;omega)
   have ci:(aD p m 0).length≤8000000:=by
    have h1:=lB hp m 0 (JD p.grps.length)
    have h2:=hp.grps
    have:(aD p m 0).length=(dg p m 0 p.grps.length).length+1:=by simp [aD,dg];omega
    omega
   have bI:=H.size
   obtain ⟨bO,b8,HO,HK⟩:=ag kP bb X H
   have q0:Keep (fun j=>v.ownBlock=some j) wr wr.drew:=(Keep.refl _ _).drew
   obtain ⟨n,hn⟩:∃n,(aD p m 0).length=n:=⟨_,rfl⟩
   have b0:=yK p m
   rw [hn] at ci b8 b0
   have cb:=aa b0;clear kP bb hP X H hn b0
   go_wp2_with fail
   refine XA.g 14 (fun i:World=>Keep (fun j=>v.ownBlock=some j) wr i) ?_
   refine XA.t ?_ [0,1,2,3,4,5,6,7,8,9] q0 ?_
   refine XA.c 10 (b8.out _ q0) ?_
   rintro e w6 ⟨v6,rfl,o6,k6⟩
   obtain ⟨A6,c6,rfl,_⟩:=aw o6
   have q6:Keep (fun j=>v.ownBlock=some j) wr w6:=q0.trans (Keep.below k6)
   refine ⟨_,rfl,q6,fun _=>?_⟩
   refine XA.t ?_ [11] q6 ?_
   refine XA.v 12 (w6.alloc (.cells #[KL (n:Nat)] 3)) (.slice (some ⟨w6.heap.size,0,none⟩) 1 1) (q6.alloc _) ?_
   refine XA.o 13 (fun K' bs=>?_)
   have b4:=(ap (HO.out.drew) k6).alloc (.cells #[KL (n:Nat)] 3)
   have cr:=q6.size
   refine bF gq (.tmp 43) (.tmp 51) rfl rfl D.heap.size v m _ rfl b4 (some ⟨w6.heap.size,0,none⟩) 1 1 [KL (n:Nat)] rfl (fun k u hu=>⟨_,_,rfl,by rw [Kz,JF _ w6.heap.size k _ 3 (0,0) (JE w6 _)];simpa using hu⟩) rfl (by simp [Value.oneCell']) (by omega) (by unfold maxLen;omega) (by simp;omega) ?_
   intro A7 c7 w7 aG cj bl _
   have Y:Keep (fun j=>v.ownBlock=some j) wr w7:=(q6.alloc _).grown bl (fun k hk=>.inr hk)
   refine bs.out _ _ Y fun _=>?_
   refine XA.e ?_
   simp only [Kc,Ke]
   have aP:=bO.out w7 Y
   have e3:=KG w7 C.heap.size 14 _ _ (.slice A7 (m+1) c7) aP
   have k1:Keep (fun j=>j=C.heap.size) w7 (w7.setCell ⟨C.heap.size,14,none⟩ (.slice A7 (m+1) c7)):=Keep.setCell (S:=fun j=>j=C.heap.size) (Keep.refl _ _) ⟨C.heap.size,14,none⟩ (.inr rfl) _
   have o8:=k1.own aG (fun j hj e=>an aP (by decide) aG (by rw [hj,e]))
   have kk:Keep (fun j=>j=C.heap.size) D (w7.setCell ⟨C.heap.size,14,none⟩ (.slice A7 (m+1) c7)):=by
    refine Keep.trans (b:=w7) ?_ k1
    have h1:=HK.out
    refine ⟨Y.os.trans h1.os,Y.tape.trans h1.tape,Y.output.trans h1.output,JJ h1.size Y.size,fun j hj hn=>(Y.block j (JK hj h1.size) (fun e=>by have:=(HO.out.lt _ e).1;omega)).trans (h1.block j hj hn)⟩
   rw [show aq .i64 (ln p m)++[Value.int .i64 (n:Nat)]=aq .i64 (ln p (m+1)) by rw [cb.out,cD];rfl] at o8
   obtain ⟨E3,O8,KK⟩:=af e3 o8 kk
   have xP:=tP w7 Y
   clear aG cj bl aP e3 k1 o8 kk tP bs K' Y q6 q0 b4 o6 k6
   go_wp2_with fail
   go_roundw
   case rel=>exact ⟨m+1,by omega,by go_num,_,by simpa using E3.out,O8.out,KK.out⟩
   case measure=>simp [intOf];omega
  ·have c8:¬((m:Int)<p.W):=by omega
   have b5:m=p.W:=by omega
   have Z:=bh.out
   have bI:=H.size
   obtain ⟨LA,lc,rfl,_⟩:=aw X
   rw [b5] at X hP
   have bw:et (fB w.heap.size wr) C.heap.size p T N U V R I A:=by
    have hw:=b1.out
    refine ⟨BA,bc,GA,gc,LA,lc,(gY hw).trans hP,(qo _ _).rd (H.rd b3.out (fun y x=>by have:=(J.out y x).2;omega)) (fun y x=>by have:=(J.out y x).1;omega),(qo _ _).rd (H.rd bv.out (fun y x=>by have:=(L.out y x).2;omega)) (fun y x=>by have:=(L.out y x).1;omega),Rd.own (eO X (by omega))⟩
   have cc:=aa bw
   have av:=O.out.trans (bU.out.mono O.out.size)
   have cf:=aa (av.trans (H.toBelow (B:=w.heap.size) av.size (fun j hj=>by have:=b1.out;omega)));clear hP X H bw av b5
   go_wp2_with fail
   go_ret2
   exact ⟨_,rfl,b1.out,cc.out,cf.out⟩
theorem Iz (l:List Rg):∀u∈aF l,u.oneCell'=true:=by
 intro u hu
 simp only [aF,List.mem_flatMap,List.mem_cons,List.not_mem_nil,or_false] at hu
 obtain ⟨r,_,h | h⟩:=hu<;>subst h<;>rfl
theorem yR (A:Option Addr) (l:List Rg) (n c:Nat) (w:World) (hA:Rd w A (aF l)) (hn:l.length=n) (hl:n≤1048576):
  Calls Tryz.prog 105 #[.slice A n c] w fun e x=>∃v,e=.returned v∧x.ownsRow w.heap.size 52 2 v n (aF l)∧Below w.heap.size w x:=by
 subst hn
 have q:=fun (w:World)=>Lib.run_eql_slice_nil (P:=Tryz.prog) w 120 52 A l.length c 0 0 Tryz.underlying120
 cases A with
 | none=>
  have B:l=[]:=by
   cases l with
   | nil=>rfl
   | cons z l=>obtain ⟨b,o,h,_⟩:=hA 0 (KL (z.1:Int)) (by simp [aF]);cases h
  subst B
  clear q
  have q:=fun (w:World)=>Lib.run_eql_slice_nil (P:=Tryz.prog) w 120 52 none 0 c 0 0 Tryz.underlying120
  simp only [Option.isNone_none] at q
  rw [List.length_nil]
  go_enter Tryz.func105,Tryz.ntmps105
  go_wp2
  go_ret
  exact ⟨_,rfl,JO _ _ _ _,JG _ _⟩
 | some a=>
  go_enter Tryz.func105,Tryz.ntmps105
  go_wp2_with (at_builtin;refine dX kF _ rfl (.tmp 5) (.tmp 6) rfl w.heap.size _ 0 [] rfl (fq w 52 2) _ l.length c (aF l) rfl (hA.alloc _) (mO l) (Iz l) (by omega) (by unfold maxLen;omega) (by simp) ?_)
  intro H D C i y _ _
  have p:=((JG _ w).alloc (JD _) (.cells #[] 52)).trans y
  obtain ⟨j,u⟩:=ae i p;clear i y p
  go_wp2
  go_ret
  exact ⟨_,rfl,by simpa using j.out,u.out⟩
theorem D6 (p:Pln) (P:Nat) (Q T U D H y i:Value) (w:World) (J:cN p) (hP:et w P p Q T U D H y i):
  Calls Tryz.prog 49 #[.pointer (some ⟨P,0,none⟩)] w fun e o=>∃v,e=.returned v∧o.ownsRow w.heap.size 52 2 v p.buks.length (aF p.buks)∧Below w.heap.size w o:=by
 obtain ⟨BA,bc,GA,gc,LA,V,q,hB,hG,hL⟩:=hP
 have x:=J.buks
 have hc:=yR BA p.buks p.buks.length bc w hB rfl (by omega)
 obtain ⟨⟨t0,t1,t2,Y,Z,t5,t6,t7,t8,t9,A,O,N,I,L⟩,tf⟩:=jM q
 have C:=aa hc;clear hc q hB hG hL
 go_enter Tryz.func49,Tryz.ntmps49
 go_wp2_with fail
 refine C.out.mono ?_
 rintro e X ⟨v,rfl,u,j⟩
 obtain ⟨R,B⟩:=ae u j;clear u j
 go_wp2_with fail
 go_ret
 exact ⟨_,rfl,R.out,B.out⟩
theorem vw (p:Pln) (P x:Nat) (J L N y A q i:Value) (w:World) (hx:x<p.W) (hP:et w P p J L N y A q i):
  Calls Tryz.prog 106 #[.pointer (some ⟨P,0,none⟩),KL x] w fun e o=>e=.returned (KL ((aD p x 0).length:Nat))∧w=o:=by
 obtain ⟨BA,bc,Y,gc,X,O,j,hB,hG,hL⟩:=hP
 obtain ⟨lb,lo,rfl,c0⟩:=hL.num (k:=x) (by rw [sZ];exact hx)
 have e:nth (ln p p.W) x=((aD p x 0).length:Int):=by
  rw [dI _ _ (by rw [sZ];exact hx)];simp [ln]
 rw [e] at c0
 obtain ⟨⟨t0,Z,t2,Q,R,t5,U,T,t8,V,u,I,D,B,C⟩,tf⟩:=jM j
 have v:(x:Int)<p.W:=by omega
 have H:¬((p.W:Int)≤x):=by omega
 clear j hB hG hL e
 go_enter Tryz.func106,Tryz.ntmps106
 go_wp2
 go_ret
 exact ⟨rfl,rfl⟩
theorem jk {p:Pln} (i:cN p) (x st:Nat):(aD p x st).length=(aD p x 0).length:=by
 rw [rh p x st i.wi,rh p x 0 i.wi]
 have h:∀j ph r,(cC p x st ph r j).length=(cC p x 0 ph r j).length:=fun j ph r=>by
  unfold cC
  rw [List.length_map,List.length_map,ke,ke]
 simp only [h]
theorem iT (p:Pln) (x st:Nat):0<(aD p x st).length:=by unfold aD;simp;omega
theorem wS {n s:Nat} (h:1≤n):0<cZ n s:=by unfold cZ;rw [if_neg (by omega)];exact Nat.succ_pos _
theorem wV {p:Pln} (hn:1≤p.n):0<p.buks.length:=by rw [Pln.buks,jY];exact wS hn
theorem EI {p:Pln} (hn:1≤p.n):0<p.grps.length:=by rw [Pln.grps,dU];exact wS (wV hn)
theorem Il {w:World} {A:Option Addr} {l:List Rg} (h:Rd w A (aF l)) (hl:0<l.length):∀y,A=some y→y.block<w.heap.size:=fun y i=>by
 obtain ⟨b,o,e,c⟩:=h _ _ (dH hl).1
 rw [i] at e
 injection e with e
 subst e
 exact ar c
theorem sJ (p:Pln) (P x st i:Nat) (y A B q u j:Value) (w:World) (Z:cN p) (hn:1≤p.n) (hx:x<p.W) (R:st<i) (hP:et w P p y A B q u (KL (i:Nat)) j):
  Calls Tryz.prog 51 #[.pointer (some ⟨P,0,none⟩),KL x,KL (st:Nat)] w fun e I=>∃v,e=.returned v∧I.ownsRow w.heap.size 56 12 v (aD p x st).length (bH (aD p x st))∧Below w.heap.size w I:=by
 have hl:=vw p P x y A B q u (KL (i:Nat)) j w hx hP
 obtain ⟨BA,bc,Y,gc,LA,lc,J,hB,hG,hL⟩:=hP
 have hc:=tc p st x y A B q u (KL (i:Nat)) (KL (p.bu:Nat)) (KL (p.wi:Nat)) j BA Y bc gc w Z hx hB hG (Il hB (wV hn)) (Il hG (EI hn))
 have D:=iT p x 0
 obtain ⟨n,o⟩:∃n,(aD p x 0).length=n:=⟨_,rfl⟩
 rw [o] at hl D
 have C:¬((n:Int)=0):=by omega
 have O:((n:Int)==0)=false:=by simpa using C
 have a7:¬((i:Int)≤st):=by omega
 obtain ⟨⟨t0,t1,t2,t3,t4,t5,t6,t7,t8,t9,Q,a8,a6,X,a4⟩,tf⟩:=jM J
 obtain ⟨V,U⟩:=ae hc hl;clear hc hl J hB hG hL o
 go_enter Tryz.func51,Tryz.ntmps51
 go_wp2_with fail
 refine U.out.mono ?_
 rintro e N ⟨rfl,rfl⟩
 go_wp2_with fail
 refine V.out.mono ?_
 rintro e N ⟨v,rfl,L,H⟩
 obtain ⟨O1,T⟩:=ae L H;clear L H
 go_wp2_with fail
 go_ret
 exact ⟨_,rfl,O1.out,T.out⟩
theorem sI (p:Pln) (P x st i:Nat) (B C D y A o:Value) (w:World) (hx:x<p.W) (L:i≤st) (hP:et w P p B C D y A (KL (i:Nat)) o):
  Calls Tryz.prog 51 #[.pointer (some ⟨P,0,none⟩),KL x,KL (st:Nat)] w fun e H=>e=.returned (KN)∧w=H:=by
 have hl:=vw p P x B C D y A (KL (i:Nat)) o w hx hP
 obtain ⟨BA,bc,GA,gc,LA,V,v,hB,hG,hL⟩:=hP
 have u:=iT p x 0
 obtain ⟨n,j⟩:∃n,(aD p x 0).length=n:=⟨_,rfl⟩
 rw [j] at hl u
 have q:¬((n:Int)=0):=by omega
 have I:((n:Int)==0)=false:=by simpa using q
 have T:(i:Int)≤st:=by omega
 obtain ⟨⟨t0,t1,t2,Y,Z,t5,t6,t7,t8,t9,J,U,R,O,Q⟩,tf⟩:=jM v
 have N:=aa hl;clear hl v hB hG hL j
 go_enter Tryz.func51,Tryz.ntmps51
 go_wp2_with fail
 refine N.out.mono ?_
 rintro e X ⟨rfl,rfl⟩
 go_wp2_with fail
 go_ret
 exact ⟨rfl,rfl⟩
noncomputable def dQ (sz:List Int):Int:=@ite _ (dy sz) (Classical.propDecidable _) 0 (@ite _ (cG sz) (Classical.propDecidable _) 4 5)
theorem js {sz:List Int} (h:dy sz):dQ sz=0:=by unfold dQ;rw [if_pos h]
theorem kY {sz:List Int} (h:¬dy sz) (hr:cG sz):dQ sz=4:=by unfold dQ;rw [if_neg h,if_pos hr]
theorem fT {sz:List Int} (h:¬cG sz):dQ sz=5:=by unfold dQ;rw [if_neg (fun g=>h g.1),if_neg h]
theorem xt (sz:List Int):dQ sz=0↔dy sz:=by
 constructor
 ·intro h
  by_cases hg:dy sz
  ·exact hg
  ·by_cases hr:cG sz
   ·rw [kY hg hr] at h;omega
   ·rw [fT hr] at h;omega
 ·exact js
theorem dB (b:Bool):b=false∨b=true:=by cases b<;>simp
structure Cfg where
 sizes:List Int
 shift:Int
 rate:Int
 mom:Int
 workers:Int
 batch:Int
 micros:Int
 steps:Int
 bucket:Int
 chunk:Int
 window:Int
 cap:Int
def okB (n:Int):Bool:=decide (1≤n∧n≤1048576)
theorem jT {n:Int} (h:okB n=true):1≤n∧n≤1048576:=by simpa [okB] using h
theorem BK {n:Int} (h:okB n=false):¬(1≤n∧n≤1048576):=by
 intro i;unfold okB at h;rw [KA i] at h;cases h
def qv (n:Int):Bool:=decide (0≤n∧n≤1048576)
def nI (k:Cfg):Bool:=okB k.micros&&okB k.bucket&&okB k.chunk&&okB k.window&&okB k.cap&&qv k.steps
def wkB (k:Cfg):Bool:=decide (1≤k.workers∧k.workers≤64)
def shB (k:Cfg):Bool:=decide (1≤k.shift∧k.shift≤62)
def baB (k:Cfg):Bool:=decide (k.workers≤k.batch∧k.batch≤1048576)
noncomputable def bQ (k:Cfg):Int:=if wkB k=false then 6 else if shB k=false then 9 else if dQ k.sizes≠0 then dQ k.sizes else if nI k=false then 2 else if baB k=false then 7 else 0
theorem Fq {k:Cfg} (h:wkB k=false):bQ k=6:=by unfold bQ;rw [if_pos h]
theorem Fo {k:Cfg} (h1:wkB k=true) (h:shB k=false):bQ k=9:=by unfold bQ;rw [if_neg (by simp [h1]),if_pos h]
theorem Fm {k:Cfg} (h1:wkB k=true) (i:shB k=true) (h:dQ k.sizes≠0):bQ k=dQ k.sizes:=by unfold bQ;rw [if_neg (by simp [h1]),if_neg (by simp [i]),if_pos h]
theorem Fr {k:Cfg} (h1:wkB k=true) (i:shB k=true) (j:dQ k.sizes=0) (h:nI k=false):bQ k=2:=by unfold bQ;rw [if_neg (by simp [h1]),if_neg (by simp [i]),if_neg (by simp [j]),if_pos h]
theorem Fp {k:Cfg} (h1:wkB k=true) (i:shB k=true) (o:dQ k.sizes=0) (j:nI k=true) (h:baB k=false):bQ k=7:=by unfold bQ;rw [if_neg (by simp [h1]),if_neg (by simp [i]),if_neg (by simp [o]),if_neg (by simp [j]),if_pos h]
theorem Ft {k:Cfg} (h1:wkB k=true) (i:shB k=true) (o:dQ k.sizes=0) (j:nI k=true) (h:baB k=true):bQ k=0:=by unfold bQ;rw [if_neg (by simp [h1]),if_neg (by simp [i]),if_neg (by simp [o]),if_neg (by simp [j]),if_neg (by simp [h])]
structure iL (k:Cfg):Prop where
 w:1≤k.workers∧k.workers≤64
 s:1≤k.shift∧k.shift≤62
 z:dy k.sizes
 mi:1≤k.micros∧k.micros≤1048576
 bu:1≤k.bucket∧k.bucket≤1048576
 ch:1≤k.chunk∧k.chunk≤1048576
 wi:1≤k.window∧k.window≤1048576
 ca:1≤k.cap∧k.cap≤1048576
 st:0≤k.steps∧k.steps≤1048576
 ba:k.workers≤k.batch∧k.batch≤1048576
theorem gu {k:Cfg}:bQ k=0↔iL k:=by
 constructor
 ·intro h
  cases h1:wkB k with
  | false=>rw [Fq h1] at h;omega
  | true=>
   cases h2:shB k with
   | false=>rw [Fo h1 h2] at h;omega
   | true=>
    by_cases i:dQ k.sizes=0
    ·cases h4:nI k with
     | false=>rw [Fr h1 h2 i h4] at h;omega
     | true=>
      cases h5:baB k with
      | false=>rw [Fp h1 h2 i h4 h5] at h;omega
      | true=>
       simp only [nI,Bool.and_eq_true] at h4
       obtain ⟨⟨⟨⟨⟨o,p⟩,q⟩,j⟩,u⟩,v⟩:=h4
       exact ⟨by simpa [wkB] using h1,by simpa [shB] using h2,(xt _).1 i,jT o,jT p,jT q,jT j,jT u,by simpa [qv] using v,by simpa [baB] using h5⟩
    ·rw [Fm h1 h2 i] at h;exact absurd h i
 ·intro h
  refine Ft (by simpa [wkB] using h.w) (by simpa [shB] using h.s) (js h.z) ?_ (by simpa [baB] using h.ba)
  simp only [nI,Bool.and_eq_true]
  exact ⟨⟨⟨⟨⟨by simpa [okB] using h.mi,by simpa [okB] using h.bu⟩,by simpa [okB] using h.ch⟩,by simpa [okB] using h.wi⟩,by simpa [okB] using h.ca⟩,by simpa [qv] using h.st⟩
theorem Gd (a b:Int) (w:World):Sem.run Tryz.prog (Instr.field 132 (.agg #[KL a,KL b]) 1) w=.ok (KL b) w:=by kernel_rfl
theorem zC (a b:Int) (w:World):Sem.run Tryz.prog (Instr.field 132 (.agg #[KL a,KL b]) 0) w=.ok (KL a) w:=by kernel_rfl
theorem i9 (A:Option Addr) (sz:List Int) (m c:Nat) (w:World) (hA:Rd w A (aq .i64 sz)) (hR:cG sz) (h1:1≤m) (hm:m≤sz.length):
  Calls Tryz.prog 62 #[.slice A m c] w fun e w'=>e=.returned (KL (aZ sz (m-1):Int))∧∃n,w'=w.drewN n:=by
 have a2:m≤16:=by have:=hR.1.2;omega
 obtain ⟨q,H,Hm⟩:=af hA hR hm;clear hA hR hm
 go_enter Tryz.func62,Tryz.ntmps62
 go_wp2_with fail
 go_loopw [3,4] (fun v i wr=>∃k:Nat,k+1≤m∧i=KL k∧v=KL (aZ sz k:Int)∧∃n,wr=w.drewN n) (fun _ i _=>m-(intOf i).toNat)
 case atStart=>exact ⟨0,h1,rfl,rfl,0,rfl⟩
 case round=>
  obtain ⟨k,hk,rfl,rfl,n,rfl⟩:=hrel
  by_cases a0:k+1<m
  ·have hm:=Hm.out
   have L:=H.out.at (k:=k) (by omega)
   have B:=H.out.at (k:=k+1) (by omega)
   obtain ⟨b,o,rfl,Y⟩:=q.out.num (show k<sz.length by omega)
   obtain ⟨_,_,D,X⟩:=q.out.num (show k+1<sz.length by omega)
   injection D with D;injection D with e1 e2 _;subst e1;subst e2
   have V:=H.out.bound (k:=k+1) (by omega)
   rw [L.2.2] at Y
   rw [B.2.2] at X
   have hc:aZ sz (k+1)=aZ sz k+(szN sz k+1)*szN sz (k+1):=rfl
   obtain ⟨a,Z⟩:∃a,szN sz k=a:=⟨_,rfl⟩
   obtain ⟨d,U⟩:∃d,szN sz (k+1)=d:=⟨_,rfl⟩
   obtain ⟨N,R⟩:∃N,aZ sz k=N:=⟨_,rfl⟩
   obtain ⟨M,hM⟩:∃M,aZ sz (k+1)=M:=⟨_,rfl⟩
   obtain ⟨p,I⟩:∃p,(a+1)*d=p:=⟨_,rfl⟩
   rw [Z] at Y L hc
   rw [U] at X B hc
   rw [R,hM,I] at hc
   rw [hM] at V
   rw [R]
   have HM:=aa hM;clear hM R Z U
   have u:(k:Int)+1<m:=by omega
   have T:(k:Int)<m:=by omega
   have C:(0:Int)≤(k:Int)+1:=by omega
   have O:((k:Int)+1).toNat=k+1:=by omega
   have Q:IntKind.i64.wrap ((k:Int)+1)=(k:Int)+1:=JI _ (by omega)
   have J:IntKind.i64.wrap ((a:Int)+1)=(a:Int)+1:=JI _ (by omega)
   have j:((a:Int)+1)*(d:Int)=(p:Int):=by rw [←I];push_cast;rfl
   have y:IntKind.i64.wrap (((a:Int)+1)*(d:Int))=(p:Int):=by rw [j];exact JI _ (by omega)
   have x:IntKind.i64.wrap ((N:Int)+(p:Int))=(M:Int):=by rw [JI _ (by omega)];omega
   clear j I hc V L B
   go_wp2_with fail
   go_quiet (fail)
   clear Q J y x T u C O
   go_wp2_with fail
   go_roundw
   case rel=>exact ⟨k+1,by omega,by go_num,by rw [HM.out],_,by first | rfl | exact World.drewN_drewN _ _ _⟩
   case measure=>simp [intOf];omega
  ·obtain rfl:k=m-1:=by omega
   have a1:IntKind.i64.wrap (((m-1:Nat):Int)+1)=(m:Int):=by rw [JI _ (by omega)];omega
   go_wp2_with fail
   go_ret
   exact ⟨rfl,n,rfl⟩
theorem ud (A:Option Addr) (sz:List Int) (c:Nat) (w:World) (hl:sz.length≤17592186043904) (h:¬(2≤sz.length∧sz.length≤16)):
  Calls Tryz.prog 107 #[.slice A sz.length c] w fun e i=>e=.returned (KL 5)∧w=i:=by
 by_cases h1:sz.length<2
 ·go_enter Tryz.func107,Tryz.ntmps107
  go_wp2
  go_ret
  exact ⟨rfl,rfl⟩
 ·have j:16<sz.length:=by omega
  go_enter Tryz.func107,Tryz.ntmps107
  go_wp2
  go_ret
  exact ⟨rfl,rfl⟩
def tw (sz:List Int):Int:=if 1048576<aZ sz (sz.length-1) then 4 else 0
theorem vr (A:Option Addr) (sz:List Int) (c:Nat) (w:World) (hA:Rd w A (aq .i64 sz)) (h:2≤sz.length∧sz.length≤16):
  Calls Tryz.prog 107 #[.slice A sz.length c] w fun e Q=>((cG sz∧e=.returned (KL (tw sz)))∨(¬cG sz∧e=.returned (KL 5)))∧∃n,Q=w.drewN n:=by
 obtain ⟨h1,V⟩:=h
 obtain ⟨n,hn⟩:∃n,sz.length=n:=⟨_,rfl⟩
 have H:=fun (hR:cG sz)=>i9 A sz n c w hA hR (by omega) (by omega)
 have hR:(∀k,k<n→1≤nth sz k∧nth sz k≤1048576)→cG sz:=fun h=>⟨by omega,by rw [hn];exact h⟩
 have I:cG sz→∀k,k<n→1≤nth sz k∧nth sz k≤1048576:=fun h=>by rw [←hn];exact h.2
 have O:tw sz=if 1048576<aZ sz (n-1) then 4 else 0:=by unfold tw;rw [hn]
 rw [hn] at h1 V ⊢
 obtain ⟨T,N,Z,J,U,L⟩:=ai hA H hR I hn O;clear hA H hR I hn O
 go_enter Tryz.func107,Tryz.ntmps107
 go_wp2_with fail
 go_loop [3] (fun i=>∃k:Nat,k≤n∧i=KL k∧Hid (∀j,j<k→1≤nth sz j∧nth sz j≤1048576)) (fun i=>n-(intOf i).toNat)
 case atStart=>exact ⟨0,JH _,rfl,Lib.hid fun j hj=>by omega⟩
 case round=>
  obtain ⟨k,hk,rfl,x⟩:=hrel
  by_cases B:k<n
  ·obtain ⟨b,o,rfl,p⟩:=T.out.num (show k<sz.length by rw [U.out];exact B)
   by_cases Y:nth sz k<1
   ·have q:¬cG sz:=fun h=>by have:=J.out h k B;omega
    have D:=aa q;clear q
    go_wp2_with fail
    go_ret
    exact ⟨.inr ⟨D.out,rfl⟩,0,rfl⟩
   ·by_cases a0:1048576<nth sz k
    ·have q:¬cG sz:=fun h=>by have:=J.out h k B;omega
     have D:=aa q;clear q
     go_wp2_with fail
     go_ret
     exact ⟨.inr ⟨D.out,rfl⟩,0,rfl⟩
    ·have X:=aa (show 1≤nth sz k∧nth sz k≤1048576 by omega)
     go_wp2_with fail
     go_round
     case rel=>exact ⟨k+1,by omega,by go_num,Lib.hid (p:=∀j,j<k+1→1≤nth sz j∧nth sz j≤1048576) fun j hj=>by
      rcases JR j k with h | h
      ·exact x.out j h
      ·obtain rfl:j=k:=by omega
       exact X.out⟩
     case measure=>simp [intOf];omega
  ·obtain rfl:k=n:=by omega
   have hR:=Z.out x.out
   have hb:=hR.bound (k:=k-1) (by rw [U.out];omega)
   have v:=aa hR;clear hR
   by_cases y:1048576<aZ sz (k-1)
   ·have R:(1048576:Int)<aZ sz (k-1):=by omega
    have u:tw sz=4:=by rw [L.out,if_pos y]
    have C:=aa u;clear u
    go_wp2_with fail
    refine (N.out v.out).mono ?_
    rintro e Q ⟨rfl,m,rfl⟩
    go_wp2_with fail
    go_ret
    exact ⟨.inl ⟨v.out,by rw [C.out];rfl⟩,m,rfl⟩
   ·have R:¬(1048576:Int)<aZ sz (k-1):=by omega
    have u:tw sz=0:=by rw [L.out,if_neg y]
    have C:=aa u;clear u
    go_wp2_with fail
    refine (N.out v.out).mono ?_
    rintro e Q ⟨rfl,m,rfl⟩
    go_wp2_with fail
    go_ret
    exact ⟨.inl ⟨v.out,by rw [C.out];rfl⟩,m,rfl⟩
theorem nu (A:Option Addr) (sz:List Int) (k c:Nat) (w:World) (hA:Rd w A (aq .i64 sz)) (hR:cG sz) (C:k+1<sz.length) (hc:sz.length≤c):
  Calls Tryz.prog 204 #[.slice A sz.length c,KL k] w fun e x=>e=.returned (.agg #[KL (aZ sz k:Int),KL (cW sz k:Int)])∧Below w.heap.size w x:=by
 have B:=hR.1.2
 have L:=hR.at (k:=k) (by omega)
 have D:=hR.at C
 obtain ⟨b,o,rfl,Q⟩:=hA.num (show k<sz.length by omega)
 obtain ⟨_,_,I,V⟩:=hA.num C
 injection I with I;injection I with e1 e2 _;subst e1;subst e2
 have q:=fun x (h:Below w.heap.size w x)=>i9 (some ⟨b,o,none⟩) sz (k+1) c x (hA.below h) hR (by omega) (by omega)
 have hb:=hR.bound (k:=k+1) C
 have hm:cW sz k=aZ sz k+szN sz (k+1)*szN sz k:=rfl
 have u:=eP sz k
 simp only [Nat.add_sub_cancel] at q
 rw [L.2.2] at Q
 rw [D.2.2] at V
 obtain ⟨a,X⟩:∃a,szN sz k=a:=⟨_,rfl⟩
 obtain ⟨d,U⟩:∃d,szN sz (k+1)=d:=⟨_,rfl⟩
 obtain ⟨N,T⟩:∃N,aZ sz k=N:=⟨_,rfl⟩
 obtain ⟨M,hM⟩:∃M,cW sz k=M:=⟨_,rfl⟩
 obtain ⟨p,J⟩:∃p,d*a=p:=⟨_,rfl⟩
 obtain ⟨n,hn⟩:∃n,sz.length=n:=⟨_,rfl⟩
 rw [X] at Q L hm
 rw [U] at V D hm u
 rw [T,hM,J] at hm
 rw [hM] at u
 rw [T] at q ⊢
 rw [hM]
 rw [hn] at C hc B ⊢
 have Z:b<w.heap.size:=ar Q
 have O:=aa q;clear q hA hR
 have Y:(k:Int)+1<n:=by omega
 have a5:(k:Int)<n:=by omega
 have a2:(0:Int)≤(k:Int)+1:=by omega
 have a4:((k:Int)+1).toNat=k+1:=by omega
 have a3:((n-1:Nat):Int)=(n:Int)-1:=by omega
 have a1:¬((n:Int)-1≤k):=by omega
 have a0:k+1≤c:=by omega
 have y:(a:Int)*(d:Int)=(p:Int):=by rw [←J,Nat.mul_comm];push_cast;rfl
 have j:IntKind.i64.wrap ((a:Int)*(d:Int))=(p:Int):=by rw [y];exact JI _ (by omega)
 have i:IntKind.i64.wrap ((N:Int)+(p:Int))=(M:Int):=by rw [JI _ (by omega)];omega
 obtain ⟨R,H⟩:=ae j i;clear y J hb L D hm u hM T X U hn j i
 go_enter Tryz.func204,Tryz.ntmps204
 go_wp2_with fail
 refine (O.out _ ?_).mono ?_
 ·exact al
 rintro e x ⟨rfl,m,rfl⟩
 have j:=R.out
 have i:=H.out
 go_wp2_with fail
 go_region
 all_goals clear j i
 all_goals go_wp2_with fail
 all_goals
  refine JQ (v:=.agg #[KL N,KL M]) (by simp [results,Tryz.results204,go_sem]) rfl ⟨rfl,?_⟩
  exact al
theorem vt (A:Option Addr) (sz:List Int) (k c:Nat) (w:World) (hA:Rd w A (aq .i64 sz)) (hR:cG sz) (T:k+1<sz.length) (hc:sz.length≤c):
  Calls Tryz.prog 223 #[.slice A sz.length c,KL k] w fun e x=>e=.returned (.agg #[KL (cW sz k:Int),KL (aZ sz (k+1):Int)])∧Below w.heap.size w x:=by
 have D:=hR.1.2
 have q:=fun x (h:Below w.heap.size w x)=>nu A sz k c x (hA.below h) hR T hc
 have p:=fun x (h:Below w.heap.size w x)=>i9 A sz (k+2) c x (hA.below h) hR (by omega) (by omega)
 simp only [show k+2-1=k+1 by omega] at p
 obtain ⟨b,o,rfl,p0⟩:=hA.num (show k<sz.length by omega)
 obtain ⟨n,hn⟩:∃n,sz.length=n:=⟨_,rfl⟩
 obtain ⟨N,V⟩:∃N,aZ sz (k+1)=N:=⟨_,rfl⟩
 obtain ⟨M,hM⟩:∃M,cW sz k=M:=⟨_,rfl⟩
 rw [V] at p ⊢
 have R:aZ sz k=aZ sz k:=rfl
 clear R
 rw [hM] at q ⊢
 rw [hn] at q T hc D ⊢
 obtain ⟨J,Q⟩:=ae q p;clear q p hA hR p0 hn V hM
 have Z:¬((n:Int)-1≤k):=by omega
 have Y:(k:Int)+2≤c:=by omega
 have a0:(0:Int)≤(k:Int)+2:=by omega
 have a1:((k:Int)+2).toNat=k+2:=by omega
 have a2:IntKind.i64.wrap ((k:Int)+2)=(k:Int)+2:=JI _ (by omega)
 have a3:=Gd
 go_enter Tryz.func223,Tryz.ntmps223
 go_wp2_with fail
 have i:(fun _:World=>True) (w.alloc (.cells #[KL 0,KL 0] 132)).drew:=trivial
 refine HA.g (fun _:World=>True) ?_
 refine HA.t ?_ [0,1,4,5,6,7] i ?_
 refine HA.o 2 (fun K u=>?_)
 go_simp
 refine (J.out _ ?_).mono ?_
 ·exact al
 rintro e B ⟨rfl,y⟩
 have I:Below w.heap.size w B:=(((JG _ w).alloc (JD _) _).drew).trans (y.mono (by simp))
 have j:=(y.block w.heap.size (by simp)).trans (JE w (.cells #[KL 0,KL 0] 132))
 obtain ⟨⟨k0,k1⟩,kf⟩:=bx2 j
 have l1:w.heap.size<B.heap.size:=JC j
 have H:=aa j;clear y j
 dsimp only
 refine u.out _ _ trivial (fun i=>?_)
 clear u K
 refine HA.t ?_ [3] i ?_
 refine HA.o 8 (fun K u=>?_)
 go_simp
 refine (Q.out _ I).mono ?_
 rintro e w2 ⟨rfl,m,rfl⟩
 dsimp only
 refine u.out _ _ trivial (fun i=>?_)
 clear u K
 refine HA.t ?_ [9] i ?_
 refine HA.o 10 (fun K u=>?_)
 go_simp
 refine u.out _ _ trivial (fun i=>?_)
 clear u K
 refine HA.d ?_
 go_wp2_with fail
 have e1:=KG (B.drewN m) w.heap.size 0 _ _ (KL M) H.out
 have U:=KG _ w.heap.size 1 _ _ (KL N) e1
 have C:Below w.heap.size w (((B.drewN m).setCell ⟨w.heap.size,0,none⟩ (KL M)).setCell ⟨w.heap.size,1,none⟩ (KL N)):=by exact al
 obtain ⟨O,L⟩:∃O,O=((B.drewN m).setCell ⟨w.heap.size,0,none⟩ (KL M)).setCell ⟨w.heap.size,1,none⟩ (KL N):=⟨_,rfl⟩
 rw [←L] at U C ⊢
 have e3:O.heap[w.heap.size]?=some (.cells #[KL M,KL N] 132 (0,0)):=U
 obtain ⟨⟨X,x1⟩,xf⟩:=bx2 e3
 exact JQ (v:=.agg #[KL M,KL N]) (by simp [results,Tryz.results223,go_sem,X,x1]) rfl ⟨rfl,C⟩
theorem EA (a:Nat) (i:a<18446744073709551616):bits .and .u64 (a:Int) 4294967295=((a%4294967296:Nat):Int):=by
 have h:=bits_and_u64_nat a 4294967295 i (by omega)
 have e:a&&& 4294967295=a%4294967296:=Nat.and_two_pow_sub_one_eq_mod a 32
 rw [e] at h
 exact h
theorem Jr (a:Nat):(a:Int)/4294967296=((a/4294967296:Nat):Int):=by omega
theorem Jp (a b:Nat):(a:Int)*(b:Int)=((a*b:Nat):Int):=(Int.natCast_mul a b).symm
theorem Js (a b:Nat):(a:Int)+(b:Int)=((a+b:Nat):Int):=(Int.natCast_add a b).symm
theorem pA (a:Nat) (i:a<18446744073709551616):IntKind.u64.wrap (a:Int)=(a:Int):=by rw [IntKind.wrap_u64];omega
theorem I4 (a:Nat):IntKind.u64.wrap (a:Int)=((a%18446744073709551616:Nat):Int):=by rw [IntKind.wrap_u64];omega
theorem BS (x y:Nat) (hx:x<18446744073709551616) (u:y<18446744073709551616) (w:World):
  Calls Tryz.prog 228 #[.int .u64 x,.int .u64 y] w fun e B=>e=.returned (.tuple #[.int .u64 ((x*y/18446744073709551616:Nat):Int),.int .u64 ((x*y%18446744073709551616:Nat):Int)])∧w=B:=by
 obtain ⟨v,bt,C,p⟩:=Lib.mul64_hi x y hx u
 have ba:=Lib.half_mul_le (a:=x/4294967296) (b:=y/4294967296) (by omega) (by omega)
 have D:=Lib.half_mul_le (a:=x/4294967296) (b:=y%4294967296) (by omega) (by omega)
 have bc:=Lib.half_mul_le (a:=x%4294967296) (b:=y/4294967296) (by omega) (by omega)
 have j:x/4294967296*(y/4294967296)<18446744073709551616:=by omega
 have i:x/4294967296*(y%4294967296)<18446744073709551616:=by omega
 have q:x%4294967296*(y/4294967296)<18446744073709551616:=by omega
 have o:x/4294967296*(y/4294967296)+(x/4294967296*(y%4294967296)+x%4294967296*(y%4294967296)/4294967296)/4294967296<18446744073709551616:=by omega
 have A:x/4294967296*(y/4294967296)+(x/4294967296*(y%4294967296)+x%4294967296*(y%4294967296)/4294967296)/4294967296+((x/4294967296*(y%4294967296)+x%4294967296*(y%4294967296)/4294967296)%4294967296+x%4294967296*(y/4294967296))/4294967296<18446744073709551616:=by omega
 go_enter Tryz.func228,Tryz.ntmps228
 go_wp2
 simp only [EA x hx,EA y u,Jr,Jp,Js,pA _ v,pA _ i,pA _ bt,EA _ bt,pA _ q,pA _ C,pA _ j,pA _ o,pA _ A,I4 (x*y)]
 rw [p]
 go_ret2
 exact ⟨rfl,rfl⟩
theorem DS (a:Int) (w:World):Calls Tryz.prog 216 #[KL a] w fun e i=>e=.returned (KL (max a 0))∧w=i:=by
 go_enter Tryz.func216,Tryz.ntmps216
 go_wp2
 all_goals
  go_ret
  exact ⟨aV (by omega),rfl⟩
theorem EK (a g:Int) (w:World):Calls Tryz.prog 180 #[KL a,KL g] w fun e i=>e=.returned (KL (if 0<a then g else 0))∧w=i:=by
 by_cases h:a≤0
 ·rw [if_neg (by omega)]
  go_enter Tryz.func180,Tryz.ntmps180
  go_wp2
  go_ret
  exact ⟨rfl,rfl⟩
 ·rw [if_pos (by omega)]
  go_enter Tryz.func180,Tryz.ntmps180
  go_wp2
  go_ret
  exact ⟨rfl,rfl⟩
theorem zv (a b:Int) (w:World):Calls Tryz.prog 197 #[KL a,KL b] w fun e i=>e=.returned (KL (wrap64 (a-b)))∧w=i:=by
 go_enter Tryz.func197,Tryz.ntmps197
 go_wp2
 go_ret
 exact ⟨rfl,rfl⟩
theorem uW (i lo:Int) (q:Nat) (x:q≤63) (o:0≤lo∧lo<18446744073709551616):
  bits .or .u64 (IntKind.u64.wrap (IntKind.u64.wrap i*2^(64-q))) (lo/2^q)=(uw i%2^q)*2^(64-q)+lo/2^q:=by
 obtain ⟨H,hH,_⟩:=ot i
 obtain ⟨L,rfl⟩:=Int.eq_ofNat_of_zero_le o.1
 have hM:(18446744073709551616:Nat)=2^(64-q)*2^q:=by rw [←Nat.pow_add,show 64-q+q=64 by omega]
 have hw:IntKind.u64.wrap i=uw i:=by rw [IntKind.wrap_u64];rfl
 have hx:IntKind.u64.wrap (uw i*2^(64-q))=((2^(64-q)*(H%2^q):Nat):Int):=by
  rw [IntKind.wrap_u64,hH]
  have:((H*2^(64-q):Nat):Int)%((18446744073709551616:Nat):Int)=((2^(64-q)*(H%2^q):Nat):Int):=by
   rw [←Int.natCast_emod,Nat.mul_comm H,hM,Nat.mul_mod_mul_left]
  simpa using this
 have u:((L:Int)/2^q)=((L/2^q:Nat):Int):=by simp
 have j:0<2^q:=Nat.pow_pos (by decide)
 have p:L/2^q<2^(64-q):=by
  rw [Nat.div_lt_iff_lt_mul j]
  have:=o.2
  omega
 have v:2^(64-q)*(H%2^q)<18446744073709551616:=by
  rw [hM]
  exact Nat.mul_lt_mul_of_pos_left (Nat.mod_lt _ j) (Nat.pow_pos (by decide))
 have b3:L/2^q<18446744073709551616:=Nat.lt_of_le_of_lt (Nat.div_le_self _ _) (by omega)
 rw [hw,hx,u,bits_or_u64_nat _ _ v b3,←Nat.two_pow_add_eq_or_of_lt p,hH,Int.natCast_add,Int.natCast_mul,Int.mul_comm]
 simp
theorem AN (i lo:Int) (q:Nat) (j:q≤63) (p:0≤lo∧lo<18446744073709551616):
  wrap64 (bits .or .u64 (IntKind.u64.wrap (IntKind.u64.wrap i*2^(64-q))) (lo/2^q))=wrap64 (i*2^(64-q)+lo/2^q):=by
 rw [uW i lo q j p]
 have hM:(18446744073709551616:Int)=2^(64-q)*2^q:=by rw [←Int.pow_add,show 64-q+q=64 by omega];rfl
 obtain ⟨k,x⟩:∃k:Int,uw i=i+k*18446744073709551616:=⟨-(i/18446744073709551616),by unfold uw;omega⟩
 have v:=Int.emod_add_mul_ediv (uw i) (2^q)
 refine sd ⟨k*2^(64-q)-uw i/2^q,?_⟩
 have e:uw i%2^q=i+k*18446744073709551616-2^q*(uw i/2^q):=by omega
 rw [e,Int.sub_mul,Int.add_mul,Int.sub_mul]
 have u:2^q*(uw i/2^q)*2^(64-q)=(uw i/2^q)*18446744073709551616:=by
  rw [hM,Int.mul_comm (2^q:Int),Int.mul_assoc,Int.mul_comm (2^q:Int)]
 have o:k*18446744073709551616*2^(64-q)=k*2^(64-q)*18446744073709551616:=by rw [Int.mul_assoc,Int.mul_comm 18446744073709551616,←Int.mul_assoc]
 rw [u,o]
 omega
def gC (a b:Int):Nat→Int
 | 0=>wrap64 (uw a*uw b/18446744073709551616)
 | 1=>if a<0 then wrap64 (wrap64 (uw a*uw b/18446744073709551616)-b) else wrap64 (uw a*uw b/18446744073709551616)
 | _=>ed a b
theorem zM (a b:Int) (j: -9223372036854775808≤a∧a≤9223372036854775807) (o: -9223372036854775808≤b∧b≤9223372036854775807):ed a b=if b<0 then wrap64 (gC a b 1-a) else gC a b 1:=by
 rw [←C5 a b j o]
 unfold gC
 by_cases h1:a<0
 ·by_cases i:b<0
  ·simp only [h1,i,if_true,mH]
  ·simp only [h1,i,if_true,if_false,mH,Int.sub_zero]
 ·by_cases i:b<0
  ·simp only [h1,i,if_true,if_false,mH,Int.sub_zero]
  ·simp only [h1,i,if_false,Int.sub_zero]
theorem D1 (a b:Int) (w:World) (L: -9223372036854775808≤a∧a≤9223372036854775807) (B: -9223372036854775808≤b∧b≤9223372036854775807):
  Calls Tryz.prog 219 #[KL a,KL b] w fun e T=>e=.returned (.tuple #[KL (ed a b),.int .u64 (fY a b)])∧Below w.heap.size w T:=by
 obtain ⟨X,x,A⟩:=ot a
 obtain ⟨Y,y,D⟩:=ot b
 have R:IntKind.u64.wrap a=(X:Int):=by rw [IntKind.wrap_u64,←x];rfl
 have N:IntKind.u64.wrap b=(Y:Int):=by rw [IntKind.wrap_u64,←y];rfl
 have o:wrap64 ((X*Y/18446744073709551616:Nat):Int)=gC a b 0:=by unfold gC;rw [x,y];simp
 have v:((X*Y%18446744073709551616:Nat):Int)=fY a b:=by rw [←C4 a b L B,x,y];unfold uw;simp
 have hm:=BS X Y A D w
 rw [v] at hm
 obtain ⟨h,O⟩:∃h:Int,((X*Y/18446744073709551616:Nat):Int)=h:=⟨_,rfl⟩
 rw [O] at hm o
 have H:∀w,(Instr.index 342 (.agg #[KL a,KL b,KL b,KL a]) (KL 0)).run Tryz.prog w=.ok (.agg #[KL a,KL b]) w:=fun w=>by kernel_rfl
 have J:∀w,(Instr.index 342 (.agg #[KL a,KL b,KL b,KL a]) (KL 1)).run Tryz.prog w=.ok (.agg #[KL b,KL a]) w:=fun w=>by kernel_rfl
 obtain ⟨Hm,Z,V,I,I0,U⟩:=ai hm R N o H J;clear hm R N o v x y O H J
 go_enter Tryz.func219,Tryz.ntmps219
 go_wp2_with fail
 rw [Z.out,V.out]
 refine Hm.out.mono ?_
 rintro e w1 ⟨rfl,rfl⟩
 go_wp2_with fail
 rw [I.out]
 go_loopw [4,26] (fun s i wr=>∃k:Nat,k≤2∧i=KL k∧s=KL (gC a b k)∧Below w.heap.size w wr) (fun _ i _=>2-(intOf i).toNat)
 case atStart=>exact ⟨0,by omega,rfl,rfl,JG _ _⟩
 case round=>
  obtain ⟨k,q,rfl,rfl,j⟩:=hrel
  obtain ⟨Q,u⟩:=ae (j.trans ((JG _ _).alloc j.size (.cells #[KL a,KL b] 341))) (j.trans ((JG _ _).alloc j.size (.cells #[KL b,KL a] 341)))
  rcases (show k=0∨k=1∨k=2 by omega) with rfl | rfl | rfl
  ·rw [show (((0:Nat):Int))=0 from rfl]
   have H:=I0.out
   by_cases h:a<0
   ·have he:wrap64 (gC a b 0-b)=gC a b 1:=by simp only [gC,h,if_true]
    have p:=aa he;clear he j q
    go_wp2_with fail
    rw [p.out]
    go_roundw
    case rel=>exact ⟨1,by omega,rfl,rfl,Q.out⟩
    case measure=>simp [intOf]
   ·have he:gC a b 0=gC a b 1:=by simp only [gC,h,if_false]
    have p:=aa he;clear he j q
    go_wp2_with fail
    rw [p.out]
    go_roundw
    case rel=>exact ⟨1,by omega,rfl,rfl,Q.out⟩
    case measure=>simp [intOf]
  ·rw [show (((1:Nat):Int))=1 from rfl]
   have J:=U.out
   by_cases h:b<0
   ·have he:wrap64 (gC a b 1-a)=gC a b 2:=by rw [show gC a b 2=ed a b from rfl,zM a b L B,if_pos h]
    have p:=aa he;clear he j q
    go_wp2_with fail
    rw [p.out]
    go_roundw
    case rel=>exact ⟨2,by omega,rfl,rfl,u.out⟩
    case measure=>simp [intOf]
   ·have he:gC a b 1=gC a b 2:=by rw [show gC a b 2=ed a b from rfl,zM a b L B,if_neg h]
    have p:=aa he;clear he j q
    go_wp2_with fail
    rw [p.out]
    go_roundw
    case rel=>exact ⟨2,by omega,rfl,rfl,u.out⟩
    case measure=>simp [intOf]
  ·rw [show (((2:Nat):Int))=2 from rfl]
   have C:=aa j;clear j q
   go_wp2_with fail
   go_ret2
   exact ⟨rfl,C.out⟩
theorem AO (i lo:Int) (q:Nat) (w:World) (u:q≤62) (h1: -9223372036854775808≤i∧i≤9223372036854775807) (o:0≤lo∧lo<18446744073709551616):
  Calls Tryz.prog 220 #[KL i,.int .u64 lo,KL q] w fun e j=>e=.returned (KL (wrap64 (i*2^(64-q)+lo/2^q)))∧∃n,j=w.drewN n:=by
 have hv:=AN i lo q (by omega) o
 have p:=aa hv;clear hv
 go_enter Tryz.func220,Tryz.ntmps220
 go_wp2_with fail
 go_quiet (fail)
 rw [p.out]
 go_wp2
 go_ret
 exact ⟨rfl,_,rfl⟩
theorem Gw (a b:Int) (q:Nat) (i:q≤62):eL a b q=wrap64 (ed a b*2^(64-q)+fY a b/2^q):=by
 rw [Dt a b q i]
 unfold eL
 rw [if_neg (by omega)]
 simp
theorem rq (a b q:Int) (w:World) (p: -9223372036854775808≤a∧a≤9223372036854775807) (u: -9223372036854775808≤b∧b≤9223372036854775807):
  Calls Tryz.prog 200 #[KL a,KL b,KL q] w fun e j=>e=.returned (KL (eL a b q))∧Below w.heap.size w j:=by
 by_cases h1:q<0
 ·have hv:eL a b q=0:=by unfold eL;rw [if_pos (.inl h1)]
  rw [hv];clear hv
  go_enter Tryz.func200,Tryz.ntmps200
  go_wp2_with fail
  go_ret
  exact ⟨rfl,JG _ _⟩
 ·by_cases x:62<q
  ·have hv:eL a b q=0:=by unfold eL;rw [if_pos (.inr x)]
   rw [hv];clear hv
   go_enter Tryz.func200,Tryz.ntmps200
   go_wp2_with fail
   go_ret
   exact ⟨rfl,JG _ _⟩
  ·obtain ⟨Q,rfl⟩:=Int.eq_ofNat_of_zero_le (show 0≤q by omega)
   have hv:=Gw a b Q (by omega)
   rw [hv]
   have o:=D1 a b w p u
   have hs:=fun j=>AO (ed a b) (fY a b) Q j (by omega) (iM p u) (pC _)
   obtain ⟨A,y⟩:=ae o hs;clear o hs hv
   go_enter Tryz.func200,Tryz.ntmps200
   go_wp2_with fail
   refine A.out.mono ?_
   rintro e B ⟨rfl,i⟩
   have v:=aa i;clear i
   go_wp2_with fail
   refine (y.out _).mono ?_
   rintro e C ⟨rfl,n,rfl⟩
   go_wp2_with fail
   go_ret
   exact ⟨rfl,JN v.out _⟩
end Go.Proofs.YtaccfnffmbndhaaGreat
