/- No condition. -/
import Derived.Test.YtaccfnffmbndhaaGreatC00
import Derived.Test.YtaccfnffmbndhaaGreatC03
set_option linter.unusedSimpArgs false
set_option linter.unusedVariables false
set_option maxRecDepth 100000
set_option maxHeartbeats 4000000
namespace Go.Proofs.YtaccfnffmbndhaaGreat
open Go.RowKit
theorem XA.v {P:Program} {ops:Array Oper} {Q:Exit→Act→World→Prop} {S:World→Prop} {n:Nat} {L:List Nat} {a:Act} {w:World} {o:Oper} (i:Nat) (j:World) (v:Value) (q:S j) (k:XA P ops Q S n (i::L) (a.put o.dst v) j) (p:ops[i]?=some o:=by (simp only [J1,Ka,Kb];rfl))
  (hr:cM ops L=[i]:=by decide +kernel) (hw:Region.wanted o (yielded ops a.tmps)=true:=by rfl) (he:(execOp a.eval o).run P w=.ok (.value v) j:=by go_simp):XA P ops Q S n L a w:=by
 refine XA.one i p hr fun x u=>?_
 rw [if_pos hw]
 unfold Oper.wp
 rw [he]
 exact u.out _ _ q fun _=>k
def aT (a:Acn):List Value:=[.bool a.send,.bool a.add,KL (a.st:Nat),KL (a.bk:Nat),KL (a.ph:Nat),KL (a.rd:Nat),KL (a.ch:Nat),KL (a.at'.1:Nat),KL (a.at'.2:Nat)]
def dP (l:List Acn):List Value:=l.flatMap aT
theorem nX (l:List Acn) (a:Acn):dP (l++[a])=dP l++aT a:=by simp [dP]
theorem Ag:dq Tryz.prog 276 54 (.agg KS) 9 64:=⟨Tryz.underlying276,info_parts (by kernel_rfl),rfl,by decide⟩
theorem CV (snd:Bool) (i:Nat) (A:Option Addr) (n c J q j N:Nat) (w:World) (u:n≤i):
  Calls Tryz.prog 192 #[.bool snd,KL i,.slice A n c,.pointer (some ⟨J,0,none⟩),.pointer (some ⟨q,0,none⟩),.pointer (some ⟨j,0,none⟩),.pointer (some ⟨N,0,none⟩)] w fun e o=>e=.returned (.tuple #[])∧o=w:=by
 have p:¬((i:Int)<n):=by omega
 go_enter Tryz.func192,Tryz.ntmps192
 go_wp2_with fail
 go_end0
 exact ⟨rfl,rfl⟩
theorem FM (snd:Bool) (i:Nat) (A:Option Addr) (rs:List Rg) (n c J Pb Rb N base:Nat) (st bk lo hi W cc ph r:Nat) (x:Rg) (v:Value) (l:List Acn) (m:Nat) (w:World)
  (hJ:w.heap[J]?=some (.cells #[KL (st:Nat),KL (bk:Nat),KL (lo:Nat),KL (hi:Nat),KL (W:Nat),KL (cc:Nat)] 275 (0,0)))
  (hP:w.heap[Pb]?=some (.cells #[KL (ph:Nat)] 3 (0,0))) (hR:w.heap[Rb]?=some (.cells #[KL (r:Nat)] 3 (0,0)))
  (hN:w.heap[N]?=some (.cells #[v] 276 (0,0))) (ho:w.ownsRow base 54 9 v m (dP l)) (hb:base≤w.heap.size)
  (hA:Rd w A (aF rs)) (hn:rs.length=n) (hx:rs[i]?=some x) (hm:m≤8388608) (a8:n≤1048576) (a2:∀y,A=some y→y.block<base):
  Calls Tryz.prog 192 #[.bool snd,KL i,.slice A n c,.pointer (some ⟨J,0,none⟩),.pointer (some ⟨Pb,0,none⟩),.pointer (some ⟨Rb,0,none⟩),.pointer (some ⟨N,0,none⟩)] w fun e B=>e=.returned (.tuple #[])∧
   ∃v',B.heap[N]?=some (.cells #[v'] 276 (0,0))∧B.ownsRow base 54 9 v' (m+1) (dP (l++[⟨snd, !snd&&ph==0,st,bk,ph,r,i,x⟩]))∧Keep (fun j=>j=N∨v.ownBlock=some j) w B:=by
 have a7:i<n:=by rw [←hn];exact (Kg.1 hx).1
 have a6:(i:Int)<n:=by omega
 have V:=lQ hx
 obtain ⟨g,o,rfl,c0⟩:=hA _ _ V.1
 obtain ⟨g',o',e',c1⟩:=hA _ _ V.2
 obtain ⟨rfl,rfl⟩:g'=g∧o'=o:=by simpa using e'.symm
 rw [←Ky] at c1
 obtain ⟨p,hW0⟩:∃p,w.alloc (.cells #[KL (st:Nat),KL (bk:Nat),KL (ph:Nat),KL (r:Nat),KL (i:Nat)] 50)=p:=⟨_,rfl⟩
 have h0:p.heap[w.heap.size]?=some (.cells #[KL (st:Nat),KL (bk:Nat),KL (ph:Nat),KL (r:Nat),KL (i:Nat)] 50 (0,0)):=by rw [←hW0];exact JE w _
 have H:Below w.heap.size w p:=by rw [←hW0];exact (br w).alloc (JD _) _
 have xJ:=bx6 hJ
 have xP:=bx1 hP
 have xR:=bx1 hR
 have U:=ap ho H
 have nt:=fun b cs t' sg (a5:p.heap[b]?=some (.cells cs t' sg)) (a3:t'≠54) (e:v.ownBlock=some b)=>an a5 a3 U e.symm
 have R:=sb hP _ H
 have T:=sb hN _ H
 have kP:=fun B (q:Keep (fun j=>v.ownBlock=some j) p B)=>(q.block _ (JC R) (nt _ _ _ _ R (by decide))).trans R
 have kN:=fun B (q:Keep (fun j=>v.ownBlock=some j) p B)=>(q.block _ (JC T) (nt _ _ _ _ T (by decide))).trans T
 have tP:=fun B q=>bx1 (kP B q)
 have tN:=fun B q=>bx1 (kN B q)
 have t0:=fun B (q:Keep (fun j=>v.ownBlock=some j) p B)=>bx5 ((q.block _ (JC h0) (nt _ _ _ _ h0 (by decide))).trans h0)
 have a0:¬v.ownBlock=some g':=fun e=>by
  have h1:=(U.lt g' e).1
  have h2:=a2 _ rfl
  simp only at h2
  omega
 have d0:=fun B (q:Keep (fun j=>v.ownBlock=some j) p B)=>q.cell (am H c0) a0
 have d1:=fun B (q:Keep (fun j=>v.ownBlock=some j) p B)=>q.cell (am H c1) a0
 obtain ⟨HN,HO,Q,a4⟩:=ag kN U H hW0;clear hJ hP hR hN ho H hW0 V hA e' hx hn h0 R T kP kN U nt a0 c0 c1 a2
 go_enter Tryz.func192,Tryz.ntmps192
 have q0:Keep (fun j=>v.ownBlock=some j) p p.drew:=(Keep.refl _ _).drew
 go_wp2_with fail
 rw [a4.out]
 have a1:((ph:Int)==0)=(ph==0):=by rw [Bool.eq_iff_iff];simp
 cases snd
 ·refine XA.g 16 (fun B:World=>Keep (fun j=>v.ownBlock=some j) p B) ?_
  refine XA.t ?_ [0,1,2,3,4,5,6,7,8,9,10,11,12,13] q0 ?_
  obtain ⟨a,ha⟩:∃a:Acn,a=⟨false,(!false&&ph==0),st,bk,ph,r,i,x⟩:=⟨_,rfl⟩
  refine XA.v 14 (p.drew.alloc (.cells (aT a).toArray 54)) (.slice (some ⟨p.heap.size,0,none⟩) 1 1) (q0.alloc _) ?_ rfl (by decide +kernel) rfl (by subst ha;go_simp;simp [aT,a1];try rfl)
  refine XA.o 15 (fun K' hK=>?_) rfl (by decide +kernel)
  have hO:=(HO.out.drew).alloc (.cells (aT a).toArray 54)
  have hbs:=Q.out.size
  refine bF Ag (.tmp 23) (.tmp 37) rfl rfl base v m _ rfl hO (some ⟨p.heap.size,0,none⟩) 1 1 (aT a) rfl (fun k u hu=>⟨_,_,rfl,by rw [Kz,JF _ p.heap.size k (aT a).toArray 54 (0,0) (JE p.drew _)];simpa using hu⟩) rfl (by simp [aT,Value.oneCell']) (by omega) (by unfold maxLen;omega) (by simp;omega) ?_
  intro Y c5 I C Z O _
  have L:Keep (fun j=>v.ownBlock=some j) p I:=(q0.alloc _).grown O (fun k X=>.inr X)
  refine hK.out _ _ L fun _=>?_
  refine XA.e ?_
  simp only [Kc,Ke]
  have D:=HN.out I L
  have e3:=KG I N 0 _ _ (.slice Y (m+1) c5) D
  have k1:Keep (fun j=>j=N) I (I.setCell ⟨N,0,none⟩ (.slice Y (m+1) c5)):=Keep.setCell (S:=fun j=>j=N) (Keep.refl _ _) ⟨N,0,none⟩ (.inr rfl) _
  have o6:=k1.own C (fun j hj e=>an D (by decide) C (by rw [hj,e]))
  have k6:Keep (fun j=>j=N∨v.ownBlock=some j) w (I.setCell ⟨N,0,none⟩ (.slice Y (m+1) c5)):=Keep.setCell (S:=fun j=>j=N∨v.ownBlock=some j) ((Keep.below Q.out).trans (L.mono fun k _ X=>.inr X)) ⟨N,0,none⟩ (.inr (.inl rfl)) _
  obtain ⟨E3,O6,K6,HA⟩:=ag e3 o6 k6 ha
  have xN:=tN I L
  clear C Z O D e3 k1 o6 k6 tN tP t0 d0 d1 hK K' ha L hO
  go_wp2_with fail
  go_end0
  refine ⟨rfl,_,by simpa using E3.out,?_,K6.out⟩
  rw [nX,←HA.out]
  exact O6.out
 ·refine XA.g 16 (fun B:World=>Keep (fun j=>v.ownBlock=some j) p B) ?_
  refine XA.t ?_ [0,1,2,3,4,5,6,7,8,9,10,11,12,13] q0 ?_
  obtain ⟨a,ha⟩:∃a:Acn,a=⟨true,(!true&&ph==0),st,bk,ph,r,i,x⟩:=⟨_,rfl⟩
  refine XA.v 14 (p.drew.alloc (.cells (aT a).toArray 54)) (.slice (some ⟨p.heap.size,0,none⟩) 1 1) (q0.alloc _) ?_ rfl (by decide +kernel) rfl (by subst ha;go_simp;simp [aT,a1];try rfl)
  refine XA.o 15 (fun K' hK=>?_) rfl (by decide +kernel)
  have hO:=(HO.out.drew).alloc (.cells (aT a).toArray 54)
  have hbs:=Q.out.size
  refine bF Ag (.tmp 23) (.tmp 37) rfl rfl base v m _ rfl hO (some ⟨p.heap.size,0,none⟩) 1 1 (aT a) rfl (fun k u hu=>⟨_,_,rfl,by rw [Kz,JF _ p.heap.size k (aT a).toArray 54 (0,0) (JE p.drew _)];simpa using hu⟩) rfl (by simp [aT,Value.oneCell']) (by omega) (by unfold maxLen;omega) (by simp;omega) ?_
  intro Y c5 I C Z O _
  have L:Keep (fun j=>v.ownBlock=some j) p I:=(q0.alloc _).grown O (fun k X=>.inr X)
  refine hK.out _ _ L fun _=>?_
  refine XA.e ?_
  simp only [Kc,Ke]
  have D:=HN.out I L
  have e3:=KG I N 0 _ _ (.slice Y (m+1) c5) D
  have k1:Keep (fun j=>j=N) I (I.setCell ⟨N,0,none⟩ (.slice Y (m+1) c5)):=Keep.setCell (S:=fun j=>j=N) (Keep.refl _ _) ⟨N,0,none⟩ (.inr rfl) _
  have o6:=k1.own C (fun j hj e=>an D (by decide) C (by rw [hj,e]))
  have k6:Keep (fun j=>j=N∨v.ownBlock=some j) w (I.setCell ⟨N,0,none⟩ (.slice Y (m+1) c5)):=Keep.setCell (S:=fun j=>j=N∨v.ownBlock=some j) ((Keep.below Q.out).trans (L.mono fun k _ X=>.inr X)) ⟨N,0,none⟩ (.inr (.inl rfl)) _
  obtain ⟨E3,O6,K6,HA⟩:=ag e3 o6 k6 ha
  have xN:=tN I L
  clear C Z O D e3 k1 o6 k6 tN tP t0 d0 d1 hK K' ha L hO
  go_wp2_with fail
  go_end0
  refine ⟨rfl,_,by simpa using E3.out,?_,K6.out⟩
  rw [nX,←HA.out]
  exact O6.out
def iy (snd:Bool) (i:Nat) (rs:List Rg) (st bk ph r:Nat) (l:List Acn):List Acn:=if i<rs.length then l++[⟨snd, !snd&&ph==0,st,bk,ph,r,i,aO rs i⟩] else l
theorem tD (snd:Bool) (i:Nat) (A:Option Addr) (rs:List Rg) (c J q p N base:Nat) (st bk lo L W H ph r:Nat) (v:Value) (l:List Acn) (w:World)
  (T:w.heap[J]?=some (.cells #[KL (st:Nat),KL (bk:Nat),KL (lo:Nat),KL (L:Nat),KL (W:Nat),KL (H:Nat)] 275 (0,0)))
  (hP:w.heap[q]?=some (.cells #[KL (ph:Nat)] 3 (0,0))) (hR:w.heap[p]?=some (.cells #[KL (r:Nat)] 3 (0,0)))
  (O:w.heap[N]?=some (.cells #[v] 276 (0,0))) (B:w.ownsRow base 54 9 v l.length (dP l)) (I:base≤w.heap.size) (u:base≤N)
  (hA:Rd w A (aF rs)) (hm:l.length≤8388608) (C:rs.length≤1048576) (x:∀y,A=some y→y.block<base):
  Calls Tryz.prog 192 #[.bool snd,KL i,.slice A rs.length c,.pointer (some ⟨J,0,none⟩),.pointer (some ⟨q,0,none⟩),.pointer (some ⟨p,0,none⟩),.pointer (some ⟨N,0,none⟩)] w fun e o=>e=.returned (.tuple #[])∧
   ∃v',o.heap[N]?=some (.cells #[v'] 276 (0,0))∧o.ownsRow base 54 9 v' (iy snd i rs st bk ph r l).length (dP (iy snd i rs st bk ph r l))∧Below base w o:=by
 by_cases h:i<rs.length
 ·refine (FM snd i A rs rs.length c J q p N base st bk lo L W H ph r (aO rs i) v l l.length w T hP hR O B I hA rfl (by rw [cF rs i h];simp [h]) hm C x).mono ?_
  rintro e o ⟨rfl,v',V,R,Q⟩
  have D:iy snd i rs st bk ph r l=l++[⟨snd, !snd&&ph==0,st,bk,ph,r,i,aO rs i⟩]:=if_pos h
  refine ⟨rfl,v',V,?_,Q.toBelow I ?_⟩
  ·rw [D,Kf];exact R
  ·rintro j (rfl | U)
   ·exact u
   ·exact (B.lt j U).1
 ·refine (CV snd i A rs.length c J q p N w (by omega)).mono ?_
  rintro e o ⟨rfl,rfl⟩
  have D:iy snd i rs st bk ph r l=l:=if_neg h
  exact ⟨rfl,v,O,by rw [D];exact B,JG _ _⟩
def jb (x y:List Rg) (f g:Nat→Rg→Acn) (k:Nat):List Acn:=
 (List.range k).flatMap fun i=>(if i<x.length then [f i (aO x i)] else [])++(if i<y.length then [g i (aO y i)] else [])
theorem qP (x y:List Rg) (f g:Nat→Rg→Acn) (k:Nat):jb x y f g (k+1)=jb x y f g k++((if k<x.length then [f k (aO x k)] else [])++(if k<y.length then [g k (aO y k)] else [])):=by
 simp [jb,Kw,List.flatMap_append]
theorem vz (x y:List Rg) (f g:Nat→Rg→Acn) (k:Nat):(jb x y f g k).length≤2*k:=by
 induction k with
 | zero=>simp [jb]
 | succ k ih=>
  rw [qP,Kf,Kf]
  split<;>split<;>simp<;>omega
theorem lX (X Y:List Rg) (st bk ph r m:Nat):iy false m Y st bk ph r (iy true m X st bk ph r (jb X Y (fun i s=>(⟨true,false,st,bk,ph,r,i,s⟩:Acn)) (fun i s=>(⟨false,ph==0,st,bk,ph,r,i,s⟩:Acn)) m))=jb X Y (fun i s=>(⟨true,false,st,bk,ph,r,i,s⟩:Acn)) (fun i s=>(⟨false,ph==0,st,bk,ph,r,i,s⟩:Acn)) (m+1):=by
 rw [qP]
 by_cases h1:m<X.length<;>by_cases j:m<Y.length<;>simp [iy,h1,j]
theorem AX (st bk lo o W c x ph r:Nat) (w:World) (h1:1≤W) (h2:W≤1048576) (hx:x<W) (hp:ph<2) (hr:r+1<W) (h3:lo≤1048576) (h4:o≤1048576) (h5:1≤c) (h6:c≤1048576):
  Calls Tryz.prog 167 #[.agg #[KL (st:Nat),KL (bk:Nat),KL (lo:Nat),KL (o:Nat),KL (W:Nat),KL (c:Nat)],KL x,KL ph,KL r] w fun e j=>∃v,e=.returned v∧j.ownsRow w.heap.size 54 9 v (dF st bk (lo,o) W c x ph r).length (dP (dF st bk (lo,o) W c x ph r))∧Below w.heap.size w j:=by
 obtain ⟨D,hW0⟩:∃D,((w.alloc (.cells #[KL (st:Nat),KL (bk:Nat),KL (lo:Nat),KL (o:Nat),KL (W:Nat),KL (c:Nat)] 275)).alloc (.cells #[KL ph] 3)).alloc (.cells #[KL r] 3)=D:=⟨_,rfl⟩
 have g0:D.heap[w.heap.size]?=some (.cells #[KL (st:Nat),KL (bk:Nat),KL (lo:Nat),KL (o:Nat),KL (W:Nat),KL (c:Nat)] 275 (0,0)):=by
  rw [←hW0,JP _ _ _ (by simp;omega),JP _ _ _ (by simp)];exact JE w _
 have g1:D.heap[w.heap.size+1]?=some (.cells #[KL ph] 3 (0,0)):=by
  rw [←hW0,JP _ _ _ (by simp)];have:=JE (w.alloc (.cells #[KL (st:Nat),KL (bk:Nat),KL (lo:Nat),KL (o:Nat),KL (W:Nat),KL (c:Nat)] 275)) (.cells #[KL ph] 3);simpa using this
 have g2:D.heap[w.heap.size+1+1]?=some (.cells #[KL r] 3 (0,0)):=by
  rw [←hW0];have:=JE ((w.alloc (.cells #[KL (st:Nat),KL (bk:Nat),KL (lo:Nat),KL (o:Nat),KL (W:Nat),KL (c:Nat)] 275)).alloc (.cells #[KL ph] 3)) (.cells #[KL r] 3);simpa using this
 have a3:Below w.heap.size w D:=by rw [←hW0];exact (((br w).alloc (JD _) _).alloc (by simp) _).alloc (by simp;omega) _
 have a2:D.heap.size=w.heap.size+1+1+1:=by rw [←hW0];simp
 have t0:=fun j q=>bx6 (sb g0 j q)
 have t1:=fun j q=>bx1 (sb g1 j q)
 have t2:=fun j q=>bx1 (sb g2 j q)
 obtain ⟨b2,T,b7,G0,G1,G2⟩:=ai hW0 a3 a2 g0 g1 g2;clear hW0 g0 g1 g2 a3 a2
 go_enter Tryz.func167,Tryz.ntmps167
 have q0:=br D
 go_wp2_with fail
 rw [b2.out]
 refine (Dy st bk lo o W c x ph r D h1 h2 hx hp hr).mono ?_
 rintro e w1 ⟨rfl,k1⟩
 have q1:=bt q0 k1
 go_wp2_with fail
 refine (Dz st bk lo o W c x ph r w1 h1 h2 hx hp hr).mono ?_
 rintro e w2 ⟨rfl,k2⟩
 have q2:=bt q1 k2
 go_wp2_with fail
 refine (Dw lo o W w2 h1 h2 h3 h4).mono ?_
 rintro e p ⟨v3,rfl,o3,k3⟩
 have q3:=bt q2 k3
 have V:eZ W x ph r<W:=Nat.mod_lt _ h1
 have N:fV W x ph r<W:=Nat.mod_lt _ h1
 obtain ⟨so,u⟩:∃so,eZ W x ph r=so:=⟨_,rfl⟩
 obtain ⟨si,A⟩:∃si,fV W x ph r=si:=⟨_,rfl⟩
 rw [u] at V ⊢
 rw [A] at N ⊢
 obtain ⟨g,c3,aP,ad,b1⟩:=o3.form (by omega)
 subst aP
 have Z:=FY (b:=(lo,o)) h1 h3 h4
 obtain ⟨I,C⟩:∃I,aO (dR (lo,o) W) so=I:=⟨_,rfl⟩
 obtain ⟨H,B⟩:∃H,aO (dR (lo,o) W) si=H:=⟨_,rfl⟩
 have U:=Z I (by rw [←C,cF _ _ (by rw [qz];exact V)];exact List.getElem_mem _)
 have O:=Z H (by rw [←B,cF _ _ (by rw [qz];exact N)];exact List.getElem_mem _)
 have po:=ie o3 V
 have pi:=ie o3 N
 rw [C] at po
 rw [B] at pi
 have a0:=br p
 have aG:=fun j (q:Below p.heap.size p j)=>am q po.1
 have aM:=fun j (q:Below p.heap.size p j)=>am q po.2
 have ab:=fun j (q:Below p.heap.size p j)=>am q pi.1
 have b3:=fun j (q:Below p.heap.size p j)=>am q pi.2
 have u0:=fun j (q:Below p.heap.size p j)=>t0 j (bt q3 q)
 have b4:(so:Int)<W:=by omega
 have b5:(si:Int)<W:=by omega
 have HR:Hid (dF st bk (lo,o) W c x ph r=mT (chR I c) (chR H c) (fun i s=>⟨true,false,st,bk,ph,r,i,s⟩) (fun i s=>⟨false,ph==0,st,bk,ph,r,i,s⟩)):=Lib.hid (by unfold dF;rw [u,A,C,B])
 have Q:=aa q3;clear t0 ad b1 Z C B u A po pi q0 q1 q2 q3 k1 k2 k3 o3
 go_wp2_with fail
 refine HA.g (fun j:World=>Below p.heap.size p j) ?_
 refine HA.t ?_ [0,1,2,3,4,5,7,8,9,10,11,12] a0.drew ?_
 refine HA.c 6 (wT I.1 I.2 c _ h5 h6 U.1 U.2) ?_
 rintro e w4 ⟨v4,rfl,o4,k4⟩
 have q4:=bt a0.drew k4
 refine ⟨_,rfl,q4,fun _=>?_⟩
 refine HA.c 13 (wT H.1 H.2 c _ h5 h6 O.1 O.2) ?_
 rintro e J ⟨v5,rfl,o5,k5⟩
 have q5:=bt q4 k5
 refine ⟨_,rfl,q5,fun _=>?_⟩
 refine HA.t ?_ [14,15] q5 ?_
 refine HA.d ?_
 obtain ⟨A4,c4,rfl,_⟩:=aw o4
 obtain ⟨A5,c5,rfl,_⟩:=aw o5
 obtain ⟨X,hX⟩:∃X,chR I c=X:=⟨_,rfl⟩
 obtain ⟨Y,hY⟩:∃Y,chR H c=Y:=⟨_,rfl⟩
 have bb:X.length≤1048576:=by rw [←hX,uA];have:=fu (I.2-I.1) c;omega
 have b6:Y.length≤1048576:=by rw [←hY,uA];have:=fu (H.2-H.1) c;omega
 rw [hX] at o4 HR ⊢
 rw [hY] at o5 HR ⊢
 simp only [Exit.then]
 obtain ⟨L,O4,O5,B4,B5⟩:=ah ((Q.out).trans (q5.mono Q.out.size)) (ap o4 k5) o5 (jc (ap o4 k5)) (jc o5);clear o4 o5 k4 k5 q4 q5 a0 aG aM ab b3 u0 t1 t2 Q hX hY U O
 obtain ⟨M,hM⟩:∃M:Nat,max X.length Y.length=M:=⟨_,rfl⟩
 have bd:(if X.length<Y.length then (Y.length:Int) else (X.length:Int))=(M:Int):=by rw [←hM];split<;>omega
 have av:=aa hM;clear hM
 go_wp2_with fail
 go_loopw [62] (fun x wr=>∃m:Nat,m≤M∧x=KL m∧∃v,wr.heap[J.heap.size]?=some (.cells #[v] 276 (0,0))∧wr.ownsRow J.heap.size 54 9 v (jb X Y (fun i s=>(⟨true,false,st,bk,ph,r,i,s⟩:Acn)) (fun i s=>(⟨false,ph==0,st,bk,ph,r,i,s⟩:Acn)) m).length (dP (jb X Y (fun i s=>(⟨true,false,st,bk,ph,r,i,s⟩:Acn)) (fun i s=>(⟨false,ph==0,st,bk,ph,r,i,s⟩:Acn)) m))∧Below J.heap.size J wr) (fun x _=>M-(intOf x).toNat)
 case atStart=>exact ⟨0,JH _,rfl,_,JE _ _,JO _ _ _ _,(br J).alloc (JD _) _⟩
 case round=>
  obtain ⟨m,hm,rfl,v,n0,o0,q⟩:=hrel
  by_cases b9:m<M
  ·have aR:(m:Int)<M:=by omega
   have b8:IntKind.i64.wrap ((m:Int)+1)=((m+1:Nat):Int):=by rw [JI _ (by omega)];push_cast;rfl
   have a1:=vz X Y (fun i s=>(⟨true,false,st,bk,ph,r,i,s⟩:Acn)) (fun i s=>(⟨false,ph==0,st,bk,ph,r,i,s⟩:Acn)) m
   have a5:=(Rd.own O4.out).below q
   have a7:=fun y e=>(B4.out y e).2
   have c1:=tD true m A4 X c4 w.heap.size (w.heap.size+1) (w.heap.size+1+1) J.heap.size J.heap.size st bk lo o W c ph r v _ wr (sb G0.out wr (bt L.out q)) (sb G1.out wr (bt L.out q)) (sb G2.out wr (bt L.out q)) n0 o0 q.size (JD _) a5 (by omega) (by omega) a7
   obtain ⟨C1,HQ,b0⟩:=af c1 q a1;clear c1 a5 a7 n0 o0 q a1
   go_wp2_with fail
   refine C1.out.mono ?_
   rintro e w6 ⟨rfl,v6,n6,o6,k6⟩
   have R:=HQ.out.trans k6
   have a8:(iy true m X st bk ph r (jb X Y (fun i s=>(⟨true,false,st,bk,ph,r,i,s⟩:Acn)) (fun i s=>(⟨false,ph==0,st,bk,ph,r,i,s⟩:Acn)) m)).length≤2*m+1:=by have:=b0.out;unfold iy;split<;>simp<;>omega
   have a4:=(Rd.own O5.out).below R
   have a6:=fun y e=>(B5.out y e).2
   have c2:=tD false m A5 Y c5 w.heap.size (w.heap.size+1) (w.heap.size+1+1) J.heap.size J.heap.size st bk lo o W c ph r v6 _ w6 (sb G0.out w6 (bt L.out R)) (sb G1.out w6 (bt L.out R)) (sb G2.out w6 (bt L.out R)) n6 o6 R.size (JD _) a4 (by omega) (by omega) a6
   obtain ⟨C2,ao⟩:=ae c2 R;clear c2 a4 a6 n6 o6 R k6 a8
   go_wp2_with fail
   refine C2.out.mono ?_
   rintro e w7 ⟨rfl,v7,n7,o7,k7⟩
   have q7:=ao.out.trans k7
   rw [lX] at o7
   obtain ⟨N7,O7,Q7⟩:=af n7 o7 q7;clear n7 o7 q7 k7
   go_wp2_with fail
   go_roundw
   case rel=>exact ⟨m+1,by omega,by go_num,v7,N7.out,O7.out,Q7.out⟩
   case measure=>simp [intOf];omega
  ·obtain rfl:M=m:=by omega
   have aR:¬((M:Int)<M):=by omega
   have tn:=fun j q=>bx1 (sb n0 j q)
   obtain ⟨O0,HQ,HN⟩:=af o0 q n0
   have q0:=br wr
   clear o0 q n0
   go_wp2_with fail
   go_ret
   refine ⟨_,rfl,?_,?_⟩
   ·rw [HR.out]
    have:=O0.out
    rw [←av.out] at this
    exact ax this (JJ T.out.size L.out.size)
   ·exact T.out.trans ((bt L.out HQ.out).mono T.out.size)
def FL:Option Acn→List Value
 | none=>[.bool false,.bool false,KL 0,KL 0,KL 0,KL 0,KL 0,KL 0,KL 0]
 | some a=>aT a
def aN (x:Itm):List Value:=KL (x.kind:Nat)::KL (x.st:Nat)::KL (x.n:Nat)::FL x.a
def bH (l:List Itm):List Value:=l.flatMap aN
theorem yM (l m:List Itm):bH (l++m)=bH l++bH m:=by simp [bH]
theorem fk (l:List Itm) (a:Itm):bH (l++[a])=bH l++aN a:=by simp [bH]
theorem Fa:dq Tryz.prog 127 56 (.agg KR) 12 88:=⟨Tryz.underlying127,info_parts (by kernel_rfl),rfl,by decide⟩
theorem GM (L base Z st n m:Nat) (D B:Bool) (J T C N O I R:Int) (v:Value) (xs:List Value) (w:World)
  (hL:w.heap[L]?=some (.cells #[KL (st:Nat),v] 242 (0,0))) (ho:w.ownsRow base 56 12 v m xs) (hb:base≤w.heap.size) (hm:m≤8388608):
  Calls Tryz.prog 143 #[.pointer (some ⟨L,0,none⟩),KL (Z:Nat),KL (n:Nat),.agg #[.bool D,.bool B,KL J,KL T,KL C,KL N,KL O,KL I,KL R]] w fun e p=>e=.returned (.tuple #[])∧
   ∃v',p.heap[L]?=some (.cells #[KL (st:Nat),v'] 242 (0,0))∧p.ownsRow base 56 12 v' (m+1) (xs++[KL (Z:Nat),KL (st:Nat),KL (n:Nat),.bool D,.bool B,KL J,KL T,KL C,KL N,KL O,KL I,KL R])∧Keep (fun j=>j=L∨v.ownBlock=some j) w p∧(v'.ownBlock=v.ownBlock∨∀k,v'.ownBlock=some k→w.heap.size≤k):=by
 obtain ⟨i,hW0⟩:∃i,w.alloc (.cells #[.bool D,.bool B,KL J,KL T,KL C,KL N,KL O,KL I,KL R] 54)=i:=⟨_,rfl⟩
 have h0:i.heap[w.heap.size]?=some (.cells #[.bool D,.bool B,KL J,KL T,KL C,KL N,KL O,KL I,KL R] 54 (0,0)):=by rw [←hW0];exact JE w _
 have x:Below w.heap.size w i:=by rw [←hW0];exact (br w).alloc (JD _) _
 have U:=ap ho x
 have nt:=fun b cs t' sg (a5:i.heap[b]?=some (.cells cs t' sg)) (a2:t'≠56) (e:v.ownBlock=some b)=>an a5 a2 U e.symm
 have y:=sb hL _ x
 have kL:=fun p (q:Keep (fun j=>v.ownBlock=some j) i p)=>(q.block _ (JC y) (nt _ _ _ _ y (by decide))).trans y
 have tL:=fun p q=>bx2 (kL p q)
 have t0:=fun p (q:Keep (fun j=>v.ownBlock=some j) i p)=>bx9 ((q.block _ (JC h0) (nt _ _ _ _ h0 (by decide))).trans h0)
 obtain ⟨HL,HO,Y,a3⟩:=ag kL U x hW0;clear hL ho x hW0 h0 y kL U nt
 go_enter Tryz.func143,Tryz.ntmps143
 have q0:Keep (fun j=>v.ownBlock=some j) i i.drew:=(Keep.refl _ _).drew
 go_wp2_with fail
 rw [a3.out]
 refine XA.g 15 (fun p:World=>Keep (fun j=>v.ownBlock=some j) i p) ?_
 refine XA.t ?_ [0,1,2,3,4,5,6,7,8,9,10,11,12] q0 ?_
 refine XA.v 13 (i.drew.alloc (.cells #[KL (Z:Nat),KL (st:Nat),KL (n:Nat),.bool D,.bool B,KL J,KL T,KL C,KL N,KL O,KL I,KL R] 56)) (.slice (some ⟨i.heap.size,0,none⟩) 1 1) (q0.alloc _) ?_
 refine XA.o 14 (fun K' hK=>?_)
 have hO:=(HO.out.drew).alloc (.cells #[KL (Z:Nat),KL (st:Nat),KL (n:Nat),.bool D,.bool B,KL J,KL T,KL C,KL N,KL O,KL I,KL R] 56)
 have hbs:=Y.out.size
 refine bF Fa (.tmp 12) (.tmp 21) rfl rfl base v m _ rfl hO (some ⟨i.heap.size,0,none⟩) 1 1 [KL (Z:Nat),KL (st:Nat),KL (n:Nat),.bool D,.bool B,KL J,KL T,KL C,KL N,KL O,KL I,KL R] rfl (fun k u hu=>⟨_,_,rfl,by rw [Kz,JF _ i.heap.size k _ 56 (0,0) (JE i.drew _)];simpa using hu⟩) rfl (by simp [Value.oneCell']) (by omega) (by unfold maxLen;omega) (by simp;omega) ?_
 intro A5 c5 V H a4 a1 a0
 have A:(Value.slice A5 (m+1) c5).ownBlock=v.ownBlock∨∀k,(Value.slice A5 (m+1) c5).ownBlock=some k→w.heap.size≤k:=by
  rcases a0 with h | h
  ·exact .inl h
  ·exact .inr fun k X=>by rw [h] at X;simp at X;omega
 have HN:=aa A;clear a0 A
 have q5:Keep (fun j=>v.ownBlock=some j) i V:=(q0.alloc _).grown a1 (fun k X=>.inr X)
 refine hK.out _ _ q5 fun _=>?_
 refine XA.e ?_
 simp only [Kc,Ke]
 have Q:=HL.out V q5
 have e3:=KG V L 1 _ _ (.slice A5 (m+1) c5) Q
 have k1:Keep (fun j=>j=L) V (V.setCell ⟨L,1,none⟩ (.slice A5 (m+1) c5)):=Keep.setCell (S:=fun j=>j=L) (Keep.refl _ _) ⟨L,1,none⟩ (.inr rfl) _
 have o6:=k1.own H (fun j hj e=>an Q (by decide) H (by rw [hj,e]))
 have k6:Keep (fun j=>j=L∨v.ownBlock=some j) w (V.setCell ⟨L,1,none⟩ (.slice A5 (m+1) c5)):=Keep.setCell (S:=fun j=>j=L∨v.ownBlock=some j) ((Keep.below Y.out).trans (q5.mono fun k _ X=>.inr X)) ⟨L,1,none⟩ (.inr (.inl rfl)) _
 obtain ⟨E3,O6,K6⟩:=af e3 o6 k6
 have xL:=tL V q5
 clear H a4 a1 Q e3 k1 o6 k6 tL t0 hK K' q5 hO
 go_wp2_with fail
 go_end0
 exact ⟨rfl,_,by simpa using E3.out,O6.out,K6.out,HN.out⟩
def fI (w:World) (L base st:Nat) (v:Value) (l:List Itm):Prop:=w.heap[L]?=some (.cells #[KL (st:Nat),v] 242 (0,0))∧w.ownsRow base 56 12 v l.length (bH l)
def Apd (L:Nat) (w:World) (v:Value) (i:World) (v':Value):Prop:=Keep (fun j=>j=L∨v.ownBlock=some j) w i∧(v'.ownBlock=v.ownBlock∨∀k,v'.ownBlock=some k→w.heap.size≤k)
theorem Apd.trans {L:Nat} {a b c:World} {v v' i:Value} (h:Apd L a v b v') (k:Apd L b v' c i):Apd L a v c i:=by
 refine ⟨⟨k.1.os.trans h.1.os,k.1.tape.trans h.1.tape,k.1.output.trans h.1.output,JJ h.1.size k.1.size,fun j o hn=>(k.1.block j (JK o h.1.size) fun p=>?_).trans (h.1.block j o hn)⟩,?_⟩
 ·rcases p with rfl | p
  ·exact hn (.inl rfl)
  ·rcases h.2 with u | u
   ·exact hn (.inr (u▸p))
   ·have:=u j p;omega
 ·rcases k.2 with q | q
  ·rw [q];exact h.2
  ·exact .inr fun j o=>JJ h.1.size (q j o)
theorem Apd.below {L:Nat} {b c:World} {v:Value} (h:Below b.heap.size b c):Apd L b v c v:=⟨Keep.below h,.inl rfl⟩
theorem Apd.refl (L:Nat) (w:World) (v:Value):Apd L w v w v:=⟨Keep.refl _ _,.inl rfl⟩
theorem fI.below {w i:World} {L base st:Nat} {v:Value} {l:List Itm} (h:fI w L base st v l) (j:Below w.heap.size w i):fI i L base st v l:=⟨sb h.1 _ j,ap h.2 j⟩
theorem Apd.toBelow {L base st:Nat} {w i:World} {v v':Value} {l:List Itm} (h:Apd L w v i v') (hl:fI w L base st v l) (p:base≤w.heap.size) (hL:base≤L):Below base w i:=
 h.1.toBelow p (by
  rintro j (rfl | o)
  ·exact hL
  ·exact (hl.2.lt j o).1)
theorem wn (L base o st n:Nat) (a:Option Acn) (v:Value) (l:List Itm) (w:World)
  (hl:fI w L base st v l) (I:base≤w.heap.size) (hm:l.length≤8388608):
  Calls Tryz.prog 143 #[.pointer (some ⟨L,0,none⟩),KL (o:Nat),KL (n:Nat),.agg (FL a).toArray] w fun e i=>e=.returned (.tuple #[])∧
   ∃v',fI i L base st v' (l++[(⟨o,st,n,a⟩:Itm)])∧Apd L w v i v':=by
 have j:∀x u p q C A B y D,FL a=[.bool x,.bool u,KL p,KL q,KL C,KL A,KL B,KL y,KL D]→Calls Tryz.prog 143 #[.pointer (some ⟨L,0,none⟩),KL (o:Nat),KL (n:Nat),.agg (FL a).toArray] w fun e i=>e=.returned (.tuple #[])∧
   ∃v',fI i L base st v' (l++[(⟨o,st,n,a⟩:Itm)])∧Apd L w v i v':=by
  intro x u p q C A B y D e
  rw [e]
  refine (GM L base o st n l.length x u p q C A B y D v _ w hl.1 hl.2 I hm).mono ?_
  rintro J i ⟨rfl,v',h1,H,k,hn⟩
  refine ⟨rfl,v',⟨h1,?_⟩,k,hn⟩
  rw [fk,Kf,aN,e]
  exact H
 cases a with
 | none=>exact j _ _ _ _ _ _ _ _ _ rfl
 | some a=>exact j _ _ _ _ _ _ _ _ _ rfl
theorem lY (L base st n:Nat) (o:Int) (i:Nat) (p:(i:Int)=o) (v:Value) (l:List Itm) (w:World) (hl:fI w L base st v l) (q:base≤w.heap.size) (hm:l.length≤8388608):
  Calls Tryz.prog 143 #[.pointer (some ⟨L,0,none⟩),KL o,KL (n:Nat),.agg KS] w fun e j=>e=.returned (.tuple #[])∧
   ∃v',fI j L base st v' (l++[(⟨i,st,n,none⟩:Itm)])∧Apd L w v j v':=by
 subst p
 exact wn L base i st n none v l w hl q hm
theorem Cn (L base st:Nat) (o:Int) (i:Nat) (p:(i:Int)=o) (a:Acn) (v:Value) (l:List Itm) (w:World) (hl:fI w L base st v l) (q:base≤w.heap.size) (hm:l.length≤8388608):
  Calls Tryz.prog 143 #[.pointer (some ⟨L,0,none⟩),KL o,KL 0,.agg #[.bool a.send,.bool a.add,KL (a.st:Nat),KL (a.bk:Nat),KL (a.ph:Nat),KL (a.rd:Nat),KL (a.ch:Nat),KL (a.at'.1:Nat),KL (a.at'.2:Nat)]] w fun e j=>e=.returned (.tuple #[])∧
   ∃v',fI j L base st v' (l++[(⟨i,st,0,some a⟩:Itm)])∧Apd L w v j v':=by
 subst p
 exact wn L base i st 0 (some a) v l w hl q hm
theorem qg {α β:Type} {g:α→List β} {n:Nat} (hn:∀a,(g a).length=n):∀{l:List α} {i:Nat} {a:α},l[i]?=some a→∀f,f<n→(l.flatMap g)[i*n+f]?=(g a)[f]?
 | [],_,_,h,_,_=>by simp at h
 | x::l,0,a,h,f,hf=>by
  simp only [Kb,Option.some.injEq] at h
  subst h
  rw [List.flatMap_cons,Nat.zero_mul,Kz,Ki (by rw [hn];exact hf)]
 | x::l,i+1,a,h,f,hf=>by
  simp only [Ka] at h
  rw [List.flatMap_cons,Kj (by rw [hn,Kx];omega),hn,show (i+1)*n+f-n=i*n+f by rw [Kx];omega]
  exact qg hn h f hf
theorem Id (a:Acn):(aT a).length=9:=rfl
theorem xe {w:World} {base n g c:Nat} {l:List Acn} {e:TypeId} (h:w.ownsRow base e 9 (.slice (some ⟨g,0,none⟩) n c) n (dP l)) {i:Nat} {a:Acn} (j:l[i]?=some a) (hl:l.length=n):
  ∀f,f<9→w.cell? ⟨g,i*9+f,none⟩=(aT a)[f]?:=fun f o=>by
 have h1:i<l.length:=(Kg.1 j).1
 have q:=h.1
 have p:=qg Id j f o
 rw [h.cellAt _ (by omega),dP,p]
theorem Dx {b:Rg} {k:Nat} {M:Nat} (h1:1≤k) (j:b.1≤b.2) (p:b.2≤M):∀r∈dR b k,r.2≤M:=by
 intro r hr
 simp only [dR,shR,fA,List.map_map,List.mem_map,List.mem_range,Function.comp] at hr
 obtain ⟨i,o,rfl⟩:=hr
 have c:=fD (b.2-b.1) k (i+1) h1 (by omega)
 simp only
 omega
theorem rH (n c:Nat):cZ n c≤n:=by
 unfold cZ
 split
 ·omega
 ·have:=Nat.div_le_self (n-1) c
  omega
theorem uB {b:Rg} {W c s M:Nat} (h1:1≤W) (i:b.1≤b.2) (j:b.2≤M):(chR (aO (dR b W) s) c).length≤M:=by
 rw [uA]
 have h:=rH ((aO (dR b W) s).2-(aO (dR b W) s).1) c
 rcases JR s (dR b W).length with hs | hs
 ·have:=Dx h1 i j _ (List.getElem_mem hs)
  rw [←cF _ _ hs] at this
  omega
 ·have:aO (dR b W) s=(0,0):=by simp [aO,List.getD,hs]
  rw [this] at h ⊢
  exact JJ h (JH _)
theorem AY {st bk:Nat} {b:Rg} {W c w ph r M:Nat} (h1:1≤W) (i:b.1≤b.2) (j:b.2≤M):(dF st bk b W c w ph r).length≤2*M:=by
 rw [ke]
 have o:=uB (c:=c) (s:=eZ W w ph r) h1 i j
 have p:=uB (c:=c) (s:=fV W w ph r) h1 i j
 omega
def fO (p:Pln) (w st k lo:Nat) (n:Nat):List Itm:=(List.range' lo n).flatMap fun j=>cC p w st (k/(p.W-1)) (k%(p.W-1)) j
def bT (p:Pln) (w st:Nat) (g:Rg) (k:Nat):List Itm:=(List.range k).flatMap fun k=>fO p w st k g.1 (g.2-g.1)
theorem mX (p:Pln) (w st k lo n:Nat):fO p w st k lo (n+1)=fO p w st k lo n++cC p w st (k/(p.W-1)) (k%(p.W-1)) (lo+n):=by
 simp [fO,List.range'_concat]
theorem fW (p:Pln) (w st:Nat) (g:Rg) (k:Nat):bT p w st g (k+1)=bT p w st g k++fO p w st k g.1 (g.2-g.1):=by
 simp [bT,Kw]
theorem qZ {p:Pln} {w st k lo n M:Nat} (h:∀ph r j,(cC p w st ph r j).length≤M):(fO p w st k lo n).length≤n*M:=by
 induction n with
 | zero=>simp [fO]
 | succ n ih=>rw [mX,Kf,Kx];have:=h (k/(p.W-1)) (k%(p.W-1)) (lo+n);omega
theorem iY {p:Pln} {w st k M:Nat} {g:Rg} (h:∀ph r j,(cC p w st ph r j).length≤M):(bT p w st g k).length≤k*((g.2-g.1)*M):=by
 induction k with
 | zero=>simp [bT]
 | succ k ih=>rw [fW,Kf,Kx];have:=qZ (w:=w) (st:=st) (k:=k) (lo:=g.1) (n:=g.2-g.1) h;omega
theorem qE {p:Pln} {w st k lo n m:Nat} (hm:p.W-1=m) {ph r:Nat} (h1:k/m=ph) (i:k%m=r):fO p w st k lo n=(List.range' lo n).flatMap fun j=>cC p w st ph r j:=by
 unfold fO
 rw [hm,h1,i]
theorem pL (p:Pln) (w st:Nat) (g:Rg):bT p w st g (2*(p.W-1))=(List.range 2).flatMap fun ph=>(List.range (p.W-1)).flatMap fun r=>(List.range' g.1 (g.2-g.1)).flatMap fun j=>cC p w st ph r j:=by
 obtain ⟨m,hm⟩:∃m,p.W-1=m:=⟨_,rfl⟩
 obtain ⟨F,v⟩:∃F:Nat→Nat→List Itm,(fun ph r=>(List.range' g.1 (g.2-g.1)).flatMap fun j=>cC p w st ph r j)=F:=⟨_,rfl⟩
 have i:∀ph r,((List.range' g.1 (g.2-g.1)).flatMap fun j=>cC p w st ph r j)=F ph r:=fun ph r=>by rw [←v]
 have u:∀k,k≤m→bT p w st g k=(List.range k).flatMap (F 0):=by
  intro k
  induction k with
  | zero=>intro _;rfl
  | succ k ih=>
   intro q
   have e:=qE (w:=w) (st:=st) (lo:=g.1) (n:=g.2-g.1) hm (Nat.div_eq_of_lt (show k<m by omega)) (Nat.mod_eq_of_lt (show k<m by omega))
   rw [fW,ih (by omega),e,i,Kw,List.flatMap_append]
   simp only [List.flatMap_cons,List.flatMap_nil,List.append_nil]
 have h1:∀k,k≤m→bT p w st g (m+k)=bT p w st g m++(List.range k).flatMap (F 1):=by
  intro k
  induction k with
  | zero=>intro _;simp only [Nat.add_zero,List.range_zero,List.flatMap_nil,List.append_nil]
  | succ k ih=>
   intro q
   have d:(m+k)/m=1:=by rw [Nat.add_div_left k (by omega),Nat.div_eq_of_lt (by omega)]
   have o:(m+k)%m=k:=by rw [Nat.add_mod_left,Nat.mod_eq_of_lt (by omega)]
   have e:=qE (w:=w) (st:=st) (lo:=g.1) (n:=g.2-g.1) hm d o
   rw [←Ky,fW,ih (by omega),e,i,Kw,List.flatMap_append,Kl]
   simp only [List.flatMap_cons,List.flatMap_nil,List.append_nil]
 simp only [i]
 rw [hm,show 2*m=m+m by omega,h1 m (JD _),u m (JD _)]
 show _=List.flatMap (fun ph=>(List.range m).flatMap (F ph)) [0,1]
 simp only [List.flatMap_cons,List.flatMap_nil,List.append_nil]
structure cN (p:Pln):Prop where
 W1:1≤p.W
 W8:p.W≤8
 mi:p.mi≤20
 n:p.n≤60
 bu:1≤p.bu
 ck:1≤p.ck
 ck2:p.ck≤1048576
 wi:1≤p.wi
theorem Aq {n s:Nat}:∀r∈m6 n s,r.1≤r.2∧r.2≤n:=by
 intro r hr
 simp only [m6,List.mem_reverse,eR,List.mem_map,List.mem_range] at hr
 obtain ⟨i,j,rfl⟩:=hr
 have:=iI j
 exact ⟨by simp only;omega,by simp only;omega⟩
theorem cN.buks {p:Pln} (h:cN p):p.buks.length≤60:=by
 have:=rH p.n p.bu
 have:=h.n
 rw [Pln.buks,jY];omega
theorem cN.buk {p:Pln} (h:cN p) (j:Nat):(aO p.buks j).1≤(aO p.buks j).2∧(aO p.buks j).2≤60:=by
 rcases JR j p.buks.length with i | i
 ·have:=Aq _ (List.getElem_mem i)
  rw [←cF _ _ i] at this
  have hn:=h.n
  exact ⟨this.1,by omega⟩
 ·have:aO p.buks j=(0,0):=by simp [aO,List.getD,i]
  rw [this];simp
theorem cN.round {p:Pln} (h:cN p) (w st ph r j:Nat):(cC p w st ph r j).length≤120:=by
 unfold cC
 rw [List.length_map]
 exact AY h.W1 (h.buk j).1 (h.buk j).2
theorem xQ (p:Pln) (L base st x:Nat) (lo A:Nat) (a0 a1 a2 a3 a5 a6 a7 a8 ab av aM:Value) (BA:Option Addr) (bc:Nat) (v:Value) (l:List Itm) (w:World)
  (hp:cN p) (hl:fI w L base st v l) (hb:base≤w.heap.size) (c9:Rd w BA (aF p.buks)) (bO:∀y,BA=some y→y.block<base)
  (hL:base≤L) (hx:x<p.W) (hg:A≤p.buks.length) (e5:l.length≤8000000):
  Calls Tryz.prog 144 #[.agg #[a0,a1,a2,a3,KL (p.W:Nat),a5,a6,a7,a8,KL (p.ck:Nat),ab,av,.slice BA p.buks.length bc,aM],.pointer (some ⟨L,0,none⟩),KL x,.agg #[KL (lo:Nat),KL (A:Nat)]] w fun e o=>e=.returned (.tuple #[])∧
   ∃v',fI o L base st v' (l++bT p x st (lo,A) (2*(p.W-1)))∧Apd L w v o v':=by
 obtain ⟨C,hW0⟩:∃C,(w.alloc (.cells #[a0,a1,a2,a3,KL (p.W:Nat),a5,a6,a7,a8,KL (p.ck:Nat),ab,av,.slice BA p.buks.length bc,aM] 197)).alloc (.cells #[KL (lo:Nat),KL (A:Nat)] 52)=C:=⟨_,rfl⟩
 have g0:C.heap[w.heap.size]?=some (.cells #[a0,a1,a2,a3,KL (p.W:Nat),a5,a6,a7,a8,KL (p.ck:Nat),ab,av,.slice BA p.buks.length bc,aM] 197 (0,0)):=by
  rw [←hW0,JP _ _ _ (by simp)];exact JE w _
 have g1:C.heap[w.heap.size+1]?=some (.cells #[KL (lo:Nat),KL (A:Nat)] 52 (0,0)):=by
  rw [←hW0];have:=JE (w.alloc (.cells #[a0,a1,a2,a3,KL (p.W:Nat),a5,a6,a7,a8,KL (p.ck:Nat),ab,av,.slice BA p.buks.length bc,aM] 197)) (.cells #[KL (lo:Nat),KL (A:Nat)] 52);simpa using this
 have aG:Below w.heap.size w C:=by rw [←hW0];exact ((br w).alloc (JD _) _).alloc (by simp) _
 have J:=hl.below aG
 have d8:=JC J.1
 have cw:=JC hl.1
 have kS:=fun o (q:Keep (fun j=>j=L∨v.ownBlock=some j) C o)=>(q.block _ (JC g0) (fun e=>e.elim (fun h=>by omega) (fun h=>an g0 (by decide) J.2 h.symm))).trans g0
 have kG:=fun o (q:Keep (fun j=>j=L∨v.ownBlock=some j) C o)=>(q.block _ (JC g1) (fun e=>e.elim (fun h=>by omega) (fun h=>an g1 (by decide) J.2 h.symm))).trans g1
 have b0:Rd C BA (aF p.buks):=c9.below aG
 have kB:=fun o (q:Keep (fun j=>j=L∨v.ownBlock=some j) C o)=>q.rd b0 (fun y hy=>by
  have:=bO y hy
  rintro (h | h)
  ·omega
  ·have:=(hl.2.lt _ h).1;omega)
 have bA:=fun j=>hp.buk j
 have B:=fun ph r j=>hp.round x st ph r j
 obtain ⟨m,hm⟩:∃m,p.W-1=m:=⟨_,rfl⟩
 have d3:=hp.W1;have e4:=hp.W8;have cv:=hp.ck;have cb:=hp.ck2;have e7:=hp.buks
 have e6:(p.W:Int)-1=(m:Int):=by omega
 obtain ⟨T,hT⟩:∃T,2*m=T:=⟨_,rfl⟩
 have e1:(2:Int)*(m:Int)=(T:Int):=by omega
 have e3:IntKind.i64.wrap (m:Int)=m:=JI _ (by omega)
 have dT:IntKind.i64.wrap (T:Int)=T:=JI _ (by omega)
 rw [hm,hT]
 obtain ⟨d9,bN,ct,HS,HG,HB,cO,bd⟩:=ak hW0 aG J kS kG kB bA B;obtain ⟨Hm,HT⟩:=ae hm hT
 have tS:=fun o (q:Below C.heap.size C o)=>Fu (kS o (Keep.below q))
 have q0:=br C
 clear hW0 g0 g1 aG J hl c9 b0 kS kG kB bA B hm hT hp d8 cw bO
 go_enter Tryz.func144,Tryz.ntmps144
 go_wp2_with fail
 rw [d9.out]
 clear tS q0
 go_loopw [19] (fun y wr=>∃k:Nat,k≤T∧y=KL k∧∃v',fI wr L base st v' (l++bT p x st (lo,A) k)∧Apd L C v wr v') (fun y _=>T-(intOf y).toNat)
 case atStart=>exact ⟨0,JH _,rfl,v,by simpa [bT] using ct.out,Apd.refl _ _ _⟩
 case round=>
  obtain ⟨k,hk,rfl,v1,ao,A1⟩:=hrel
  by_cases dG:k<T
  ·have cy:(k:Int)<T:=by omega
   have bw:0<m:=by have:=HT.out;omega
   have dv:IntKind.i64.wrap ((k:Int)+1)=((k+1:Nat):Int):=by rw [JI _ (by omega)];push_cast;rfl
   obtain ⟨wq,rfl⟩:∃wq:World,wq=wr:=⟨_,rfl⟩
   have uG:=fun o (q:Below wq.heap.size wq o)=>bx2 (sb (HG.out wq A1.1) o q)
   have q1:=br wq
   obtain ⟨b5,b4⟩:=ae ao A1;clear ao A1
   go_wp2_with fail
   clear uG q1
   go_loopw [9] (fun y wr=>∃j:Nat,lo≤j∧(j≤A∨j=lo)∧y=KL j∧∃v2,fI wr L base st v2 (l++bT p x st (lo,A) k++fO p x st k lo (j-lo))∧Apd L C v wr v2) (fun y _=>A-(intOf y).toNat)
   case atStart=>exact ⟨lo,JD _,.inr rfl,rfl,v1,by simpa [fO] using b5.out,b4.out⟩
   case round=>
    obtain ⟨j,hj,e9,rfl,v2,D,A2⟩:=hrel
    have uG:=fun o (q:Below wr.heap.size wr o)=>bx2 (sb (HG.out wr A2.1) o q)
    by_cases dr:j<A
    ·have d6:(j:Int)<A:=by omega
     obtain ⟨u,rfl⟩:∃u:World,u=wr:=⟨_,rfl⟩
     have d4:j<p.buks.length:=by omega
     have dn:(j:Int)<p.buks.length:=by omega
     have b3:=dH d4
     obtain ⟨bb,bo,rfl,b9⟩:=HB.out u A2.1 _ _ b3.1
     obtain ⟨cr,da,e',a4⟩:=HB.out u A2.1 _ _ b3.2
     obtain ⟨rfl,rfl⟩:cr=bb∧da=bo:=by simpa using e'.symm
     rw [←Ky] at a4
     have bI:=cO.out j
     obtain ⟨b1,be⟩:∃b1,(aO p.buks j).1=b1:=⟨_,rfl⟩
     obtain ⟨b2,b6⟩:∃b2,(aO p.buks j).2=b2:=⟨_,rfl⟩
     rw [be] at b9 bI
     rw [b6] at a4 bI
     have d0:=fun o (q:Below u.heap.size u o)=>am q b9
     have d1:=fun o (q:Below u.heap.size u o)=>am q a4
     have uS:=fun o (q:Below u.heap.size u o)=>Fu (sb (HS.out u A2.1) o q)
     have uL:=fun o (q:Below u.heap.size u o)=>bx2 (sb D.1 o q)
     obtain ⟨H,R,cx,d7⟩:=ag D A2 be b6
     have q1:=br u
     clear D A2 be b6 b3 e' b9 a4
     go_wp2_with fail
     refine XA.g 18 (fun o:World=>Below u.heap.size u o) ?_
     refine XA.t ?_ [0,1,2,3,4,5,6,7,8,9,10,11,12,13,14,15,16] q1.drew ?_
     refine XA.v 17 (u.drew.alloc (.cells KW 275)) (.pointer (some ⟨u.heap.size,0,none⟩)) (q1.drew.alloc (JD _) _) ?_
     refine XA.e ?_
     simp only [Kc,Ke]
     have cA:=JC (HG.out u R.out.1)
     go_wp2_with fail
     obtain ⟨I,Q⟩:∃I,(u.alloc (.cells #[KL (st:Nat),KL (j:Nat),KL (b1:Nat),KL (b2:Nat),KL (p.W:Nat),KL (p.ck:Nat)] 275)).drew=I:=⟨_,rfl⟩
     have h7:I.heap[u.heap.size]?=some (.cells #[KL (st:Nat),KL (j:Nat),KL (b1:Nat),KL (b2:Nat),KL (p.W:Nat),KL (p.ck:Nat)] 275 (0,0)):=by rw [←Q];exact JE u _
     have k7:Below u.heap.size u I:=by rw [←Q];exact (q1.alloc (JD _) _).drew
     rw [Q]
     have t7:=fun o (q:Below I.heap.size I o)=>bx6 (sb h7 o q)
     have t8:=fun o (q:Below I.heap.size I o)=>uS o (bt k7 q)
     have bV:(k:Int).tdiv (m:Int)=((k/m:Nat):Int):=rfl
     have bG:(k:Int)/(m:Int)=((k/m:Nat):Int):=rfl
     have bs:(k:Int).tmod (m:Int)=((k%m:Nat):Int):=rfl
     have bi:(k:Int)%(m:Int)=((k%m:Nat):Int):=rfl
     have e0:¬(m=0):=by omega
     have b8:k/m<2:=by rw [Nat.div_lt_iff_lt_mul bw];have:=HT.out;omega
     have cl:k%m<m:=Nat.mod_lt _ bw
     have e8:cC p x st (k/(p.W-1)) (k%(p.W-1)) j=(dF st j (b1,b2) p.W p.ck x (k/m) (k%m)).map (gh st):=by
      unfold cC
      rw [Hm.out,←cx.out,←d7.out]
     have B:=bd.out (k/(p.W-1)) (k%(p.W-1)) j
     rw [e8,List.length_map] at B
     obtain ⟨ph,V⟩:∃q,k/m=q:=⟨_,rfl⟩
     obtain ⟨r,b7⟩:∃q,k%m=q:=⟨_,rfl⟩
     rw [V] at bV bG b8
     rw [b7] at bs bi cl
     rw [V,b7] at e8 B
     have cs:IntKind.i64.wrap (ph:Int)=ph:=JI _ (by omega)
     obtain ⟨H7,K7,E8,Z⟩:=ag Q k7 e8 B
     have q7:=br I
     clear Q h7 k7 uS uL uG d0 d1 q1 V b7 e8 B cA
     refine HA.g (fun o:World=>Below I.heap.size I o) ?_
     refine HA.t ?_ [0,1,2,3,4,5,6,7,8,9,10,11,12,13,16] q7.drew ?_
     refine HA.c 14 (AX st j b1 b2 p.W p.ck x ph r _ d3 (by omega) hx b8 (by have:=Hm.out;omega) (by omega) (by omega) cv cb) ?_
     rintro e w8 ⟨v8,rfl,o8,k8⟩
     have q8:=bt q7.drew k8
     refine ⟨_,rfl,q8,fun _=>?_⟩
     obtain ⟨A8,c8,rfl,_⟩:=aw o8
     refine HA.t ?_ [15] q8 ?_
     refine HA.d ?_
     simp only [Exit.then]
     obtain ⟨X,hX⟩:∃X,dF st j (b1,b2) p.W p.ck x ph r=X:=⟨_,rfl⟩
     rw [hX] at E8 Z o8 ⊢
     obtain ⟨N,hN⟩:∃N,X.length=N:=⟨_,rfl⟩
     rw [hN] at Z o8 ⊢
     have l8:=(H.out.below K7.out).below q8
     have bl:Apd L C v w8 v2:=R.out.trans (Apd.below (bt K7.out q8))
     have cc:=fun o (q:Keep (fun j=>j=L∨v2.ownBlock=some j) w8 o)=>q.own o8 (fun k hk e=>by
      have h1:=(o8.lt k hk).1
      have h2:=JC H.out.1
      have h3:=K7.out.size
      rcases e with e | e
      ·have h4:I.heap.size≤k:=h1
       omega
      ·have h5:k<u.heap.size:=(H.out.2.lt k e).2
       have h4:I.heap.size≤k:=h1
       omega)
     obtain ⟨L8,bh,d2,HN⟩:=ag l8 bl cc hN;clear o8 l8 bl cc k8 q8 q7 t7 t8 hX hN bV bG bs bi cs cl b8 H R H7
     go_wp2_with fail
     go_loopw [63] (fun y wr=>∃i:Nat,i≤N∧y=KL i∧∃v3,fI wr L base st v3 (l++bT p x st (lo,A) k++fO p x st k lo (j-lo)++(X.take i).map (gh st))∧Apd L w8 v2 wr v3) (fun y _=>N-(intOf y).toNat)
     case atStart=>exact ⟨0,JH _,rfl,v2,by simpa using L8.out,Apd.refl _ _ _⟩
     case round=>
      obtain ⟨i,ds,rfl,v3,l3,A3⟩:=hrel
      by_cases dk:i<N
      ·have dc:(i:Int)<N:=by omega
       have e2:IntKind.i64.wrap ((i:Int)+1)=((i+1:Nat):Int):=by rw [JI _ (by have:=Z.out;omega)];push_cast;rfl
       have oX:=d2.out wr A3.1
       obtain ⟨O,rfl⟩:∃O,A8=some ⟨O,0,none⟩:=by
        obtain ⟨g,e,hv,_⟩:=oX.form (by omega)
        simp only [Ku] at hv
        exact ⟨g,hv.1⟩
       have d5:i<X.length:=by rw [HN.out];exact dk
       obtain ⟨a,ha⟩:∃a,X[i]=a:=⟨_,rfl⟩
       have co:X[i]?=some a:=by rw [←ha];simp
       have Y:=xe oX co HN.out
       have cj:X.take (i+1)=X.take i++[a]:=by rw [List.take_succ_eq_append_getElem d5,ha]
       have aP:(l++bT p x st (lo,A) k++fO p x st k lo (j-lo)++(X.take i).map (gh st)).length≤8388608:=by
        have h1:=iY (w:=x) (st:=st) (k:=k) (g:=(lo,A)) (M:=120) (p:=p) (fun ph r j=>bd.out ph r j)
        have h2:=qZ (w:=x) (st:=st) (k:=k) (lo:=lo) (n:=j-lo) (M:=120) (p:=p) (fun ph r j=>bd.out ph r j)
        have h3:(X.take i).length≤120:=by rw [Kk];have:=Z.out;omega
        have h4:k*((A-lo)*120)≤14*(60*120):=Nat.mul_le_mul (by have:=HT.out;omega) (Nat.mul_le_mul (by omega) (JD _))
        have h5:(j-lo)*120≤60*120:=Nat.mul_le_mul (by omega) (JD _)
        simp only [Kf,List.length_map]
        dsimp only at h1
        omega
       obtain ⟨snd,ad,bz,ci,bf,bn,bX,cd,bv⟩:=a
       have c0:wr.cell? ⟨O,i*9,none⟩=some (.bool snd):=Y 0 (by omega)
       have c1:wr.cell? ⟨O,i*9+1,none⟩=some (.bool ad):=Y 1 (by omega)
       have c2:wr.cell? ⟨O,i*9+2,none⟩=some (KL (bz:Nat)):=Y 2 (by omega)
       have c3:wr.cell? ⟨O,i*9+3,none⟩=some (KL (ci:Nat)):=Y 3 (by omega)
       have c4:wr.cell? ⟨O,i*9+4,none⟩=some (KL (bf:Nat)):=Y 4 (by omega)
       have c5:wr.cell? ⟨O,i*9+5,none⟩=some (KL (bn:Nat)):=Y 5 (by omega)
       have c6:wr.cell? ⟨O,i*9+6,none⟩=some (KL (bX:Nat)):=Y 6 (by omega)
       have c7:wr.cell? ⟨O,i*9+7,none⟩=some (KL (cd:Nat)):=Y 7 (by omega)
       have c8:wr.cell? ⟨O,i*9+8,none⟩=some (KL (bv:Nat)):=Y 8 (by omega)
       have U:=fun (kd:Int) (kn:Nat) hk o (q:Below wr.heap.size wr o)=>Cn L base st kd kn hk ⟨snd,ad,bz,ci,bf,bn,bX,cd,bv⟩ v3 _ o (l3.below q) (JJ (JJ hb (JJ bN.out.size (bh.out.trans A3).1.size)) q.size) aP
       dsimp only at U
       obtain ⟨bM,aR,bU⟩:=af A3 U cj;clear oX Y l3 A3 U cj co aP
       cases snd
       ·go_wp2_with fail
        refine (aR.out 4 4 rfl _ ((br wr).alloc (JD _) _)).mono ?_
        rintro e w9 ⟨rfl,v9,l9,A9⟩
        obtain ⟨L9,B9⟩:=ae l9 (bM.out.trans ((Apd.below ((br wr).alloc (JD _) _)).trans A9));clear l9 A9 c0 c1 c2 c3 c4 c5 c6 c7 c8
        go_wp2_with fail
        go_roundw
        case rel=>exact ⟨i+1,by omega,by go_num,v9,by rw [bU.out,List.map_append,←Kl];exact L9.out,B9.out⟩
        case measure=>simp [intOf];omega
       ·go_wp2_with fail
        refine (aR.out 3 3 rfl _ ((br wr).alloc (JD _) _)).mono ?_
        rintro e w9 ⟨rfl,v9,l9,A9⟩
        obtain ⟨L9,B9⟩:=ae l9 (bM.out.trans ((Apd.below ((br wr).alloc (JD _) _)).trans A9));clear l9 A9 c0 c1 c2 c3 c4 c5 c6 c7 c8
        go_wp2_with fail
        go_roundw
        case rel=>exact ⟨i+1,by omega,by go_num,v9,by rw [bU.out,List.map_append,←Kl];exact L9.out,B9.out⟩
        case measure=>simp [intOf];omega
      ·obtain rfl:N=i:=by omega
       have dc:¬((N:Int)<N):=by omega
       have dp:IntKind.i64.wrap ((j:Int)+1)=((j+1:Nat):Int):=by rw [JI _ (by omega)];push_cast;rfl
       rw [List.take_of_length_le (by rw [HN.out];exact JD _),←E8.out,Kl,show fO p x st k lo (j-lo)++cC p x st (k/(p.W-1)) (k%(p.W-1)) j=fO p x st k lo (j+1-lo) from by rw [show j+1-lo=(j-lo)+1 by omega,mX,show lo+(j-lo)=j by omega]] at l3
       obtain ⟨L3,B3⟩:=ae l3 (bh.out.trans A3);clear l3 A3
       go_wp2_with fail
       go_roundw
       case rel=>exact ⟨j+1,by omega,by omega,by go_num,v3,L3.out,B3.out⟩
       case measure=>simp [intOf];omega
    ·have d6:¬((j:Int)<A):=by omega
     have q1:=br wr
     rw [show j-lo=A-lo by omega] at D
     have e:=fW p x st (lo,A) k
     dsimp only at e
     rw [Kl,←e] at D
     obtain ⟨H,R⟩:=ae D A2;clear D A2 e
     go_wp2_with fail
     go_roundw
     case rel=>exact ⟨k+1,by omega,by go_num,v2,H.out,R.out⟩
     case measure=>simp [intOf];omega
  ·obtain rfl:T=k:=by omega
   have cy:¬((T:Int)<T):=by omega
   obtain ⟨b5,b4⟩:=ae ao A1;clear ao A1
   go_wp2_with fail
   go_end0
   exact ⟨rfl,v1,b5.out,(Apd.below (v:=v) (bt (br w) (bN.out))).trans b4.out⟩
theorem FA {n s:Nat}:∀r∈eR n s,r.1≤r.2∧r.2≤n:=by
 intro r hr
 simp only [eR,List.mem_map,List.mem_range] at hr
 obtain ⟨i,j,rfl⟩:=hr
 have:=iI j
 exact ⟨by simp only;omega,by simp only;omega⟩
theorem cN.grp {p:Pln} (h:cN p) {i:Nat} (j:i<p.grps.length):(aO p.grps i).1≤(aO p.grps i).2∧(aO p.grps i).2≤p.buks.length:=by
 have:=FA _ (List.getElem_mem j)
 rwa [←cF _ _ j] at this
theorem cN.grps {p:Pln} (h:cN p):p.grps.length≤60:=by
 have:=rH p.buks.length p.wi
 have:=h.buks
 rw [Pln.grps,dU];omega
theorem Cw {p:Pln} (h:cN p) (w st:Nat) (g:Rg) (hg:g.2-g.1≤60):(de p w st g).length≤100920:=by
 unfold de
 rw [←pL]
 simp only [Kf,List.length_map,List.length_range']
 have h1:=iY (w:=w) (st:=st) (k:=2*(p.W-1)) (g:=g) (M:=120) (p:=p) (fun ph r j=>h.round w st ph r j)
 have i:=h.W8
 have o:2*(p.W-1)*((g.2-g.1)*120)≤14*(60*120):=Nat.mul_le_mul (by omega) (Nat.mul_le_mul hg (JD _))
 omega
def dg (p:Pln) (w st k:Nat):List Itm:=(List.range p.mi).map (fun a=>(⟨1,st,a,none⟩:Itm))++(p.grps.take k).flatMap (de p w st)
theorem mZ {p:Pln} (w st:Nat) {k:Nat} (i:k<p.grps.length):dg p w st (k+1)=dg p w st k++de p w st (aO p.grps k):=by
 unfold dg
 rw [List.take_succ_eq_append_getElem i,←cF _ _ i,List.flatMap_append,←Kl]
 simp
theorem lB {p:Pln} (h:cN p) (w st:Nat) {k:Nat} (j:k≤p.grps.length):(dg p w st k).length≤20+k*100920:=by
 induction k with
 | zero=>have:=h.mi;simp [dg];omega
 | succ k ih=>
  have h1:=h.grp (show k<p.grps.length by omega)
  have i:=h.buks
  have:=Cw h w st (aO p.grps k) (by omega)
  rw [mZ w st (by omega),Kf]
  have:=ih (by omega)
  omega
def cR (st lo n:Nat) (i:Nat):List Itm:=(List.range' lo n).map (fun j=>(⟨i,st,j,none⟩:Itm))
theorem kv (st lo n i:Nat):cR st lo (n+1) i=cR st lo n i++[(⟨i,st,lo+n,none⟩:Itm)]:=by simp [cR,List.range'_concat]
theorem iS (st lo n i:Nat):(cR st lo n i).length=n:=by simp [cR]
theorem tj (p:Pln) (w st lo i:Nat):de p w st (lo,i)=cR st lo (i-lo) 2++bT p w st (lo,i) (2*(p.W-1))++cR st lo (i-lo) 5:=by
 rw [pL];rfl
theorem pP (st k:Nat):(List.range (k+1)).map (fun a=>(⟨1,st,a,none⟩:Itm))=(List.range k).map (fun a=>(⟨1,st,a,none⟩:Itm))++[(⟨1,st,k,none⟩:Itm)]:=by simp [Kw]
theorem tc (p:Pln) (st x:Nat) (a0 a1 a2 a3 a5 a7 a8 L R:Value) (BA GA:Option Addr) (bc gc:Nat) (w:World)
  (Z:cN p) (hx:x<p.W) (bn:Rd w BA (aF p.buks)) (b9:Rd w GA (aF p.grps)) (aP:∀y,BA=some y→y.block<w.heap.size) (bs:∀y,GA=some y→y.block<w.heap.size):
  Calls Tryz.prog 101 #[.agg #[a0,a1,a2,a3,KL (p.W:Nat),a5,KL (p.mi:Nat),a7,a8,KL (p.ck:Nat),L,R,.slice BA p.buks.length bc,.slice GA p.grps.length gc],KL x,KL (st:Nat)] w fun e o=>∃v,e=.returned v∧o.ownsRow w.heap.size 56 12 v (aD p x st).length (bH (aD p x st))∧Below w.heap.size w o:=by
 obtain ⟨u,hW0⟩:∃u,(w.alloc (.cells #[a0,a1,a2,a3,KL (p.W:Nat),a5,KL (p.mi:Nat),a7,a8,KL (p.ck:Nat),L,R,.slice BA p.buks.length bc,.slice GA p.grps.length gc] 197)).alloc (.cells #[KL (st:Nat),KN] 242)=u:=⟨_,rfl⟩
 have g0:u.heap[w.heap.size]?=some (.cells #[a0,a1,a2,a3,KL (p.W:Nat),a5,KL (p.mi:Nat),a7,a8,KL (p.ck:Nat),L,R,.slice BA p.buks.length bc,.slice GA p.grps.length gc] 197 (0,0)):=by
  rw [←hW0,JP _ _ _ (by simp)];exact JE w _
 have g1:u.heap[w.heap.size+1]?=some (.cells #[KL (st:Nat),KN] 242 (0,0)):=by
  rw [←hW0];have:=JE (w.alloc (.cells #[a0,a1,a2,a3,KL (p.W:Nat),a5,KL (p.mi:Nat),a7,a8,KL (p.ck:Nat),L,R,.slice BA p.buks.length bc,.slice GA p.grps.length gc] 197)) (.cells #[KL (st:Nat),KN] 242);simpa using this
 have X:Below w.heap.size w u:=by rw [←hW0];exact ((br w).alloc (JD _) _).alloc (by simp) _
 have b6:fI u (w.heap.size+1) (w.heap.size+1) st (KN) []:=⟨g1,JO _ _ _ _⟩
 have be:w.heap.size+1+1=u.heap.size:=by rw [←hW0];simp
 have hz:w.heap.size+1<u.heap.size:=by omega
 have kS:=fun o (q:Keep (fun j=>j=w.heap.size+1∨(Value.slice none 0 0).ownBlock=some j) u o)=>(q.block _ (JC g0) (fun e=>e.elim (fun h=>by omega) (fun h=>by cases h))).trans g0
 have ab:Rd u BA (aF p.buks):=bn.below X
 have a6:Rd u GA (aF p.grps):=b9.below X
 have kB:=fun o (q:Keep (fun j=>j=w.heap.size+1∨(Value.slice none 0 0).ownBlock=some j) u o)=>q.rd ab (fun y hy=>by
  have:=aP y hy
  rintro (h | h)
  ·omega
  ·cases h)
 have kG:=fun o (q:Keep (fun j=>j=w.heap.size+1∨(Value.slice none 0 0).ownBlock=some j) u o)=>q.rd a6 (fun y hy=>by
  have:=bs y hy
  rintro (h | h)
  ·omega
  ·cases h)
 have cd:=Z.grps;have aG:=Z.buks;have ci:=Z.mi
 obtain ⟨c9,bV,bN,HS,c6,bl,T,c7⟩:=ak hW0 X b6 kS kB kG be aP
 have tS:=fun o (q:Below u.heap.size u o)=>Fu (kS o (Keep.below q))
 have q0:=br u
 clear hW0 g0 g1 X b6 bn ab b9 a6 kS kB kG be aP bs
 go_enter Tryz.func101,Tryz.ntmps101
 go_wp2_with fail
 rw [c9.out]
 clear tS q0
 go_loopw [22] (fun y wr=>∃k:Nat,k≤p.mi∧y=KL k∧∃v',fI wr (w.heap.size+1) (w.heap.size+1) st v' ((List.range k).map (fun a=>(⟨1,st,a,none⟩:Itm)))∧Apd (w.heap.size+1) u (Value.slice none 0 0) wr v') (fun y _=>p.mi-(intOf y).toNat)
 case atStart=>exact ⟨0,JH _,rfl,_,bN.out,Apd.refl _ _ _⟩
 case round=>
  obtain ⟨k,hk,rfl,v1,l1,A1⟩:=hrel
  by_cases V:k<p.mi
  ·have av:(k:Int)<p.mi:=by omega
   have b8:IntKind.i64.wrap ((k:Int)+1)=((k+1:Nat):Int):=by rw [JI _ (by omega)];push_cast;rfl
   have hc:=lY (w.heap.size+1) (w.heap.size+1) st k 1 1 rfl v1 _ wr l1 (by have:=A1.1.size;have:=T.out;omega) (by simp;omega)
   obtain ⟨Hc,ao⟩:=ae hc A1;clear hc A1 l1
   go_wp2_with fail
   refine Hc.out.mono ?_
   rintro e w5 ⟨rfl,v5,D,Q⟩
   rw [←pP] at D
   obtain ⟨L5,B5⟩:=ae D (ao.out.trans Q);clear D Q
   go_wp2_with fail
   go_roundw
   case rel=>exact ⟨k+1,by omega,by go_num,v5,L5.out,B5.out⟩
   case measure=>simp [intOf];omega
  ·obtain rfl:p.mi=k:=by omega
   have av:¬((p.mi:Int)<p.mi):=by omega
   have tS:=fun o (q:Below wr.heap.size wr o)=>Fu (sb (HS.out wr A1.1) o q)
   have q0:=br wr
   obtain ⟨bO,ao⟩:=ae l1 A1;clear l1 A1
   go_wp2_with fail
   clear tS q0
   go_loopw [33] (fun y wr=>∃k:Nat,k≤p.grps.length∧y=KL k∧∃v',fI wr (w.heap.size+1) (w.heap.size+1) st v' (dg p x st k)∧Apd (w.heap.size+1) u (Value.slice none 0 0) wr v') (fun y _=>p.grps.length-(intOf y).toNat)
   case atStart=>exact ⟨0,JH _,rfl,_,by simpa [dg] using bO.out,ao.out⟩
   case round=>
    obtain ⟨k,hk,rfl,v2,l2,A2⟩:=hrel
    by_cases V:k<p.grps.length
    ·have av:(k:Int)<p.grps.length:=by omega
     have cl:IntKind.i64.wrap ((k:Int)+1)=((k+1:Nat):Int):=by rw [JI _ (by omega)];push_cast;rfl
     obtain ⟨wi,rfl⟩:∃wi:World,wi=wr:=⟨_,rfl⟩
     have ad:=dH V
     obtain ⟨bb,bo,rfl,b1⟩:=bl.out wi A2.1 _ _ ad.1
     obtain ⟨b4,bv,e',U⟩:=bl.out wi A2.1 _ _ ad.2
     obtain ⟨rfl,rfl⟩:b4=bb∧bv=bo:=by simpa using e'.symm
     rw [←Ky] at U
     have a4:=Z.grp V
     have I:=mZ (p:=p) x st V
     have H:=lB Z x st hk
     obtain ⟨lo,i,bA⟩:∃lo i,aO p.grps k=(lo,i):=⟨_,_,rfl⟩
     rw [bA] at a4 b1 U I
     rw [tj] at I
     dsimp only at a4 b1 U
     obtain ⟨W3,Y⟩:∃W3,wi.alloc (.cells #[KL (lo:Nat),KL (i:Nat)] 52)=W3:=⟨_,rfl⟩
     have h3:W3.heap[wi.heap.size]?=some (.cells #[KL (lo:Nat),KL (i:Nat)] 52 (0,0)):=by rw [←Y];exact JE wi _
     have k3:Below wi.heap.size wi W3:=by rw [←Y];exact (br wi).alloc (JD _) _
     have cj:(w.heap.size+1)<wi.heap.size:=by have:=A2.1.size;have:=T.out;omega
     have b3:=l2.below k3
     have b7:=fun o (q:Keep (fun j=>j=(w.heap.size+1)∨v2.ownBlock=some j) W3 o)=>(q.block _ (JC h3) (fun e=>e.elim (fun h=>by omega) (fun h=>an h3 (by decide) b3.2 h.symm))).trans h3
     have b5:(w.heap.size+1)≤W3.heap.size:=by have:=k3.size;omega
     have bw:=A2.trans (Apd.below k3)
     obtain ⟨bX,aR,b2,aM,c8,bi,O⟩:=aj Y b7 b5 bw b3 I H;clear Y h3 k3 b3 b7 b5 bw I H l2 A2 ad e' bA
     go_wp2_with fail
     rw [bX.out]
     clear b1 U
     have bh:(bT p x st (lo,i) (2*(p.W-1))).length≤100800:=by
      have h1:=iY (w:=x) (st:=st) (k:=2*(p.W-1)) (g:=(lo,i)) (M:=120) (p:=p) (fun ph r j=>Z.round x st ph r j)
      have h2:=Z.W8
      have h4:2*(p.W-1)*((i-lo)*120)≤14*(60*120):=Nat.mul_le_mul (by omega) (Nat.mul_le_mul (by omega) (JD _))
      dsimp only at h1
      omega
     have bz:=aa bh;clear bh
     go_loopw [12] (fun y wr=>∃j:Nat,lo≤j∧j≤i∧y=KL j∧∃v3,fI wr (w.heap.size+1) (w.heap.size+1) st v3 (dg p x st k++cR st lo (j-lo) 2)∧Apd (w.heap.size+1) W3 v2 wr v3) (fun y _=>i-(intOf y).toNat)
     case atStart=>exact ⟨lo,JD _,a4.1,rfl,v2,by simpa [cR] using c8.out,Apd.refl _ _ _⟩
     case round=>
      obtain ⟨j,hj,cc,rfl,v3,N,C⟩:=hrel
      have uR:=fun o (q:Below wr.heap.size wr o)=>bx2 (sb (aR.out wr C.1) o q)
      have q1:=br wr
      by_cases bI:j<i
      ·have b0:(j:Int)<i:=by omega
       have b8:IntKind.i64.wrap ((j:Int)+1)=((j+1:Nat):Int):=by rw [JI _ (by omega)];push_cast;rfl
       have e:dg p x st k++cR st lo (j+1-lo) 2=(dg p x st k++cR st lo (j-lo) 2)++[(⟨2,st,j,none⟩:Itm)]:=by rw [show j+1-lo=(j-lo)+1 by omega,kv,show lo+(j-lo)=j by omega];simp only [Kl]
       have A:(dg p x st k++cR st lo (j-lo) 2).length≤8388608:=by
        have:=O.out
        have:=bz.out
        simp only [Kf,iS]
        omega
       have hc:=lY (w.heap.size+1) (w.heap.size+1) st j 2 2 rfl v3 _ wr N (by have:=C.1.size;have:=b2.out;omega) A
       obtain ⟨Hc,J,He⟩:=af hc C e;clear hc C e N A
       go_wp2_with fail
       refine Hc.out.mono ?_
       rintro e w5 ⟨rfl,v5,D,Q⟩
       rw [←He.out] at D
       obtain ⟨L5,B5⟩:=ae D (J.out.trans Q);clear D Q uR q1
       go_wp2_with fail
       go_roundw
       case rel=>exact ⟨j+1,by omega,by omega,by go_num,v5,L5.out,B5.out⟩
       case measure=>simp [intOf];omega
      ·have b0:¬((j:Int)<i):=by omega
       obtain rfl:i=j:=by omega
       have uS:=fun o (q:Below wr.heap.size wr o)=>Fu (sb (HS.out wr (aM.out.trans C).1) o q)
       have bd:=xQ p (w.heap.size+1) (w.heap.size+1) st x lo i a0 a1 a2 a3 a5 (KL (p.mi:Nat)) a7 a8 L R (.slice (some ⟨b4,bv,none⟩) p.grps.length gc) BA bc v3 _ wr Z N (by have:=C.1.size;have:=b2.out;omega) (c6.out wr (aM.out.trans C).1) (fun y hy=>by have:=c7.out y hy;omega) (JD _) hx (by omega) (by
        have:=O.out
        simp only [Kf,iS]
        omega)
       obtain ⟨bG,J⟩:=ae bd C;clear bd C N
       go_wp2_with fail
       refine bG.out.mono ?_
       rintro e w6 ⟨rfl,v6,l6,A6⟩
       have A7:=J.out.trans A6
       have bM:=fun o (q:Below w6.heap.size w6 o)=>bx2 (sb (aR.out w6 A7.1) o q)
       have q6:=br w6
       obtain ⟨L6,cb⟩:=ae l6 A7;clear l6 A7 A6 uR q1 uS
       go_wp2_with fail
       clear bM q6
       go_loopw [13] (fun y wr=>∃j:Nat,lo≤j∧j≤i∧y=KL j∧∃v3,fI wr (w.heap.size+1) (w.heap.size+1) st v3 ((dg p x st k++cR st lo (i-lo) 2++bT p x st (lo,i) (2*(p.W-1)))++cR st lo (j-lo) 5)∧Apd (w.heap.size+1) W3 v2 wr v3) (fun y _=>i-(intOf y).toNat)
       case atStart=>exact ⟨lo,JD _,a4.1,rfl,v6,by simpa [cR] using L6.out,cb.out⟩
       case round=>
        obtain ⟨j,hj,cc,rfl,v3,N,C⟩:=hrel
        have uR:=fun o (q:Below wr.heap.size wr o)=>bx2 (sb (aR.out wr C.1) o q)
        have q1:=br wr
        by_cases bI:j<i
        ·have b0:(j:Int)<i:=by omega
         have b8:IntKind.i64.wrap ((j:Int)+1)=((j+1:Nat):Int):=by rw [JI _ (by omega)];push_cast;rfl
         have e:(dg p x st k++cR st lo (i-lo) 2++bT p x st (lo,i) (2*(p.W-1)))++cR st lo (j+1-lo) 5=((dg p x st k++cR st lo (i-lo) 2++bT p x st (lo,i) (2*(p.W-1)))++cR st lo (j-lo) 5)++[(⟨5,st,j,none⟩:Itm)]:=by rw [show j+1-lo=(j-lo)+1 by omega,kv,show lo+(j-lo)=j by omega];simp only [Kl]
         have A:((dg p x st k++cR st lo (i-lo) 2++bT p x st (lo,i) (2*(p.W-1)))++cR st lo (j-lo) 5).length≤8388608:=by
          have:=O.out
          have:=bz.out
          simp only [Kf,iS]
          omega
         have hc:=lY (w.heap.size+1) (w.heap.size+1) st j 5 5 rfl v3 _ wr N (by have:=C.1.size;have:=b2.out;omega) A
         obtain ⟨Hc,J,He⟩:=af hc C e;clear hc C e N A
         go_wp2_with fail
         refine Hc.out.mono ?_
         rintro e w5 ⟨rfl,v5,D,Q⟩
         rw [←He.out] at D
         obtain ⟨L5,B5⟩:=ae D (J.out.trans Q);clear D Q uR q1
         go_wp2_with fail
         go_roundw
         case rel=>exact ⟨j+1,by omega,by omega,by go_num,v5,L5.out,B5.out⟩
         case measure=>simp [intOf];omega
        ·have b0:¬((j:Int)<i):=by omega
         obtain rfl:i=j:=by omega
         rw [Kl,Kl] at N
         rw [show dg p x st k++(cR st lo (i-lo) 2++(bT p x st (lo,i) (2*(p.W-1))++cR st lo (i-lo) 5))=dg p x st (k+1) by rw [bi.out];simp only [Kl]] at N
         obtain ⟨L9,B9⟩:=ae N (aM.out.trans C);clear N C
         go_wp2_with fail
         go_roundw
         case rel=>exact ⟨k+1,by omega,by go_num,v3,L9.out,B9.out⟩
         case measure=>simp [intOf];omega
    ·have av:¬((k:Int)<p.grps.length):=by omega
     have bf:k=p.grps.length:=by omega
     have H:=lB Z x st hk
     have hc:=lY (w.heap.size+1) (w.heap.size+1) st 0 6 6 rfl v2 _ wr l2 (by have:=A2.1.size;have:=T.out;omega) (by omega)
     have e:dg p x st k++[(⟨6,st,0,none⟩:Itm)]=aD p x st:=by
      unfold dg aD
      rw [bf,Ks]
     rw [e] at hc
     obtain ⟨Hc,bU⟩:=ae hc A2;clear hc A2 l2 e bf H
     go_wp2_with fail
     refine Hc.out.mono ?_
     rintro e w5 ⟨rfl,v5,D,Q⟩
     have aG:=(bU.out.trans Q).1.toBelow (B:=w.heap.size) (by have:=T.out;omega) (by
      rintro j (rfl | hj)
      ·omega
      ·cases hj)
     have xL:=bx2 D.1
     have cf:=JC D.1
     obtain ⟨O5,HB⟩:=ae (ax (base':=w.heap.size) D.2 (by omega)) (bV.out.trans aG);clear D Q aG
     go_wp2_with fail
     go_ret
     exact ⟨_,rfl,O5.out,HB.out⟩
end Go.Proofs.YtaccfnffmbndhaaGreat
