/- No condition. -/
import Derived.Test.YtgmajkppbhiopaaGreatA00
import Derived.Test.YtgmajkppbhiopaaGreatA03
import Derived.Test.YtgmajkppbhiopaaGreatA02
import Derived.Test.YtgmajkppbhiopaaGreatA01
set_option linter.unusedSimpArgs false
set_option linter.unusedVariables false
set_option maxRecDepth 100000
set_option maxHeartbeats 4000000
namespace Go.Proofs.YtgmajkppbhiopaaGreat
open Go.RowKit Go.Shelf
attribute [local go_sem] Oper.semAt_some
theorem kD (s:Rg) (c:Nat):(chR s c).length=bT (s.2-s.1) c:=by rw [chR,iG,cY]
def ks (l:List Rg) (c:Nat):Nat:=(l.map fun s=>(chR s c).length).sum
theorem un (l:List Rg) (x:Rg) (c:Nat):ks (l++[x]) c=ks l c+bT (x.2-x.1) c:=by simp [ks,kD]
theorem ql {b:Rg} {k:Nat} (h:1≤k) (o:b.1≤1048576) (hb:b.2≤1048576):∀r∈cG b k,r.1≤1048576∧r.2≤1048576:=by
 intro r hr
 simp only [cG,shR,eh,List.map_map,List.mem_map,List.mem_range,Function.comp] at hr
 obtain ⟨i,u,rfl⟩:=hr
 have a:=eT (b.2-b.1) k i h (by omega)
 have c:=eT (b.2-b.1) k (i+1) h (by omega)
 exact ⟨by simp only;omega,by simp only;omega⟩
theorem AO {l:List Rg} {c:Nat} (h:∀r∈l,r.2≤1048576):ks l c≤l.length*1048576:=by
 induction l with
 | nil=>simp [ks]
 | cons x l ih=>
  have o:=dR (x.2-x.1) c
  have u:=h x (List.mem_cons_self)
  have i:=ih fun r hr=>h r (List.mem_cons_of_mem _ hr)
  simp only [ks,List.map_cons,List.sum_cons,kD,List.length_cons] at i ⊢
  omega
theorem AN (lo i k c:Nat) (w:World) (h1:1≤k) (h2:k≤1048576) (h3:lo≤1048576) (h4:i≤1048576) (h5:1≤c) (h6:c≤1048576):
  Calls Tryz.prog 152 #[.agg #[FQ lo,FQ i],FQ k,FQ c] w fun e H=>e=.returned (FQ (gS (lo,i) k c:Nat))∧Below w.heap.size w H:=by
 obtain ⟨I,C⟩:∃I,((w.alloc (.cells #[FQ lo,FQ i] 148)).alloc (.cells #[FQ c] 3)).alloc (.cells #[FQ 0] 3)=I:=⟨_,rfl⟩
 have g0:I.heap[w.heap.size]?=some (.cells #[FQ lo,FQ i] 148 (0,0)):=by
  rw [←C,E0 _ _ _ (by simp;omega),E0 _ _ _ (by simp)];exact EN w _
 have g1:I.heap[w.heap.size+1]?=some (.cells #[FQ c] 3 (0,0)):=by
  rw [←C,E0 _ _ _ (by simp)];have:=EN (w.alloc (.cells #[FQ lo,FQ i] 148)) (.cells #[FQ c] 3);simpa using this
 have g2:I.heap[w.heap.size+1+1]?=some (.cells #[FQ 0] 3 (0,0)):=by
  rw [←C];have:=EN ((w.alloc (.cells #[FQ lo,FQ i] 148)).alloc (.cells #[FQ c] 3)) (.cells #[FQ 0] 3);simpa using this
 have a8:Below w.heap.size w I:=by rw [←C];exact (((br w).alloc (EM _) _).alloc (by simp) _).alloc (by simp;omega) _
 have a4:I.heap.size=w.heap.size+1+1+1:=by rw [←C];simp
 have t0:=fun H q=>bx2 (sb g0 H q)
 obtain ⟨ad,R,b4,G1,G2⟩:=ag C a8 a4 g1 g2;clear C g0 g1 g2 a8 a4
 refine (callsIn_wide (n:=3)).1 ?_
 refine callsIn_of_wp_marks Tryz.func152 rfl trivial ?_ rfl
 simp only [Tryz.ntmps152,List.size_toArray,List.length_cons,List.length_nil,Nat.reduceAdd,Nat.reduceSub,Array.replicate_succ,Array.replicate_zero,List.push_toArray,List.append_toArray,List.nil_append,List.cons_append]
 have q0:=br I
 gi_wp2_with fail
 rw [ad.out]
 refine wK (HA.g (fun H:World=>Below I.heap.size I H) ?_)
 refine HA.t ?_ [0,2,4,5] q0.drew ?_
 refine HA.c 1 (iJ lo i _ h3 h4) ?_
 rintro e w1 ⟨rfl,k1⟩
 have q1:=bt q0.drew k1
 refine ⟨_,rfl,q1,fun _=>?_⟩
 refine HA.c 3 (nJ (i-lo) k _ h1 h2 (by omega)) ?_
 rintro e w2 ⟨v2,rfl,o2,k2⟩
 obtain ⟨A,cc,rfl,_⟩:=av o2
 have Z:=bt q1 k2
 have hl:=lp A (eh (i-lo) k) cc lo w2 (Rd.own o2)
 rw [dy] at hl
 refine ⟨_,rfl,Z,fun _=>?_⟩
 refine HA.c 6 hl ?_
 rintro e Q ⟨L,S,B,rfl,hA,O,k3⟩
 have a0:s7 I.heap.size Q.heap.size L S B A:=⟨⟨ES Z.size O.1,EL hA.l⟩,⟨ES Z.size O.2.1,EL hA.s⟩,⟨ES Z.size O.2.2,EL hA.b⟩,fun x hx=>⟨ES q1.size (fd o2 x hx).1,ET (fd o2 x hx).2 k3.size⟩⟩
 have V:=bt Z k3
 refine ⟨_,rfl,V,fun _=>?_⟩
 refine HA.d ?_
 have a3:=fun n=>qC n I.heap.size Q.heap.size L S B A _ cc lo Q hA a0 (by rw [dy];exact h2) h3 (nL h1 (by omega))
 have a1:=R.out.trans (V.mono R.out.size)
 have g1:=sb G1.out Q V
 have g2:=sb G2.out Q V
 have bb:=V.size
 obtain ⟨b1,T,b7,b8⟩:=af a3 a1 g1 g2;clear a3 a1 g1 g2 o2 hl hA O a0 k1 k2 k3 q0 q1 Z V t0 ad G1 G2 R
 simp only [Exit.then,Act.put,Fg,Fh,Fi]
 gi_wp2_with fail
 refine' wpIn_rangeFunc_ownH (F:=Fence.wide) (n:=3) rfl (by omega) (gf:=186) (lb:=#[.pointer (some ⟨L,0,none⟩),.pointer (some ⟨S,0,none⟩)]) rfl trivial (enters_of Tryz.func186 (by kernel_rfl) rfl)
  (b1.out _) Kd.trans (En (EM _)) (br Q) (fun _=>rfl)
  (fun (v:List {r:Rg//r∈shR lo (eh (i-lo) k)}) W=>(Boxed W (w.heap.size+1+1) 3 (FQ (ks (v.map (·.1)) c:Nat))∧W.heap[w.heap.size+1]?=some (.cells #[FQ c] 3 (0,0)))∧Below w.heap.size w W∧Q.heap.size≤W.heap.size)
  (fun _ _ _=>False)
  (OwnFrom.and (OwnFrom.and (Own.from (boxed_own _ _ _) _) (cL _ _ _ rfl)) (OwnFrom.and (ownFrom_below (EM _) T.out.size) (fun _ _ _ _ hs hg _=>ES hs hg.size)))
  (fun _ _ _ _ _ hs _ _=>hs)
  ⟨⟨b8.out,b7.out⟩,T.out,EM _⟩
  (fun x a' W=>∃b,a'={tmps:=#[.agg #[FQ lo,FQ i],FQ k,FQ c,.pointer (some ⟨w.heap.size,0,none⟩),undef,.pointer (some ⟨w.heap.size+1,0,none⟩),FQ 0,.pointer (some ⟨w.heap.size+1+1,0,none⟩),.pointer (some ⟨b,0,none⟩),.agg #[FQ lo,FQ i],FQ (i-lo:Nat),FQ k,.slice A k cc,.pointer (some ⟨w.heap.size,0,none⟩),FQ lo,.func (.func 186) #[] #[.pointer (some ⟨L,0,none⟩),.pointer (some ⟨S,0,none⟩)],.agg #[FQ (x.1.1:Int),FQ (x.1.2:Int)],undef,undef,undef,undef,undef,undef,undef],defers:=[]}∧W.heap[b]?=some (.cells #[FQ (x.1.1:Int),FQ (x.1.2:Int)] 148 (0,0)))
  (fun x a' _ W W' row h hg hr=>by obtain ⟨b,e,hb⟩:=h;exact ⟨b,e,cL _ b _ rfl () W W' row hb hg hr⟩)
  ?assign ?body ?done ?stop
 case assign=>
  rintro l v x W K ⟨⟨hn,hc⟩,u,Y⟩ hK
  unfold pr
  have qa:Below W.heap.size W (W.alloc (.cells #[FQ (x.1.1:Int),FQ (x.1.2:Int)] 148)):=(EP _ W).alloc (EM _) _
  gi_wp2
  exact hK _ _ ((KeepsOthers.of_grownBy (row:=none) (gt qa) (fun _ _ h=>by cases h)).from _) (ns (qa.mono Y)) ⟨⟨hn.alloc _,(E0 _ _ _ (EL hc)).trans hc⟩,u.trans (qa.mono u.size),ES Y qa.size⟩ ⟨_,rfl,EN _ _⟩
 case body=>
  rintro l v x a' W _ _ ⟨⟨hn,hc⟩,u,Y⟩ ⟨b,rfl,hb⟩ a2
  have U:=ql (b:=(lo,i)) h1 h3 h4 x.1 x.2
  have N:=un (v.map (·.1)) x.1 c
  obtain ⟨r,hr⟩:∃r,x.1=r:=⟨_,rfl⟩
  rw [hr] at U hb N ⊢
  have hm:=AO (l:=v.map (·.1)) (c:=c) (by
   intro r' b2
   obtain ⟨y,_,rfl⟩:=List.mem_map.1 b2
   exact (ql (b:=(lo,i)) h1 h3 h4 y.1 y.2).2)
  rw [dy] at a2
  rw [List.length_map] at hm
  have b5:=dR (r.2-r.1) c
  obtain ⟨m,a5⟩:∃m,ks (v.map (·.1)) c=m:=⟨_,rfl⟩
  rw [a5] at hm N hn
  obtain ⟨y,hy⟩:∃y,bT (r.2-r.1) c=y:=⟨_,rfl⟩
  have bd:IntKind.i64.wrap ((m:Int)+(y:Int))=(m:Int)+y:=ER _ (by omega)
  have tn:=fun H q=>bx1 (sb hn H q)
  have tc:=fun H q=>bx1 (sb hc H q)
  have tb:=fun H q=>bx2 (sb hb H q)
  have ln:=sl hn
  have J:=fun H=>lw (r.2-r.1) c H (by omega) h5 h6
  rw [hy] at J N
  obtain ⟨Hn,Hc,b0,Hz,b6,a6⟩:=ah hn hc u Y N J;clear hn hc hb u Y a2 hm a5 N b5 hy J
  have q0:=br W
  gi_wp2_with fail
  refine XA.r 6 (fun H:World=>Below W.heap.size W H) ?_
  refine XA.t ?_ [0,1,3] q0.drew ?_
  refine XA.c 2 (iJ r.1 r.2 _ U.1 U.2) ?_
  rintro e w5 ⟨rfl,k5⟩
  have q5:=bt q0.drew k5
  refine ⟨_,rfl,q5,fun _=>?_⟩
  refine XA.c 4 (a6.out w5) ?_
  rintro e w6 ⟨rfl,rfl⟩
  refine ⟨_,rfl,q5,fun _=>?_⟩
  refine XA.t ?_ [5] q5 ?_
  refine XA.e ?_
  simp only [Fm,Fo]
  go_wp2_with fail
  have hk:Keep (fun j=>j=w.heap.size+1+1) W (w5.setCell ⟨w.heap.size+1+1,0,none⟩ (FQ ((m:Int)+y))):=Keep.setCell (S:=fun j=>j=w.heap.size+1+1) (Keep.below q5) ⟨w.heap.size+1+1,0,none⟩ (.inr rfl) _
  have b9:=FN w5 (w.heap.size+1+1) 0 _ _ (FQ ((m:Int)+y)) (sb Hn.out w5 q5)
  refine ⟨(gP hk fun j o hj ho=>?_).from _,⟨hk.size,fun j j1 j2=>hk.block j (by have:=Hz.out;omega) (by have:=b4.out;omega)⟩,⟨?_,(hk.block _ (EL Hc.out) (by omega)).trans Hc.out⟩,b0.out.trans (hk.toBelow b0.out.size (fun j hj=>by omega)),ES Hz.out hk.size⟩
  ·subst hj
   have:=ho.symm.trans Hn.out
   cases this;rfl
  ·rw [List.map_append,List.map_cons,List.map_nil,hr,b6.out,Int.natCast_add]
   unfold Boxed
   simpa using b9
 case done=>
  rintro D ys W hD a7 ⟨⟨hn,hc⟩,u,Y⟩ hK
  have b3:=hn.cell
  gi_wp2
  refine ⟨by simp,.inl ⟨_,_,rfl,run_takeDeferred hK,?_⟩⟩
  rw [a7] at b3
  refine ⟨FQ (ks (shR lo (eh (i-lo) k)) c:Nat),by simp [results,Tryz.results152,go_sem,a7],rfl,u.trans (belowK_b (w:=w) (EM _) W D _ _ (by have:=T.out.size;omega) hK rfl rfl)⟩
 case stop=>
  rintro D c v W _ _ h _
  exact h.elim
end Go.Proofs.YtgmajkppbhiopaaGreat
namespace Go.Proofs.YtgmajkppbhiopaaGreat
open Go.RowKit
theorem wS (n:Int) (W:Nat) (h:1≤W):n%(W:Int)=if n.tmod W<0 then n.tmod W+W else n.tmod W:=by
 rw [Int.tmod_eq_emod]
 have o:=Int.emod_nonneg n (show (W:Int)≠0 by omega)
 have u:=Int.emod_lt_of_pos n (show (0:Int)<W by omega)
 have i:((W:Int).natAbs:Int)=W:=by simp
 split<;>split<;>omega
theorem CA (n:Int) (W:Nat) (h:1≤W): -(W:Int)<n.tmod W∧n.tmod W<W:=by
 rw [Int.tmod_eq_emod]
 have v:=Int.emod_nonneg n (show (W:Int)≠0 by omega)
 have u:=Int.emod_lt_of_pos n (show (0:Int)<W by omega)
 have i:((W:Int).natAbs:Int)=W:=by simp
 split
 ·omega
 ·rename_i o
  have:n%(W:Int)≠0:=fun e=>o (.inr (Int.dvd_of_emod_eq_zero e))
  omega
theorem j5 (st bk lo x W c:Nat) (n:Int) (w:World) (i:1≤W) (y:W≤1048576) (hn: -(W:Int)≤n) (v:n≤2*W):
  Calls Tryz.prog 196 #[.agg #[FQ (st:Nat),FQ (bk:Nat),FQ (lo:Nat),FQ (x:Nat),FQ (W:Nat),FQ (c:Nat)],FQ n] w fun e o=>e=.returned (FQ (n%(W:Int)))∧Below w.heap.size w o:=by
 have A:¬((W:Int)=0):=by omega
 have hm:=CA n W i
 have he:=wS n W i
 obtain ⟨r,hr⟩:∃r,n.tmod (W:Int)=r:=⟨_,rfl⟩
 rw [hr] at hm he
 by_cases h:r<0
 ·rw [if_pos h] at he
  rw [he]
  have u:=aa he;clear he
  go_enter Tryz.func196,Tryz.ntmps196
  go_wp2_with fail
  go_ret
  exact ⟨rfl,(br w).alloc (EM _) _⟩
 ·rw [if_neg h] at he
  rw [he]
  have u:=aa he;clear he
  go_enter Tryz.func196,Tryz.ntmps196
  go_wp2_with fail
  go_ret
  exact ⟨rfl,(br w).alloc (EM _) _⟩
theorem lR (st bk lo u W c x r:Nat) (w:World) (B:1≤W) (A:W≤1048576) (C:x<W) (hr:r<W):
  Calls Tryz.prog 194 #[.agg #[FQ (st:Nat),FQ (bk:Nat),FQ (lo:Nat),FQ (u:Nat),FQ (W:Nat),FQ (c:Nat)],FQ x,FQ r] w fun e h=>e=.returned (FQ (((x:Int)-r)%(W:Int)))∧Below w.heap.size w h:=by
 have o:=fun h=>j5 st bk lo u W c ((x:Int)-r) h B A (by omega) (by omega)
 have y:=aa o;clear o
 go_enter Tryz.func194,Tryz.ntmps194
 go_wp2_with fail
 refine (y.out _).mono ?_
 rintro e v ⟨rfl,i⟩
 have hB:Below w.heap.size w v:=((br w).alloc (EM _) _).trans (i.mono (by simp))
 clear i
 go_wp2_with fail
 go_ret
 exact ⟨rfl,hB⟩
theorem nC (st bk lo u W c x r:Nat) (w:World) (B:1≤W) (A:W≤1048576) (C:x<W) (hr:r<W):
  Calls Tryz.prog 195 #[.agg #[FQ (st:Nat),FQ (bk:Nat),FQ (lo:Nat),FQ (u:Nat),FQ (W:Nat),FQ (c:Nat)],FQ x,FQ r] w fun e h=>e=.returned (FQ (((x:Int)+1-r)%(W:Int)))∧Below w.heap.size w h:=by
 have o:=fun h=>j5 st bk lo u W c ((x:Int)+1-r) h B A (by omega) (by omega)
 have y:=aa o;clear o
 go_enter Tryz.func195,Tryz.ntmps195
 go_wp2_with fail
 refine (y.out _).mono ?_
 rintro e v ⟨rfl,i⟩
 have hB:Below w.heap.size w v:=((br w).alloc (EM _) _).trans (i.mono (by simp))
 clear i
 go_wp2_with fail
 go_ret
 exact ⟨rfl,hB⟩
theorem tF {W x ph r:Nat} (hr:r<W) (n:Int) (hn:n=(x:Int)+ph-r):n%(W:Int)=((cU W x ph r:Nat):Int):=by
 unfold cU
 rw [Int.natCast_emod,show ((x+(2*W+ph-r):Nat):Int)=n+2*W by omega,Int.add_mul_emod_self_right]
theorem pd {W x ph r:Nat} (hr:r+1≤W) (n:Int) (hn:n=((x:Int)-1)%(W:Int)+ph-r):n%(W:Int)=((dV W x ph r:Nat):Int):=by
 unfold dV
 rw [Int.natCast_emod,show ((x+(2*W+ph-r-1):Nat):Int)=((x:Int)-1+ph-r)+2*W by omega,Int.add_mul_emod_self_right,hn,Int.add_sub_assoc,Int.emod_add_emod,Int.add_sub_assoc]
end Go.Proofs.YtgmajkppbhiopaaGreat
namespace Go.Proofs.YtgmajkppbhiopaaGreat
open Go.RowKit
theorem Bi (w:World) (f g:Fn):(Instr.index 309 (.agg #[.func f #[] #[],.func g #[] #[]]) (FQ 0)).run Tryz.prog w=.ok (.func f #[] #[]) w:=by
 simp [Instr.index,run_underlying Tryz.underlying309,asIntOf,go_sem]
theorem Db (w:World) (f g:Fn):(Instr.index 309 (.agg #[.func f #[] #[],.func g #[] #[]]) (FQ 1)).run Tryz.prog w=.ok (.func g #[] #[]) w:=by
 simp [Instr.index,run_underlying Tryz.underlying309,asIntOf,go_sem]
attribute [local go_sem] Bi Db
theorem zF (st bk lo A W c x ph r:Nat) (w:World) (C:1≤W) (B:W≤1048576) (D:x<W) (H:ph<2) (hr:r+1<W):
  Calls Tryz.prog 188 #[.agg #[FQ (st:Nat),FQ (bk:Nat),FQ (lo:Nat),FQ (A:Nat),FQ (W:Nat),FQ (c:Nat)],FQ x,FQ ph,FQ r,.bool true] w fun e u=>e=.returned (.tuple #[FQ (cU W x ph r:Nat),.bool true])∧Below w.heap.size w u:=by
 have g1:(x:Int)<W:=by omega
 have I:(r:Int)<(W:Int)-1:=by omega
 have i:=tF (W:=W) (x:=x) (ph:=ph) (r:=r) (by omega) _ rfl
 obtain rfl | rfl:ph=0∨ph=1:=by omega
 ·have h:=fun u=>lR st bk lo A W c x r u C B D (by omega)
  rw [show ((x:Int)+(0:Nat)-r)=(x:Int)-r by omega] at i
  rw [i] at h
  have y:=aa h;clear h i
  go_enter Tryz.func188,Tryz.ntmps188
  go_wp2_with fail
  refine (y.out _).mono ?_
  rintro e v ⟨rfl,o⟩
  have hB:Below w.heap.size w v:=((br w).alloc (EM _) _).trans (o.mono (by simp))
  clear o
  go_wp2_with fail
  go_ret2
  exact ⟨rfl,hB⟩
 ·have h:=fun u=>nC st bk lo A W c x r u C B D (by omega)
  rw [show ((x:Int)+(1:Nat)-r)=(x:Int)+1-r by omega] at i
  rw [i] at h
  have y:=aa h;clear h i
  go_enter Tryz.func188,Tryz.ntmps188
  go_wp2_with fail
  refine (y.out _).mono ?_
  rintro e v ⟨rfl,o⟩
  have hB:Below w.heap.size w v:=((br w).alloc (EM _) _).trans (o.mono (by simp))
  clear o
  go_wp2_with fail
  go_ret2
  exact ⟨rfl,hB⟩
theorem zG (st bk lo I W c x ph r:Nat) (w:World) (V:1≤W) (U:W≤1048576) (hx:x<W) (hp:ph<2) (hr:r+1<W):
  Calls Tryz.prog 188 #[.agg #[FQ (st:Nat),FQ (bk:Nat),FQ (lo:Nat),FQ (I:Nat),FQ (W:Nat),FQ (c:Nat)],FQ x,FQ ph,FQ r,.bool false] w fun e i=>e=.returned (.tuple #[FQ (dV W x ph r:Nat),.bool true])∧Below w.heap.size w i:=by
 have g1:(x:Int)<W:=by omega
 have g2:(r:Int)<(W:Int)-1:=by omega
 obtain ⟨o,v⟩:∃o,w.alloc (.cells #[FQ (st:Nat),FQ (bk:Nat),FQ (lo:Nat),FQ (I:Nat),FQ (W:Nat),FQ (c:Nat)] 296)=o:=⟨_,rfl⟩
 have Z:o.heap[w.heap.size]?=some (.cells #[FQ (st:Nat),FQ (bk:Nat),FQ (lo:Nat),FQ (I:Nat),FQ (W:Nat),FQ (c:Nat)] 296 (0,0)):=by rw [←v];exact EN w _
 have Q:Below w.heap.size w o:=by rw [←v];exact (br w).alloc (EM _) _
 have t0:=fun i q=>bx6 (sb Z i q)
 have C:=fun i=>j5 st bk lo I W c ((x:Int)-1) i V U (by omega) (by omega)
 have a0:IntKind.i64.wrap ((x:Int)-1)=(x:Int)-1:=ER _ (by omega)
 obtain ⟨y,Y⟩:∃y:Nat,(y:Int)=((x:Int)-1)%(W:Int):=⟨(((x:Int)-1)%(W:Int)).toNat,Int.toNat_of_nonneg (Int.emod_nonneg _ (by omega))⟩
 have L:y<W:=by have:=Int.emod_lt_of_pos ((x:Int)-1) (show (0:Int)<W by omega);omega
 rw [←Y] at C
 obtain ⟨N,u,O⟩:=ae v Q C;clear v Z Q C
 obtain rfl | rfl:ph=0∨ph=1:=by omega
 ·have R:=pd (W:=W) (x:=x) (ph:=0) (r:=r) (by omega) ((y:Int)-r) (by rw [Y];omega)
  have h:=fun i=>lR st bk lo I W c y r i V U L (by omega)
  rw [R] at h
  have H:=aa h;clear h R
  go_enter Tryz.func188,Tryz.ntmps188
  have B:=br o
  go_wp2_with fail
  rw [N.out]
  refine HA.g (fun i:World=>Below o.heap.size o i) ?_
  refine HA.t ?_ [0,1,2,3,4,6] B.drew ?_
  refine HA.c 5 (O.out _) ?_
  rintro e w1 ⟨rfl,J⟩
  have D:=bt B.drew J
  refine ⟨_,rfl,D,fun _=>?_⟩
  refine HA.c 7 (H.out _) ?_
  rintro e w2 ⟨rfl,T⟩
  have A:=bt D T
  refine ⟨_,rfl,A,fun _=>?_⟩
  refine HA.t ?_ [8,9] A ?_
  refine HA.d ?_
  have hB:=u.out.trans (A.mono u.out.size)
  clear J T B D A t0
  go_wp2_with fail
  go_ret2
  exact ⟨rfl,hB⟩
 ·have R:=pd (W:=W) (x:=x) (ph:=1) (r:=r) (by omega) ((y:Int)+1-r) (by rw [Y];omega)
  have h:=fun i=>nC st bk lo I W c y r i V U L (by omega)
  rw [R] at h
  have H:=aa h;clear h R
  go_enter Tryz.func188,Tryz.ntmps188
  have B:=br o
  go_wp2_with fail
  rw [N.out]
  refine HA.g (fun i:World=>Below o.heap.size o i) ?_
  refine HA.t ?_ [0,1,2,3,4,6] B.drew ?_
  refine HA.c 5 (O.out _) ?_
  rintro e w1 ⟨rfl,J⟩
  have D:=bt B.drew J
  refine ⟨_,rfl,D,fun _=>?_⟩
  refine HA.c 7 (H.out _) ?_
  rintro e w2 ⟨rfl,T⟩
  have A:=bt D T
  refine ⟨_,rfl,A,fun _=>?_⟩
  refine HA.t ?_ [8,9] A ?_
  refine HA.d ?_
  have hB:=u.out.trans (A.mono u.out.size)
  clear J T B D A t0
  go_wp2_with fail
  go_ret2
  exact ⟨rfl,hB⟩
end Go.Proofs.YtgmajkppbhiopaaGreat
namespace Go.Proofs.YtgmajkppbhiopaaGreat
open Go.RowKit
theorem XA.v {P:Program} {ops:Array Oper} {Q:Exit→Act→World→Prop} {S:World→Prop} {n:Nat} {L:List Nat} {a:Act} {w:World} {o:Oper} (i:Nat) (h:World) (v:Value) (x:S h) (k:XA P ops Q S n (i::L) (a.put o.dst v) h) (u:ops[i]?=some o:=by (simp only [Fj,Fk,Fl];rfl))
  (hr:bW ops L=[i]:=by decide +kernel) (hw:Region.wanted o (yielded ops a.tmps)=true:=by rfl) (he:(execOp a.eval o).run P w=.ok (.value v) h:=by go_simp):XA P ops Q S n L a w:=by
 refine XA.one i u hr fun A y=>?_
 rw [if_pos hw]
 unfold Oper.wp
 rw [he]
 exact y.out _ _ x fun _=>k
def aE (a:Acn):List Value:=[.bool a.send,.bool a.add,FQ (a.st:Nat),FQ (a.bk:Nat),FQ (a.ph:Nat),FQ (a.rd:Nat),FQ (a.ch:Nat),FQ (a.at'.1:Nat),FQ (a.at'.2:Nat)]
def cR (l:List Acn):List Value:=l.flatMap aE
theorem kM (l:List Acn) (a:Acn):cR (l++[a])=cR l++aE a:=by simp [cR]
theorem wg:cH Tryz.prog 297 150 (.agg FV) 9 64:=⟨Tryz.underlying297,info_parts (by kernel_rfl),rfl,by decide⟩
theorem yO (snd:Bool) (i:Nat) (A:Option Addr) (n c J v h N:Nat) (w:World) (x:n≤i):
  Calls Tryz.prog 191 #[.bool snd,FQ i,.slice A n c,.pointer (some ⟨J,0,none⟩),.pointer (some ⟨v,0,none⟩),.pointer (some ⟨h,0,none⟩),.pointer (some ⟨N,0,none⟩)] w fun e o=>e=.returned (.tuple #[])∧o=w:=by
 have u:¬((i:Int)<n):=by omega
 go_enter Tryz.func191,Tryz.ntmps191
 go_wp2_with fail
 go_end0
 exact ⟨rfl,rfl⟩
theorem Cr (snd:Bool) (i:Nat) (A:Option Addr) (rs:List Rg) (n c J Pb Rb N base:Nat) (st bk lo hi W cc ph r:Nat) (x:Rg) (v:Value) (l:List Acn) (m:Nat) (w:World)
  (hJ:w.heap[J]?=some (.cells #[FQ (st:Nat),FQ (bk:Nat),FQ (lo:Nat),FQ (hi:Nat),FQ (W:Nat),FQ (cc:Nat)] 296 (0,0)))
  (hP:w.heap[Pb]?=some (.cells #[FQ (ph:Nat)] 3 (0,0))) (hR:w.heap[Rb]?=some (.cells #[FQ (r:Nat)] 3 (0,0)))
  (hN:w.heap[N]?=some (.cells #[v] 297 (0,0))) (ho:w.ownsRow base 150 9 v m (cR l)) (hb:base≤w.heap.size)
  (hA:Rd w A (az rs)) (hn:rs.length=n) (hx:rs[i]?=some x) (hm:m≤8388608) (b0:n≤1048576) (a3:∀y,A=some y→y.block<base):
  Calls Tryz.prog 191 #[.bool snd,FQ i,.slice A n c,.pointer (some ⟨J,0,none⟩),.pointer (some ⟨Pb,0,none⟩),.pointer (some ⟨Rb,0,none⟩),.pointer (some ⟨N,0,none⟩)] w fun e B=>e=.returned (.tuple #[])∧
   ∃v',B.heap[N]?=some (.cells #[v'] 297 (0,0))∧B.ownsRow base 150 9 v' (m+1) (cR (l++[⟨snd, !snd&&ph==0,st,bk,ph,r,i,x⟩]))∧Keep (fun j=>j=N∨v.ownBlock=some j) w B:=by
 have ad:i<n:=by rw [←hn];exact (Fq.1 hx).1
 have a8:(i:Int)<n:=by omega
 have Y:=ju hx
 obtain ⟨g,o,rfl,c0⟩:=hA _ _ Y.1
 obtain ⟨g',o',e',c1⟩:=hA _ _ Y.2
 obtain ⟨rfl,rfl⟩:g'=g∧o'=o:=by simpa using e'.symm
 rw [←FH] at c1
 obtain ⟨h,V⟩:∃h,w.alloc (.cells #[FQ (st:Nat),FQ (bk:Nat),FQ (ph:Nat),FQ (r:Nat),FQ (i:Nat)] 77)=h:=⟨_,rfl⟩
 have h0:h.heap[w.heap.size]?=some (.cells #[FQ (st:Nat),FQ (bk:Nat),FQ (ph:Nat),FQ (r:Nat),FQ (i:Nat)] 77 (0,0)):=by rw [←V];exact EN w _
 have H:Below w.heap.size w h:=by rw [←V];exact (br w).alloc (EM _) _
 have xJ:=bx6 hJ
 have xP:=bx1 hP
 have xR:=bx1 hR
 have T:=aq ho H
 have nt:=fun b cs t' sg (a6:h.heap[b]?=some (.cells cs t' sg)) (a5:t'≠150) (e:v.ownBlock=some b)=>an a6 a5 T e.symm
 have R:=sb hP _ H
 have Q:=sb hN _ H
 have kP:=fun B (q:Keep (fun j=>v.ownBlock=some j) h B)=>(q.block _ (EL R) (nt _ _ _ _ R (by decide))).trans R
 have kN:=fun B (q:Keep (fun j=>v.ownBlock=some j) h B)=>(q.block _ (EL Q) (nt _ _ _ _ Q (by decide))).trans Q
 have tP:=fun B q=>bx1 (kP B q)
 have tN:=fun B q=>bx1 (kN B q)
 have t0:=fun B (q:Keep (fun j=>v.ownBlock=some j) h B)=>bx5 ((q.block _ (EL h0) (nt _ _ _ _ h0 (by decide))).trans h0)
 have a0:¬v.ownBlock=some g':=fun e=>by
  have h1:=(T.lt g' e).1
  have h2:=a3 _ rfl
  simp only at h2
  omega
 have d0:=fun B (q:Keep (fun j=>v.ownBlock=some j) h B)=>q.cell (am H c0) a0
 have d1:=fun B (q:Keep (fun j=>v.ownBlock=some j) h B)=>q.cell (am H c1) a0
 obtain ⟨HN,HO,U,a7⟩:=af kN T H V;clear hJ hP hR hN ho H V Y hA e' hx hn h0 R Q kP kN T nt a0 c0 c1 a3
 go_enter Tryz.func191,Tryz.ntmps191
 have q0:Keep (fun j=>v.ownBlock=some j) h h.drew:=(Keep.refl _ _).drew
 go_wp2_with fail
 rw [a7.out]
 have a2:((ph:Int)==0)=(ph==0):=by rw [Bool.eq_iff_iff];simp
 cases snd
 ·refine XA.g 16 (fun B:World=>Keep (fun j=>v.ownBlock=some j) h B) ?_
  refine XA.t ?_ [0,1,2,3,4,5,6,7,8,9,10,11,12,13] q0 ?_
  obtain ⟨a,ha⟩:∃a:Acn,a=⟨false,(!false&&ph==0),st,bk,ph,r,i,x⟩:=⟨_,rfl⟩
  refine XA.v 14 (h.drew.alloc (.cells (aE a).toArray 150)) (.slice (some ⟨h.heap.size,0,none⟩) 1 1) (q0.alloc _) ?_ rfl (by decide +kernel) rfl (by subst ha;go_simp;simp [aE,a2];try rfl)
  refine XA.o 15 (fun K' hK=>?_) rfl (by decide +kernel)
  have hO:=(HO.out.drew).alloc (.cells (aE a).toArray 150)
  have a4:=U.out.size
  refine bS wg (.tmp 23) (.tmp 37) rfl rfl base v m _ rfl hO (some ⟨h.heap.size,0,none⟩) 1 1 (aE a) rfl (fun k u hu=>⟨_,_,rfl,by rw [FI,EO _ h.heap.size k (aE a).toArray 150 (0,0) (EN h.drew _)];simpa using hu⟩) rfl (by simp [aE,Value.oneCell']) (by omega) (by unfold maxLen;omega) (by simp;omega) ?_
  intro Z c5 I C a1 O _
  have L:Keep (fun j=>v.ownBlock=some j) h I:=(q0.alloc _).grown O (fun k hk=>.inr hk)
  refine hK.out _ _ L fun _=>?_
  refine XA.e ?_
  simp only [Fm,Fo]
  have D:=HN.out I L
  have e3:=FN I N 0 _ _ (.slice Z (m+1) c5) D
  have k1:Keep (fun j=>j=N) I (I.setCell ⟨N,0,none⟩ (.slice Z (m+1) c5)):=Keep.setCell (S:=fun j=>j=N) (Keep.refl _ _) ⟨N,0,none⟩ (.inr rfl) _
  have o6:=k1.own C (fun j hj e=>an D (by decide) C (by rw [hj,e]))
  have k6:Keep (fun j=>j=N∨v.ownBlock=some j) w (I.setCell ⟨N,0,none⟩ (.slice Z (m+1) c5)):=Keep.setCell (S:=fun j=>j=N∨v.ownBlock=some j) ((Keep.below U.out).trans (L.mono fun k _ hk=>.inr hk)) ⟨N,0,none⟩ (.inr (.inl rfl)) _
  obtain ⟨E3,O6,K6,HA⟩:=af e3 o6 k6 ha
  have xN:=tN I L
  clear C a1 O D e3 k1 o6 k6 tN tP t0 d0 d1 hK K' ha L hO
  go_wp2_with fail
  go_end0
  refine ⟨rfl,_,by simpa using E3.out,?_,K6.out⟩
  rw [kM,←HA.out]
  exact O6.out
 ·refine XA.g 16 (fun B:World=>Keep (fun j=>v.ownBlock=some j) h B) ?_
  refine XA.t ?_ [0,1,2,3,4,5,6,7,8,9,10,11,12,13] q0 ?_
  obtain ⟨a,ha⟩:∃a:Acn,a=⟨true,(!true&&ph==0),st,bk,ph,r,i,x⟩:=⟨_,rfl⟩
  refine XA.v 14 (h.drew.alloc (.cells (aE a).toArray 150)) (.slice (some ⟨h.heap.size,0,none⟩) 1 1) (q0.alloc _) ?_ rfl (by decide +kernel) rfl (by subst ha;go_simp;simp [aE,a2];try rfl)
  refine XA.o 15 (fun K' hK=>?_) rfl (by decide +kernel)
  have hO:=(HO.out.drew).alloc (.cells (aE a).toArray 150)
  have a4:=U.out.size
  refine bS wg (.tmp 23) (.tmp 37) rfl rfl base v m _ rfl hO (some ⟨h.heap.size,0,none⟩) 1 1 (aE a) rfl (fun k u hu=>⟨_,_,rfl,by rw [FI,EO _ h.heap.size k (aE a).toArray 150 (0,0) (EN h.drew _)];simpa using hu⟩) rfl (by simp [aE,Value.oneCell']) (by omega) (by unfold maxLen;omega) (by simp;omega) ?_
  intro Z c5 I C a1 O _
  have L:Keep (fun j=>v.ownBlock=some j) h I:=(q0.alloc _).grown O (fun k hk=>.inr hk)
  refine hK.out _ _ L fun _=>?_
  refine XA.e ?_
  simp only [Fm,Fo]
  have D:=HN.out I L
  have e3:=FN I N 0 _ _ (.slice Z (m+1) c5) D
  have k1:Keep (fun j=>j=N) I (I.setCell ⟨N,0,none⟩ (.slice Z (m+1) c5)):=Keep.setCell (S:=fun j=>j=N) (Keep.refl _ _) ⟨N,0,none⟩ (.inr rfl) _
  have o6:=k1.own C (fun j hj e=>an D (by decide) C (by rw [hj,e]))
  have k6:Keep (fun j=>j=N∨v.ownBlock=some j) w (I.setCell ⟨N,0,none⟩ (.slice Z (m+1) c5)):=Keep.setCell (S:=fun j=>j=N∨v.ownBlock=some j) ((Keep.below U.out).trans (L.mono fun k _ hk=>.inr hk)) ⟨N,0,none⟩ (.inr (.inl rfl)) _
  obtain ⟨E3,O6,K6,HA⟩:=af e3 o6 k6 ha
  have xN:=tN I L
  clear C a1 O D e3 k1 o6 k6 tN tP t0 d0 d1 hK K' ha L hO
  go_wp2_with fail
  go_end0
  refine ⟨rfl,_,by simpa using E3.out,?_,K6.out⟩
  rw [kM,←HA.out]
  exact O6.out
def fC (snd:Bool) (i:Nat) (rs:List Rg) (st bk ph r:Nat) (l:List Acn):List Acn:=if i<rs.length then l++[⟨snd, !snd&&ph==0,st,bk,ph,r,i,ay rs i⟩] else l
theorem qb (snd:Bool) (i:Nat) (A:Option Addr) (rs:List Rg) (c J B x N base:Nat) (st bk lo Q W O ph r:Nat) (v:Value) (l:List Acn) (w:World)
  (Y:w.heap[J]?=some (.cells #[FQ (st:Nat),FQ (bk:Nat),FQ (lo:Nat),FQ (Q:Nat),FQ (W:Nat),FQ (O:Nat)] 296 (0,0)))
  (hP:w.heap[B]?=some (.cells #[FQ (ph:Nat)] 3 (0,0))) (hR:w.heap[x]?=some (.cells #[FQ (r:Nat)] 3 (0,0)))
  (R:w.heap[N]?=some (.cells #[v] 297 (0,0))) (H:w.ownsRow base 150 9 v l.length (cR l)) (hb:base≤w.heap.size) (C:base≤N)
  (U:Rd w A (az rs)) (hm:l.length≤8388608) (I:rs.length≤1048576) (D:∀y,A=some y→y.block<base):
  Calls Tryz.prog 191 #[.bool snd,FQ i,.slice A rs.length c,.pointer (some ⟨J,0,none⟩),.pointer (some ⟨B,0,none⟩),.pointer (some ⟨x,0,none⟩),.pointer (some ⟨N,0,none⟩)] w fun e o=>e=.returned (.tuple #[])∧
   ∃u,o.heap[N]?=some (.cells #[u] 297 (0,0))∧o.ownsRow base 150 9 u (fC snd i rs st bk ph r l).length (cR (fC snd i rs st bk ph r l))∧Below base w o:=by
 by_cases h:i<rs.length
 ·refine (Cr snd i A rs rs.length c J B x N base st bk lo Q W O ph r (ay rs i) v l l.length w Y hP hR R H hb U rfl (by rw [bq rs i h];simp [h]) hm I D).mono ?_
  rintro e o ⟨rfl,u,n1,V,T⟩
  have L:fC snd i rs st bk ph r l=l++[⟨snd, !snd&&ph==0,st,bk,ph,r,i,ay rs i⟩]:=if_pos h
  refine ⟨rfl,u,n1,?_,T.toBelow hb ?_⟩
  ·rw [L,Fp];exact V
  ·rintro j (rfl | Z)
   ·exact C
   ·exact (H.lt j Z).1
 ·refine (yO snd i A rs.length c J B x N w (by omega)).mono ?_
  rintro e o ⟨rfl,rfl⟩
  have L:fC snd i rs st bk ph r l=l:=if_neg h
  exact ⟨rfl,v,R,by rw [L];exact H,EP _ _⟩
theorem DY:cH Tryz.prog 93 110 .nilIface 1 16:=⟨Tryz.underlying93,info_parts (by kernel_rfl),rfl,by decide⟩
theorem D0:cH Tryz.prog 94 100 (.pointer none) 1 8:=⟨Tryz.underlying94,info_parts (by kernel_rfl),rfl,by decide⟩
theorem vG:dt Tryz.prog 29 15:=⟨⟨_,Tryz.underlying29,rfl⟩,by kernel_rfl⟩
theorem Au {w:World} {v I s1 s2 C J:Nat} {o u:TypeId} {v1 v2:Value} {xs B:List Value} (D:w.ownsRow v o s1 v1 C xs) (A:w.ownsRow I u s2 v2 J B) (h:o≠u) (j:Nat) (e:v1.ownBlock=some j) (f:v2.ownBlock=some j):False:=by
 rcases D.2 with ⟨i,_⟩ | ⟨x,_,_,i,_,H,_⟩
 ·rw [i] at e;cases e
 ·rw [i] at e
  have y:x=j:=by simpa [Value.ownBlock] using e
  subst y
  exact an H h A f.symm
structure Ct (X cap:Nat) (rb rb':Nat→Prop) (l1:Nat) (w1 w':World):Prop where
 hk:Keep (fun j=>j=X∨rb j) w1 w'
 hty:∀j c,(j=X∨rb j)→w1.heap[j]?≠some (.cells c 2 (0,0))
 hrb:∀j,rb' j→rb j∨(w1.heap.size≤j∧j≠l1)
 hrl:∀j,rb' j→j<w'.heap.size
 hl:w1.heap.size≤l1∧l1<w'.heap.size
 hb:w'.heap[l1]?=some (.cells #[FR,FQ (cap:Nat),FQ 0,FQ 0,FQ 0] 182 (0,0))
def rk (a b:Value) (j:Nat):Prop:=a.ownBlock=some j∨b.ownBlock=some j
structure wC (J:Nat→List Nat→List Nat→(Nat→Prop)→World→Prop) (W1:World) (X k:Nat) (w:World) (bs ls:List Nat) (AW AL:Option Addr) (cw cl:Nat):Prop where
 j:J X bs ls (rk (.slice AW k cw) (.slice AL k cl)) w
 hb:bs.length=k
 hl:ls.length=k
 box:w.heap[X]?=some (.cells #[.slice AW k cw,.slice AL k cl,FQ 0] 96 (0,0))
 oW:w.ownsRow (X+1) 110 1 (.slice AW k cw) k (bs.map fun b=>.iface 97 (.pointer (some ⟨b,0,none⟩)))
 oL:w.ownsRow (X+1) 100 1 (.slice AL k cl) k (ls.map fun b=>.pointer (some ⟨b,0,none⟩))
 lo:W1.heap.size≤X
 q:Below W1.heap.size W1 w
theorem zt {J:Nat→List Nat→List Nat→(Nat→Prop)→World→Prop} {i0 i1 i2 i3 i5 i6 i7 i8 i9 I L H D:Value} {N cap:Nat} {w W1:World} (b0:w.alloc (.cells #[i0,i1,i2,i3,FQ (N:Nat),i5,i6,i7,i8,i9,I,FQ (cap:Nat),L,H,D] 29)=W1) (hN:N≤1000) (bM:1≤cap∧cap≤1048576)
  (bl:∀h,Below W1.heap.size W1 h→Calls Tryz.prog 43 #[.agg #[i0,i1,i2,i3,FQ (N:Nat),i5,i6,i7,i8,i9,I,FQ (cap:Nat),L,H,D]] h fun e b2=>e=.returned (FQ 0)∧Below h.heap.size h b2)
  (hl:∀h:World,Calls Tryz.prog 45 #[FQ (cap:Nat)] h fun e b2=>e=.returned (.pointer (some ⟨h.heap.size,0,none⟩))∧b2=h.alloc (.cells #[FR,FQ (cap:Nat),FQ 0,FQ 0,FQ 0] 182))
  (h0:∀X h,W1.heap.size≤X→X<h.heap.size→Below W1.heap.size W1 h→J X [] [] (fun _=>False) h)
  (hm:∀X k bs O rb h,k<N→W1.heap.size≤X→X<h.heap.size→Below W1.heap.size W1 h→bs.length=k→O.length=k→J X bs O rb h→Calls Tryz.prog 44 #[.agg #[i0,i1,i2,i3,FQ (N:Nat),i5,i6,i7,i8,i9,I,FQ (cap:Nat),L,H,D],FQ (k:Nat)] h fun e B=>
   ∃b,e=.returned (.tuple #[.pointer (some ⟨b,0,none⟩),FQ 0])∧Below h.heap.size h B∧∀l1 bi w2,Ct X cap rb bi l1 B w2→J X (bs++[b]) (O++[l1]) bi w2):
  Calls Tryz.prog 13 #[.agg #[i0,i1,i2,i3,FQ (N:Nat),i5,i6,i7,i8,i9,I,FQ (cap:Nat),L,H,D]] w fun e h=>
   ∃X bs O AW A cw C,e=.returned (.tuple #[.pointer (some ⟨X,0,none⟩),FQ 0])∧wC J W1 X N h bs O AW A cw C:=by
 have g0:W1.heap[w.heap.size]?=some (.cells #[i0,i1,i2,i3,FQ (N:Nat),i5,i6,i7,i8,i9,I,FQ (cap:Nat),L,H,D] 29 (0,0)):=by rw [←b0];exact EN w _
 have t4:∀h,Below W1.heap.size W1 h→h.cell? ⟨w.heap.size,4,none⟩=some (FQ (N:Nat)):=fun h q=>EO h w.heap.size 4 _ _ _ (sb g0 h q)
 have a7:∀h,Below W1.heap.size W1 h→h.cell? ⟨w.heap.size,11,none⟩=some (FQ (cap:Nat)):=fun h q=>EO h w.heap.size 11 _ _ _ (sb g0 h q)
 have tl:=sl g0
 have bN:w.heap.size<W1.heap.size:=EL g0
 obtain ⟨bI,Hl,Hm,H0,bh,G0⟩:=ah bl hl hm h0 b0 g0
 have q1:=br W1
 clear bl hl hm h0 b0 g0
 go_enter Tryz.func13,Tryz.ntmps13
 go_wp2_with (refine cE #[i0,i1,i2,i3,FQ (N:Nat),i5,i6,i7,i8,i9,I,FQ (cap:Nat),L,H,D] (b:=w.heap.size) (by rw [bh.out];exact G0.out) vG rfl rfl rfl rfl ?_)
 rw [bh.out]
 refine (bI.out _ q1).mono ?_
 rintro e w2 ⟨rfl,k2⟩
 have q2:=bt q1 k2
 clear k2
 go_wp2_with fail
 obtain ⟨X,hX⟩:∃X,w2.heap.size=X:=⟨_,rfl⟩
 obtain ⟨W3,a3⟩:∃W3,w2.alloc (.cells #[FR,FR,FQ 0] 96)=W3:=⟨_,rfl⟩
 have g3:W3.heap[X]?=some (.cells #[FR,FR,FQ 0] 96 (0,0)):=by rw [←a3,←hX];exact EN w2 _
 have q3:Below W1.heap.size W1 W3:=by rw [←a3];exact q2.alloc q2.size _
 have gX:W1.heap.size≤X:=by rw [←hX];exact q2.size
 have m3:wC J W1 X 0 W3 [] [] none none 0 0:=⟨(by
  have hrb:rk (FR) (FR)=fun _=>False:=by funext j;simp [rk,Value.ownBlock]
  rw [hrb];exact H0.out X W3 gX (EL g3) q3),rfl,rfl,g3,EZ ..,EZ ..,gX,q3⟩
 rw [hX,a3]
 have M3:=aa m3;clear m3 g3 a3 hX q2 q1
 go_loopw [19] (fun v wr=>∃k:Nat,k≤N∧v=FQ k∧∃bs O AW A cw C,wC J W1 X k wr bs O AW A cw C) (fun v _=>N-(intOf v).toNat)
 case atStart=>exact ⟨0,EQ _,rfl,[],[],none,none,0,0,M3.out⟩
 case round=>
  obtain ⟨k,hk,rfl,bs,O,AW,A,cw,C,m⟩:=hrel
  have b5:=EL m.box
  have bX:=m.q.size
  have tb:=bx3 m.box
  have x:=aa m;clear m
  by_cases bv:k<N
  ·have cj:(k:Int)<N:=by omega
   have c1:=Hm.out X k bs O _ wr bv x.out.lo b5 x.out.q x.out.hb x.out.hl x.out.j
   have C1:=aa c1;have q0:=x.out.q;clear c1
   go_wp2_with (refine cE #[i0,i1,i2,i3,FQ (N:Nat),i5,i6,i7,i8,i9,I,FQ (cap:Nat),L,H,D] (b:=w.heap.size) (sb G0.out _ q0) vG rfl rfl rfl rfl ?_)
   refine C1.out.mono ?_
   rintro e B ⟨b,rfl,k1,hJ⟩
   have HJ:=aa hJ
   have q1:=bt q0 k1
   have b1:=sb x.out.box B k1
   have oW:=aq x.out.oW k1
   have oL:=aq x.out.oL k1
   have cf:=k1.size
   have bG:=bx3 b1
   obtain ⟨B1,OW,OL,Q1,K1⟩:=ag b1 oW oL q1 k1;clear hJ b1 oW oL q1 k1 tb q0
   go_wp2_with (at_builtin;refine dE DY _ rfl (.tmp 32) (.tmp 35) rfl (X+1) (.slice AW k cw) k _ rfl (OW.out.alloc _) (some ⟨B.heap.size,0,none⟩) 1 1 [.iface 97 (.pointer (some ⟨b,0,none⟩))] rfl (fk B _ _ B.heap.size rfl) (by simp) (by simp [Value.oneCell']) (by omega) (by unfold maxLen;omega) (by simp;omega) ?_)
   intro A2 c2 w3 o3 b3 g3 n3
   have kA:Below B.heap.size B (B.alloc (.cells #[.iface 97 (.pointer (some ⟨b,0,none⟩))] 110)):=(br B).alloc (EM _) _
   have a2:w3.heap[X]?=_:=(b3.block X (by omega)).trans (sb B1.out _ kA)
   have kW:Keep (fun j=>(Value.slice AW k cw).ownBlock=some j) B w3:=((Keep.refl _ B).alloc _).grown g3 (fun k hk=>.inr hk)
   have b7:=kW.own OL.out (fun j u h2=>Au OL.out OW.out (by decide) j u h2)
   have bz:=bx3 a2
   have bO:=kW.size
   have cn:=EL a2
   obtain ⟨bo,b9,bb,O3,N3,HK⟩:=ah a2 kW b7 o3 n3 hk;clear kA a2 kW b7 o3 n3 b3 g3 bG b5
   go_wp2_with fail
   obtain ⟨i,a0⟩:∃i,w3.setCell ⟨X,0,none⟩ (.slice A2 (k+1) c2)=i:=⟨_,rfl⟩
   have kX:Keep (fun j=>j=X) w3 i:=by rw [←a0];exact Keep.setCell (S:=fun j=>j=X) (Keep.refl _ _) _ (.inr rfl) _
   have V:i.heap[X]?=some (.cells #[.slice A2 (k+1) c2,.slice A k C,FQ 0] 96 (0,0)):=by rw [←a0];exact ss bo.out
   have bA:=fun (v:Value) (e:TypeId) (xs:List Value) (o:i.ownsRow (X+1) e 1 v xs.length xs)=>o
   have o4:=kX.own O3.out (fun j u h2=>by have:=(O3.out.lt j u).1;omega)
   have a4:=kX.own bb.out (fun j u h2=>by have:=(bb.out.lt j u).1;omega)
   rw [a0]
   have cd:=kX.size
   have bd:=EL V
   have tX:=fun h (q:Keep (fun j=>(Value.slice A k C).ownBlock=some j) i h)=>bx3 ((q.block X bd (fun e=>by have:=(a4.lt X e).1;omega)).trans V)
   have b8:∀h,Keep (fun j=>(Value.slice A k C).ownBlock=some j) i h→h.cell? ⟨w.heap.size,11,none⟩=some (FQ (cap:Nat)):=fun h q=>by
    have hW:i.cell? ⟨w.heap.size,11,none⟩=some (FQ (cap:Nat)):=a7 i (Q1.out.trans ((b9.out.toBelow Q1.out.size (fun j e=>by have:=(OW.out.lt j e).1;have:=x.out.lo;omega)).trans (kX.toBelow (by have:=Q1.out.size;omega) (fun j e=>by have:=x.out.lo;omega))))
    exact (World.cell?_of_block (q.block w.heap.size (by omega) (fun e=>by have:=(a4.lt _ e).1;have:=x.out.lo;omega))).trans hW
   have q4:Keep (fun j=>(Value.slice A k C).ownBlock=some j) i i.drew:=(Keep.refl _ _).drew
   obtain ⟨b4,O4,bw,KX⟩:=af a4 o4 V kX;clear bz a0 V kX o4 a4 bA t4 a7
   refine XA.g 11 (fun h:World=>Keep (fun j=>(Value.slice A k C).ownBlock=some j) i h) ?_
   refine XA.t ?_ [0,1,2,3,4,5,6,7] q4 ?_
   refine XA.c 8 (Hl.out _) ?_
   rintro _ U ⟨rfl,h5⟩
   obtain ⟨y,Z⟩:∃y,i.drew.heap.size=y:=⟨_,rfl⟩
   rw [Z]
   have g5:U.heap[y]?=some (.cells #[FR,FQ (cap:Nat),FQ 0,FQ 0,FQ 0] 182 (0,0)):=by rw [h5,←Z];exact EN i.drew _
   have k5:Below i.heap.size i U:=by rw [h5];exact (br i).drew.alloc (EM _) _
   have q5:Keep (fun j=>(Value.slice A k C).ownBlock=some j) i U:=by rw [h5];exact q4.alloc _
   have cb:U.heap.size=y+1:=by rw [h5,←Z];simp
   have bV:y=i.heap.size:=by rw [←Z];rfl
   clear h5 q4
   refine ⟨_,rfl,q5,fun _=>?_⟩
   refine XA.v 9 (U.alloc (.cells #[.pointer (some ⟨y,0,none⟩)] 100)) (.slice (some ⟨U.heap.size,0,none⟩) 1 1) (q5.alloc _) ?_
   refine XA.o 10 (fun K' hK=>?_)
   have hO:=(aq b4.out k5).alloc (.cells #[.pointer (some ⟨y,0,none⟩)] 100)
   refine bS D0 (.tmp 43) (.tmp 48) rfl rfl (X+1) (.slice A k C) k _ rfl hO (some ⟨U.heap.size,0,none⟩) 1 1 [.pointer (some ⟨y,0,none⟩)] rfl (fk U _ _ U.heap.size rfl) (by simp) (by simp [Value.oneCell']) (by omega) (by unfold maxLen;omega) (by simp;omega) ?_
   intro A6 c6 Y o6 b6 g6 n6
   have a6:Keep (fun j=>(Value.slice A k C).ownBlock=some j) U Y:=((Keep.refl _ U).alloc (.cells #[.pointer (some ⟨y,0,none⟩)] 100)).grown g6 (fun k hk=>.inr hk)
   have q6:=(q5.alloc (.cells #[.pointer (some ⟨y,0,none⟩)] 100)).grown g6 (fun k hk=>.inr hk)
   refine hK.out _ _ q6 fun _=>?_
   refine XA.e ?_
   simp only [Fm,Fo]
   have a1:Y.heap[X]?=_:=(q6.block X bd (fun e=>by have:=(b4.out.lt X e).1;omega)).trans bw.out
   have cc:=bx3 a1
   have c8:=EL a1
   have a5:∀j,(Value.slice A k C).ownBlock=some j→j<B.heap.size:=fun j e=>(OL.out.lt j e).2
   have a8:Y.heap[y]?=_:=(a6.block y (by omega) (fun e=>by have:=a5 y e;omega)).trans g5
   have k7:Keep (fun j=>j=X) Y (Y.setCell ⟨X,1,none⟩ (.slice A6 (k+1) c6)):=Keep.setCell (S:=fun j=>j=X) (Keep.refl _ _) _ (.inr rfl) _
   have h7:(Y.setCell ⟨X,1,none⟩ (.slice A6 (k+1) c6)).heap[X]?=some (.cells #[.slice A2 (k+1) c2,.slice A6 (k+1) c6,FQ 0] 96 (0,0)):=ss a1
   have ci:=k7.size
   have c7:=a6.size
   have bn:=EL a8
   have Q:Keep (fun j=>j=X∨rk (.slice AW k cw) (.slice A k C) j) B (Y.setCell ⟨X,1,none⟩ (.slice A6 (k+1) c6)):=(((b9.out.mono fun k _ e=>.inr (.inl e)).trans (KX.out.mono fun k _ e=>.inl e)).trans (q6.mono fun k _ e=>.inr (.inr e))).trans (k7.mono fun k _ e=>.inl e)
   have R:Ct X cap (rk (.slice AW k cw) (.slice A k C)) (rk (.slice A2 (k+1) c2) (.slice A6 (k+1) c6)) y B (Y.setCell ⟨X,1,none⟩ (.slice A6 (k+1) c6)):=by
    refine ⟨Q,?_,?_,?_,⟨by omega,by omega⟩,(k7.block y bn (fun e=>by omega)).trans a8⟩
    ·rintro j c (rfl | e | e) hj
     ·rw [B1.out] at hj;simp at hj
     ·exact an hj (by decide) OW.out e.symm
     ·exact an hj (by decide) OL.out e.symm
    ·rintro j (e | e)
     ·have:=(O3.out.lt j e).2
      rcases N3.out with u | u
      ·rw [u] at e;exact .inl (.inl e)
      ·rw [u] at e;simp at e;exact .inr ⟨by omega,by omega⟩
     ·rcases n6 with u | u
      ·rw [u] at e;exact .inl (.inr e)
      ·rw [u] at e;simp at e;exact .inr ⟨by omega,by omega⟩
    ·rintro j (e | e)
     ·have:=(O4.out.lt j e).2;have:=q6.size;omega
     ·have:=(o6.lt j e).2;omega
   have T:wC J W1 X (k+1) (Y.setCell ⟨X,1,none⟩ (.slice A6 (k+1) c6)) (bs++[b]) (O++[y]) A2 A6 c2 c6:=by
    refine ⟨HJ.out _ _ _ R,by simp [x.out.hb],by simp [x.out.hl],h7,?_,?_,x.out.lo,Q1.out.trans (Q.toBelow Q1.out.size (fun j e=>?_))⟩
    ·have:=k7.own (q6.own O4.out (fun j u h2=>Au b4.out O4.out (by decide) j h2 u)) (fun j u h2=>by have:=(O4.out.lt j u).1;omega)
     rw [List.map_append];exact this
    ·have:=k7.own o6 (fun j u h2=>by have:=(o6.lt j u).1;omega)
     rw [List.map_append];exact this
    ·have c9:=x.out.lo
     rcases e with e | e | e
     ·omega
     ·have:=(OW.out.lt j e).1;omega
     ·have:=(OL.out.lt j e).1;omega
   have ad:=aa T;clear T R Q k7 h7 a8 a1 q6 a6 n6 g6 b6 o6 hO q5 k5 g5 tX b8 hK K' a5
   go_wp2_with fail
   go_roundw
   case rel=>exact ⟨k+1,by omega,by go_num,_,_,_,_,_,_,ad.out⟩
   case measure=>simp [intOf];omega
  ·obtain rfl:k=N:=by omega
   clear tb t4 a7
   go_wp2_with fail
   go_ret2
   exact ⟨X,bs,O,AW,A,cw,C,rfl,x.out⟩
def Ext (u v:World):Prop:=∀k,k<u.heap.size→u.heap[k]?=some (.cells #[] 0 (0,0))∨v.heap[k]?=u.heap[k]?
theorem Ext.refl (u:World):Ext u u:=fun _ _=>.inr rfl
theorem By {u v:World} {a:Addr} {x:Value} (h:u.cell? a=some x) (o:Ext u v):v.cell? a=some x:=by
 rcases o _ (au h) with i | i
 ·rw [World.cell?] at h
  simp only [i] at h
  simp at h
 ·exact (World.cell?_of_block (w:=u) i).trans h
theorem nI {u v:World} {b:Nat} {x:Value} {xs:List Value} {t:TypeId} {o:Nat×Nat} (h:u.heap[b]?=some (.cells (x::xs).toArray t o)) (y:Ext u v):v.heap[b]?=some (.cells (x::xs).toArray t o):=by
 rcases y _ (EL h) with i | i
 ·rw [i] at h;simp at h
 ·rw [i];exact h
theorem aJ {u v:World} {A:Option Addr} {xs:List Value} (h:Rd u A xs) (i:Ext u v):Rd v A xs:=fun k x y=>by
 obtain ⟨b,o,e,hc⟩:=h k x y
 exact ⟨b,o,e,By hc i⟩
def Ew {α:Type} (R:dO α):Prop:=∀{u v:World} {cs:List Value} {x:α},R u cs x→Ext u v→R v cs x
theorem gu {α:Type} {R:dO α} {size:Nat} {u v:World} {A:Option Addr} {l:List α} (B:Ew R) (h:cZ R size u A l) (i:Ext u v):cZ R size v A l:=by
 obtain ⟨rows,C,o,D,y⟩:=h
 exact ⟨rows,aJ C i,o,D,fun j x H=>B (y j x H) i⟩
noncomputable def aQ (S:Nat→Prop) (w:World):World:=by
 classical exact {w with heap:=w.heap.mapIdx fun k o=>if S k then .cells #[] 0 (0,0) else o}
theorem lr (S:Nat→Prop) (w:World):(aQ S w).heap.size=w.heap.size:=by simp [aQ]
theorem ix {S:Nat→Prop} {w:World} {k:Nat} (h:¬S k):(aQ S w).heap[k]?=w.heap[k]?:=by
 simp only [aQ,Array.getElem?_mapIdx]
 simp [h]
theorem qE {S:Nat→Prop} {w:World} {k:Nat} (h:S k) (hk:k<w.heap.size):(aQ S w).heap[k]?=some (.cells #[] 0 (0,0)):=by
 simp only [aQ,Array.getElem?_mapIdx]
 simp [h,hk]
theorem dM (S:Nat→Prop) (w:World):Ext (aQ S w) w:=fun k hk=>by
 rw [lr] at hk
 by_cases h:S k
 ·exact .inl (qE h hk)
 ·exact .inr (ix h).symm
theorem dL {S S':Nat→Prop} {w i:World} (hk:Keep S w i) (o:∀k,k<w.heap.size→S' k→S k):Ext (aQ S w) (aQ S' i):=fun k hl=>by
 rw [lr] at hl
 by_cases h:S k
 ·exact .inl (qE h hl)
 ·exact .inr (by rw [ix h,ix (fun e=>h (o k hl e)),hk.block k hl h])
theorem Bv {B:Nat} {S:Nat→Prop} {u w:World} (hb:∀k,B≤k→k<u.heap.size→w.heap[k]?=u.heap[k]?) (i:∀k,B≤k→k<u.heap.size→¬S k):Ext (dX B u) (aQ S w):=fun k hl=>by
 rw [fW] at hl
 rcases Fa k B with h | h
 ·exact .inl (kc h hl)
 ·exact .inr (by rw [ix (i k h hl),hb k h hl,fh h])
theorem mq {S:Nat→Prop} {w:World} {A:Option Addr} {xs:List Value} (h:Rd w A xs) (i:∀y,A=some y→¬S y.block):Rd (aQ S w) A xs:=fun k x u=>by
 obtain ⟨b,o,e,hc⟩:=h k x u
 have hl:=au hc
 exact ⟨b,o,e,(World.cell?_of_block (w:=w) (a:=⟨b,o+k,none⟩) (ix (show ¬S b from i _ e))).trans hc⟩
def gi (x y:List Rg) (f g:Nat→Rg→Acn) (k:Nat):List Acn:=
 (List.range k).flatMap fun i=>(if i<x.length then [f i (ay x i)] else [])++(if i<y.length then [g i (ay y i)] else [])
theorem m9 (x y:List Rg) (f g:Nat→Rg→Acn) (k:Nat):gi x y f g (k+1)=gi x y f g k++((if k<x.length then [f k (ay x k)] else [])++(if k<y.length then [g k (ay y k)] else [])):=by
 simp [gi,FF,List.flatMap_append]
theorem rE (x y:List Rg) (f g:Nat→Rg→Acn) (k:Nat):(gi x y f g k).length≤2*k:=by
 induction k with
 | zero=>simp [gi]
 | succ k ih=>
  rw [m9,Fp,Fp]
  split<;>split<;>simp<;>omega
theorem jx (X Y:List Rg) (st bk ph r m:Nat):fC false m Y st bk ph r (fC true m X st bk ph r (gi X Y (fun i s=>(⟨true,false,st,bk,ph,r,i,s⟩:Acn)) (fun i s=>(⟨false,ph==0,st,bk,ph,r,i,s⟩:Acn)) m))=gi X Y (fun i s=>(⟨true,false,st,bk,ph,r,i,s⟩:Acn)) (fun i s=>(⟨false,ph==0,st,bk,ph,r,i,s⟩:Acn)) (m+1):=by
 rw [m9]
 by_cases h:m<X.length<;>by_cases o:m<Y.length<;>simp [fC,h,o]
theorem xn (st bk lo o W c x ph r:Nat) (w:World) (h1:1≤W) (h2:W≤1048576) (hx:x<W) (hp:ph<2) (hr:r+1<W) (h3:lo≤1048576) (h4:o≤1048576) (h5:1≤c) (h6:c≤1048576):
  Calls Tryz.prog 179 #[.agg #[FQ (st:Nat),FQ (bk:Nat),FQ (lo:Nat),FQ (o:Nat),FQ (W:Nat),FQ (c:Nat)],FQ x,FQ ph,FQ r] w fun e h=>∃v,e=.returned v∧h.ownsRow w.heap.size 150 9 v (bH st bk (lo,o) W c x ph r).length (cR (bH st bk (lo,o) W c x ph r))∧Below w.heap.size w h:=by
 obtain ⟨I,u⟩:∃I,((w.alloc (.cells #[FQ (st:Nat),FQ (bk:Nat),FQ (lo:Nat),FQ (o:Nat),FQ (W:Nat),FQ (c:Nat)] 296)).alloc (.cells #[FQ ph] 3)).alloc (.cells #[FQ r] 3)=I:=⟨_,rfl⟩
 have g0:I.heap[w.heap.size]?=some (.cells #[FQ (st:Nat),FQ (bk:Nat),FQ (lo:Nat),FQ (o:Nat),FQ (W:Nat),FQ (c:Nat)] 296 (0,0)):=by
  rw [←u,E0 _ _ _ (by simp;omega),E0 _ _ _ (by simp)];exact EN w _
 have g1:I.heap[w.heap.size+1]?=some (.cells #[FQ ph] 3 (0,0)):=by
  rw [←u,E0 _ _ _ (by simp)];have:=EN (w.alloc (.cells #[FQ (st:Nat),FQ (bk:Nat),FQ (lo:Nat),FQ (o:Nat),FQ (W:Nat),FQ (c:Nat)] 296)) (.cells #[FQ ph] 3);simpa using this
 have g2:I.heap[w.heap.size+1+1]?=some (.cells #[FQ r] 3 (0,0)):=by
  rw [←u];have:=EN ((w.alloc (.cells #[FQ (st:Nat),FQ (bk:Nat),FQ (lo:Nat),FQ (o:Nat),FQ (W:Nat),FQ (c:Nat)] 296)).alloc (.cells #[FQ ph] 3)) (.cells #[FQ r] 3);simpa using this
 have a5:Below w.heap.size w I:=by rw [←u];exact (((br w).alloc (EM _) _).alloc (by simp) _).alloc (by simp;omega) _
 have a4:I.heap.size=w.heap.size+1+1+1:=by rw [←u];simp
 have t0:=fun h q=>bx6 (sb g0 h q)
 have t1:=fun h q=>bx1 (sb g1 h q)
 have t2:=fun h q=>bx1 (sb g2 h q)
 obtain ⟨bd,V,bv,G0,G1,G2⟩:=ah u a5 a4 g0 g1 g2;clear u g0 g1 g2 a5 a4
 go_enter Tryz.func179,Tryz.ntmps179
 have q0:=br I
 go_wp2_with fail
 rw [bd.out]
 refine (zF st bk lo o W c x ph r I h1 h2 hx hp hr).mono ?_
 rintro e w1 ⟨rfl,k1⟩
 have q1:=bt q0 k1
 go_wp2_with fail
 refine (zG st bk lo o W c x ph r w1 h1 h2 hx hp hr).mono ?_
 rintro e w2 ⟨rfl,k2⟩
 have q2:=bt q1 k2
 go_wp2_with fail
 refine (zC lo o W w2 h1 h2 h3 h4).mono ?_
 rintro e A ⟨v3,rfl,o3,k3⟩
 have q3:=bt q2 k3
 have a0:cU W x ph r<W:=Nat.mod_lt _ h1
 have Q:dV W x ph r<W:=Nat.mod_lt _ h1
 obtain ⟨so,B⟩:∃so,cU W x ph r=so:=⟨_,rfl⟩
 obtain ⟨si,C⟩:∃si,dV W x ph r=si:=⟨_,rfl⟩
 rw [B] at a0 ⊢
 rw [C] at Q ⊢
 obtain ⟨g,c3,b7,b2,bb⟩:=o3.form (by omega)
 subst b7
 have a1:=ql (b:=(lo,o)) h1 h3 h4
 obtain ⟨L,H⟩:∃L,ay (cG (lo,o) W) so=L:=⟨_,rfl⟩
 obtain ⟨J,D⟩:∃J,ay (cG (lo,o) W) si=J:=⟨_,rfl⟩
 have Z:=a1 L (by rw [←H,bq _ _ (by rw [kg];exact a0)];exact List.getElem_mem _)
 have R:=a1 J (by rw [←D,bq _ _ (by rw [kg];exact Q)];exact List.getElem_mem _)
 have po:=fj o3 a0
 have pi:=fj o3 Q
 rw [H] at po
 rw [D] at pi
 have a2:=br A
 have b5:=fun h (q:Below A.heap.size A h)=>am q po.1
 have b6:=fun h (q:Below A.heap.size A h)=>am q po.2
 have b1:=fun h (q:Below A.heap.size A h)=>am q pi.1
 have bh:=fun h (q:Below A.heap.size A h)=>am q pi.2
 have u0:=fun h (q:Below A.heap.size A h)=>t0 h (bt q3 q)
 have bl:(so:Int)<W:=by omega
 have bn:(si:Int)<W:=by omega
 have HR:Hid (bH st bk (lo,o) W c x ph r=fA (chR L c) (chR J c) (fun i s=>⟨true,false,st,bk,ph,r,i,s⟩) (fun i s=>⟨false,ph==0,st,bk,ph,r,i,s⟩)):=Lib.hid (by unfold bH;rw [B,C,H,D])
 have T:=aa q3;clear t0 b2 bb a1 H D B C po pi q0 q1 q2 q3 k1 k2 k3 o3
 go_wp2_with fail
 refine HA.g (fun h:World=>Below A.heap.size A h) ?_
 refine HA.t ?_ [0,1,2,3,4,5,7,8,9,10,11,12] a2.drew ?_
 refine HA.c 6 (sQ L.1 L.2 c _ h5 h6 Z.1 Z.2) ?_
 rintro e w4 ⟨v4,rfl,o4,k4⟩
 have q4:=bt a2.drew k4
 refine ⟨_,rfl,q4,fun _=>?_⟩
 refine HA.c 13 (sQ J.1 J.2 c _ h5 h6 R.1 R.2) ?_
 rintro e N ⟨v5,rfl,o5,k5⟩
 have q5:=bt q4 k5
 refine ⟨_,rfl,q5,fun _=>?_⟩
 refine HA.t ?_ [14,15] q5 ?_
 refine HA.d ?_
 obtain ⟨A4,c4,rfl,_⟩:=av o4
 obtain ⟨A5,c5,rfl,_⟩:=av o5
 obtain ⟨X,hX⟩:∃X,chR L c=X:=⟨_,rfl⟩
 obtain ⟨Y,hY⟩:∃Y,chR J c=Y:=⟨_,rfl⟩
 have bA:X.length≤1048576:=by rw [←hX,kD];have:=dR (L.2-L.1) c;omega
 have bs:Y.length≤1048576:=by rw [←hY,kD];have:=dR (J.2-J.1) c;omega
 rw [hX] at o4 HR ⊢
 rw [hY] at o5 HR ⊢
 simp only [Exit.then]
 obtain ⟨O,O4,O5,B4,B5⟩:=ag ((T.out).trans (q5.mono T.out.size)) (aq o4 k5) o5 (fd (aq o4 k5)) (fd o5);clear o4 o5 k4 k5 q4 q5 a2 b5 b6 b1 bh u0 t1 t2 T hX hY Z R
 obtain ⟨M,hM⟩:∃M:Nat,max X.length Y.length=M:=⟨_,rfl⟩
 have bG:(if X.length<Y.length then (Y.length:Int) else (X.length:Int))=(M:Int):=by rw [←hM];split<;>omega
 have b4:=aa hM;clear hM
 go_wp2_with fail
 go_loopw [62] (fun x wr=>∃m:Nat,m≤M∧x=FQ m∧∃v,wr.heap[N.heap.size]?=some (.cells #[v] 297 (0,0))∧wr.ownsRow N.heap.size 150 9 v (gi X Y (fun i s=>(⟨true,false,st,bk,ph,r,i,s⟩:Acn)) (fun i s=>(⟨false,ph==0,st,bk,ph,r,i,s⟩:Acn)) m).length (cR (gi X Y (fun i s=>(⟨true,false,st,bk,ph,r,i,s⟩:Acn)) (fun i s=>(⟨false,ph==0,st,bk,ph,r,i,s⟩:Acn)) m))∧Below N.heap.size N wr) (fun x _=>M-(intOf x).toNat)
 case atStart=>exact ⟨0,EQ _,rfl,_,EN _ _,EZ _ _ _ _,(br N).alloc (EM _) _⟩
 case round=>
  obtain ⟨m,hm,rfl,v,n0,o0,q⟩:=hrel
  by_cases bz:m<M
  ·have b8:(m:Int)<M:=by omega
   have bw:IntKind.i64.wrap ((m:Int)+1)=((m+1:Nat):Int):=by rw [ER _ (by omega)];push_cast;rfl
   have a3:=rE X Y (fun i s=>(⟨true,false,st,bk,ph,r,i,s⟩:Acn)) (fun i s=>(⟨false,ph==0,st,bk,ph,r,i,s⟩:Acn)) m
   have a7:=(Rd.own O4.out).below q
   have ad:=fun y e=>(B4.out y e).2
   have c1:=qb true m A4 X c4 w.heap.size (w.heap.size+1) (w.heap.size+1+1) N.heap.size N.heap.size st bk lo o W c ph r v _ wr (sb G0.out wr (bt O.out q)) (sb G1.out wr (bt O.out q)) (sb G2.out wr (bt O.out q)) n0 o0 q.size (EM _) a7 (by omega) (by omega) ad
   obtain ⟨C1,HQ,b9⟩:=ae c1 q a3;clear c1 a7 ad n0 o0 q a3
   go_wp2_with fail
   refine C1.out.mono ?_
   rintro e w6 ⟨rfl,v6,n6,o6,k6⟩
   have U:=HQ.out.trans k6
   have b0:(fC true m X st bk ph r (gi X Y (fun i s=>(⟨true,false,st,bk,ph,r,i,s⟩:Acn)) (fun i s=>(⟨false,ph==0,st,bk,ph,r,i,s⟩:Acn)) m)).length≤2*m+1:=by have:=b9.out;unfold fC;split<;>simp<;>omega
   have a6:=(Rd.own O5.out).below U
   have a8:=fun y e=>(B5.out y e).2
   have c2:=qb false m A5 Y c5 w.heap.size (w.heap.size+1) (w.heap.size+1+1) N.heap.size N.heap.size st bk lo o W c ph r v6 _ w6 (sb G0.out w6 (bt O.out U)) (sb G1.out w6 (bt O.out U)) (sb G2.out w6 (bt O.out U)) n6 o6 U.size (EM _) a6 (by omega) (by omega) a8
   obtain ⟨C2,b3⟩:=ab c2 U;clear c2 a6 a8 n6 o6 U k6 b0
   go_wp2_with fail
   refine C2.out.mono ?_
   rintro e w7 ⟨rfl,v7,n7,o7,k7⟩
   have q7:=b3.out.trans k7
   rw [jx] at o7
   obtain ⟨N7,O7,Q7⟩:=ae n7 o7 q7;clear n7 o7 q7 k7
   go_wp2_with fail
   go_roundw
   case rel=>exact ⟨m+1,by omega,by go_num,v7,N7.out,O7.out,Q7.out⟩
   case measure=>simp [intOf];omega
  ·obtain rfl:M=m:=by omega
   have b8:¬((M:Int)<M):=by omega
   have tn:=fun h q=>bx1 (sb n0 h q)
   obtain ⟨O0,HQ,HN⟩:=ae o0 q n0
   have q0:=br wr
   clear o0 q n0
   go_wp2_with fail
   go_ret
   refine ⟨_,rfl,?_,?_⟩
   ·rw [HR.out]
    have:=O0.out
    rw [←b4.out] at this
    exact aA this (ES V.out.size O.out.size)
   ·exact V.out.trans ((bt O.out HQ.out).mono V.out.size)
def Cq:Option Acn→List Value
 | none=>[.bool false,.bool false,FQ 0,FQ 0,FQ 0,FQ 0,FQ 0,FQ 0,FQ 0]
 | some a=>aE a
def aS (x:Itm):List Value:=FQ (x.kind:Nat)::FQ (x.st:Nat)::FQ (x.n:Nat)::Cq x.a
def bJ (l:List Itm):List Value:=l.flatMap aS
theorem dJ (l:List Itm) (a:Itm):bJ (l++[a])=bJ l++aS a:=by simp [bJ]
theorem BD:cH Tryz.prog 176 152 (.agg FU) 12 88:=⟨Tryz.underlying176,info_parts (by kernel_rfl),rfl,by decide⟩
theorem C7 (L base kd st n m:Nat) (I D:Bool) (O V H Q R N U:Int) (v:Value) (xs:List Value) (w:World)
  (hL:w.heap[L]?=some (.cells #[FQ (st:Nat),v] 276 (0,0))) (ho:w.ownsRow base 152 12 v m xs) (hb:base≤w.heap.size) (hm:m≤8388608):
  Calls Tryz.prog 160 #[.pointer (some ⟨L,0,none⟩),FQ (kd:Nat),FQ (n:Nat),.agg #[.bool I,.bool D,FQ O,FQ V,FQ H,FQ Q,FQ R,FQ N,FQ U]] w fun e x=>e=.returned (.tuple #[])∧
   ∃v',x.heap[L]?=some (.cells #[FQ (st:Nat),v'] 276 (0,0))∧x.ownsRow base 152 12 v' (m+1) (xs++[FQ (kd:Nat),FQ (st:Nat),FQ (n:Nat),.bool I,.bool D,FQ O,FQ V,FQ H,FQ Q,FQ R,FQ N,FQ U])∧Keep (fun j=>j=L∨v.ownBlock=some j) w x∧(v'.ownBlock=v.ownBlock∨∀k,v'.ownBlock=some k→w.heap.size≤k):=by
 obtain ⟨i,y⟩:∃i,w.alloc (.cells #[.bool I,.bool D,FQ O,FQ V,FQ H,FQ Q,FQ R,FQ N,FQ U] 150)=i:=⟨_,rfl⟩
 have h0:i.heap[w.heap.size]?=some (.cells #[.bool I,.bool D,FQ O,FQ V,FQ H,FQ Q,FQ R,FQ N,FQ U] 150 (0,0)):=by rw [←y];exact EN w _
 have A:Below w.heap.size w i:=by rw [←y];exact (br w).alloc (EM _) _
 have Y:=aq ho A
 have nt:=fun b cs t' sg (a6:i.heap[b]?=some (.cells cs t' sg)) (a3:t'≠152) (e:v.ownBlock=some b)=>an a6 a3 Y e.symm
 have B:=sb hL _ A
 have kL:=fun x (q:Keep (fun j=>v.ownBlock=some j) i x)=>(q.block _ (EL B) (nt _ _ _ _ B (by decide))).trans B
 have tL:=fun x q=>bx2 (kL x q)
 have t0:=fun x (q:Keep (fun j=>v.ownBlock=some j) i x)=>bx9 ((q.block _ (EL h0) (nt _ _ _ _ h0 (by decide))).trans h0)
 obtain ⟨HL,HO,a0,a4⟩:=af kL Y A y;clear hL ho A y h0 B kL Y nt
 go_enter Tryz.func160,Tryz.ntmps160
 have q0:Keep (fun j=>v.ownBlock=some j) i i.drew:=(Keep.refl _ _).drew
 go_wp2_with fail
 rw [a4.out]
 refine XA.g 15 (fun x:World=>Keep (fun j=>v.ownBlock=some j) i x) ?_
 refine XA.t ?_ [0,1,2,3,4,5,6,7,8,9,10,11,12] q0 ?_
 refine XA.v 13 (i.drew.alloc (.cells #[FQ (kd:Nat),FQ (st:Nat),FQ (n:Nat),.bool I,.bool D,FQ O,FQ V,FQ H,FQ Q,FQ R,FQ N,FQ U] 152)) (.slice (some ⟨i.heap.size,0,none⟩) 1 1) (q0.alloc _) ?_
 refine XA.o 14 (fun K' hK=>?_)
 have hO:=(HO.out.drew).alloc (.cells #[FQ (kd:Nat),FQ (st:Nat),FQ (n:Nat),.bool I,.bool D,FQ O,FQ V,FQ H,FQ Q,FQ R,FQ N,FQ U] 152)
 have a7:=a0.out.size
 refine bS BD (.tmp 12) (.tmp 21) rfl rfl base v m _ rfl hO (some ⟨i.heap.size,0,none⟩) 1 1 [FQ (kd:Nat),FQ (st:Nat),FQ (n:Nat),.bool I,.bool D,FQ O,FQ V,FQ H,FQ Q,FQ R,FQ N,FQ U] rfl (fun k u hu=>⟨_,_,rfl,by rw [FI,EO _ i.heap.size k _ 152 (0,0) (EN i.drew _)];simpa using hu⟩) rfl (by simp [Value.oneCell']) (by omega) (by unfold maxLen;omega) (by simp;omega) ?_
 intro A5 c5 Z J a5 a2 a1
 have C:(Value.slice A5 (m+1) c5).ownBlock=v.ownBlock∨∀k,(Value.slice A5 (m+1) c5).ownBlock=some k→w.heap.size≤k:=by
  rcases a1 with h | h
  ·exact .inl h
  ·exact .inr fun k hk=>by rw [h] at hk;simp at hk;omega
 have HN:=aa C;clear a1 C
 have q5:Keep (fun j=>v.ownBlock=some j) i Z:=(q0.alloc _).grown a2 (fun k hk=>.inr hk)
 refine hK.out _ _ q5 fun _=>?_
 refine XA.e ?_
 simp only [Fm,Fo]
 have T:=HL.out Z q5
 have e3:=FN Z L 1 _ _ (.slice A5 (m+1) c5) T
 have k1:Keep (fun j=>j=L) Z (Z.setCell ⟨L,1,none⟩ (.slice A5 (m+1) c5)):=Keep.setCell (S:=fun j=>j=L) (Keep.refl _ _) ⟨L,1,none⟩ (.inr rfl) _
 have o6:=k1.own J (fun j hj e=>an T (by decide) J (by rw [hj,e]))
 have k6:Keep (fun j=>j=L∨v.ownBlock=some j) w (Z.setCell ⟨L,1,none⟩ (.slice A5 (m+1) c5)):=Keep.setCell (S:=fun j=>j=L∨v.ownBlock=some j) ((Keep.below a0.out).trans (q5.mono fun k _ hk=>.inr hk)) ⟨L,1,none⟩ (.inr (.inl rfl)) _
 obtain ⟨E3,O6,K6⟩:=ae e3 o6 k6
 have xL:=tL Z q5
 clear J a5 a2 T e3 k1 o6 k6 tL t0 hK K' q5 hO
 go_wp2_with fail
 go_end0
 exact ⟨rfl,_,by simpa using E3.out,O6.out,K6.out,HN.out⟩
def ep (w:World) (L base st:Nat) (v:Value) (l:List Itm):Prop:=w.heap[L]?=some (.cells #[FQ (st:Nat),v] 276 (0,0))∧w.ownsRow base 152 12 v l.length (bJ l)
def Apd (L:Nat) (w:World) (v:Value) (i:World) (h:Value):Prop:=Keep (fun j=>j=L∨v.ownBlock=some j) w i∧(h.ownBlock=v.ownBlock∨∀k,h.ownBlock=some k→w.heap.size≤k)
theorem Apd.trans {L:Nat} {a b c:World} {v A i:Value} (h:Apd L a v b A) (k:Apd L b A c i):Apd L a v c i:=by
 refine ⟨⟨k.1.os.trans h.1.os,k.1.tape.trans h.1.tape,k.1.output.trans h.1.output,ES h.1.size k.1.size,fun j o hn=>(k.1.block j (ET o h.1.size) fun u=>?_).trans (h.1.block j o hn)⟩,?_⟩
 ·rcases u with rfl | u
  ·exact hn (.inl rfl)
  ·rcases h.2 with y | y
   ·exact hn (.inr (y▸u))
   ·have:=y j u;omega
 ·rcases k.2 with x | x
  ·rw [x];exact h.2
  ·exact .inr fun j o=>ES h.1.size (x j o)
theorem Apd.below {L:Nat} {b c:World} {v:Value} (h:Below b.heap.size b c):Apd L b v c v:=⟨Keep.below h,.inl rfl⟩
theorem Apd.refl (L:Nat) (w:World) (v:Value):Apd L w v w v:=⟨Keep.refl _ _,.inl rfl⟩
theorem ep.below {w i:World} {L base st:Nat} {v:Value} {l:List Itm} (h:ep w L base st v l) (hb:Below w.heap.size w i):ep i L base st v l:=⟨sb h.1 _ hb,aq h.2 hb⟩
theorem Apd.toBelow {L base st:Nat} {w i:World} {v u:Value} {l:List Itm} (h:Apd L w v i u) (hl:ep w L base st v l) (hb:base≤w.heap.size) (x:base≤L):Below base w i:=
 h.1.toBelow hb (by
  rintro j (rfl | o)
  ·exact x
  ·exact (hl.2.lt j o).1)
theorem sw (L base u st n:Nat) (a:Option Acn) (v:Value) (l:List Itm) (w:World)
  (hl:ep w L base st v l) (hb:base≤w.heap.size) (hm:l.length≤8388608):
  Calls Tryz.prog 160 #[.pointer (some ⟨L,0,none⟩),FQ (u:Nat),FQ (n:Nat),.agg (Cq a).toArray] w fun e i=>e=.returned (.tuple #[])∧
   ∃h,ep i L base st h (l++[(⟨u,st,n,a⟩:Itm)])∧Apd L w v i h:=by
 have o:∀B A x y I D H C J,Cq a=[.bool B,.bool A,FQ x,FQ y,FQ I,FQ D,FQ H,FQ C,FQ J]→Calls Tryz.prog 160 #[.pointer (some ⟨L,0,none⟩),FQ (u:Nat),FQ (n:Nat),.agg (Cq a).toArray] w fun e i=>e=.returned (.tuple #[])∧
   ∃h,ep i L base st h (l++[(⟨u,st,n,a⟩:Itm)])∧Apd L w v i h:=by
  intro B A x y I D H C J e
  rw [e]
  refine (C7 L base u st n l.length B A x y I D H C J v _ w hl.1 hl.2 hb hm).mono ?_
  rintro Q i ⟨rfl,h,O,N,k,hn⟩
  refine ⟨rfl,h,⟨O,?_⟩,k,hn⟩
  rw [dJ,Fp,aS,e]
  exact N
 cases a with
 | none=>exact o _ _ _ _ _ _ _ _ _ rfl
 | some a=>exact o _ _ _ _ _ _ _ _ _ rfl
theorem jy (L base st n:Nat) (u:Int) (h:Nat) (hk:(h:Int)=u) (v:Value) (l:List Itm) (w:World) (hl:ep w L base st v l) (hb:base≤w.heap.size) (hm:l.length≤8388608):
  Calls Tryz.prog 160 #[.pointer (some ⟨L,0,none⟩),FQ u,FQ (n:Nat),.agg FV] w fun e i=>e=.returned (.tuple #[])∧
   ∃o,ep i L base st o (l++[(⟨h,st,n,none⟩:Itm)])∧Apd L w v i o:=by
 subst hk
 exact sw L base h st n none v l w hl hb hm
theorem yi (L base st:Nat) (u:Int) (h:Nat) (hk:(h:Int)=u) (a:Acn) (v:Value) (l:List Itm) (w:World) (hl:ep w L base st v l) (hb:base≤w.heap.size) (hm:l.length≤8388608):
  Calls Tryz.prog 160 #[.pointer (some ⟨L,0,none⟩),FQ u,FQ 0,.agg #[.bool a.send,.bool a.add,FQ (a.st:Nat),FQ (a.bk:Nat),FQ (a.ph:Nat),FQ (a.rd:Nat),FQ (a.ch:Nat),FQ (a.at'.1:Nat),FQ (a.at'.2:Nat)]] w fun e i=>e=.returned (.tuple #[])∧
   ∃o,ep i L base st o (l++[(⟨h,st,0,some a⟩:Itm)])∧Apd L w v i o:=by
 subst hk
 exact sw L base h st 0 (some a) v l w hl hb hm
end Go.Proofs.YtgmajkppbhiopaaGreat
