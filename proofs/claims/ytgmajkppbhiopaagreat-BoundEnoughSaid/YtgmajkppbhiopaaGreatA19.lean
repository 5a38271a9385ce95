/- No condition. -/
import Derived.Test.YtgmajkppbhiopaaGreatA00
import Derived.Test.YtgmajkppbhiopaaGreatA18
import Derived.Test.YtgmajkppbhiopaaGreatA12
import Derived.Test.YtgmajkppbhiopaaGreatA10
import Derived.Test.YtgmajkppbhiopaaGreatA11
import Derived.Test.YtgmajkppbhiopaaGreatA07
import Derived.Test.YtgmajkppbhiopaaGreatA14
import Derived.Test.YtgmajkppbhiopaaGreatA01
import Derived.Deep.RegionHeld3
import Derived.WalkSpells
import Derived.Test.YtgmajkppbhiopaaGreatA13
import Derived.Test.YtgmajkppbhiopaaGreatA02
import Derived.Test.YtgmajkppbhiopaaGreatA17
import Derived.Deep.DeepCutAuto
import Derived.Test.YtgmajkppbhiopaaGreatA16
set_option linter.unusedSimpArgs false
set_option linter.unusedVariables false
set_option maxRecDepth 100000
set_option maxHeartbeats 4000000
namespace Go.Proofs.YtgmajkppbhiopaaGreat
open Go.RowKit
def opF (s:Nat×Nat) (y:Itm):Nat×Nat:=if y.kind=2 then (s.1,s.2+1) else if y.kind=5 then (s.1+1,s.2) else s
def kp (wi nb:Nat):Nat×Nat→List Itm→Prop
 | _,[]=>True
 | s,y::r=>(y.kind=2→y.n=s.2∧s.2<nb∧s.2+1≤s.1+wi)∧(y.kind=5→y.n=s.1∧s.1<s.2)∧kp wi nb (opF s y) r
theorem ip (wi nb:Nat):∀(l r:List Itm) (s:Nat×Nat),kp wi nb s (l++r)↔kp wi nb s l∧kp wi nb (l.foldl opF s) r
 | [],r,s=>by simp [kp]
 | y::l,r,s=>by
  have:=ip wi nb l r (opF s y)
  simp only [List.cons_append,kp,List.foldl_cons,this,and_assoc]
theorem qv {wi nb:Nat}:∀{l:List Itm} {s:Nat×Nat} {k:Nat} {y:Itm},kp wi nb s l→l[k]?=some y→(y.kind=2→y.n=((l.take k).foldl opF s).2∧((l.take k).foldl opF s).2<nb∧((l.take k).foldl opF s).2+1≤((l.take k).foldl opF s).1+wi)∧(y.kind=5→y.n=((l.take k).foldl opF s).1∧((l.take k).foldl opF s).1<((l.take k).foldl opF s).2)
 | [],_,_,_,_,h=>by simp at h
 | z::l,s,0,y,hr,h=>by
  simp only [Fl,Option.some.injEq] at h
  subst h
  exact ⟨hr.1,hr.2.1⟩
 | z::l,s,k+1,y,hr,h=>by
  rw [Fk] at h
  exact qv (l:=l) hr.2.2 h
theorem rK {wi nb:Nat}:∀{l:List Itm} {s:Nat×Nat},kp wi nb s l→s.1≤s.2→s.2≤nb→s.2≤s.1+wi→∀k,((l.take k).foldl opF s).1≤((l.take k).foldl opF s).2∧((l.take k).foldl opF s).2≤nb∧((l.take k).foldl opF s).2≤((l.take k).foldl opF s).1+wi
 | [],s,_,h1,h2,h3,k=>by simpa using ⟨h1,h2,h3⟩
 | y::l,s,h,h1,h2,h3,0=>⟨h1,h2,h3⟩
 | y::l,s,h,h1,h2,h3,k+1=>by
  have hk:(opF s y).1≤(opF s y).2∧(opF s y).2≤nb∧(opF s y).2≤(opF s y).1+wi:=by
   unfold opF
   by_cases i:y.kind=2
   ·rw [if_pos i];have:=h.1 i;exact ⟨by omega,by omega,by omega⟩
   ·rw [if_neg i]
    by_cases o:y.kind=5
    ·rw [if_pos o];have:=h.2.1 o;exact ⟨by omega,h2,by omega⟩
    ·rw [if_neg o];exact ⟨h1,h2,h3⟩
  exact rK h.2.2 hk.1 hk.2.1 hk.2.2 k
theorem mr {wi nb:Nat}:∀{l:List Itm} (s:Nat×Nat),(∀y∈l,y.kind≠2∧y.kind≠5)→kp wi nb s l∧l.foldl opF s=s
 | [],s,_=>⟨trivial,rfl⟩
 | y::l,s,h=>by
  have i:=h y (by simp)
  have e:opF s y=s:=by unfold opF;rw [if_neg i.1,if_neg i.2]
  have o:=mr (wi:=wi) (nb:=nb) (l:=l) s fun z u=>h z (by simp [u])
  refine ⟨⟨fun k=>absurd k i.1,fun k=>absurd k i.2,?_⟩,?_⟩
  ·rw [e];exact o.1
  ·rw [List.foldl_cons,e];exact o.2
theorem pJ {wi nb:Nat} (st u:Nat):∀(k l:Nat),l+k≤nb→l+k≤u+wi→kp wi nb (u,l) ((List.range' l k).map fun j=>(⟨2,st,j,none⟩:Itm))∧((List.range' l k).map fun j=>(⟨2,st,j,none⟩:Itm)).foldl opF (u,l)=(u,l+k)
 | 0,l,_,_=>⟨trivial,rfl⟩
 | k+1,l,h1,h2=>by
  rw [List.range'_succ,List.map_cons]
  have h:=pJ (wi:=wi) (nb:=nb) st u k (l+1) (by omega) (by omega)
  refine ⟨⟨fun _=>⟨rfl,by show l<nb;omega,by show l+1≤u+wi;omega⟩,fun i=>(by cases i),h.1⟩,?_⟩
  rw [List.foldl_cons]
  show List.foldl opF (u,l+1) _=_
  rw [h.2]
  congr 1;omega
theorem pI {wi nb:Nat} (st l:Nat):∀(k u:Nat),u+k≤l→kp wi nb (u,l) ((List.range' u k).map fun j=>(⟨5,st,j,none⟩:Itm))∧((List.range' u k).map fun j=>(⟨5,st,j,none⟩:Itm)).foldl opF (u,l)=(u+k,l)
 | 0,u,_=>⟨trivial,rfl⟩
 | k+1,u,h1=>by
  rw [List.range'_succ,List.map_cons]
  have h:=pI (wi:=wi) (nb:=nb) st l k (u+1) (by omega)
  refine ⟨⟨fun i=>(by cases i),fun _=>⟨rfl,by show u<l;omega⟩,h.1⟩,?_⟩
  rw [List.foldl_cons]
  show List.foldl opF (u+1,l) _=_
  rw [h.2]
  congr 1;omega
theorem AE {p:Pln} (x st:Nat) (g:Rg) (A:g.1≤g.2) (v:g.2≤p.buks.length) (B:g.2≤g.1+p.wi):kp p.wi p.buks.length (g.1,g.1) (bU p x st g)∧(bU p x st g).foldl opF (g.1,g.1)=(g.2,g.2):=by
 have a1:=pJ (wi:=p.wi) (nb:=p.buks.length) st g.1 (g.2-g.1) g.1 (by omega) (by omega)
 have u:g.1+(g.2-g.1)=g.2:=by omega
 rw [u] at a1
 have i:=mr (wi:=p.wi) (nb:=p.buks.length) (l:=(List.range 2).flatMap fun ph=>(List.range (p.W-1)).flatMap fun r=>(List.range' g.1 (g.2-g.1)).flatMap fun j=>aN p x st ph r j) (g.1,g.2) (fun y h=>by
  simp only [List.mem_flatMap] at h
  obtain ⟨_,_,_,_,_,_,h⟩:=h
  unfold aN at h
  obtain ⟨c,_,rfl⟩:=List.mem_map.1 h
  unfold eO
  split<;>exact ⟨fun e=>(by cases e),fun e=>(by cases e)⟩)
 have o:=pI (wi:=p.wi) (nb:=p.buks.length) st g.2 (g.2-g.1) g.1 (by omega)
 rw [u] at o
 unfold bU
 refine ⟨?_,?_⟩
 ·rw [ip,ip,List.foldl_append,a1.2,i.2]
  exact ⟨⟨a1.1,i.1⟩,o.1⟩
 ·rw [List.foldl_append,List.foldl_append,a1.2,i.2,o.2]
theorem pK {p:Pln} (o:aT p) (x st:Nat):∀k,k≤bT p.buks.length p.wi→kp p.wi p.buks.length (0,0) (((List.range k).map fun j=>((j*p.wi,min (j*p.wi+p.wi) p.buks.length):Rg)).flatMap (bU p x st))∧(((List.range k).map fun j=>((j*p.wi,min (j*p.wi+p.wi) p.buks.length):Rg)).flatMap (bU p x st)).foldl opF (0,0)=(min (k*p.wi) p.buks.length,min (k*p.wi) p.buks.length)
 | 0,_=>⟨trivial,by simp⟩
 | k+1,hk=>by
  have h:=pK o x st k (by omega)
  have v:=ft (n:=p.buks.length) (size:=p.wi) (k:=k) (by omega)
  have u:min (k*p.wi) p.buks.length=k*p.wi:=by omega
  have i:=AE (p:=p) x st (k*p.wi,min (k*p.wi+p.wi) p.buks.length) (by show k*p.wi≤_;omega) (by show min _ _≤_;omega) (by show min _ _≤_;omega)
  rw [FF,List.map_append,List.flatMap_append,ip,List.foldl_append,h.2,u]
  simp only [List.map_cons,List.map_nil,List.flatMap_cons,List.flatMap_nil,List.append_nil]
  rw [FG]
  exact ⟨⟨h.1,i.1⟩,i.2⟩
theorem ko {p:Pln} (o:aT p) (x st:Nat):kp p.wi p.buks.length (0,0) (aw p x st)∧(aw p x st).foldl opF (0,0)=(p.buks.length,p.buks.length):=by
 have a1:=mr (wi:=p.wi) (nb:=p.buks.length) (l:=(List.range p.mi).map fun a=>(⟨1,st,a,none⟩:Itm)) (0,0) (fun y i=>by obtain ⟨_,_,rfl⟩:=List.mem_map.1 i;exact ⟨fun e=>(by cases e),fun e=>(by cases e)⟩)
 have h:=pK o x st _ (EM _)
 have A:min (bT p.buks.length p.wi*p.wi) p.buks.length=p.buks.length:=by
  have:=Dq p.buks.length p.wi o.wi
  unfold bB at this
  rwa [Nat.sub_zero] at this
 rw [A] at h
 have u:=mr (wi:=p.wi) (nb:=p.buks.length) (l:=[(⟨6,st,0,none⟩:Itm)]) (p.buks.length,p.buks.length) (fun y i=>by rw [List.mem_singleton.1 i];exact ⟨fun e=>(by cases e),fun e=>(by cases e)⟩)
 have v:p.grps=(List.range (bT p.buks.length p.wi)).map fun j=>((j*p.wi,min (j*p.wi+p.wi) p.buks.length):Rg):=rfl
 unfold aw
 rw [v]
 refine ⟨?_,?_⟩
 ·rw [ip,ip,List.foldl_append,a1.2,h.2]
  exact ⟨⟨a1.1,h.1⟩,u.1⟩
 ·rw [List.foldl_append,List.foldl_append,a1.2,h.2]
  exact u.2
def opP (p:Pln) (x st nx:Nat):Nat×Nat:=((aw p x st).take nx).foldl opF (0,0)
theorem vN {p:Pln} (h:aT p) (x st nx:Nat):(opP p x st nx).1≤(opP p x st nx).2∧(opP p x st nx).2≤p.buks.length∧(opP p x st nx).2≤(opP p x st nx).1+p.wi:=
 rK (ko h x st).1 (EM _) (EQ _) (EQ _) nx
theorem AF {p:Pln} {x st nx:Nat} {y:Itm} (h:(aw p x st)[nx]?=some y):opP p x st (nx+1)=opF (opP p x st nx) y:=by
 unfold opP
 rw [List.take_add_one,h,List.foldl_append]
 rfl
theorem CU {p:Pln} (i:aT p) {x st nx:Nat} (h:(aw p x st).length≤nx):opP p x st nx=(p.buks.length,p.buks.length):=by
 unfold opP
 rw [List.take_of_length_le h]
 exact (ko i x st).2
def opL (p:Pln) (x st nx:Nat):List Nat:=List.range' (opP p x st nx).1 ((opP p x st nx).2-(opP p x st nx).1)
theorem CV {p:Pln} (h:aT p) (x st nx:Nat):(opL p x st nx).length≤p.wi∧(opL p x st nx).length≤p.buks.length:=by
 have:=vN h x st nx
 unfold opL
 rw [List.length_range']
 omega
theorem yj {p:Pln} (u:aT p) {x st nx:Nat} {y:Itm} (i:(aw p x st)[nx]?=some y):(y.kind=6↔nx+1=(aw p x st).length):=by
 have hn:=(Fq.1 i).1
 have e:aw p x st=((List.range p.mi).map (fun a=>(⟨1,st,a,none⟩:Itm))++p.grps.flatMap (bU p x st))++[⟨6,st,0,none⟩]:=rfl
 generalize hf:(List.range p.mi).map (fun a=>(⟨1,st,a,none⟩:Itm))++p.grps.flatMap (bU p x st)=front at e
 have hl:(aw p x st).length=front.length+1:=by rw [e];simp
 rcases Fa nx front.length with h | h
 ·have hm:y∈front:=by
   rw [e,Ft h] at i
   exact List.mem_of_getElem? i
  have hk:y.kind≠6:=by
   rw [←hf] at hm
   rcases FE.1 hm with hm | hm
   ·obtain ⟨_,_,rfl⟩:=List.mem_map.1 hm
    exact fun e=>by cases e
   ·obtain ⟨g,_,hm⟩:=List.mem_flatMap.1 hm
    unfold bU at hm
    simp only [FE,List.mem_map,List.mem_flatMap] at hm
    rcases hm with (⟨_,_,rfl⟩ | ⟨_,_,_,_,_,_,hm⟩) | ⟨_,_,rfl⟩
    ·exact fun e=>by cases e
    ·unfold aN at hm
     obtain ⟨c,_,rfl⟩:=List.mem_map.1 hm
     unfold eO
     split<;>exact fun e=>by cases e
    ·exact fun e=>by cases e
  exact ⟨fun e=>absurd e hk,fun e=>by omega⟩
 ·have o:nx=front.length:=by omega
  subst o
  rw [e] at i
  simp at i
  subst i
  exact ⟨fun _=>hl.symm,fun _=>rfl⟩
theorem mb {p:Pln} {x st:Nat} {y:Itm} (h:y∈aw p x st) (hn:y.a=none):y.kind=1∨y.kind=2∨y.kind=5∨y.kind=6:=by
 unfold aw at h
 simp only [FE,List.mem_map,List.mem_flatMap,List.mem_singleton] at h
 rcases h with (⟨_,_,rfl⟩ | ⟨g,_,h⟩) | rfl
 ·exact .inl rfl
 ·unfold bU at h
  simp only [FE,List.mem_map,List.mem_flatMap] at h
  rcases h with (⟨_,_,rfl⟩ | ⟨_,_,_,_,_,_,h⟩) | ⟨_,_,rfl⟩
  ·exact .inr (.inl rfl)
  ·unfold aN at h
   obtain ⟨c,_,rfl⟩:=List.mem_map.1 h
   cases hn
  ·exact .inr (.inr (.inl rfl))
 ·exact .inr (.inr (.inr rfl))
structure MOk (i:Inp) (x:Nat) (m:Mst):Prop where
 op:m.op=opL (ao i) x m.st m.nx
 rc:m.rc.length=m.st+1
 rl:∀y∈m.rc,y.1.length=i.start.length∧y.2.length=i.start.length
 lP:m.P.length=i.start.length
 lM:m.M.length=i.start.length
 lG:m.G.length=i.start.length
 ps:(m.st<i.cfg.steps.toNat∧m.nx<(aw (ao i) x 0).length)∨(m.st=i.cfg.steps.toNat∧m.nx=0)
theorem MOk.zero {i:Inp} (x:Nat):MOk i x (fB i):=by
 refine ⟨rfl,rfl,fun y o=>?_,rfl,by simp [fB],by simp [fB],?_⟩
 ·simp only [fB,List.mem_singleton] at o
  subst o
  exact ⟨rfl,by simp⟩
 ·by_cases h:0<i.cfg.steps.toNat
  ·exact .inl ⟨h,fR _ _ _⟩
  ·exact .inr ⟨by show 0=_;omega,rfl⟩
theorem MOk.done {i:Inp} (v:bP i) {x:Nat} {m:Mst} (h:MOk i x m):bF i x m≤(de i x).length:=by
 rw [n8 v.ok]
 unfold bF
 rcases h.ps with ⟨o,u⟩ | ⟨o,u⟩
 ·have:=FO (aw (ao i) x 0).length (Nat.succ_le_of_lt o)
  rw [FG] at this
  omega
 ·rw [o,u];omega
theorem MOk.cur {i:Inp} (u:bP i) {x:Nat} {m:Mst} (h:MOk i x m):(bf i x m.st)[m.nx]?=(de i x)[bF i x m]?:=by
 rcases h.ps with ⟨o,v⟩ | ⟨o,v⟩
 ·have y:=Fr (l:=aw (ao i) x m.st) (i:=m.nx) (by rw [gr u.ok];exact v)
  have:=wu u.ok y o
  unfold bf bF
  rw [if_pos o,this,y]
 ·unfold bf bF
  rw [if_neg (by omega),List.getElem?_nil,List.getElem?_eq_none (by rw [n8 u.ok,o];omega)]
theorem MOk.okAt {i:Inp} (o:bP i) {x:Nat} {m:Mst} (h:MOk i x m) {y:Itm} (u:(bf i x m.st)[m.nx]?=some y) (hn:y.a=none):Em m y:=by
 obtain ⟨C,B⟩:=dD u
 have hc:bf i x m.st=aw (ao i) x m.st:=if_pos C
 rw [hc] at u
 have A:=qv (ko o.ok x m.st).1 u
 have H:=(CV o.ok x m.st m.nx).2
 have D:=o.ok.buks
 have v:=o.s
 refine ⟨mb B hn,by rw [h.op];omega,fun I=>?_,fun _=>by rw [h.rc];omega⟩
 rw [h.op]
 have:=(A.2 I).2
 unfold opL
 rw [List.length_range']
 show 0<(opP (ao i) x m.st m.nx).2-(opP (ao i) x m.st m.nx).1
 unfold opP
 omega
theorem MOk.next {i:Inp} (I:bP i) {x:Nat} {m m1:Mst} (h:MOk i x m) {y:Itm} (B:(bf i x m.st)[m.nx]?=some y) (Y:m1.st=m.st) (V:m1.nx=m.nx) (U:m1.P.length=i.start.length) (R:m1.M.length=i.start.length) (T:m1.G.length=i.start.length)
  (L:m1.op=if y.kind=2 then m.op++[y.n] else if y.kind=5 then eS m.op y.n else m.op) (A:m1.rc=if y.kind=6 then m.rc++[(m.P,m.M)] else m.rc):MOk i x (adv i x m1):=by
 obtain ⟨g1,g2⟩:=dD B
 have hc:bf i x m.st=aw (ao i) x m.st:=if_pos g1
 rw [hc] at B
 have Q:=qv (ko I.ok x m.st).1 B
 have hv:=vN I.ok x m.st m.nx
 have O:=AF B
 have a1:=gr I.ok x m.st
 have v:=yj I.ok B
 have a0:=(Fq.1 B).1
 have H:m1.op=opL (ao i) x m.st (m.nx+1):=by
  rw [L,h.op]
  unfold opL
  rw [O]
  unfold opF
  change (y.kind=2→y.n=(opP (ao i) x m.st m.nx).2∧(opP (ao i) x m.st m.nx).2<_∧_)∧(y.kind=5→y.n=(opP (ao i) x m.st m.nx).1∧(opP (ao i) x m.st m.nx).1<(opP (ao i) x m.st m.nx).2) at Q
  by_cases J:y.kind=2
  ·rw [if_pos J,if_pos J]
   have:=(Q.1 J).1
   show _=List.range' (opP (ao i) x m.st m.nx).1 ((opP (ao i) x m.st m.nx).2+1-(opP (ao i) x m.st m.nx).1)
   rw [show (opP (ao i) x m.st m.nx).2+1-(opP (ao i) x m.st m.nx).1=((opP (ao i) x m.st m.nx).2-(opP (ao i) x m.st m.nx).1)+1 by omega,List.range'_concat,this]
   congr 2
   omega
  ·rw [if_neg J,if_neg J]
   by_cases C:y.kind=5
   ·rw [if_pos C,if_pos C]
    have Z:=Q.2 C
    rw [Z.1]
    show _=List.range' ((opP (ao i) x m.st m.nx).1+1) ((opP (ao i) x m.st m.nx).2-((opP (ao i) x m.st m.nx).1+1))
    rw [show (opP (ao i) x m.st m.nx).2-(opP (ao i) x m.st m.nx).1=((opP (ao i) x m.st m.nx).2-((opP (ao i) x m.st m.nx).1+1))+1 by omega,yB]
   ·rw [if_neg C,if_neg C]
 have u:∀z∈m1.rc,z.1.length=i.start.length∧z.2.length=i.start.length:=by
  rw [A]
  split
  ·intro z D
   rcases FE.1 D with D | D
   ·exact h.rl z D
   ·rw [List.mem_singleton.1 D];exact ⟨h.lP,h.lM⟩
  ·exact h.rl
 unfold adv
 rw [V,Y,hc]
 by_cases o:m.nx+1<(aw (ao i) x m.st).length
 ·rw [if_pos o]
  refine ⟨by show m1.op=opL _ _ m.st (m.nx+1);exact H,?_,u,U,R,T,.inl ⟨by show m.st<_;omega,by show m.nx+1<_;omega⟩⟩
  show m1.rc.length=m.st+1
  rw [A,if_neg (fun e=>by have:=v.1 e;omega)]
  exact h.rc
 ·rw [if_neg o]
  have hl:m.nx+1=(aw (ao i) x m.st).length:=by omega
  refine ⟨?_,?_,u,U,R,T,?_⟩
  ·show m1.op=opL _ _ (m.st+1) 0
   rw [H]
   unfold opL
   rw [CU I.ok (Nat.le_of_eq hl.symm),Nat.sub_self]
   rfl
  ·show m1.rc.length=m.st+1+1
   rw [A,if_pos (v.2 hl),Fp,h.rc]
   rfl
  ·by_cases N:m.st+1<i.cfg.steps.toNat
   ·exact .inl ⟨N,fR _ _ _⟩
   ·exact .inr ⟨by show m.st+1=_;omega,rfl⟩
theorem rr {l:List Rg} {j:Nat} (h:l.length≤j):ay l j=(0,0):=by simp [ay,List.getD,h]
theorem D4 {s:Rg} {c:Nat} (hc:1≤c):∀r∈chR s c,s.1≤r.1∧r.1<r.2∧(s.1≤s.2→r.2≤s.2):=by
 intro r hr
 simp only [chR,shR,dA,List.map_map,List.mem_map,List.mem_range,Function.comp] at hr
 obtain ⟨j,i,rfl⟩:=hr
 have:=ft i
 refine ⟨by simp only;omega,by simp only;omega,fun h=>by simp only;omega⟩
def DL (p:Pln) (x:Nat) (t:Tg):Rg:=ay (chR (ay (cG (ay p.buks t.b.toNat) p.W) (dV p.W x t.c.toNat t.d.toNat)) p.ck) t.e.toNat
theorem pq {st bk:Nat} {b:Rg} {W c x ph r:Nat} {a:Acn} (h:a∈bH st bk b W c x ph r):
  ∃i,a.at'=ay (chR (ay (cG b W) i) c) a.ch∧a.ch<(chR (ay (cG b W) i) c).length∧(a.send=false→i=dV W x ph r):=by
 unfold bH fA at h
 obtain ⟨k,hk,h⟩:=List.mem_flatMap.1 h
 rw [FE] at h
 rcases h with h | h<;>split at h
 ·rename_i hl
  simp only [List.mem_singleton] at h;subst h
  exact ⟨cU W x ph r,rfl,hl,fun e=>by cases e⟩
 ·simp at h
 ·rename_i hl
  simp only [List.mem_singleton] at h;subst h
  exact ⟨dV W x ph r,rfl,hl,fun _=>rfl⟩
 ·simp at h
theorem fS {p:Pln} {x st:Nat} {y:Itm} (h:y∈aw p x st) {a:Acn} (i:y.a=some a):y.kind=(if a.send then 3 else 4)∧a.st=st∧a∈bH st a.bk (ay p.buks a.bk) p.W p.ck x a.ph a.rd:=by
 unfold aw at h
 simp only [FE,List.mem_map,List.mem_flatMap,List.mem_singleton] at h
 rcases h with (⟨_,_,rfl⟩ | ⟨g,_,h⟩) | rfl
 ·cases i
 ·unfold bU at h
  simp only [FE,List.mem_map,List.mem_flatMap] at h
  rcases h with (⟨_,_,rfl⟩ | ⟨ph,_,r,_,j,_,h⟩) | ⟨_,_,rfl⟩
  ·cases i
  ·unfold aN at h
   obtain ⟨c,hc,rfl⟩:=List.mem_map.1 h
   simp only [eO,Option.some.injEq] at i
   subst i
   obtain ⟨o,A,u,v,_⟩:=kZ hc
   refine ⟨rfl,o,?_⟩
   rw [A,u,v]
   exact hc
  ·cases i
 ·cases i
theorem Cp {p:Pln} (u:aT p) {x st:Nat} {y:Itm} (h:y∈aw p x st) {a:Acn} (B:y.a=some a):a.at'.1<a.at'.2∧a.at'.2≤p.n:=by
 obtain ⟨_,_,C⟩:=fS h B
 obtain ⟨o,A,v,_⟩:=pq C
 have hm:=List.getElem_mem v
 rw [←bq _ _ v,←A] at hm
 have hc:=D4 u.ck _ hm
 have hb:(ay p.buks a.bk).1≤(ay p.buks a.bk).2∧(ay p.buks a.bk).2≤p.n:=by
  rcases Fa a.bk p.buks.length with i | i
  ·have:=wh _ (List.getElem_mem i)
   rw [←bq _ _ i] at this
   exact this
  ·have:ay p.buks a.bk=(0,0):=rr i
   rw [this];simp
 have D:(ay (cG (ay p.buks a.bk) p.W) o).1≤(ay (cG (ay p.buks a.bk) p.W) o).2∧(ay (cG (ay p.buks a.bk) p.W) o).2≤(ay p.buks a.bk).2:=by
  rcases Fa o (cG (ay p.buks a.bk) p.W).length with i | i
  ·have:=vC u.W1 hb.1 _ (List.getElem_mem i)
   rw [←bq _ _ i] at this
   exact this
  ·have:ay (cG (ay p.buks a.bk) p.W) o=(0,0):=rr i
   rw [this];simp
 have:=hc.2.2 D.1
 exact ⟨hc.2.1,by omega⟩
theorem Co {p:Pln} {x st:Nat} {y:Itm} (h:y∈aw p x st) {a:Acn} (u:y.a=some a) (hr:a.send=false):a.at'=DL p x a.tg:=by
 obtain ⟨_,_,v⟩:=fS h u
 obtain ⟨A,i,_,o⟩:=pq v
 rw [i,o hr]
 rfl
def yQ (i:Inp) (x:Nat) (s:LSt):Prop:=∀j,j<s.msgs.length→W64 (aG s.msgs j).vals∧((aG s.msgs j).tag.a=999∨(aG s.msgs j).vals.length=(DL (ao i) x (aG s.msgs j).tag).2-(DL (ao i) x (aG s.msgs j).tag).1)
theorem yQ.len {i:Inp} (D:bP i) {x:Nat} {s:LSt} (h:yQ i x s) {st:Nat} {y:Itm} (C:st<i.cfg.steps.toNat) (B:y∈aw (ao i) x st) {a:Acn} (A:y.a=some a) (hr:a.send=false) (v:s.recv<s.msgs.length) (u:(aG s.msgs s.recv).tag=a.tg):
  (aG s.msgs s.recv).vals.length=a.at'.2-a.at'.1∧W64 (aG s.msgs s.recv).vals:=by
 obtain ⟨H,o⟩:=h _ v
 refine ⟨?_,H⟩
 rw [Co B A hr,←u]
 rcases o with o | o
 ·exfalso
  rw [u] at o
  have e:a.tg.a=(a.st:Int):=rfl
  rw [e,(fS B A).2.1] at o
  have:=D.s
  omega
 ·exact o
inductive fG (i:Inp) (x:Nat) (m:Mst) (s t:LSt):Mst→LSt→LSt→Nat→Prop
 | fin:(bf i x m.st).length≤m.nx→fG i x m s t m s t 13
 | own (y:Itm):(bf i x m.st)[m.nx]?=some y→y.a=none→fG i x m s t (adv i x (jC i x m y)) s t 0
 | send (y:Itm) (a:Acn):(bf i x m.st)[m.nx]?=some y→y.a=some a→y.kind=3→t.msgs.length<t.recv+t.cap→fG i x m s t (adv i x m) s (t.send ⟨a.tg,(m.G.drop a.at'.1).take (a.at'.2-a.at'.1)⟩) 0
 | full (y:Itm) (a:Acn):(bf i x m.st)[m.nx]?=some y→y.a=some a→y.kind=3→t.msgs.length=t.recv+t.cap→fG i x m s t m s t 11
 | recv (y:Itm) (a:Acn):(bf i x m.st)[m.nx]?=some y→y.a=some a→y.kind=4→s.recv<s.msgs.length→(aG s.msgs s.recv).tag=a.tg→fG i x m s t (adv i x {m with G:=kC m.G a.at'.1 (aG s.msgs s.recv).vals a.add}) {s with recv:=s.recv+1} t 0
 | none (y:Itm) (a:Acn):(bf i x m.st)[m.nx]?=some y→y.a=some a→y.kind=4→s.recv=s.msgs.length→fG i x m s t m s t 12
 | other (y:Itm) (a:Acn):(bf i x m.st)[m.nx]?=some y→y.a=some a→y.kind=4→s.recv<s.msgs.length→(aG s.msgs s.recv).tag≠a.tg→fG i x m s t m s t 10
theorem wO (i:Inp) (x:Nat) (m:Mst) (s t:LSt) (A:s.recv≤s.msgs.length) (v:t.msgs.length≤t.recv+t.cap):∃m1 s1 t1 C,fG i x m s t m1 s1 t1 C:=by
 cases hy:(bf i x m.st)[m.nx]? with
 | none=>exact ⟨_,_,_,_,.fin (by rw [List.getElem?_eq_none_iff] at hy;exact hy)⟩
 | some y=>
  cases ha:y.a with
  | none=>exact ⟨_,_,_,_,.own y hy ha⟩
  | some a=>
   have hk:=(fS (dD hy).2 ha).1
   by_cases h:a.send=true
   ·rw [if_pos h] at hk
    by_cases o:t.msgs.length<t.recv+t.cap
    ·exact ⟨_,_,_,_,.send y a hy ha hk o⟩
    ·exact ⟨_,_,_,_,.full y a hy ha hk (by omega)⟩
   ·rw [if_neg h] at hk
    by_cases u:s.recv=s.msgs.length
    ·exact ⟨_,_,_,_,.none y a hy ha hk u⟩
    ·by_cases he:(aG s.msgs s.recv).tag=a.tg
     ·exact ⟨_,_,_,_,.recv y a hy ha hk (by omega) he⟩
     ·exact ⟨_,_,_,_,.other y a hy ha hk (by omega) he⟩
theorem pQ {p:Pln} {x st:Nat} {y:Itm} (h:y∈aw p x st) {a:Acn} (i:y.a=some a) (hk:y.kind=4):a.send=false:=by
 have:=(fS h i).1
 cases hse:a.send with
 | true=>rw [hse,hk] at this;cases this
 | false=>rfl
theorem uo (l:List Msg) (y:Msg) (j:Nat):aG (l++[y]) j=if j<l.length then aG l j else if j=l.length then y else Msg.zero:=by
 unfold aG
 simp only [List.getD_eq_getElem?_getD]
 by_cases h:j<l.length
 ·rw [if_pos h,Ft h]
 ·rw [if_neg h,Fu (by omega)]
  by_cases i:j=l.length
  ·rw [if_pos i];subst i;simp
  ·rw [if_neg i,List.getElem?_eq_none (by simp;omega)];rfl
theorem fG.ok {i:Inp} (o:bP i) {x:Nat} {m m1:Mst} {s t s1 t1:LSt} {C:Nat} (h:fG i x m s t m1 s1 t1 C) (hm:MOk i x m):MOk i x m1:=by
 cases h with
 | fin=>exact hm
 | own y hy ha=>
  have u:=hm.okAt o hy ha
  have lG:(eP i m.P m.G (fF i.data (qx i x y.st y.n))).length=i.start.length:=nz _ _ hm.lG
  refine hm.next o hy ?_ ?_ ?_ ?_ ?_ ?_ ?_<;>unfold jC<;>rcases u.1 with k | k | k | k<;>simp only [k]<;>first | rfl | simp [hm.lP,hm.lM,hm.lG,lG,kH,kI]
 | send y a hy ha hk=>exact hm.next o hy rfl rfl hm.lP hm.lM hm.lG (by rw [if_neg (by omega),if_neg (by omega)]) (by rw [if_neg (by omega)])
 | full=>exact hm
 | recv y a hy ha hk=>exact hm.next o hy rfl rfl hm.lP hm.lM (by show (kC _ _ _ _).length=_;rw [sS];exact hm.lG) (by rw [if_neg (by omega),if_neg (by omega)]) (by rw [if_neg (by omega)])
 | none=>exact hm
 | other=>exact hm
theorem fG.msgs {i:Inp} {x:Nat} {m m1:Mst} {s t s1 t1:LSt} {C:Nat} (h:fG i x m s t m1 s1 t1 C) (hm:yQ i x s):yQ i x s1∧s1.msgs=s.msgs∧t1.msgs.length≤t.msgs.length+1∧t.msgs.length≤t1.msgs.length:=by
 cases h<;>first | exact ⟨hm,rfl,Nat.le_succ _,EM _⟩ | exact ⟨hm,rfl,by simp [LSt.send],by simp [LSt.send]⟩
end Go.Proofs.YtgmajkppbhiopaaGreat
namespace Go.Proofs.YtgmajkppbhiopaaGreat
open Go.RowKit Go.ChangeShapes Go.WideShapes Go.ChangeAt
theorem vM:gD Tryz.prog 2 1 (DM .i64):=pH Tryz.underlying2 (by kernel_rfl)
theorem um:gD Tryz.prog 27 1 (vK .u64):=jU Tryz.underlying27 Tryz.underlying253 (by kernel_rfl) (by kernel_rfl) (by kernel_rfl)
theorem DH {l:List Int} (h:∀z∈l,(Lit.int .u64 z).wf=true):U64 l:=fun k hk=>by
 have:=h _ (vO hk)
 simpa [Lit.wf,IntKind.min,IntKind.max,IntKind.signed,IntKind.bits] using this
theorem yV {z:Int} (h:(Lit.int .i64 z).wf=true): -9223372036854775808≤z∧z≤9223372036854775807:=by
 simpa [Lit.wf,IntKind.min,IntKind.max,IntKind.signed,IntKind.bits] using h
theorem pW:Tryz.prog.cellsOf 91=2:=by kernel_rfl
theorem nW:Tryz.prog.cellsOf 24=12:=by kernel_rfl
theorem nV:Tryz.prog.cellsOf 29=15:=by kernel_rfl
theorem m7 {w:World} {A:Option Addr} {zs:List Int} {c:Nat} (i:zs.length≤c) (h:zs.length≤17592186043904) (o:Rd w A (ar .i64 zs)) (u:∀z∈zs,(Lit.int .i64 z).wf=true):bY w A zs c:=⟨i,h,o,qh u⟩
theorem AC:gD Tryz.prog 91 2 rEx:=⟨pW,fun {H Q W D N x} h o=>by
 obtain ⟨xs,n,_,y,hl,i,v⟩:=DataW.trod_struct Tryz.underlying91 h
 rw [pW] at hl
 have u:xs.length=2:=i
 obtain ⟨Z,A,c,a1,Y,a3,R,O,V⟩:=aR jV Tryz.underlying91 y o (v 0 _ rfl) (by omega) rfl
 obtain ⟨L,B,d,C,T,b3,U,I,J⟩:=aR jV Tryz.underlying91 y o (v 1 _ rfl) (by omega) rfl
 clear h v i u y o
 match N,hl with
 | [c0,c1],_=>
  simp at a1 C
  exact ⟨rfl,⟨Z,L⟩,A,c,B,d,by simp [a1,C],m7 Y R O V,m7 T U I J⟩⟩
theorem xQ:gD Tryz.prog 25 1 (rSl rEx 2):=rJ Tryz.underlying25 AC (by kernel_rfl) (of_decide_eq_true (by kernel_rfl))
def Ez:dO Cfg:=fun w h k=>∃A c,h=(bZ A c k).toList∧fI w A c k∧(-9223372036854775808≤k.rate∧k.rate≤9223372036854775807)∧(-9223372036854775808≤k.mom∧k.mom≤9223372036854775807)∧W64 k.sizes∧W64 [k.shift,k.workers,k.batch,k.micros,k.steps,k.bucket,k.chunk,k.window,k.cap]
theorem xT:gD Tryz.prog 24 12 Ez:=⟨nW,fun {H a7 W V cs x} h i=>by
 obtain ⟨xs,n,_,u,hl,v,o⟩:=DataW.trod_struct Tryz.underlying24 h
 rw [nW] at hl
 have y:xs.length=12:=v
 obtain ⟨sz,A,c,a1,a2,a3,a4,a5,a6⟩:=aR na Tryz.underlying24 u i (o 0 _ rfl) (by omega) rfl
 obtain ⟨z1,N,g1⟩:=aR fJ Tryz.underlying24 u i (o 1 _ rfl) (by omega) rfl
 obtain ⟨z2,J,g2⟩:=aR vM Tryz.underlying24 u i (o 2 _ rfl) (by omega) rfl
 obtain ⟨z3,U,g3⟩:=aR vM Tryz.underlying24 u i (o 3 _ rfl) (by omega) rfl
 obtain ⟨z4,L,g4⟩:=aR fJ Tryz.underlying24 u i (o 4 _ rfl) (by omega) rfl
 obtain ⟨z5,Q,g5⟩:=aR fJ Tryz.underlying24 u i (o 5 _ rfl) (by omega) rfl
 obtain ⟨z6,Y,g6⟩:=aR fJ Tryz.underlying24 u i (o 6 _ rfl) (by omega) rfl
 obtain ⟨z7,O,g7⟩:=aR fJ Tryz.underlying24 u i (o 7 _ rfl) (by omega) rfl
 obtain ⟨z8,T,g8⟩:=aR fJ Tryz.underlying24 u i (o 8 _ rfl) (by omega) rfl
 obtain ⟨z9,Z,g9⟩:=aR fJ Tryz.underlying24 u i (o 9 _ rfl) (by omega) rfl
 obtain ⟨D,B,a8⟩:=aR fJ Tryz.underlying24 u i (o 10 _ rfl) (by omega) rfl
 obtain ⟨I,C,a0⟩:=aR fJ Tryz.underlying24 u i (o 11 _ rfl) (by omega) rfl
 clear h o v y u i
 match cs,hl with
 | [c0,c1,c2,c3,c4,c5,c6,c7,c8,c9,c10,c11],_=>
  simp at a1 N J U L Q Y O T Z B C
  refine ⟨rfl,⟨sz,z1,z2,z3,z4,z5,z6,z7,z8,z9,D,I⟩,A,c,by simp [bZ,a1,N,J,U,L,Q,Y,O,T,Z,B,C],⟨a2,a3,a4,a5⟩,yV g2,yV g3,qh a6,?_⟩
  refine qh fun z R=>?_
  simp only [List.mem_cons,List.not_mem_nil,or_false] at R
  rcases R with rfl | rfl | rfl | rfl | rfl | rfl | rfl | rfl | rfl<;>assumption⟩
def Ek:dO Inp:=fun w v i=>∃A c D h T o R u,v=(aP A c D h T o R u i).toList∧gF w A c D T o R i∧i.data.length≤h∧h≤9223372036854775807∧i.draws.length≤u∧u≤9223372036854775807∧o≤9223372036854775807∧W64 i.cfg.sizes∧W64 [i.cfg.shift,i.cfg.workers,i.cfg.batch,i.cfg.micros,i.cfg.steps,i.cfg.bucket,i.cfg.chunk,i.cfg.window,i.cfg.cap]
theorem xO:gD Tryz.prog 29 15 Ek:=⟨nV,fun {H a0 W J cs x} h i=>by
 obtain ⟨xs,n,_,y,hl,o,v⟩:=DataW.trod_struct Tryz.underlying29 h
 rw [nV] at hl
 have u:xs.length=4:=o
 obtain ⟨k,A,c,B,k2,k3,k4,k5,k6⟩:=aR xT Tryz.underlying29 y i (v 0 _ rfl) (by omega) rfl
 obtain ⟨da,D,cd,I,L,O,d4,d5⟩:=aR xQ Tryz.underlying29 y i (v 1 _ rfl) (by omega) rfl
 obtain ⟨st,T,ct,t1,t2,N,U,t5,V⟩:=aR jV Tryz.underlying29 y i (v 2 _ rfl) (by omega) rfl
 obtain ⟨dr,R,cr,C,r2,Q,Z,r5,Y⟩:=aR um Tryz.underlying29 y i (v 3 _ rfl) (by omega) rfl
 clear h v o u y i
 match cs,hl with
 | [c0,c1,c2,c3,c4,c5,c6,c7,c8,c9,c10,c11,c12,c13,c14],_=>
  simp [bZ] at B I t1 C
  exact ⟨rfl,⟨k,da,st,dr⟩,A,c,D,cd,T,ct,R,cr,by simp [aP,B,I,t1,C],⟨k2,d5,d4,m7 t2 U t5 V,r5,Z,DH Y,k3,k4⟩,L,O,r2,Q,N,k5,k6⟩⟩
theorem AD {H:Type} {B:TypeId×Value→H} {W:World} {base:Nat} {v:Value} {d:DataW H} {p:List MemPlace} (o:Value.okWide Tryz.prog W .any base 29 v) (h:DataW.Trod B Tryz.prog W 0 (fun _=>true) true 29 v d p) (z:fH Tryz.prog 29 d):
  ∃(A:Option Addr) (c:Nat) (D:Option Addr) (u:Nat) (T:Option Addr) (x:Nat) (R:Option Addr) (y:Nat) (i:Inp),v=.agg (aP A c D u T x R y i)∧gF W A c D T x R i∧i.data.length≤u∧u≤9223372036854775807∧i.draws.length≤y∧y≤9223372036854775807∧x≤9223372036854775807∧W64 i.cfg.sizes∧W64 [i.cfg.shift,i.cfg.workers,i.cfg.batch,i.cfg.micros,i.cfg.steps,i.cfg.bucket,i.cfg.chunk,i.cfg.window,i.cfg.cap]:=by
 obtain ⟨C,rfl,_⟩:=okWide_struct Tryz.underlying29 o
 obtain ⟨i,⟨A,c,D,u,T,x,R,y,e,I⟩,_⟩:=lW xO h z
 refine ⟨A,c,D,u,T,x,R,y,i,?_,I⟩
 obtain ⟨l⟩:=C
 have J:l=_:=e
 rw [J]
theorem vr {P:Program} {ops:Array Oper} {rest:List Oper} {op:Oper} {a:Act} {w:World} {Q:Exit→Act→World→Prop} {v:TypeId} {x:Operand} {b o:Nat} {xs:Array Value} {t:TypeId} {I:Nat×Nat} (i:Array Value)
  (hb:w.heap[b]?=some (.cells xs t I)) (hr:dt P v i.size) (hw:Region.wanted op (yielded ops a.tmps)=true) (y:op.op=.load v x) (H:a.eval x=.pointer (some ⟨b,o,none⟩)) (u:(xs.toList.drop o).take i.toList.length=i.toList)
  (h:wpList P ops Q rest (a.put op.dst (.agg i)) w):wpList P ops Q (op::rest) a w:=by
 obtain ⟨⟨d,B,A⟩,D⟩:=hr
 refine wpList_step fun K C=>?_
 rw [if_pos hw]
 exact wp_load_mid v x y b o H i.toList d (fu hb o u) B A (by simpa using D) (C _ _ (by simpa using h))
end Go.Proofs.YtgmajkppbhiopaaGreat
namespace Go.Proofs.YtgmajkppbhiopaaGreat
open Go.RowKit
theorem aC.i64 {H:Nat→Prop} {w:World} {b x:Nat} {i:Inp} {a:MAd} {m:Mst} (h:aC H w b i x a m) {j:Nat} {c:Array Value} (o:w.heap[j]?=some (.cells c 2 (0,0))) (hm:Mut b a j):j=a.bp∨j=a.bm∨j=a.bg:=by
 rcases hm with e | e | e | e | e | e
 ·exact absurd e (ib o h.blk (by decide))
 ·exact .inl e
 ·exact .inr (.inl e)
 ·exact .inr (.inr e)
 ·obtain ⟨rows,u,_⟩:=h.re
  exact absurd (show some j=_ by rw [e];rfl) (an o (by decide) u)
 ·exact absurd e.symm (an o (by decide) h.oO)
theorem aD.noI64 {w:World} {B l:Nat} {g:Option Nat} {s:LSt} (h:aD w B l g s) {j:Nat} {c:Array Value} (i:w.heap[j]?=some (.cells c 2 (0,0))):¬cB l g j:=by
 rintro (e | e)
 ·obtain ⟨o,hb⟩:=h.blk
  exact absurd e (ib i hb (by decide))
 ·subst e
  obtain ⟨o,hb⟩:=h.ringBlk
  exact absurd rfl (ib i hb (by decide))
theorem aD.mach {H G:Nat→Prop} {w o:World} {B l b x:Nat} {g:Option Nat} {s:LSt} {i:Inp} {a:MAd} {m:Mst} (y:aD w B l g s) (v:aC H w b i x a m) (u:a.bp<B∧a.bm<B∧a.bg<B) (hn:∀k,cB l g k→¬(Mut b a k∨G k))
  (A:∀(j:Nat) (c:Array Value),w.heap[j]?=some (.cells c 2 (0,0))→¬G j) (hk:Keep (fun k=>Mut b a k∨G k) w o):aD o B l g s:=
 y.keep hk (hn l (.inl rfl)) (fun j h=>hn j (.inr h)) (fun j c h hb e=>e.elim (fun e=>by rcases v.i64 h e with e | e | e<;>omega) (A j c h))
theorem aD.lt {w:World} {B l:Nat} {g:Option Nat} {s:LSt} (h:aD w B l g s):∀k,cB l g k→k<w.heap.size:=by
 rintro k (e | e)
 ·rw [e];exact h.blocks.1
 ·exact (h.blocks.2 k e).2
def vU (l:Nat) (g:Option Nat) (i:Nat) (h:Option Nat) (k:Nat):Prop:=cB l g k∨cB i h k
def WH (E:Nat→Prop) (l:Nat) (g:Option Nat) (i:Nat) (h:Option Nat) (k:Nat):Prop:=vU l g i h k∨E k
structure Wld (E:Nat→Prop) (B:Nat) (w:World) (b l l':Nat) (i:Inp) (x:Nat) (a:MAd) (m:Mst) (s t:LSt) (g g':Option Nat):Prop where
 mach:aC (WH E l g l' g') w b i x a m
 hn:∀k,Mut b a k→¬WH E l g l' g' k
 lf:aD w B l g s
 lt:aD w B l' g' t
 dj:∀k,cB l g k→¬cB l' g' k
 lo:b<B∧a.bp<B∧a.bm<B∧a.bg<B
 hB:B≤w.heap.size
 ne:∀k,vU l g l' g' k→¬E k
 ex:∀k,E k→k<w.heap.size
theorem Wld.below {E:Nat→Prop} {B:Nat} {w u:World} {b l v x:Nat} {i:Inp} {a:MAd} {m:Mst} {s t:LSt} {g o:Option Nat} (h:Wld E B w b l v i x a m s t g o) (hb:Below w.heap.size w u):Wld E B u b l v i x a m s t g o:=
 ⟨h.mach.below hb h.hn,h.hn,h.lf.below hb,h.lt.below hb,h.dj,h.lo,ES h.hB hb.size,h.ne,fun k e=>ET (h.ex k e) hb.size⟩
theorem Wld.newL {E:Nat→Prop} {B:Nat} {w:World} {b l o x:Nat} {i:Inp} {a:MAd} {m:Mst} {s t:LSt} {g u:Option Nat} (h:Wld E B w b l o i x a m s t g u):∀k,w.heap.size≤k→¬vU l g o u k:=by
 rintro k hk (e | e)
 ·have:=h.lf.lt k e;omega
 ·have:=h.lt.lt k e;omega
theorem Wld.new {E:Nat→Prop} {B:Nat} {w:World} {b l o x:Nat} {i:Inp} {a:MAd} {m:Mst} {s t:LSt} {g u:Option Nat} (h:Wld E B w b l o i x a m s t g u):∀k,w.heap.size≤k→¬WH E l g o u k:=by
 rintro k hk (e | e)
 ·exact h.newL k hk e
 ·have:=h.ex k e;omega
def Dw (b:Nat) (a:MAd) (l:Nat) (g:Option Nat) (i:Nat) (h:Option Nat) (k:Nat):Prop:=Mut b a k∨vU l g i h k
def gC (E:Nat→Prop) (B:Nat) (w:World) (b l h:Nat) (i:Inp) (x:Nat) (a:MAd) (g u:Option Nat) (m1:Mst) (s1 t1:LSt) (o:World):Prop:=
 ∃a1 g1,Wld E B o b l h i x a1 m1 s1 t1 g g1∧Keep (Dw b a l g h u) w o∧∀k,Dw b a1 l g h g1 k→Dw b a l g h u k∨w.heap.size≤k
theorem gC.below {E:Nat→Prop} {B:Nat} {w u:World} {b l v x:Nat} {i:Inp} {a:MAd} {m:Mst} {s t:LSt} {g o:Option Nat} (h:Wld E B w b l v i x a m s t g o) (hb:Below w.heap.size w u):gC E B w b l v i x a g o m s t u:=
 ⟨a,o,h.below hb,Keep.below hb,fun _ h=>.inl h⟩
theorem gC.own {E:Nat→Prop} {B:Nat} {w C:World} {b l y x:Nat} {i:Inp} {a:MAd} {m m1:Mst} {s t:LSt} {g v:Option Nat} (h:Wld E B w b l y i x a m s t g v) {T:World→Mst→Prop} (N:∀w m,T w m→m=m1) (J:s8 (WH E l g y v) (fun _=>False) b i x a m T w C):gC E B w b l y i x a g v (adv i x m1) s t C:=by
 obtain ⟨I,V,D, -, -,u,H,R,O⟩:=J
 rw [N _ _ O] at D
 obtain ⟨L,Q,U⟩:=R
 have o:=h.lo
 have A:∀k,Mut b I k→¬WH E l g y v k:=fun k hk=>(H k hk).elim (h.hn k) (h.new k)
 exact ⟨I,v,⟨D,A,h.lf.mach h.mach o.2 (fun k hk e=>e.elim (fun e=>h.hn k e (.inl (.inl hk))) id) (fun _ _ _ h=>h) u,h.lt.mach h.mach o.2 (fun k hk e=>e.elim (fun e=>h.hn k e (.inl (.inr hk))) id) (fun _ _ _ h=>h) u,h.dj,by rw [L,Q,U];exact o,ES h.hB u.size,h.ne,fun k e=>ET (h.ex k e) u.size⟩,
  u.mono fun k _ e=>e.elim .inl False.elim,fun k hk=>hk.elim (fun e=>(H k e).imp .inl id) (fun e=>.inl (.inr e))⟩
theorem C3 {E:Nat→Prop} {B:Nat} {w:World} {b l Q x:Nat} {i:Inp} {a:MAd} {m m1:Mst} {s t s1 t1:LSt} {g R:Option Nat} {C:Nat} (h:Wld E B w b l Q i x a m s t g R) (I:bP i) (hm:MOk i x m) (a0:yQ i x s) (N:t.msgs.length<100000000000)
  (a1: -9223372036854775808≤i.cfg.rate∧i.cfg.rate≤9223372036854775807) (a3: -9223372036854775808≤i.cfg.mom∧i.cfg.mom≤9223372036854775807) (hr:fG i x m s t m1 s1 t1 C):
  Calls Tryz.prog 216 #[.pointer (some ⟨b,0,none⟩),.pointer (some ⟨l,0,none⟩),.pointer (some ⟨Q,0,none⟩)] w fun e J=>e=.returned (FQ (C:Nat))∧gC E B w b l Q i x a g R m1 s1 t1 J:=by
 have A:∀{y:Itm} {ac:Acn},(bf i x m.st)[m.nx]?=some y→y.a=some ac→ac.at'.1<ac.at'.2∧ac.at'.2≤i.start.length:=fun o u=>Cp I.ok (dD o).2 u
 cases hr with
 | fin hf=>
  refine (vT h.mach hf _ _).mono ?_
  rintro e J ⟨he,k⟩
  exact ⟨he,gC.below h k⟩
 | own y o u=>
  refine (rW h.mach h.hn h.new I o (hm.okAt I o u) a1 a3 _ _).mono ?_
  rintro e J ⟨he,hd⟩
  exact ⟨he,gC.own h (fun _ _ e=>e) hd⟩
 | send y ac o u hk hroom=>
  refine (AY h.mach h.hn h.new I o hk u (A o u).1 (A o u).2 _ h.lt hroom N h.hB (fun k e=>.inl (.inr e)) h.lo.1).mono ?_
  rintro e J ⟨he,H1,V,m2,h1,O, -, -, -,H,Z,⟨f1,f2,f3⟩,rfl,Y,hH,hL,hg⟩
  have v:=h.lo
  have L:∀k,WH E l g Q Y k→H1 k:=fun k e=>(hH k).2 (by
   rcases e with (e | e | e) | e
   ·exact .inl (.inl (.inl e))
   ·exact .inl (.inl (.inr (.inl e)))
   ·exact .inr e
   ·exact .inl (.inr e))
  have D:∀k,Y=some k→cB Q R k∨w.heap.size≤k:=fun k e=>by
   rcases hg with rfl | ⟨j,e1,e2⟩
   ·exact .inl (.inr e)
   ·rw [e1] at e;cases e;exact .inr e2
  have T:∀k,Mut b V k→¬WH E l g Q Y k:=fun k hk e=>O k hk (L k e)
  refine ⟨he,V,Y,⟨h1.step (Keep.refl _ _) (fun k _ e=>L k e) T,T,h.lf.mach h.mach v.2 (fun k hk e=>e.elim (fun e=>h.hn k e (.inl (.inl hk))) (h.dj k hk)) (fun j c hj=>h.lt.noI64 hj) H,hL,fun k hk e=>?_,by rw [f1,f2,f3];exact v,ES h.hB H.size,fun k hk hE=>?_,fun k e=>ET (h.ex k e) H.size⟩,
   H.mono fun k _ e=>e.imp id .inr,fun k hk=>?_⟩
  ·rcases e with e | e
   ·exact h.dj k hk (.inl e)
   ·rcases D k e with e | e
    ·exact h.dj k hk e
    ·have:=h.lf.lt k hk;omega
  ·rcases hk with e | e | e
   ·exact h.ne k (.inl e) hE
   ·exact h.ne k (.inr (.inl e)) hE
   ·rcases D k e with e | e
    ·exact h.ne k (.inr e) hE
    ·have:=h.ex k hE;omega
  ·rcases hk with e | e | e | e
   ·exact (Z k e).imp .inl id
   ·exact .inl (.inr (.inl e))
   ·exact .inl (.inr (.inr (.inl e)))
   ·exact (D k e).imp (fun e=>.inr (.inr e)) id
 | full y ac o u hk hf=>
  refine (A0 h.mach h.hn h.new I o hk u (A o u).1 (A o u).2 _ h.lt hf).mono ?_
  rintro e J ⟨he,k⟩
  exact ⟨he,gC.below h k⟩
 | recv y ac o u hk hlt heq=>
  have U:=a0.len I (dD o).1 (dD o).2 u (pQ (dD o).2 u hk) hlt heq
  have v:=h.lo
  refine (AZ h.mach h.hn h.new I o hk u (A o u).1 (A o u).2 _ h.lf (fun k e=>.inl (.inl e)) v.1 v.2.2.2 hlt heq U.1 U.2).mono ?_
  rintro e J ⟨he,V,m2,h1, -, -,H,Z,⟨f1,f2,f3⟩,rfl,hL⟩
  have O:∀k,Mut b V k→¬WH E l g Q R k:=fun k hk=>(Z k hk).elim (h.hn k) (h.new k)
  exact ⟨he,V,R,⟨h1,O,hL,h.lt.mach h.mach v.2 (fun k hk e=>e.elim (fun e=>h.hn k e (.inl (.inr hk))) (fun e=>h.dj k (.inl e) hk)) (fun j c hj e=>h.lf.noI64 hj (.inl e)) H,h.dj,by rw [f1,f2,f3];exact v,ES h.hB H.size,h.ne,fun k e=>ET (h.ex k e) H.size⟩,
   H.mono fun k _ e=>e.imp id (fun e=>.inl (.inl e)),fun k hk=>hk.elim (fun e=>(Z k e).imp .inl id) (fun e=>.inl (.inr e))⟩
 | none y ac o u hk h0=>
  refine (nl h.mach h.hn h.new I o hk u _ h.lf (.inl h0)).mono ?_
  rintro e J ⟨he,k⟩
  rw [if_pos h0] at he
  exact ⟨he,gC.below h k⟩
 | other y ac o u hk hlt hne=>
  refine (nl h.mach h.hn h.new I o hk u _ h.lf (.inr ⟨hlt,hne⟩)).mono ?_
  rintro e J ⟨he,k⟩
  rw [if_neg (by omega)] at he
  exact ⟨he,gC.below h k⟩
def dq (w:World) (A:Option Addr) (h:List Msg):Prop:=
 ∃rows,Rd w A (List.flatten rows)∧rows.length=h.length∧(∀r∈rows,r.length=6)∧∀j,j<h.length→wD w (ed rows j) (aG h j)
theorem wD.same {w i:World} {o:List Value} {m:Msg} (h:wD w o m) (hb:∀b,b<w.heap.size→i.heap[b]?=w.heap[b]?):wD i o m:=by
 obtain ⟨A,c,e,hr⟩:=h
 exact ⟨A,c,e,hr.same hb⟩
theorem dq.same {w o:World} {A:Option Addr} {i:List Msg} (h:dq w A i) (hb:∀b,b<w.heap.size→o.heap[b]?=w.heap[b]?):dq o A i:=by
 obtain ⟨rows,y,v,B,x⟩:=h
 exact ⟨rows,y.same hb,v,B,fun j u=>(x j u).same hb⟩
theorem dq.below {w o:World} {A:Option Addr} {i:List Msg} (h:dq w A i) (hb:Below w.heap.size w o):dq o A i:=h.same hb.block
theorem dq.nil (w:World) (A:Option Addr):dq w A []:=⟨[],Rd.nil _ _,rfl,by simp,by simp⟩
theorem zN:dt Tryz.prog 24 12:=⟨⟨_,Tryz.underlying24,rfl⟩,by kernel_rfl⟩
section
variable {u v:World}
theorem kz {A:Option Addr} {l:List Int} {c:Nat} (h:bY u A l c) (i:Ext u v):bY v A l c:=⟨h.hc,h.hl,aJ h.hr i,h.hw⟩
theorem Dd {A:Option Addr} {c:Nat} {D T R:Option Addr} {ct:Nat} {i:Inp} (h:iC u A c D T ct R i) (o:Ext u v):iC v A c D T ct R i:=
 ⟨⟨h.c.hc,h.c.hm,h.c.hl,aJ h.c.hr o⟩,gu cz h.d o,h.dl,kz h.t o,h.tl,aJ h.r o,h.rl,h.ru,h.ra,h.rm⟩
theorem Bw {A:Option Addr} {i:List Msg} (h:dq u A i) (hb:Ext u v):dq v A i:=by
 obtain ⟨rows,C,x,D,y⟩:=h
 exact ⟨rows,aJ C hb,x,D,fun j o=>by obtain ⟨H,B,e,hr⟩:=y j o;exact ⟨H,B,e,aJ hr hb⟩⟩
end
structure RdF (S:Nat→Prop) (w W0:World) (i:Inp) (x:Nat) (m:Mst) (s t:LSt) (y:Itm) (A:Option Addr) (c:Nat) (D:Option Addr) (cd:Nat) (T:Option Addr) (ct:Nat) (R:Option Addr) (cr:Nat) (PA:Option Addr) (pc:Nat) (MA:Option Addr) (mc:Nat) (GA:Option Addr) (gc:Nat) (SA:Option Addr) (sc bI oI ic:Nat) (B1:Option Addr) (c1:Nat) (B2:Option Addr) (c2 dn il:Nat):Prop where
 eW:(((((w.alloc (.cells #[.slice A i.cfg.sizes.length c,FQ i.cfg.shift,FQ i.cfg.rate,FQ i.cfg.mom,FQ i.cfg.workers,FQ i.cfg.batch,FQ i.cfg.micros,FQ i.cfg.steps,FQ i.cfg.bucket,FQ i.cfg.chunk,FQ i.cfg.window,FQ i.cfg.cap,.slice D i.data.length cd,.slice T i.start.length ct,.slice R i.draws.length cr,FQ (x:Nat),.slice PA i.start.length pc,.slice MA i.start.length mc,.slice GA i.start.length gc,.slice SA m.rc.length sc,.slice (some ⟨bI,oI,none⟩) il ic,FQ (dn:Nat)] 106)).alloc (.cells #[FQ (s.cap:Nat),.slice B1 s.msgs.length c1,FQ (s.recv:Nat),FQ (s.peak:Nat)] 75)).alloc (.cells #[FQ (t.cap:Nat),.slice B2 t.msgs.length c2,FQ (t.recv:Nat),FQ (t.peak:Nat)] 75)).alloc (.cells #[FR,FQ 0,FQ 0,FQ 0,FQ 0,FQ 0,FQ 0,FQ 0,FQ 0,FQ 0,FQ 0,FQ 0,FR,FR,FR,FQ 0,FR,FR,FR,FR,FR,FQ 0] 106)).alloc (.cells #[FQ 0,FR,FQ 0,FQ 0] 75)).alloc (.cells #[FQ 0,FR,FQ 0,FQ 0] 75)=W0
 bx:∀w',Below W0.heap.size W0 w'→w'.heap[w.heap.size]?=some (.cells #[.slice A i.cfg.sizes.length c,FQ i.cfg.shift,FQ i.cfg.rate,FQ i.cfg.mom,FQ i.cfg.workers,FQ i.cfg.batch,FQ i.cfg.micros,FQ i.cfg.steps,FQ i.cfg.bucket,FQ i.cfg.chunk,FQ i.cfg.window,FQ i.cfg.cap,.slice D i.data.length cd,.slice T i.start.length ct,.slice R i.draws.length cr,FQ (x:Nat),.slice PA i.start.length pc,.slice MA i.start.length mc,.slice GA i.start.length gc,.slice SA m.rc.length sc,.slice (some ⟨bI,oI,none⟩) il ic,FQ (dn:Nat)] 106 (0,0))∧w'.heap[w.heap.size+1]?=some (.cells #[FQ (s.cap:Nat),.slice B1 s.msgs.length c1,FQ (s.recv:Nat),FQ (s.peak:Nat)] 75 (0,0))∧w'.heap[w.heap.size+1+1]?=some (.cells #[FQ (t.cap:Nat),.slice B2 t.msgs.length c2,FQ (t.recv:Nat),FQ (t.peak:Nat)] 75 (0,0))∧w'.heap[w.heap.size+1+1+1]?=some (.cells #[FR,FQ 0,FQ 0,FQ 0,FQ 0,FQ 0,FQ 0,FQ 0,FQ 0,FQ 0,FQ 0,FQ 0,FR,FR,FR,FQ 0,FR,FR,FR,FR,FR,FQ 0] 106 (0,0))∧w'.heap[w.heap.size+1+1+1+1]?=some (.cells #[FQ 0,FR,FQ 0,FQ 0] 75 (0,0))∧w'.heap[w.heap.size+1+1+1+1+1]?=some (.cells #[FQ 0,FR,FQ 0,FQ 0] 75 (0,0))
 K:Below w.heap.size w W0
 I0:iC (aQ S w) A c D T ct R i
 P0:bY (aQ S w) PA m.P pc
 M0:bY (aQ S w) MA m.M mc
 G0:bY (aQ S w) GA m.G gc
 R0:cZ rEx 2 (aQ S w) SA m.rc
 It0:Rd (aQ S w) (some ⟨bI,oI,none⟩) (bJ (de i x))
 Pl:m.P.length=i.start.length
 Ml:m.M.length=i.start.length
 Gl:m.G.length=i.start.length
 s0:dq (aQ S w) B1 s.msgs
 t0:dq (aQ S w) B2 t.msgs
 s2:s.msgs.length≤c1
 t2:t.msgs.length≤c2
 il':(de i x).length=il
 dn':bF i x m=dn
 s':bP i
 rw':W0.rangeAt bI (oI+dn*12) (aS y)
 S':∀k,S k→k<w.heap.size
 wd:IntKind.i64.wrap ((dn:Int)+1)=((dn:Int)+1)
 loc:(∀w',Below W0.heap.size W0 w'→w'.cell? ⟨w.heap.size,20,none⟩=some (.slice (some ⟨bI,oI,none⟩) il ic))∧(∀w',Below W0.heap.size W0 w'→w'.cell? ⟨w.heap.size,21,none⟩=some (FQ (dn:Nat)))∧(∀w',Below W0.heap.size W0 w'→w.heap.size<w'.heap.size)∧(dn:Int)<il∧¬(il:Int)≤dn∧¬(dn:Int)<0∧¬il≤dn
section
variable {S:Nat→Prop} {w W0:World} {i:Inp} {x:Nat} {m:Mst} {s t:LSt} {y:Itm} {A:Option Addr} {c:Nat} {D:Option Addr} {cd:Nat} {T:Option Addr} {ct:Nat} {R:Option Addr} {cr:Nat} {PA:Option Addr} {pc:Nat} {MA:Option Addr} {mc:Nat} {GA:Option Addr} {gc:Nat} {SA:Option Addr} {sc bI oI ic:Nat} {B1:Option Addr} {c1:Nat} {B2:Option Addr} {c2 dn il:Nat}
variable (h:RdF S w W0 i x m s t y A c D cd T ct R cr PA pc MA mc GA gc SA sc bI oI ic B1 c1 B2 c2 dn il)
include h
theorem RdF.hI:iC w A c D T ct R i:=Dd h.I0 (dM S w)
theorem RdF.hP:bY w PA m.P pc:=kz h.P0 (dM S w)
theorem RdF.hM:bY w MA m.M mc:=kz h.M0 (dM S w)
theorem RdF.hG:bY w GA m.G gc:=kz h.G0 (dM S w)
theorem RdF.hR:cZ rEx 2 w SA m.rc:=gu cz h.R0 (dM S w)
theorem RdF.hs1:dq w B1 s.msgs:=Bw h.s0 (dM S w)
end
section
variable {P:Program} {ops:Array Oper} {Q:Exit→Act→World→Prop} {X:Nat} {V:World}
end
theorem dq.at_ {w:World} {A:Option Addr} {i:List Msg} (h:dq w A i) (j:Nat) (H:j<i.length):
  ∃b o v x,A=some ⟨b,o,none⟩∧ot w b (o+j*6) (aG i j).tag (.slice v (aG i j).vals.length x)∧Rd w v (ar .i64 (aG i j).vals):=by
 obtain ⟨rows,C,N,L,I⟩:=h
 obtain ⟨v,x,e,hr⟩:=I j H
 have D:∀t,t<6→(List.flatten rows)[j*6+t]?=((aG i j).tag.cells++[Value.slice v (aG i j).vals.length x])[t]?:=fun t y=>by
  rw [me L j t (by omega) y,e]
 obtain ⟨b,o,rfl,c0⟩:=C (j*6+0) _ (D 0 (by omega))
 have hc:∀t u,t<6→((aG i j).tag.cells++[Value.slice v (aG i j).vals.length x])[t]?=some u→w.cell? ⟨b,o+j*6+t,none⟩=some u:=fun t u y J=>by
  obtain ⟨O,Q,B,c⟩:=C (j*6+t) u ((D t y).trans J)
  injection B with B;injection B with e1 e2 _
  subst e1;subst e2
  rw [FH];exact c
 exact ⟨b,o,v,x,rfl,⟨hc 0 _ (by omega) rfl,hc 1 _ (by omega) rfl,hc 2 _ (by omega) rfl,hc 3 _ (by omega) rfl,hc 4 _ (by omega) rfl,hc 5 _ (by omega) rfl⟩,hr⟩
theorem qF {rows:List (List Value)} {k:Nat} (h:∀r∈rows,r.length=k):∀n,(List.flatten rows).drop (n*k)=List.flatten (rows.drop n):=by
 induction rows with
 | nil=>intro n;simp
 | cons r l ih=>
  intro n
  cases n with
  | zero=>simp
  | succ n=>
   have hr:=h r (by simp)
   rw [List.flatten_cons,List.drop_append,List.drop_of_length_le (by rw [hr,Nat.add_mul];omega),List.nil_append,hr,show (n+1)*k-k=n*k by rw [Nat.add_mul];omega,ih (fun r hr=>h r (by simp [hr])) n,Fm]
theorem dq.slice {w:World} {A:Option Addr} {i:List Msg} (h:dq w A i) (n:Nat) (v:Option Addr) (H:∀b o,A=some ⟨b,o,none⟩→v=some ⟨b,o+n*6,none⟩):dq w v (i.drop n):=by
 by_cases hn:n<i.length
 ·obtain ⟨b,o,B,d,rfl,_,_⟩:=h.at_ 0 (by omega)
  obtain rfl:=H b o rfl
  obtain ⟨rows,D,y,u,C⟩:=h
  refine ⟨rows.drop n,?_,by simp [y],fun r hr=>u r (List.mem_of_mem_drop hr),fun j x=>?_⟩
  ·rw [←qF u];exact D.drop _
  ·have:=C (n+j) (by simp at x;omega)
   simpa [ed,aG] using this
 ·rw [List.drop_of_length_le (by omega)];exact dq.nil _ _
section
variable {P:Program} {ops:Array Oper} {Q:Exit→Act→World→Prop} {S:World→Prop} {n:Nat}
structure XAS (P:Program) (ops:Array Oper) (Q:Exit→Act→World→Prop) (S:World→Prop) (n i:Nat) (L:List Nat) (a:Act) (w:World):Prop where
 out:∃o,ops[i]?=some o∧∀K':Act→World→Prop,Shut (∀a w,S w→(S w→XA P ops Q S n (i::L) a w)→K' a w)→if Region.wanted o (yielded ops a.tmps)=true then Oper.wp P o a w K' Q else K' (a.put o.dst undef) w
theorem XAS.v {L:List Nat} {a:Act} {w:World} {i:Nat} {o:Oper} (h:World) (v:Value) (x:S h) (k:XA P ops Q S n (i::L) (a.put o.dst v) h) (u:ops[i]?=some o:=by (simp only [Fj,Fk,Fl];rfl))
  (hw:Region.wanted o (yielded ops a.tmps)=true:=by rfl) (he:(execOp a.eval o).run P w=.ok (.value v) h:=by go_simp):XAS P ops Q S n i L a w:=by
 refine ⟨o,u,fun A y=>?_⟩
 rw [if_pos hw]
 unfold Oper.wp
 rw [he]
 exact y.out _ _ x fun _=>k
theorem XAS.o {L:List Nat} {a:Act} {w:World} {o:Oper} {i:Nat}
  (h:∀u:Act→World→Prop,Shut (∀a w,S w→(S w→XA P ops Q S n (i::L) a w)→u a w)→if Region.wanted o (yielded ops a.tmps)=true then Oper.wp P o a w u Q else u (a.put o.dst undef) w)
  (v:ops[i]?=some o:=by (simp only [Fj,Fk,Fl];rfl)):XAS P ops Q S n i L a w:=⟨o,v,h⟩
theorem XA.two {L:List Nat} {a:Act} {w:World} (i j:Nat) (A:XAS P ops Q S n i L a w) (u:XAS P ops Q S n j L a w) (hr:bW ops L=[i,j]:=by decide +kernel):XA P ops Q S n L a w:=by
 obtain ⟨I,y,A⟩:=A
 obtain ⟨J,o,u⟩:=u
 have C:unl (aL ops.size L)=unl (aL ops.size (i::L))+1:=bQ (by rw [hr];simp)
 have H:unl (aL ops.size L)=unl (aL ops.size (j::L))+1:=bQ (by rw [hr];simp)
 have D:unl (aL ops.size (j::L))=unl (aL ops.size (i::L)):=by omega
 refine ⟨?_⟩
 rw [C]
 refine a9 (by rw [cD];exact hr) (by simp) (aB.cons y (fun B x=>A B fun a w v hw=>x.out a w v fun h=>(hw h).out) (aB.cons o (fun B x=>u B fun a w v hw=>x.out a w v fun h=>?_) aB.nil))
 have:=(hw h).out
 rw [D] at this
 exact this
end
theorem sd (i:Inp) (x:Nat) (m:Mst) (y:Itm):(jC i x m y).st=m.st∧(jC i x m y).nx=m.nx:=by
 unfold jC
 split
 ·exact ⟨rfl,rfl⟩
 ·split
  ·exact ⟨rfl,rfl⟩
  ·split<;>exact ⟨rfl,rfl⟩
theorem n9 {i:Inp} (v:bP i) {x:Nat} {m m1:Mst} {y:Itm} (u:(bf i x m.st)[m.nx]?=some y) (h:m1.st=m.st) (o:m1.nx=m.nx):bF i x (adv i x m1)=bF i x m+1:=by
 have hl:=(Fq.1 u).1
 have e:bF i x m1=bF i x m:=by unfold bF;rw [h,o]
 unfold adv
 by_cases hc:m1.nx+1<(bf i x m1.st).length
 ·rw [if_pos hc,←e];exact nO i x m1
 ·rw [if_neg hc,←e];exact nN v (by rw [h,o] at *;omega)
end Go.Proofs.YtgmajkppbhiopaaGreat
