/- No condition. -/
import Derived.Test.YtgmajkppbhiopaaGreatA00
import Derived.Test.YtgmajkppbhiopaaGreatA19
import Derived.Test.YtgmajkppbhiopaaGreatA18
import Derived.Test.YtgmajkppbhiopaaGreatA12
import Derived.Test.YtgmajkppbhiopaaGreatA02
set_option linter.unusedSimpArgs false
set_option linter.unusedVariables false
set_option maxRecDepth 100000
set_option maxHeartbeats 4000000
namespace Go.Proofs.YtgmajkppbhiopaaGreat
open Go.RowKit
def Cor.tg (c:Cor):Tg:=⟨c.st,c.bk,c.ph,c.rd,c.ch⟩
theorem BQ (a:Acn):a.cor.tg=a.tg:=rfl
structure WSt where
 m:Nat→Mst
 s:Nat→LSt
def aI {α:Type} (f:Nat→α) (k:Nat) (v:α) (y:Nat):α:=if y=k then v else f y
theorem aW {α:Type} (f:Nat→α) (k:Nat) (v:α):aI f k v k=v:=if_pos rfl
theorem aO {α:Type} (f:Nat→α) {k y:Nat} (v:α) (h:y≠k):aI f k v y=f y:=if_neg h
theorem fO {α:Type} (f:Nat→α) (k:Nat):aI f k (f k)=f:=by
 funext y
 unfold aI
 split
 ·next h=>rw [h]
 ·rfl
def WSt.pos (i:Inp) (M:WSt) (x:Nat):Nat:=bF i x (M.m x)
structure WOk (i:Inp) (M:WSt):Prop where
 mok:∀x,x<(ao i).W→MOk i x (M.m x)
 lok:∀x,x<(ao i).W→(M.s x).cap=i.cfg.cap.toNat∧(M.s x).recv≤(M.s x).msgs.length∧(M.s x).msgs.length≤(M.s x).recv+i.cfg.cap.toNat∧(M.s x).peak≤i.cfg.cap.toNat
 sn:∀x,x<(ao i).W→(M.s x).msgs.length=sN i x (M.pos i x)
 rn:∀x,x<(ao i).W→(M.s x).recv=rN i (nxW (ao i).W x) (M.pos i (nxW (ao i).W x))
 tg:∀x,x<(ao i).W→∀j,j<(M.s x).msgs.length→∃c,(dU (de i x))[j]?=some c∧(aG (M.s x).msgs j).tag=c.tg∧(aG (M.s x).msgs j).vals.length=c.at'.2-c.at'.1∧W64 (aG (M.s x).msgs j).vals
def Pk (i:Inp) (M:WSt) (x:Nat) (M1:WSt) (C:Nat):Prop:=
 ∃m1 s1 t1,fG i x (M.m x) (M.s (pvW (ao i).W x)) (M.s x) m1 s1 t1 C∧M1=⟨aI M.m x m1,aI (aI M.s (pvW (ao i).W x) s1) x t1⟩
theorem oU {l:List Itm} {p:Nat} {y:Itm} (h:l[p]?=some y):l.take (p+1)=l.take p++[y]:=by
 rw [List.take_add_one,h];rfl
theorem qo {i:Inp} {x p:Nat} {y:Itm} (h:(de i x)[p]?=some y):sN i x (p+1)=sN i x p+(if y.kind=3 then 1 else 0):=by
 unfold sN
 rw [oU h,js,Fp]
 congr 1
 rcases jp (List.mem_of_getElem? h) with ⟨u,v,_⟩ | ⟨a,o,hk⟩
 ·rw [if_neg v];unfold dU df;simp [u]
 ·cases hs:a.send<;>rw [hs] at hk<;>rw [hk]<;>unfold dU df<;>simp [o,hs]
theorem qt {i:Inp} {x p:Nat} {y:Itm} (h:(de i x)[p]?=some y):rN i x (p+1)=rN i x p+(if y.kind=4 then 1 else 0):=by
 unfold rN
 rw [oU h,la,Fp]
 congr 1
 rcases jp (List.mem_of_getElem? h) with ⟨u,_,v⟩ | ⟨a,o,hk⟩
 ·rw [if_neg v];unfold ey df;simp [u]
 ·cases hs:a.send<;>rw [hs] at hk<;>rw [hk]<;>unfold ey df<;>simp [o,hs]
theorem El {W x:Nat} (h:x<W):pvW W (nxW W x)=x:=by
 unfold nxW pvW
 rcases Fa (x+1) W with i | i
 ·rw [Nat.mod_eq_of_lt i,show x+1+W-1=x+W by omega,Nat.add_mod_right,Nat.mod_eq_of_lt h]
 ·have e:x+1=W:=by omega
  rw [e,Nat.mod_self,show 0+W-1=x by omega,Nat.mod_eq_of_lt h]
theorem Ae {W x:Nat} (h:x<W) (i:2≤W):pvW W x≠x:=by
 unfold pvW
 rcases Nat.eq_zero_or_pos x with e | e
 ·subst e
  rw [show 0+W-1=W-1 by omega,Nat.mod_eq_of_lt (by omega)]
  omega
 ·rw [show x+W-1=(x-1)+W by omega,Nat.add_mod_right,Nat.mod_eq_of_lt (by omega)]
  omega
theorem wB {p:Pln} {x st:Nat} {a:Acn} (h:a∈df (aw p x st)):2≤p.W:=by
 rw [p7] at h
 simp only [kJ,kK,List.mem_flatMap,List.mem_range] at h
 obtain ⟨_,_,_,_,r,hr,_⟩:=h
 omega
theorem oc {l:List Itm} {y:Itm} {a:Acn} (h:y∈l) (i:y.a=some a):a∈df l:=by
 unfold df
 exact List.mem_filterMap.2 ⟨y,h,i⟩
theorem Du {i:Inp} {x:Nat} {a:Acn} (h:a∈df (de i x)):∃st,st<i.cfg.steps.toNat∧a∈df (aw (ao i) x st):=by
 unfold df at h
 obtain ⟨y,u,v⟩:=List.mem_filterMap.1 h
 obtain ⟨st,o,u⟩:=List.mem_flatMap.1 u
 exact ⟨st,List.mem_range.1 o,oc u v⟩
section
variable {i:Inp} {M M1:WSt} {x C:Nat}
theorem WOk.msgI (h:WOk i M) (L:x<(ao i).W):yQ i x (M.s (pvW (ao i).W x)):=fun j B=>by
 have A:pvW (ao i).W x<(ao i).W:=jg (by omega)
 obtain ⟨c,v,C,I,D⟩:=h.tg _ A j B
 refine ⟨D,.inr ?_⟩
 have e:=kr i (pvW (ao i).W x) i.cfg.steps.toNat
 rw [show (pvW (ao i).W x+1)%(ao i).W=x from rL L] at e
 rw [show dU (de i (pvW (ao i).W x))=ey (de i x) from e] at v
 obtain ⟨a,o,J,hc⟩:=pt v
 obtain ⟨st,_,o⟩:=Du o
 unfold df at o
 obtain ⟨y,H,u⟩:=List.mem_filterMap.1 o
 rw [I,C,←hc,BQ,←Co H u J]
 rfl
theorem WOk.cur (h:WOk i M) (o:bP i) (u:x<(ao i).W):(bf i x (M.m x).st)[(M.m x).nx]?=(de i x)[M.pos i x]?:=(h.mok x u).cur o
theorem WOk.pick (h:WOk i M) (y:bP i) (o:x<(ao i).W):∃M1 C,Pk i M x M1 C:=by
 have u:pvW (ao i).W x<(ao i).W:=jg (by omega)
 obtain ⟨m1,s1,t1,C,v⟩:=wO i x (M.m x) (M.s (pvW (ao i).W x)) (M.s x) (h.lok _ u).2.1 (by rw [(h.lok x o).1];exact (h.lok x o).2.2.1)
 exact ⟨_,C,m1,s1,t1,v,rfl⟩
theorem kl (i:Inp) (M:WSt) (x:Nat) (m1:Mst) (S:Nat→LSt) (z:Nat):(⟨aI M.m x m1,S⟩:WSt).pos i z=if z=x then bF i x m1 else M.pos i z:=by
 unfold WSt.pos
 show bF i z (aI M.m x m1 z)=_
 by_cases e:z=x
 ·subst e;rw [if_pos rfl,aW]
 ·rw [if_neg e,aO _ _ e]
theorem zA (M:WSt) (x p:Nat):(⟨aI M.m x (M.m x),aI (aI M.s p (M.s p)) x (M.s x)⟩:WSt)=M:=by
 rw [fO,fO,fO]
theorem WOk.own (h:WOk i M) (D:x<(ao i).W) {m1:Mst} {y:Itm} (v:(de i x)[M.pos i x]?=some y) (hm:MOk i x m1) (A:bF i x m1=M.pos i x+1) (C:y.kind≠3) (B:y.kind≠4):WOk i ⟨aI M.m x m1,M.s⟩:=by
 have o:∀z,(⟨aI M.m x m1,M.s⟩:WSt).pos i z=if z=x then M.pos i x+1 else M.pos i z:=fun z=>by rw [kl,A]
 refine ⟨fun z u=>?_,h.lok,fun z u=>?_,fun z u=>?_,h.tg⟩
 ·by_cases e:z=x
  ·subst e;show MOk i z (aI M.m z m1 z);rw [aW];exact hm
  ·show MOk i z (aI M.m x m1 z);rw [aO _ _ e];exact h.mok z u
 ·rw [o z]
  by_cases e:z=x
  ·subst e;rw [if_pos rfl,qo v,if_neg C];exact h.sn z u
  ·rw [if_neg e];exact h.sn z u
 ·rw [o]
  by_cases e:nxW (ao i).W z=x
  ·rw [if_pos e,e,qt v,if_neg B];have:=h.rn z u;rw [e] at this;exact this
  ·rw [if_neg e];exact h.rn z u
theorem Pk.ok (hp:Pk i M x M1 C) (h:WOk i M) (Z:bP i) (N:x<(ao i).W) (hw:W64 (M.m x).G):
  WOk i M1∧(C=0→M1.pos i x=M.pos i x+1∧(∀z,z≠x→M1.m z=M.m z)∧M.pos i x<(de i x).length)∧(C≠0→M1=M)∧(C=0↔can i i.cfg.cap.toNat (M.pos i) x):=by
 obtain ⟨m1,s1,t1,ht,rfl⟩:=hp
 have O:pvW (ao i).W x<(ao i).W:=jg (by omega)
 have b1:nxW (ao i).W x<(ao i).W:=AG (by omega)
 have v:=h.cur Z N
 have D:=ht.ok Z (h.mok x N)
 have Q:=h.sn x N
 have J:=h.rn _ O
 rw [rL N] at J
 have a3:=h.rn x N
 have a2:=h.sn _ O
 have ad:=(h.lok x N).1
 have B:∀{C:Nat},C≠0→¬can i i.cfg.cap.toNat (M.pos i) x→WOk i ⟨aI M.m x (M.m x),aI (aI M.s (pvW (ao i).W x) (M.s (pvW (ao i).W x))) x (M.s x)⟩∧(C=0→(⟨aI M.m x (M.m x),aI (aI M.s (pvW (ao i).W x) (M.s (pvW (ao i).W x))) x (M.s x)⟩:WSt).pos i x=M.pos i x+1∧(∀z,z≠x→(⟨aI M.m x (M.m x),aI (aI M.s (pvW (ao i).W x) (M.s (pvW (ao i).W x))) x (M.s x)⟩:WSt).m z=M.m z)∧M.pos i x<(de i x).length)∧(C≠0→(⟨aI M.m x (M.m x),aI (aI M.s (pvW (ao i).W x) (M.s (pvW (ao i).W x))) x (M.s x)⟩:WSt)=M)∧(C=0↔can i i.cfg.cap.toNat (M.pos i) x):=fun hC hn=>by
  rw [zA]
  exact ⟨h,fun e=>absurd e hC,fun _=>rfl,⟨fun e=>absurd e hC,fun e=>absurd e hn⟩⟩
 have go:∀{y:Itm} {M1:WSt},(de i x)[M.pos i x]?=some y→WOk i M1→M1.m=aI M.m x m1→bF i x m1=M.pos i x+1→can i i.cfg.cap.toNat (M.pos i) x→WOk i M1∧((0:Nat)=0→M1.pos i x=M.pos i x+1∧(∀z,z≠x→M1.m z=M.m z)∧M.pos i x<(de i x).length)∧((0:Nat)≠0→M1=M)∧((0:Nat)=0↔can i i.cfg.cap.toNat (M.pos i) x):=fun o a8 hm I hc=>
  ⟨a8,fun _=>⟨by unfold WSt.pos;rw [hm,aW];exact I,fun z u=>by rw [hm,aO _ _ u],(Fq.1 o).1⟩,fun e=>absurd rfl e,⟨fun _=>hc,fun _=>rfl⟩⟩
 cases ht with
 | fin hf=>
  refine B (by decide) ?_
  rintro ⟨y,o,_⟩
  rw [←v,List.getElem?_eq_none hf] at o
  cases o
 | own y o ha=>
  have hk:=mb (dD o).2 ha
  have I:bF i x (adv i x (jC i x (M.m x) y))=M.pos i x+1:=n9 Z o (sd i x (M.m x) y).1 (sd i x (M.m x) y).2
  rw [v] at o
  rw [fO,fO]
  exact go o (h.own N o D I (by omega) (by omega)) rfl I ⟨y,o,fun e=>absurd e (by omega),fun e=>absurd e (by omega)⟩
 | send y a o ha hk hroom=>
  have H:=dD o
  have I:bF i x (adv i x (M.m x))=M.pos i x+1:=n9 Z o rfl rfl
  have b0:=Cp Z.ok H.2 ha
  rw [v] at o
  have a5:a.send=true:=by
   have:=(fS H.2 ha).1
   cases e:a.send with
   | true=>rfl
   | false=>rw [e,hk] at this;cases this
  rw [fO]
  obtain ⟨l1,l2,l3,l4⟩:=h.lok x N
  have L:(⟨aI M.m x (adv i x (M.m x)),M.s⟩:WSt).pos i x=M.pos i x+1:=by rw [kl,if_pos rfl];exact I
  have A:∀z (S:Nat→LSt),z≠x→(⟨aI M.m x (adv i x (M.m x)),S⟩:WSt).pos i z=M.pos i z:=fun z S e=>by rw [kl,if_neg e]
  refine go o ⟨fun z u=>?_,fun z u=>?_,fun z u=>?_,fun z u=>?_,fun z u j V=>?_⟩ rfl I ⟨y,o,fun _=>by rw [←Q,←a3];omega,fun e=>by omega⟩
  ·by_cases e:z=x
   ·subst e;show MOk i z (aI M.m z _ z);rw [aW];exact D
   ·show MOk i z (aI M.m x _ z);rw [aO _ _ e];exact h.mok z u
  ·by_cases e:z=x
   ·subst e
    rw [show (⟨aI M.m z (adv i z (M.m z)),aI M.s z ((M.s z).send ⟨a.tg,((M.m z).G.drop a.at'.1).take (a.at'.2-a.at'.1)⟩)⟩:WSt).s z=(M.s z).send ⟨a.tg,((M.m z).G.drop a.at'.1).take (a.at'.2-a.at'.1)⟩ from aW _ _ _]
    refine ⟨l1,?_,?_,?_⟩
    ·show (M.s z).recv≤((M.s z).msgs++[_]).length;rw [Fp];omega
    ·show ((M.s z).msgs++[_]).length≤(M.s z).recv+_;rw [Fp];simp only [Fz];omega
    ·show max (M.s z).peak ((M.s z).msgs.length+1-(M.s z).recv)≤_;omega
   ·rw [show (⟨aI M.m x (adv i x (M.m x)),aI M.s x ((M.s x).send ⟨a.tg,((M.m x).G.drop a.at'.1).take (a.at'.2-a.at'.1)⟩)⟩:WSt).s z=M.s z from aO _ _ e];exact h.lok z u
  ·by_cases e:z=x
   ·subst e
    rw [show (⟨aI M.m z (adv i z (M.m z)),aI M.s z ((M.s z).send ⟨a.tg,((M.m z).G.drop a.at'.1).take (a.at'.2-a.at'.1)⟩)⟩:WSt).s z=(M.s z).send ⟨a.tg,((M.m z).G.drop a.at'.1).take (a.at'.2-a.at'.1)⟩ from aW _ _ _]
    rw [show (⟨aI M.m z (adv i z (M.m z)),aI M.s z ((M.s z).send ⟨a.tg,((M.m z).G.drop a.at'.1).take (a.at'.2-a.at'.1)⟩)⟩:WSt).pos i z=M.pos i z+1 from L,qo o,if_pos hk,←Q]
    simp [LSt.send]
   ·rw [show (⟨aI M.m x (adv i x (M.m x)),aI M.s x ((M.s x).send ⟨a.tg,((M.m x).G.drop a.at'.1).take (a.at'.2-a.at'.1)⟩)⟩:WSt).s z=M.s z from aO _ _ e,A z _ e];exact h.sn z u
  ·have hr:((⟨aI M.m x (adv i x (M.m x)),aI M.s x ((M.s x).send ⟨a.tg,((M.m x).G.drop a.at'.1).take (a.at'.2-a.at'.1)⟩)⟩:WSt).s z).recv=(M.s z).recv:=by
    by_cases e:z=x
    ·subst e;show (aI M.s z _ z).recv=_;rw [aW];rfl
    ·show (aI M.s x _ z).recv=_;rw [aO _ _ e]
   rw [hr,h.rn z u]
   by_cases e:nxW (ao i).W z=x
   ·rw [e,show (⟨aI M.m x (adv i x (M.m x)),aI M.s x ((M.s x).send ⟨a.tg,((M.m x).G.drop a.at'.1).take (a.at'.2-a.at'.1)⟩)⟩:WSt).pos i x=M.pos i x+1 from L,qt o,if_neg (by omega)];rfl
   ·rw [A _ _ e]
  ·by_cases e:z=x
   ·subst e
    have e1:((⟨aI M.m z (adv i z (M.m z)),aI M.s z ((M.s z).send ⟨a.tg,((M.m z).G.drop a.at'.1).take (a.at'.2-a.at'.1)⟩)⟩:WSt).s z).msgs=(M.s z).msgs++[⟨a.tg,((M.m z).G.drop a.at'.1).take (a.at'.2-a.at'.1)⟩]:=by
     show (aI M.s z _ z).msgs=_;rw [aW];rfl
    rw [e1] at V ⊢
    rw [uo]
    by_cases hl:j<(M.s z).msgs.length
    ·rw [if_pos hl];exact h.tg z u j hl
    ·rw [Fp,Fz] at V
     have a1:j=(M.s z).msgs.length:=by omega
     rw [if_neg hl,if_pos a1]
     refine ⟨a.cor,?_,rfl,?_,fun k hk=>?_⟩
     ·rw [a1,Q];exact zB o ha a5
     ·show (((M.m z).G.drop a.at'.1).take (a.at'.2-a.at'.1)).length=a.at'.2-a.at'.1
      rw [Fv,Fy,(h.mok z u).lG]
      have:(ao i).n=i.start.length:=rfl
      omega
     ·have a6:k<a.at'.2-a.at'.1:=ET hk (by show (((M.m z).G.drop a.at'.1).take (a.at'.2-a.at'.1)).length≤_;rw [Fv];omega)
      show _≤nth (((M.m z).G.drop a.at'.1).take (a.at'.2-a.at'.1)) k∧nth (((M.m z).G.drop a.at'.1).take (a.at'.2-a.at'.1)) k≤_
      rw [fv a6,fw]
      exact hw.nth _
   ·rw [show (⟨aI M.m x (adv i x (M.m x)),aI M.s x ((M.s x).send ⟨a.tg,((M.m x).G.drop a.at'.1).take (a.at'.2-a.at'.1)⟩)⟩:WSt).s z=M.s z from aO _ _ e] at V ⊢;exact h.tg z u j V
 | full y a o ha hk hf=>
  refine B (by decide) ?_
  rintro ⟨y',U,Y,_⟩
  rw [v,U] at o
  injection o with o;subst o
  have:=Y hk
  rw [←Q,←a3] at this
  omega
 | recv y a o ha hk hlt heq=>
  have H:=dD o
  have I:bF i x (adv i x {M.m x with G:=kC (M.m x).G a.at'.1 (aG (M.s (pvW (ao i).W x)).msgs (M.s (pvW (ao i).W x)).recv).vals a.add})=M.pos i x+1:=n9 Z o rfl rfl
  have h2:2≤(ao i).W:=wB (oc H.2 ha)
  have a4:=Ae N h2
  rw [v] at o
  obtain ⟨m1,a7⟩:∃m1,adv i x {M.m x with G:=kC (M.m x).G a.at'.1 (aG (M.s (pvW (ao i).W x)).msgs (M.s (pvW (ao i).W x)).recv).vals a.add}=m1:=⟨_,rfl⟩
  rw [a7] at I D go ⊢
  obtain ⟨S,hS⟩:∃S,aI (aI M.s (pvW (ao i).W x) {M.s (pvW (ao i).W x) with recv:=(M.s (pvW (ao i).W x)).recv+1}) x (M.s x)=S:=⟨_,rfl⟩
  have T:S (pvW (ao i).W x)={M.s (pvW (ao i).W x) with recv:=(M.s (pvW (ao i).W x)).recv+1}:=by rw [←hS,aO _ _ a4,aW]
  have R:∀z,z≠pvW (ao i).W x→S z=M.s z:=fun z e=>by
   rw [←hS]
   by_cases e2:z=x
   ·subst e2;rw [aW]
   ·rw [aO _ _ e2,aO _ _ e]
  have a0:∀z,(S z).msgs=(M.s z).msgs:=fun z=>by
   by_cases e:z=pvW (ao i).W x
   ·rw [e,T]
   ·rw [R z e]
  rw [hS]
  have L:(⟨aI M.m x m1,S⟩:WSt).pos i x=M.pos i x+1:=by rw [kl,if_pos rfl];exact I
  have A:∀z,z≠x→(⟨aI M.m x m1,S⟩:WSt).pos i z=M.pos i z:=fun z e=>by rw [kl,if_neg e]
  refine go o ⟨fun z u=>?_,fun z u=>?_,fun z u=>?_,fun z u=>?_,fun z u j V=>?_⟩ rfl I ⟨y,o,fun e=>by omega,fun _=>by rw [←J,←a2];exact hlt⟩
  ·by_cases e:z=x
   ·subst e;show MOk i z (aI M.m z _ z);rw [aW];exact D
   ·show MOk i z (aI M.m x _ z);rw [aO _ _ e];exact h.mok z u
  ·by_cases e:z=pvW (ao i).W x
   ·obtain ⟨l1,l2,l3,l4⟩:=h.lok _ O
    rw [show (⟨aI M.m x m1,S⟩:WSt).s z=S z from rfl,e,T]
    exact ⟨l1,hlt,by show (M.s (pvW (ao i).W x)).msgs.length≤(M.s (pvW (ao i).W x)).recv+1+_;omega,l4⟩
   ·rw [show (⟨aI M.m x m1,S⟩:WSt).s z=S z from rfl,R z e];exact h.lok z u
  ·show (S z).msgs.length=_
   rw [a0,h.sn z u]
   by_cases e:z=x
   ·subst e;rw [L,qo o,if_neg (by omega)];rfl
   ·rw [A z e]
  ·show (S z).recv=_
   by_cases e:z=pvW (ao i).W x
   ·rw [e,T,rL N,L,qt o,if_pos hk]
    show _+1=_
    rw [J]
   ·have e2:nxW (ao i).W z≠x:=fun e3=>e (by rw [←e3,El u])
    rw [R z e,A _ e2];exact h.rn z u
  ·have e:(⟨aI M.m x m1,S⟩:WSt).s z=S z:=rfl
   rw [e,a0] at V ⊢
   exact h.tg z u j V
 | none y a o ha hk h0=>
  refine B (by decide) ?_
  rintro ⟨y',U,_,h4⟩
  rw [v,U] at o
  injection o with o;subst o
  have:=h4 hk
  rw [←a2,←J] at this
  omega
 | other y a o ha hk hlt hne=>
  exfalso
  have H:=dD o
  rw [v] at o
  obtain ⟨c,h1,h2,_⟩:=h.tg _ O _ hlt
  have e:=kr i (pvW (ao i).W x) i.cfg.steps.toNat
  rw [show (pvW (ao i).W x+1)%(ao i).W=x from rL N] at e
  rw [show dU (de i (pvW (ao i).W x))=ey (de i x) from e,J] at h1
  have Y:=rx o ha (pQ H.2 ha hk)
  rw [show (ey (List.take (M.pos i x) (de i x))).length=rN i x (M.pos i x) from rfl,h1] at Y
  injection Y with Y
  rw [h2,Y,BQ] at hne
  exact hne rfl
theorem WOk.live (h:WOk i M) (o:bP i) (v:1≤i.cfg.cap.toNat) (hl:∃x,x<(ao i).W∧M.pos i x<(de i x).length):∃z,z<(ao i).W∧can i i.cfg.cap.toNat (M.pos i) z:=by
 obtain ⟨x,u,hl⟩:=hl
 exact EK o.ok v (M.pos i) u hl
end
def ig (i:Inp):WSt:=⟨fun _=>fB i,fun _=>LSt.new i.cfg.cap.toNat⟩
theorem WOk.zero (i:Inp):WOk i (ig i):=by
 refine ⟨fun x _=>MOk.zero x,fun x _=>⟨rfl,EM _,EQ _,EQ _⟩,fun x _=>?_,fun x _=>?_,fun x _ j h=>by simp [ig,LSt.new] at h⟩
 ·show 0=sN i x (bF i x (fB i))
  rw [show bF i x (fB i)=0 by simp [bF,fB]]
  rfl
 ·show 0=rN i _ (bF i _ (fB i))
  rw [show bF i (nxW (ao i).W x) (fB i)=0 by simp [bF,fB]]
  rfl
structure WAd where
 X:Nat
 b:Nat→Nat
 l:Nat→Nat
 a:Nat→MAd
 g:Nat→Option Nat
def WAd.mu (D:WAd) (x k:Nat):Prop:=Mut (D.b x) (D.a x) k
def WAd.li (D:WAd) (x k:Nat):Prop:=cB (D.l x) (D.g x) k
def WAd.all (D:WAd) (n k:Nat):Prop:=k=D.X∨∃x,x<n∧(D.mu x k∨D.li x k)
def WAd.oth (D:WAd) (n:Nat) (E:Nat→Prop) (x k:Nat):Prop:=(D.all n k∨E k)∧¬D.mu x k
structure eE (E:Nat→Prop) (i:Inp) (w:World) (D:WAd) (B:Nat) (M:WSt):Prop where
 mach:∀x,x<(ao i).W→aC (D.oth (ao i).W E x) w (D.b x) i x (D.a x) (M.m x)
 lnk:∀x,x<(ao i).W→aD w B (D.l x) (D.g x) (M.s x)
 mm:∀x y k,x<(ao i).W→y<(ao i).W→D.mu x k→D.mu y k→x=y
 ml:∀x y k,x<(ao i).W→y<(ao i).W→D.mu x k→¬D.li y k
 ll:∀x y k,x<(ao i).W→y<(ao i).W→D.li x k→D.li y k→x=y
 xm:∀x,x<(ao i).W→¬D.mu x D.X∧¬D.li x D.X
 lo:∀x,x<(ao i).W→D.b x<B∧(D.a x).bp<B∧(D.a x).bm<B∧(D.a x).bg<B
 hB:B≤w.heap.size
 xl:D.X<w.heap.size
 ne:∀k,E k→¬D.all (ao i).W k
 ex:∀k,E k→k<w.heap.size
section
variable {E E':Nat→Prop} {i:Inp} {w w':World} {D:WAd} {B:Nat} {M:WSt} {x:Nat}
theorem eE.lt (h:eE E i w D B M):∀k,D.all (ao i).W k→k<w.heap.size:=by
 rintro k (rfl | ⟨x,o,e | e⟩)
 ·exact h.xl
 ·exact (h.mach x o).mlt k e
 ·exact (h.lnk x o).lt k e
theorem eE.more (h:eE E i w D B M) (hb:Below w.heap.size w w') (he:∀k,E' k→k<w'.heap.size∧(E k∨w.heap.size≤k)):eE E' i w' D B M:=
 ⟨fun x o=>(h.mach x o).step (Keep.below hb) (fun k hk e=>⟨e.1.imp id fun e=>(he k e).2.elim id fun e=>absurd hk (by omega),e.2⟩) (fun k hm e=>e.2 hm),fun x o=>(h.lnk x o).below hb,h.mm,h.ml,h.ll,h.xm,h.lo,ES h.hB hb.size,ET h.xl hb.size,
  fun k e=>(he k e).2.elim (h.ne k) fun e u=>by have:=h.lt k u;omega,fun k e=>(he k e).1⟩
theorem eE.below (h:eE E i w D B M) (hb:Below w.heap.size w w'):eE E i w' D B M:=h.more hb fun k e=>⟨ET (h.ex k e) hb.size,.inl e⟩
theorem eE.keepQ (h:eE E i w D B M) {Q:Nat→Prop} (hk:Keep Q w w') (u:∀k,Q k→k=D.X∨E k) (he:∀(j:Nat) (c:Array Value),w.heap[j]?=some (.cells c 2 (0,0))→B≤j→¬Q j):eE E i w' D B M:=
 ⟨fun x o=>(h.mach x o).step (hk.mono fun k _ e=>⟨(u k e).imp .inl id,fun hm=>(u k e).elim (fun e=>(h.xm x o).1 (e▸hm)) fun e=>h.ne k e (.inr ⟨x,o,.inl hm⟩)⟩) (fun k _ e=>e) (fun k hm e=>e.2 hm),
  fun x o=>(h.lnk x o).keep hk (fun e=>(u _ e).elim (fun e=>(h.xm x o).2 (e▸.inl rfl)) fun e=>h.ne _ e (.inr ⟨x,o,.inr (.inl rfl)⟩)) (fun j v e=>(u _ e).elim (fun e=>(h.xm x o).2 (e▸.inr v)) fun e=>h.ne _ e (.inr ⟨x,o,.inr (.inr v)⟩)) he,
  h.mm,h.ml,h.ll,h.xm,h.lo,ES h.hB hk.size,ET h.xl hk.size,h.ne,fun k e=>ET (h.ex k e) hk.size⟩
def WAd.rest (D:WAd) (n:Nat) (E:Nat→Prop) (x k:Nat):Prop:=(D.all n k∨E k)∧¬D.mu x k∧¬D.li (pvW n x) k∧¬D.li x k
theorem eE.wld (h:eE E i w D B M) (o:x<(ao i).W) (A:2≤(ao i).W):Wld (D.rest (ao i).W E x) B w (D.b x) (D.l (pvW (ao i).W x)) (D.l x) i x (D.a x) (M.m x) (M.s (pvW (ao i).W x)) (M.s x) (D.g (pvW (ao i).W x)) (D.g x):=by
 have u:pvW (ao i).W x<(ao i).W:=jg (by omega)
 have y:=Ae o A
 refine ⟨(h.mach x o).step (Keep.refl _ _) ?_ ?_,?_,h.lnk _ u,h.lnk x o,fun k e v=>y (h.ll _ _ k u o e v),h.lo x o,h.hB,?_,?_⟩
 ·rintro k _ ((e | e) | e)
  ·exact ⟨.inl (.inr ⟨_,u,.inr e⟩),fun hm=>h.ml _ _ k o u hm e⟩
  ·exact ⟨.inl (.inr ⟨_,o,.inr e⟩),fun hm=>h.ml _ _ k o o hm e⟩
  ·exact ⟨e.1,e.2.1⟩
 ·rintro k hm ((e | e) | e)
  ·exact h.ml _ _ k o u hm e
  ·exact h.ml _ _ k o o hm e
  ·exact e.2.1 hm
 ·rintro k hm ((e | e) | e)
  ·exact h.ml _ _ k o u hm e
  ·exact h.ml _ _ k o o hm e
  ·exact e.2.1 hm
 ·rintro k (e | e) v
  ·exact v.2.2.1 e
  ·exact v.2.2.2 e
 ·rintro k ⟨e | e,_⟩
  ·exact h.lt k e
  ·exact h.ex k e
def WAd.upd (D:WAd) (x:Nat) (a1:MAd) (g1:Option Nat):WAd:=⟨D.X,D.b,D.l,aI D.a x a1,aI D.g x g1⟩
def vm (E:Nat→Prop) (i:Inp) (w:World) (D:WAd) (B:Nat) (x:Nat) (h:WSt) (w':World):Prop:=
 ∃a1 g1,eE E i w' (D.upd x a1 g1) B h∧Keep (fun k=>D.all (ao i).W k∧k≠D.X) w w'∧∀k,(D.upd x a1 g1).all (ao i).W k→D.all (ao i).W k∨w.heap.size≤k
theorem eE.did (h:eE E i w D B M) (V:x<(ao i).W) {p:Nat} (hp:p<(ao i).W) {C:Nat→Prop} (hC:∀k,C k→D.mu x k∨D.li p k∨D.li x k) {a1:MAd} {g1:Option Nat} {m1:Mst} {s1 t1:LSt} {H:Nat→Prop}
  (hm:aC H w' (D.b x) i x a1 m1) (hH:∀k,(D.upd x a1 g1).oth (ao i).W E x k→H k) (hk:Keep C w w') (a5:p≠x→aD w' B (D.l p) (D.g p) s1) (a8:aD w' B (D.l x) g1 t1) (b2:p=x→t1=s1)
  (U:∀k,Mut (D.b x) a1 k→C k∨w.heap.size≤k) (Y:∀k,cB (D.l x) g1 k→C k∨w.heap.size≤k) (a2:∀k,Mut (D.b x) a1 k→¬cB (D.l x) g1 k∧¬D.li p k∧¬E k) (b0:p≠x→∀k,cB (D.l x) g1 k→¬D.li p k) (a7:∀k,cB (D.l x) g1 k→¬E k)
  (ad:a1.bp<B∧a1.bm<B∧a1.bg<B):vm E i w D B x ⟨aI M.m x m1,aI (aI M.s p s1) x t1⟩ w':=by
 have T:∀k,C k→D.all (ao i).W k∧k≠D.X:=fun k e=>by
  rcases hC k e with e | e | e
  ·exact ⟨.inr ⟨x,V,.inl e⟩,fun h2=>(h.xm x V).1 (h2▸e)⟩
  ·exact ⟨.inr ⟨p,hp,.inr e⟩,fun h2=>(h.xm p hp).2 (h2▸e)⟩
  ·exact ⟨.inr ⟨x,V,.inr e⟩,fun h2=>(h.xm x V).2 (h2▸e)⟩
 have L:∀k,(D.upd x a1 g1).mu x k→Mut (D.b x) a1 k:=fun k e=>by
  have:(aI D.a x a1 x)=a1:=aW _ _ _
  unfold WAd.mu WAd.upd at e
  simp only [this] at e
  exact e
 have J:∀y k,y≠x→(D.upd x a1 g1).mu y k→D.mu y k:=fun y k A e=>by
  have:(aI D.a x a1 y)=D.a y:=aO _ _ A
  unfold WAd.mu WAd.upd at e
  simp only [this] at e
  exact e
 have R:∀k,(D.upd x a1 g1).li x k→cB (D.l x) g1 k:=fun k e=>by
  have:(aI D.g x g1 x)=g1:=aW _ _ _
  unfold WAd.li WAd.upd at e
  simp only [this] at e
  exact e
 have I:∀y k,y≠x→(D.upd x a1 g1).li y k→D.li y k:=fun y k A e=>by
  have:(aI D.g x g1 y)=D.g y:=aO _ _ A
  unfold WAd.li WAd.upd at e
  simp only [this] at e
  exact e
 have a3:∀k,(D.upd x a1 g1).all (ao i).W k→D.all (ao i).W k∨w.heap.size≤k:=by
  rintro k (e | ⟨y,A,e⟩)
  ·exact .inl (.inl e)
  ·by_cases o:y=x
   ·subst o
    rcases e with e | e
    ·exact (U k (L k e)).imp (fun e=>(T k e).1) id
    ·exact (Y k (R k e)).imp (fun e=>(T k e).1) id
   ·exact .inl (.inr ⟨y,A,e.imp (J y k o) (I y k o)⟩)
 -- what is changed or new is none of another worker's
 have N:∀y k,y<(ao i).W→y≠x→(C k∨w.heap.size≤k)→¬D.mu y k∧(y≠p→¬D.li y k):=fun y k A o e=>by
  rcases e with e | e
  ·rcases hC k e with e | e | e
   ·exact ⟨fun u=>o (h.mm y x k A V u e),fun _ u=>h.ml x y k V A e u⟩
   ·exact ⟨fun u=>h.ml y p k A hp u e,fun hn u=>hn (h.ll y p k A hp u e)⟩
   ·exact ⟨fun u=>h.ml y x k A V u e,fun _ u=>o (h.ll y x k A V u e)⟩
  ·exact ⟨fun u=>by have:=h.lt k (.inr ⟨y,A,.inl u⟩);omega,fun _ u=>by have:=h.lt k (.inr ⟨y,A,.inr u⟩);omega⟩
 have a0:∀y k,y<(ao i).W→y≠x→cB (D.l x) g1 k→¬D.mu y k∧¬D.li y k:=fun y k A o e=>by
  refine ⟨(N y k A o (Y k e)).1,?_⟩
  by_cases Q:y=p
  ·subst Q;exact b0 o k e
  ·exact (N y k A o (Y k e)).2 Q
 have a6:∀(j:Nat) (c:Array Value),w.heap[j]?=some (.cells c 2 (0,0))→B≤j→¬C j:=fun j c hj hb e=>by
  have b1:=h.lo x V
  rcases hC j e with e | e | e
  ·rcases (h.mach x V).i64 hj e with e | e | e<;>omega
  ·exact (h.lnk p hp).noI64 hj e
  ·exact (h.lnk x V).noI64 hj e
 refine ⟨a1,g1,⟨fun y A=>?_,fun y A=>?_,fun y z k A Z O u=>?_,fun y z k A Z O u=>?_,fun y z k A Z O u=>?_,fun y A=>?_,fun y A=>?_,ES h.hB hk.size,ET h.xl hk.size,fun k e u=>?_,fun k e=>ET (h.ex k e) hk.size⟩,hk.mono fun k _ e=>T k e,a3⟩
 ·by_cases o:y=x
  ·subst o
   show aC _ w' (D.b y) i y (aI D.a y a1 y) (aI M.m y m1 y)
   rw [aW,aW]
   exact hm.step (Keep.refl _ _) (fun k _ e=>hH k e) (fun k O u=>u.2 (by unfold WAd.mu WAd.upd;simp only [aW];exact O))
  ·show aC _ w' (D.b y) i y (aI D.a x a1 y) (aI M.m x m1 y)
   rw [aO _ _ o,aO _ _ o]
   refine (h.mach y A).step (hk.mono fun k _ e=>⟨.inl (T k e).1,(N y k A o (.inl e)).1⟩) (fun k hl e=>⟨e.1.imp (fun e=>(a3 k e).elim id fun e=>absurd hl (by omega)) id,fun u=>e.2 ?_⟩) (fun k O u=>u.2 ?_)
   ·unfold WAd.mu WAd.upd;simp only [aO _ _ o];exact u
   ·unfold WAd.mu WAd.upd;simp only [aO _ _ o];exact O
 ·by_cases o:y=x
  ·subst o
   show aD w' B (D.l y) (aI D.g y g1 y) (aI (aI M.s p s1) y t1 y)
   rw [aW,aW]
   exact a8
  ·show aD w' B (D.l y) (aI D.g x g1 y) (aI (aI M.s p s1) x t1 y)
   rw [aO _ _ o,aO _ _ o]
   by_cases Q:y=p
   ·subst Q
    rw [aW]
    exact a5 o
   ·rw [aO _ _ Q]
    exact (h.lnk y A).keep hk (fun e=>(N y _ A o (.inl e)).2 Q (.inl rfl)) (fun j hj e=>(N y _ A o (.inl e)).2 Q (.inr hj)) a6
 ·by_cases o:y=x
  ·by_cases v:z=x
   ·rw [o,v]
   ·subst o
    exact absurd (J z k v u) (N z k Z v (U k (L k O))).1
  ·by_cases v:z=x
   ·subst v
    exact absurd (J y k o O) (N y k A o (U k (L k u))).1
   ·exact h.mm y z k A Z (J y k o O) (J z k v u)
 ·by_cases o:y=x
  ·subst o
   by_cases v:z=y
   ·subst v
    exact (a2 k (L k O)).1 (R k u)
   ·by_cases a4:z=p
    ·subst a4
     exact (a2 k (L k O)).2.1 (I z k v u)
    ·exact (N z k Z v (U k (L k O))).2 a4 (I z k v u)
  ·by_cases v:z=x
   ·subst v
    exact (a0 y k A o (R k u)).1 (J y k o O)
   ·exact h.ml y z k A Z (J y k o O) (I z k v u)
 ·by_cases o:y=x
  ·by_cases v:z=x
   ·rw [o,v]
   ·subst o
    exact absurd (I z k v u) (a0 z k Z v (R k O)).2
  ·by_cases v:z=x
   ·subst v
    exact absurd (I y k o O) (a0 y k A o (R k u)).2
   ·exact h.ll y z k A Z (I y k o O) (I z k v u)
 ·by_cases o:y=x
  ·subst o
   refine ⟨fun e=>?_,fun e=>?_⟩
   ·rcases U _ (L _ e) with e | e
    ·exact (T _ e).2 rfl
    ·have:=h.xl;exact absurd this (Nat.not_lt.2 e)
   ·rcases Y _ (R _ e) with e | e
    ·exact (T _ e).2 rfl
    ·have:=h.xl;exact absurd this (Nat.not_lt.2 e)
  ·exact ⟨fun e=>(h.xm y A).1 (J y _ o e),fun e=>(h.xm y A).2 (I y _ o e)⟩
 ·by_cases o:y=x
  ·subst o
   show D.b y<B∧(aI D.a y a1 y).bp<B∧(aI D.a y a1 y).bm<B∧(aI D.a y a1 y).bg<B
   rw [aW]
   exact ⟨(h.lo y A).1,ad⟩
  ·show D.b y<B∧(aI D.a x a1 y).bp<B∧(aI D.a x a1 y).bm<B∧(aI D.a x a1 y).bg<B
   rw [aO _ _ o]
   exact h.lo y A
 ·rcases u with u | ⟨y,A,u⟩
  ·exact h.ne k e (.inl u)
  ·by_cases o:y=x
   ·subst o
    rcases u with u | u
    ·exact (a2 k (L k u)).2.2 e
    ·exact a7 k (R k u) e
   ·exact h.ne k e (.inr ⟨y,A,u.imp (J y k o) (I y k o)⟩)
end
structure eZ (i:Inp) (w:World) (lo:Nat) (b l:Nat→Nat) (a:Nat→MAd) (s t:Nat→Nat) (k:Nat):Prop where
 mach:∀y,y<k→aC (fun j=>j<s y∨t y≤j) w (b y) i y (a y) (fB i)
 win:∀y,y<k→∀j,Mut (b y) (a y) j→s y≤j∧j<t y
 chain:∀y,y<k→lo≤s y∧s y≤t y∧t y≤l y∧l y<w.heap.size
 next:∀y z,y<z→z<k→l y<s z
 lnk:∀y,y<k→∀B,aD w B (l y) none (LSt.new i.cfg.cap.toNat)
section
variable {i:Inp} {w w':World} {lo k:Nat} {b l:Nat→Nat} {a:Nat→MAd} {s t:Nat→Nat}
theorem eZ.zero:eZ i w lo b l a s t 0:=⟨fun _ h=>absurd h (Nat.not_lt_zero _),fun _ h=>absurd h (Nat.not_lt_zero _),fun _ h=>absurd h (Nat.not_lt_zero _),fun _ _ _ h=>absurd h (Nat.not_lt_zero _),fun _ h=>absurd h (Nat.not_lt_zero _)⟩
theorem gQ {l j:Nat} (e:cB l none j):j=l:=e.elim id fun e=>by cases e
theorem eZ.keep (h:eZ i w lo b l a s t k) {Q:Nat→Prop} (hk:Keep Q w w') (v:∀j,j<w.heap.size→Q j→(∀y,y<k→(j<s y∨t y≤j)∧j≠l y)∧∀c,w.heap[j]?≠some (.cells c 2 (0,0))):eZ i w' lo b l a s t k:=by
 refine ⟨fun y o=>(h.mach y o).step (hk.mono fun j u e=>((v j u e).1 y o).1) (fun j _ e=>e) (fun j hm e=>?_),h.win,fun y o=>?_,h.next,fun y o B=>(h.lnk y o B).keep (hk.mono fun j u e=>((⟨u,e⟩:j<w.heap.size∧Q j))) (fun e=>((v _ e.1 e.2).1 y o).2 rfl) (fun j e=>by cases e) fun j c u _ e=>(v j e.1 e.2).2 c u⟩
 ·have:=h.win y o j hm
  omega
 ·have:=h.chain y o
  have:=hk.size
  omega
theorem eZ.below (h:eZ i w lo b l a s t k) (hb:Below w.heap.size w w'):eZ i w' lo b l a s t k:=h.keep (Q:=fun _=>False) (Keep.below hb) fun _ _ e=>e.elim
theorem eZ.more (h:eZ i w lo b l a s t k) {C:Nat} {a1:MAd} {l1:Nat} {v:World} (N:lo≤w.heap.size) (A:∀j,Mut C a1 j→w.heap.size≤j)
  (hm:∀(H:Nat→Prop) w'',Keep (fun k=>k<w.heap.size) v w''→(∀k,H k→k<w.heap.size)→aC H w'' C i k a1 (fB i)) (h1:eZ i v lo b l a s t k) (D:eZ i w' lo b l a s t k) (Y:w.heap.size≤v.heap.size) (hk:Keep (fun j=>j<w.heap.size∨v.heap.size≤j) v w') (hl:v.heap.size≤l1) (L:l1<w'.heap.size) (T:∀B,aD w' B l1 none (LSt.new i.cfg.cap.toNat)):
  eZ i w' lo (aI b k C) (aI l k l1) (aI a k a1) (aI s k w.heap.size) (aI t k v.heap.size) (k+1):=by
 have I:=hm (fun j=>j<w.heap.size) v (Keep.refl _ _) (fun _ e=>e)
 have x:=fun j (e:Mut C a1 j)=>I.mlt j e
 have R:aC (fun j=>j<w.heap.size∨v.heap.size≤j) w' C i k a1 (fB i):=
  (I.step (H':=fun j=>j<w.heap.size∨v.heap.size≤j) (Keep.refl _ _) (fun j hj e=>e.elim id fun e=>absurd hj (by omega)) (fun j e U=>by have:=A j e;have:=x j e;omega)).step hk (fun _ _ e=>e) (fun j e U=>by have:=A j e;have:=x j e;omega)
 have o:∀y,y<k+1→y=k∨(y≠k∧y<k):=fun y J=>by omega
 refine ⟨fun y J=>?_,fun y J=>?_,fun y J=>?_,fun y z O V=>?_,fun y J=>?_⟩<;>rcases o y (by omega) with rfl | ⟨e,u⟩
 ·simp only [aW];exact R
 ·simp only [aO _ _ e];exact D.mach y u
 ·simp only [aW];exact fun j e=>⟨A j e,x j e⟩
 ·simp only [aO _ _ e];exact D.win y u
 ·simp only [aW];exact ⟨N,Y,hl,L⟩
 ·simp only [aO _ _ e];exact D.chain y u
 ·omega
 ·rcases o z V with rfl | ⟨Z,Q⟩
  ·simp only [aW,aO _ _ e]
   exact (h.chain y u).2.2.2
  ·simp only [aO _ _ e,aO _ _ Z]
   exact D.next y z O Q
 ·simp only [aW];exact T
 ·simp only [aO _ _ e];exact D.lnk y u
theorem eZ.mem (h:eZ i w lo b l a s t (ao i).W) {X:Nat} (hX:X<lo) (R:X<w.heap.size) {E:Nat→Prop} (N:∀j,E j→j<lo∧j≠X) (Z:lo≤w.heap.size):
  eE E i w ⟨X,b,l,a,fun _=>none⟩ w.heap.size ⟨fun _=>fB i,fun _=>LSt.new i.cfg.cap.toNat⟩:=by
 have u:∀y z,y<z→z<(ao i).W→t y≤s z∧l y<s z:=fun y z Q o=>by
  have h1:=h.next y z Q o
  have h2:=h.chain y (by omega)
  omega
 have L:∀y z j,y<(ao i).W→z<(ao i).W→Mut (b y) (a y) j→Mut (b z) (a z) j→y=z:=fun y z j B o H v=>by
  have J:=h.win y B j H
  have w2:=h.win z o j v
  rcases Nat.lt_trichotomy y z with e | e | e
  ·have:=u y z e o;omega
  ·exact e
  ·have:=u z y e B;omega
 have C:∀y z,y<(ao i).W→z<(ao i).W→l z<s y∨t y≤l z:=fun y z B o=>by
  rcases Nat.lt_trichotomy y z with e | e | e
  ·have:=u y z e o;have:=h.chain z o;omega
  ·subst e;have:=h.chain y B;omega
  ·have:=u z y e B;omega
 refine ⟨fun x A=>(h.mach x A).step (Keep.refl _ _) ?_ (fun j e v=>v.2 e),fun x A=>h.lnk x A _,L,fun y z j B o H v=>?_,fun y z j B o H v=>?_,fun x A=>⟨fun e=>?_,fun e=>?_⟩,fun x A=>?_,EM _,R,fun j e v=>?_,fun j e=>by have:=N j e;omega⟩
 ·rintro j T ⟨(e | ⟨z,o,e | e⟩) | e,v⟩
  ·have V:j=X:=e
   have:=h.chain x A
   omega
  ·have O:z≠x:=fun I=>by subst I;exact v e
   have J:=h.win z o j e
   rcases Nat.lt_or_gt_of_ne O with I | I
   ·have:=u z x I A;omega
   ·have:=u x z I o;omega
  ·have D:j=l z:=gQ e
   rw [D]
   exact C x z A o
  ·have:=h.chain x A
   have:=N j e
   omega
 ·have D:j=l z:=gQ v
  have J:=h.win y B j H
  have:=C y z B o
  omega
 ·have a0:j=l y:=gQ H
  have U:j=l z:=gQ v
  rcases Nat.lt_trichotomy y z with e | e | e
  ·have:=u y z e o;have:=h.chain z o;omega
  ·exact e
  ·have:=u z y e B;have:=h.chain y B;omega
 ·have J:s x≤X∧X<t x:=h.win x A _ e
  have:=h.chain x A
  omega
 ·have Y:X=l x:=gQ e
  have:=h.chain x A
  omega
 ·have hl:=fun j (e:Mut (b x) (a x) j)=>(h.mach x A).mlt j e
  exact ⟨hl _ (.inl rfl),hl _ (.inr (.inl rfl)),hl _ (.inr (.inr (.inl rfl))),hl _ (.inr (.inr (.inr (.inl rfl))))⟩
 ·have T:=N j e
  rcases v with v | ⟨z,o,v | v⟩
  ·exact T.2 v
  ·have:=h.win z o j v
   have:=h.chain z o
   omega
  ·have Y:j=l z:=gQ v
   have:=h.chain z o
   omega
end
section
variable {E:Nat→Prop} {i:Inp} {w w':World} {D:WAd} {B:Nat} {M M1:WSt} {x C:Nat}
theorem eE.oth_lt (h:eE E i w D B M):∀k,w.heap.size≤k→¬D.oth (ao i).W E x k:=by
 rintro k hk ⟨e | e,_⟩
 ·have:=h.lt k e;omega
 ·have:=h.ex k e;omega
theorem eE.restE (h:eE E i w D B M) {k:Nat} (u:x<(ao i).W) (v:pvW (ao i).W x<(ao i).W) (e:E k):D.rest (ao i).W E x k:=
 ⟨.inr e,fun o=>h.ne k e (.inr ⟨x,u,.inl o⟩),fun o=>h.ne k e (.inr ⟨_,v,.inr o⟩),fun o=>h.ne k e (.inr ⟨x,u,.inr o⟩)⟩
theorem eE.try (h:eE E i w D B M) (o:x<(ao i).W) (O:2≤(ao i).W) {m1:Mst} {s1 t1:LSt} (R:gC (D.rest (ao i).W E x) B w (D.b x) (D.l (pvW (ao i).W x)) (D.l x) i x (D.a x) (D.g (pvW (ao i).W x)) (D.g x) m1 s1 t1 w'):
  vm E i w D B x ⟨aI M.m x m1,aI (aI M.s (pvW (ao i).W x) s1) x t1⟩ w':=by
 have L:pvW (ao i).W x<(ao i).W:=jg (by omega)
 have N:=Ae o O
 obtain ⟨a1,g1,hw,hk,hn⟩:=R
 have Y:=h.wld o O
 refine h.did o L (C:=Dw (D.b x) (D.a x) (D.l (pvW (ao i).W x)) (D.g (pvW (ao i).W x)) (D.l x) (D.g x)) (fun k e=>e.imp id id) hw.mach ?_ hk (fun _=>hw.lf) hw.lt (fun e=>absurd e N) (fun k e=>hn k (.inl e)) (fun k e=>hn k (.inr (.inr e))) (fun k e=>⟨fun H=>hw.hn k e (.inl (.inr H)),fun H=>hw.hn k e (.inl (.inl H)),fun H=>hw.hn k e (.inr ?_)⟩)
  (fun _ k e H=>hw.dj k H e) (fun k e H=>?_) hw.lo.2
 ·rintro k ⟨e,U⟩
  by_cases Q:cB (D.l x) g1 k
  ·exact .inl (.inr Q)
  by_cases J:D.li (pvW (ao i).W x) k
  ·exact .inl (.inl J)
  refine .inr ?_
  rcases e with (e | ⟨y,I,e⟩) | e
  ·have V:k=D.X:=e
   subst V
   exact ⟨.inl (.inl rfl),(h.xm x o).1,J,(h.xm x o).2⟩
  ·by_cases A:y=x
   ·subst A
    rcases e with e | e
    ·exact absurd e U
    ·refine absurd ?_ Q
     have T:aI D.g y g1 y=g1:=aW _ _ _
     unfold WAd.li WAd.upd at e
     simp only [T] at e
     exact e
   ·have u:D.mu y k∨D.li y k:=by
     unfold WAd.mu WAd.li WAd.upd at e
     simp only [aO _ _ A] at e
     exact e
    refine ⟨.inl (.inr ⟨y,I,u⟩),fun v=>?_,J,fun v=>?_⟩
    ·rcases u with u | u
     ·exact A (h.mm y x k I o u v)
     ·exact h.ml x y k o I v u
    ·rcases u with u | u
     ·exact h.ml y x k I o u v
     ·exact A (h.ll y x k I o u v)
  ·exact ⟨.inr e,fun v=>h.ne k e (.inr ⟨x,o,.inl v⟩),J,fun v=>h.ne k e (.inr ⟨x,o,.inr v⟩)⟩
 ·exact h.restE o L H
 ·exact absurd (h.restE o L H) (hw.ne k (.inr e))
theorem eE.lone (h:eE E i w D B M) (o:x<(ao i).W) {a1:MAd} {m1:Mst} (hm:aC (D.oth (ao i).W E x) w' (D.b x) i x a1 m1) (hk:Keep (fun k=>D.mu x k) w w') (L:∀k,Mut (D.b x) a1 k→D.mu x k∨w.heap.size≤k) (V:Fxd (D.a x) a1):
  vm E i w D B x ⟨aI M.m x m1,aI (aI M.s x (M.s x)) x (M.s x)⟩ w':=by
 have N:=h.lo x o
 have out:∀k,Mut (D.b x) a1 k→¬D.li x k∧¬E k:=fun k e=>by
  rcases L k e with e | e
  ·exact ⟨h.ml x x k o o e,fun v=>h.ne k v (.inr ⟨x,o,.inl e⟩)⟩
  ·exact ⟨fun v=>by have:=h.lt k (.inr ⟨x,o,.inr v⟩);omega,fun v=>by have:=h.ex k v;omega⟩
 have U:aD w' B (D.l x) (D.g x) (M.s x):=(h.lnk x o).keep hk (fun e=>h.ml x x _ o o e (.inl rfl)) (fun j O e=>h.ml x x _ o o e (.inr O)) fun j c O hb e=>by
  rcases (h.mach x o).i64 O e with e | e | e<;>omega
 refine h.did o o (C:=fun k=>D.mu x k∨D.li x k) (H:=D.oth (ao i).W E x) (a1:=a1) (g1:=D.g x) (m1:=m1) (s1:=M.s x) (t1:=M.s x) (fun k e=>e.imp id .inr) hm ?_ (hk.mono fun k _ e=>.inl e) (fun e=>absurd rfl e) U (fun _=>rfl) (fun k e=>(L k e).imp .inl id) (fun k e=>.inl (.inr e)) (fun k e=>⟨(out k e).1,(out k e).1,(out k e).2⟩) (fun e=>absurd rfl e)
  (fun k e v=>h.ne k v (.inr ⟨x,o,.inr e⟩)) (by obtain ⟨T,Y,f3⟩:=V;rw [T,Y,f3];exact N.2)
 rintro k ⟨e,Z⟩
 rcases e with (e | ⟨y,J,e⟩) | e
 ·have R:k=D.X:=e
  subst R
  exact ⟨.inl (.inl rfl),(h.xm x o).1⟩
 ·by_cases u:y=x
  ·subst u
   rcases e with e | e
   ·exact absurd e Z
   ·have Q:aI D.g y (D.g y) y=D.g y:=aW _ _ _
    unfold WAd.li WAd.upd at e
    simp only [Q] at e
    exact ⟨.inl (.inr ⟨y,J,.inr e⟩),fun A=>h.ml y y k J J A e⟩
  ·have I:D.mu y k∨D.li y k:=by
    unfold WAd.mu WAd.li WAd.upd at e
    simp only [aO _ _ u] at e
    exact e
   refine ⟨.inl (.inr ⟨y,J,I⟩),fun A=>?_⟩
   rcases I with I | I
   ·exact u (h.mm y x k J o I A)
   ·exact h.ml x y k o J A I
 ·exact ⟨.inr e,fun A=>h.ne k e (.inr ⟨x,o,.inl A⟩)⟩
theorem DN (o:x<(ao i).W) (h:(ao i).W<2):pvW (ao i).W x=x:=by
 unfold pvW;rw [show (ao i).W=1 by omega,Nat.mod_one];omega
theorem nc (v:(ao i).W<2) {m:Mst} {y:Itm} {u:Acn} (o:(bf i x m.st)[m.nx]?=some y) (h:y.a=some u):False:=by
 have:=wB (oc (dD o).2 h)
 omega
theorem eE.pick (h:eE E i w D B M) (I:bP i) (o:x<(ao i).W) (hw:WOk i M) (v:(M.s x).msgs.length<100000000000) (H: -9223372036854775808≤i.cfg.rate∧i.cfg.rate≤9223372036854775807) (A: -9223372036854775808≤i.cfg.mom∧i.cfg.mom≤9223372036854775807) (N:Pk i M x M1 C):
  Calls Tryz.prog 216 #[.pointer (some ⟨D.b x,0,none⟩),.pointer (some ⟨D.l (pvW (ao i).W x),0,none⟩),.pointer (some ⟨D.l x,0,none⟩)] w fun e w'=>e=.returned (FQ (C:Nat))∧vm E i w D B x M1 w':=by
 obtain ⟨m1,s1,t1,hr,rfl⟩:=N
 rcases Fa (ao i).W 2 with u | J
 ·rw [DN o u] at hr ⊢
  cases hr with
  | fin hf=>
   refine (vT (h.mach x o) hf _ _).mono ?_
   rintro e w' ⟨he,k⟩
   exact ⟨he,h.lone o ((h.below k).mach x o) (Keep.below k) (fun k e=>.inl e) ⟨rfl,rfl,rfl⟩⟩
  | own y hy ha=>
   refine (rW (h.mach x o) (fun k e T=>T.2 e) h.oth_lt I hy ((hw.mok x o).okAt I hy ha) H A _ _).mono ?_
   rintro e w' ⟨he,V,U,u, -, -,Q,R,O,rfl⟩
   exact ⟨he,h.lone o u (Q.mono fun k _ e=>e.elim id False.elim) R O⟩
  | send y ac hy ha=>exact (nc u hy ha).elim
  | full y ac hy ha=>exact (nc u hy ha).elim
  | recv y ac hy ha=>exact (nc u hy ha).elim
  | none y ac hy ha=>exact (nc u hy ha).elim
  | other y ac hy ha=>exact (nc u hy ha).elim
 ·refine (C3 (h.wld o J) I (hw.mok x o) (hw.msgI o) v H A hr).mono ?_
  rintro e w' ⟨he,L⟩
  exact ⟨he,h.try o J L⟩
end
theorem wV {X z b:Nat} {l D v0 v1:Value} {cnt C:Nat} {w:World} {R:World→Prop}
  (u:∀h,Below w.heap.size w h→Calls Tryz.prog 47 #[.pointer (some ⟨X,0,none⟩),FQ (z:Nat)] h fun e i=>e=.returned (.tuple #[.iface 97 (.pointer (some ⟨b,0,none⟩)),l,D,.bool true])∧Below h.heap.size h i)
  (o:∀h,Below w.heap.size w h→Calls Tryz.prog 216 #[.pointer (some ⟨b,0,none⟩),l,D] h fun e i=>e=.returned (FQ (C:Nat))∧i.heap[X]?=some (.cells #[v0,v1,FQ (cnt:Nat)] 96 (0,0))∧R i) (hc:cnt≤1000000000) (J:C=0):
  Calls Tryz.prog 15 #[.pointer (some ⟨X,0,none⟩),FQ (z:Nat)] w fun e h=>e=.returned (.bool true)∧∃v,R v∧h=v.setCell ⟨X,2,none⟩ (FQ ((cnt+1:Nat):Int)):=by
 subst J
 obtain ⟨x,A⟩:=ab u o
 have hm:∀w:World,(method 496 97 (.pointer (some ⟨b,0,none⟩)) "Do").run Tryz.prog w=.ok (216,.pointer (some ⟨b,0,none⟩)) w:=fun _=>by kernel_rfl
 have H:=br w
 clear u o
 go_enter Tryz.func15,Tryz.ntmps15
 go_wp2_with fail
 refine (x.out _ H).mono ?_
 rintro e v ⟨rfl,I⟩
 go_wp2_with fail
 refine (A.out _ I).mono ?_
 rintro e N ⟨rfl,y,B⟩
 have t:=bx3 y
 obtain ⟨L,Q⟩:=ab B y
 have O:IntKind.i64.wrap ((cnt:Int)+1)=(cnt:Int)+1:=ER _ (by omega)
 clear y B
 go_wp2_with fail
 go_ret
 exact ⟨rfl,_,L.out,by push_cast;rfl⟩
theorem zr {X z b:Nat} {l A:Value} {C:Nat} {w:World} {R:World→Prop}
  (u:∀h,Below w.heap.size w h→Calls Tryz.prog 47 #[.pointer (some ⟨X,0,none⟩),FQ (z:Nat)] h fun e i=>e=.returned (.tuple #[.iface 97 (.pointer (some ⟨b,0,none⟩)),l,A,.bool true])∧Below h.heap.size h i)
  (o:∀h,Below w.heap.size w h→Calls Tryz.prog 216 #[.pointer (some ⟨b,0,none⟩),l,A] h fun e i=>e=.returned (FQ (C:Nat))∧R i) (L:C≠0):
  Calls Tryz.prog 15 #[.pointer (some ⟨X,0,none⟩),FQ (z:Nat)] w fun e h=>e=.returned (.bool false)∧R h:=by
 obtain ⟨v,x⟩:=ab u o
 have hm:∀w:World,(method 496 97 (.pointer (some ⟨b,0,none⟩)) "Do").run Tryz.prog w=.ok (216,.pointer (some ⟨b,0,none⟩)) w:=fun _=>by kernel_rfl
 have B:=br w
 clear u o
 go_enter Tryz.func15,Tryz.ntmps15
 go_wp2_with fail
 refine (v.out _ B).mono ?_
 rintro e I ⟨rfl,D⟩
 go_wp2_with fail
 refine (x.out _ D).mono ?_
 rintro e N ⟨rfl,y⟩
 have H:=aa y;clear y
 have J:¬(C:Int)=0:=by omega
 go_wp2_with fail
 go_ret
 exact ⟨rfl,H.out⟩
theorem wW {X:Value} {z:Int} {w:World} (i:∀h,Below w.heap.size w h→Calls Tryz.prog 47 #[X,FQ z] h fun e u=>e=.returned (.tuple #[.nilIface,.pointer none,.pointer none,.bool false])∧Below h.heap.size h u):
  Calls Tryz.prog 15 #[X,FQ z] w fun e h=>e=.returned (.bool false)∧Below w.heap.size w h:=by
 have o:=aa i
 have x:=br w
 clear i
 go_enter Tryz.func15,Tryz.ntmps15
 go_wp2_with fail
 refine (o.out _ x).mono ?_
 rintro e A ⟨rfl,y⟩
 have v:=aa y
 go_wp2_with fail
 go_ret
 exact ⟨rfl,v.out⟩
def kT {σ:Type} (st:σ→Int→σ×Bool) (s:σ) (l:List Int):σ×Nat:=l.foldl (fun p z=>((st p.1 z).1,p.2+if (st p.1 z).2 then 1 else 0)) (s,0)
theorem pe {σ:Type} (st:σ→Int→σ×Bool) (s:σ) (l:List Int) (z:Int):kT st s (l++[z])=((st (kT st s l).1 z).1,(kT st s l).2+if (st (kT st s l).1 z).2 then 1 else 0):=by
 unfold kT
 rw [List.foldl_append]
 rfl
theorem vE {σ:Type} (st:σ→Int→σ×Bool) (s:σ) (l:List Int):∀k,(kT st s (l.take k)).2≤k
 | 0=>by simp [kT]
 | k+1=>by
  have i:=vE st s l k
  rw [List.take_add_one]
  cases h:l[k]? with
  | none=>simp;omega
  | some z=>
   rw [Option.toList_some,pe]
   dsimp only
   split<;>omega
theorem zq {σ:Type} {st:σ→Int→σ×Bool} {I:World→σ→Prop} {X:Value} {A:Option Addr} {c:Nat} {l:List Int} {s:σ} {w:World} (hl:l.length≤1000000) (R:∀w s,I w s→Rd w A (ar .i64 l))
  (T:∀w s z,I w s→z∈l→Calls Tryz.prog 15 #[X,FQ z] w fun e J=>e=.returned (.bool (st s z).2)∧I J (st s z).1) (Q:I w s):
  Calls Tryz.prog 19 #[X,.slice A l.length c] w fun e J=>e=.returned (FQ ((kT st s l).2:Nat))∧I J (kT st s l).1:=by
 obtain ⟨n,hn⟩:∃n,l.length=n:=⟨_,rfl⟩
 rw [hn] at hl ⊢
 obtain ⟨HA,HP,Y,U⟩:=af R T Q hn;clear R T Q hn
 go_enter Tryz.func19,Tryz.ntmps19
 go_wp2_with fail
 go_loopw [5,10] (fun v i wr=>∃k:Nat,k≤n∧i=FQ k∧v=FQ ((kT st s (l.take k)).2:Nat)∧I wr (kT st s (l.take k)).1) (fun _ i _=>n-(intOf i).toNat)
 case atStart=>exact ⟨0,EQ _,rfl,rfl,Y.out⟩
 case round=>
  obtain ⟨k,hk,rfl,rfl,u⟩:=hrel
  by_cases H:k<n
  ·have h:k<l.length:=by rw [U.out];exact H
   obtain ⟨b,o,rfl,p⟩:=(HA.out _ _ u).num h
   have a0:(k:Int)<n:=by omega
   have N:=vE st s l k
   obtain ⟨M,B⟩:∃M,kT st s (l.take k)=M:=⟨_,rfl⟩
   have y:kT st s (l.take (k+1))=((st M.1 (nth l k)).1,M.2+if (st M.1 (nth l k)).2 then 1 else 0):=by
    rw [List.take_add_one,Fr h,Option.toList_some,pe,B,cW _ _ h]
   rw [B] at u N ⊢
   have hc:=HP.out _ _ (nth l k) u (by rw [cW _ _ h];exact List.getElem_mem h)
   obtain ⟨Z,C,HM⟩:=ae hc y B;clear u hc y B h
   have w1:IntKind.i64.wrap ((M.2:Int)+1)=(M.2:Int)+1:=ER _ (by omega)
   go_wp2_with fail
   refine Z.out.mono ?_
   rintro e w5 ⟨rfl,x⟩
   have D:=aa x;clear x p
   cases hb:(st M.1 (nth l k)).2 with
   | true=>
    have L:=aa hb;clear hb
    go_wp2_with fail
    go_roundw
    case rel=>exact ⟨k+1,by omega,by go_num,by rw [C.out,L.out];simp,by rw [C.out];exact D.out⟩
    case measure=>simp [intOf];omega
   | false=>
    have L:=aa hb;clear hb
    go_wp2_with fail
    go_roundw
    case rel=>exact ⟨k+1,by omega,by go_num,by rw [C.out,L.out];simp,by rw [C.out];exact D.out⟩
    case measure=>simp [intOf];omega
  ·obtain rfl:k=n:=by omega
   have D:=aa u;clear u
   have O:l.take k=l:=by rw [←U.out,FB]
   have V:=aa O;clear O
   go_wp2_with fail
   go_ret
   exact ⟨by rw [V.out];rfl,by rw [←V.out];exact D.out⟩
structure eF (i:Inp) (M:WSt):Prop where
 ok:WOk i M
 wG:∀x,x<(ao i).W→W64 (M.m x).G
theorem uM (i:Inp) (P:List Int):∀(l:List Ex) (G:List Int),W64 G→W64 (eP i P G l):=by
 intro l
 induction l with
 | nil=>intro G h;exact h
 | cons x l ih=>intro G h;exact ih _ (dZ fun _ _=>fM _)
theorem oJ (n:Nat):W64 (List.replicate n 0):=fun k hk=>by
 rw [Fx] at hk
 simp [nth,hk]
theorem Be {i:Inp} {x:Nat} {m:Mst} {y:Itm} (h:W64 m.G):W64 (jC i x m y).G:=by
 unfold jC
 split
 ·exact uM i _ _ _ h
 ·split
  ·exact h
  ·split
   ·exact h
   ·exact oJ _
theorem Cl {i:Inp} {x:Nat} {m:Mst}:(adv i x m).G=m.G:=by unfold adv;split<;>rfl
theorem fG.w64 {i:Inp} {x:Nat} {m m1:Mst} {s t s1 t1:LSt} {C:Nat} (h:fG i x m s t m1 s1 t1 C) (hw:W64 m.G) (o:∀j,j<s.msgs.length→W64 (aG s.msgs j).vals):W64 m1.G:=by
 cases h with
 | fin=>exact hw
 | full=>exact hw
 | none=>exact hw
 | other=>exact hw
 | own=>rw [Cl];exact Be hw
 | send=>rw [Cl];exact hw
 | recv y a _ _ _ hlt=>rw [Cl];exact sU hw (o _ hlt)
theorem eF.zero {i:Inp} (h:bP i):eF i (ig i):=⟨WOk.zero i,fun x _=>oJ _⟩
theorem eF.pick {i:Inp} {M y:WSt} {x C:Nat} (h:eF i M) (H:bP i) (v:x<(ao i).W) (u:Pk i M x y C):eF i y:=by
 have o:pvW (ao i).W x<(ao i).W:=jg (by omega)
 refine ⟨(u.ok h.ok H v (h.wG x v)).1,fun z A=>?_⟩
 obtain ⟨m1,s1,t1,D,rfl⟩:=u
 show W64 (aI M.m x m1 z).G
 by_cases e:z=x
 ·subst e
  rw [aW]
  exact D.w64 (h.wG z A) fun j B=>(h.ok.tg _ o j B).choose_spec.2.2.2
 ·rw [aO _ _ e];exact h.wG z A
noncomputable def pkF (i:Inp) (M:WSt) (x:Nat):WSt×Bool:=open Classical in
 if h:∃p:WSt×Nat,Pk i M x p.1 p.2 then ((Classical.choose h).1,decide ((Classical.choose h).2=0)) else (M,false)
theorem An {i:Inp} {M:WSt} {x:Nat} (h:eF i M) (v:bP i) (y:x<(ao i).W):∃C,Pk i M x (pkF i M x).1 C∧(pkF i M x).2=decide (C=0):=by
 obtain ⟨A,C,u⟩:=h.ok.pick v y
 have o:∃p:WSt×Nat,Pk i M x p.1 p.2:=⟨(A,C),u⟩
 unfold pkF
 rw [dif_pos o]
 exact ⟨_,Classical.choose_spec o,rfl⟩
noncomputable def pkZ (i:Inp) (M:WSt) (z:Int):WSt×Bool:=if 0≤z∧z<((ao i).W:Int) then pkF i M z.toNat else (M,false)
noncomputable def cK (i:Inp) (M:WSt) (l:List Int):WSt×Nat:=l.foldl (fun p z=>((pkZ i p.1 z).1,p.2+if (pkZ i p.1 z).2 then 1 else 0)) (M,0)
def WSt.sum (i:Inp) (M:WSt):Nat:=((List.range (ao i).W).map fun x=>M.pos i x).sum
def kQ (i:Inp):Nat:=((List.range (ao i).W).map fun x=>(de i x).length).sum
def WSt.fin (i:Inp) (M:WSt):Prop:=∀x,x<(ao i).W→M.pos i x=(de i x).length
theorem CC {f g:Nat→Nat} {W x:Nat} (v:x<W) (i:g x=f x+1) (h:∀z,z≠x→g z=f z):((List.range W).map g).sum=((List.range W).map f).sum+1:=by
 induction W with
 | zero=>omega
 | succ W ih=>
  rw [FF,List.map_append,List.map_append,List.sum_append,List.sum_append]
  simp only [List.map_cons,List.map_nil,List.sum_cons,List.sum_nil,Nat.add_zero]
  by_cases e:x=W
  ·subst e
   rw [i,List.map_congr_left (g:=f) (fun z u=>h z (by have:=List.mem_range.1 u;omega))]
   omega
  ·rw [ih (by omega),h W (fun o=>e o.symm)]
   omega
theorem zn {f g:Nat→Nat}:∀{W:Nat},(∀x,x<W→f x≤g x)→((List.range W).map f).sum≤((List.range W).map g).sum
 | 0,_=>EM _
 | W+1,h=>by
  rw [FF,List.map_append,List.map_append,List.sum_append,List.sum_append]
  simp only [List.map_cons,List.map_nil,List.sum_cons,List.sum_nil,Nat.add_zero]
  have:=zn (W:=W) fun x i=>h x (by omega)
  have:=h W (by omega)
  omega
theorem zo {f g:Nat→Nat}:∀{W:Nat},(∀x,x<W→f x≤g x)→((List.range W).map f).sum=((List.range W).map g).sum→∀x,x<W→f x=g x
 | 0,_,_,x,o=>by omega
 | W+1,h,e,x,o=>by
  rw [FF,List.map_append,List.map_append,List.sum_append,List.sum_append] at e
  simp only [List.map_cons,List.map_nil,List.sum_cons,List.sum_nil,Nat.add_zero] at e
  have u:=zn (W:=W) fun x o=>h x (by omega)
  have v:=h W (by omega)
  rcases Fa x W with hl | hl
  ·exact zo (W:=W) (fun x o=>h x (by omega)) (by omega) x hl
  ·obtain rfl:x=W:=by omega
   omega
section
variable {i:Inp} {M:WSt}
theorem eF.pos_le (h:eF i M) (o:bP i) {x:Nat} (u:x<(ao i).W):M.pos i x≤(de i x).length:=(h.ok.mok x u).done o
theorem eF.sum_le (h:eF i M) (o:bP i):M.sum i≤kQ i:=zn fun _ u=>h.pos_le o u
theorem eF.fin_iff (h:eF i M) (v:bP i):M.fin i↔M.sum i=kQ i:=by
 constructor
 ·intro u
  unfold WSt.sum kQ
  congr 1
  exact List.map_congr_left fun x o=>u x (List.mem_range.1 o)
 ·intro he
  exact zo (fun _ o=>h.pos_le v o) he
theorem ug (h:eF i M) (u:bP i) {x:Nat} (o:x<(ao i).W):eF i (pkF i M x).1∧((pkF i M x).2=true↔can i i.cfg.cap.toNat (M.pos i) x)∧((pkF i M x).2=true→(pkF i M x).1.pos i x=M.pos i x+1∧(∀z,z≠x→(pkF i M x).1.pos i z=M.pos i z)∧(pkF i M x).1.sum i=M.sum i+1)∧((pkF i M x).2=false→(pkF i M x).1=M):=by
 obtain ⟨C,v,hb⟩:=An h u o
 obtain ⟨_,H,J,I⟩:=v.ok h.ok u o (h.wG x o)
 refine ⟨h.pick u o v,by rw [hb,←I];simp,fun D=>?_,fun y=>J (by rw [hb] at y;simpa using y)⟩
 obtain ⟨A,L,_⟩:=H (by rw [hb] at D;simpa using D)
 have B:∀z,z≠x→(pkF i M x).1.pos i z=M.pos i z:=fun z N=>by unfold WSt.pos;rw [L z N]
 exact ⟨A,B,CC o A B⟩
theorem Ai (h:eF i M) (y:bP i) (z:Int):eF i (pkZ i M z).1∧(pkZ i M z).1.sum i=M.sum i+(if (pkZ i M z).2 then 1 else 0)∧((pkZ i M z).2=false→(pkZ i M z).1=M):=by
 unfold pkZ
 split
 ·next hz=>
  obtain ⟨u,_,v,o⟩:=ug h y (x:=z.toNat) (by omega)
  refine ⟨u,?_,o⟩
  cases hb:(pkF i M z.toNat).2 with
  | true=>rw [if_pos rfl];exact (v hb).2.2
  | false=>rw [o hb];simp
 ·exact ⟨h,by simp,fun _=>rfl⟩
theorem xh (l:List Int) (z:Int):cK i M (l++[z])=((pkZ i (cK i M l).1 z).1,(cK i M l).2+if (pkZ i (cK i M l).1 z).2 then 1 else 0):=by
 unfold cK
 rw [List.foldl_append]
 rfl
theorem mp (h:eF i M) (x:bP i):∀l:List Int,eF i (cK i M l).1∧(cK i M l).1.sum i=M.sum i+(cK i M l).2:=by
 have o:∀l:List Int,eF i (cK i M l.reverse).1∧(cK i M l.reverse).1.sum i=M.sum i+(cK i M l.reverse).2:=by
  intro l
  induction l with
  | nil=>exact ⟨h,rfl⟩
  | cons z l ih=>
   rw [List.reverse_cons,xh]
   obtain ⟨v,u,_⟩:=Ai ih.1 x z
   refine ⟨v,?_⟩
   show (pkZ i (cK i M l.reverse).1 z).1.sum i=_
   rw [u,ih.2]
   omega
 intro l
 have:=o l.reverse
 rwa [List.reverse_reverse] at this
end
section
variable {i:Inp} {M:WSt}
theorem rh (l:List Int):∀(M:WSt) (n:Nat),l.foldl (fun p z=>((pkZ i p.1 z).1,p.2+if (pkZ i p.1 z).2 then 1 else 0)) (M,n)=((cK i M l).1,n+(cK i M l).2):=by
 unfold cK
 induction l with
 | nil=>intro M n;rfl
 | cons z l ih=>
  intro M n
  rw [List.foldl_cons,List.foldl_cons,ih,ih _ (0+_)]
  simp only [FI,FH]
theorem lT (a l:List Int):cK i M (a++l)=((cK i (cK i M a).1 l).1,(cK i M a).2+(cK i (cK i M a).1 l).2):=by
 rw [show cK i M (a++l)=l.foldl (fun p z=>((pkZ i p.1 z).1,p.2+if (pkZ i p.1 z).2 then 1 else 0)) ((cK i M a).1,(cK i M a).2) from List.foldl_append,rh]
theorem xi (z:Int) (l:List Int):cK i M (z::l)=((cK i (pkZ i M z).1 l).1,(if (pkZ i M z).2 then 1 else 0)+(cK i (pkZ i M z).1 l).2):=by
 rw [show cK i M (z::l)=l.foldl (fun p z=>((pkZ i p.1 z).1,p.2+if (pkZ i p.1 z).2 then 1 else 0)) ((pkZ i M z).1,0+if (pkZ i M z).2 then 1 else 0) from rfl,rh,FI]
theorem D5 (h:eF i M) (o:bP i) {x:Nat} (u:x<(ao i).W) (hc:can i i.cfg.cap.toNat (M.pos i) x):∀l:List Int,(x:Int)∈l→1≤(cK i M l).2:=by
 intro l
 induction l with
 | nil=>intro h;cases h
 | cons z l ih=>
  intro hm
  rw [xi]
  cases hb:(pkZ i M z).2 with
  | true=>simp only [if_true];omega
  | false=>
   rw [(Ai h o z).2.2 hb]
   rcases List.mem_cons.1 hm with e | e
   ·exfalso
    subst e
    unfold pkZ at hb
    rw [if_pos ⟨by omega,by omega⟩] at hb
    have:=(ug h o u).2.1.2 hc
    rw [Int.toNat_natCast] at hb
    rw [hb] at this
    cases this
   ·have:=ih e
    simpa using this
theorem eF.some (h:eF i M) (o:bP i) (v:1≤i.cfg.cap.toNat) (hn:¬M.fin i):∃z,z<(ao i).W∧can i i.cfg.cap.toNat (M.pos i) z:=by
 refine h.ok.live o v ?_
 refine Classical.byContradiction fun hc=>hn fun x u=>?_
 have:=h.pos_le o u
 refine Classical.byContradiction fun he=>hc ⟨x,u,by omega⟩
theorem eF.fin_run (h:eF i M) (o:bP i) (v:M.fin i) (l:List Int):(cK i M l).1.fin i:=by
 obtain ⟨u,x⟩:=mp h o l
 rw [u.fin_iff o]
 have A:=(h.fin_iff o).1 v
 have y:=u.sum_le o
 omega
theorem sE (o:bP i) (v:1≤i.cfg.cap.toNat):∀(bs:List (List Int)) {M:WSt},eF i M→(∀b∈bs,∀x,x<(ao i).W→(x:Int)∈b)→kQ i≤M.sum i+bs.length→(cK i M bs.flatten).1.fin i
 | [],M,h,_,hl=>by
  show M.fin i
  rw [h.fin_iff o]
  have:=h.sum_le o
  simp only [List.length_nil] at hl
  omega
 | b::bs,M,h,hb,hl=>by
  by_cases u:M.fin i
  ·exact h.fin_run o u _
  ·obtain ⟨z,y,hc⟩:=h.some o v u
   have B:=D5 h o y hc b (hb b (List.mem_cons_self ..) z y)
   obtain ⟨A,C⟩:=mp h o b
   rw [List.flatten_cons,lT]
   refine sE o v bs A (fun c hm=>hb c (List.mem_cons_of_mem _ hm)) ?_
   rw [List.length_cons] at hl
   omega
end
def eH (W s n:Nat):List Int:=(List.range n).map fun k=>(((k+s)%W:Nat):Int)
theorem j9 {W s:Nat} (i:0<W):∀T:Nat,∃bs:List (List Int),eH W s (T*W)=bs.flatten∧bs.length=T∧∀b∈bs,∀x,x<W→(x:Int)∈b
 | 0=>⟨[],by simp [eH],rfl,fun _ h=>by cases h⟩
 | T+1=>by
  obtain ⟨bs,v,u,y⟩:=j9 (s:=s) i T
  refine ⟨bs++[(List.range W).map fun k=>(((T*W+k+s)%W:Nat):Int)],?_,by simp [u],fun b hb x o=>?_⟩
  ·rw [FA,←v,FG]
   unfold eH
   rw [List.range_add,List.map_append]
   simp [List.map_map,Function.comp_def]
  ·rcases FE.1 hb with hb | hb
   ·exact y b hb x o
   ·rw [List.mem_singleton.1 hb]
    refine List.mem_map.2 ⟨(x+(W-s%W))%W,List.mem_range.2 (Nat.mod_lt _ i),?_⟩
    have hm:=Nat.mod_lt s i
    congr 1
    rw [FH,Nat.mul_comm T W,Nat.mul_add_mod,Nat.mod_add_mod,←Nat.add_mod_mod,show x+(W-s%W)+s%W=x+W by omega,Nat.add_mod_right,Nat.mod_eq_of_lt o]
theorem vt {p:Pln} (h:aT p):eD p≤810000:=by
 have u:=ke h (EM p.buks.length)
 have i:=h.W8;have x:=h.mi;have o:=h.buks
 have v:p.W*(p.mi+2*p.buks.length+1)≤8*141:=Nat.mul_le_mul i (by omega)
 unfold eD
 omega
theorem vw {i:Inp} (o:aT (ao i)):kQ i=eD (ao i)*i.cfg.steps.toNat:=by
 have h:kQ i=aH (ao i).W fun x=>aH i.cfg.steps.toNat fun st=>(aw (ao i) x st).length:=by
  unfold kQ aH de
  congr 1
  refine List.map_congr_left fun x _=>?_
  show (iY i x i.cfg.steps.toNat).length=_
  unfold iY
  rw [List.length_flatMap]
 rw [h,fa,cA fun st _=>vu o st,dh,Nat.mul_comm]
end Go.Proofs.YtgmajkppbhiopaaGreat
