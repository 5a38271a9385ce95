/- No condition. -/
import Derived.Test.YtindmkcnjlgomaaGreatQ09
set_option linter.unusedSimpArgs false
set_option linter.unusedVariables false
set_option maxRecDepth 100000
set_option maxHeartbeats 4000000
namespace Go.Proofs.YtindmkcnjlgomaaGreat
open Go.RowKit
open Tryz
theorem yD:dg prog 24 12:=⟨⟨_,underlying24,rfl⟩,by kernel_rfl⟩
section
variable {u v:R8}
end
structure RdF (S:Nat->Prop) (w W0:R8) (i:Inp) (x:Nat) (m:Mst) (s t:LSt) (y:Itm) (A:N_) (c:Nat) (D:N_) (cd:Nat) (T:N_) (ct:Nat) (R:N_) (cr:Nat) (PA:N_) (pc:Nat) (MA:N_) (mc:Nat) (GA:N_) (gc:Nat) (SA:N_) (sc bI oI ic:Nat) (B1:N_) (c1:Nat) (B2:N_) (c2 dn il:Nat):Prop where
 eW:(((((w.alloc (.cells #[.slice A i.cfg.sizes.length c,RI i.cfg.shift,RI i.cfg.rate,RI i.cfg.mom,RI i.cfg.workers,RI i.cfg.batch,RI i.cfg.micros,RI i.cfg.steps,RI i.cfg.bucket,RI i.cfg.chunk,RI i.cfg.window,RI i.cfg.cap,.slice D i.data.length cd,.slice T i.start.length ct,.slice R i.draws.length cr,RI (x:Nat),.slice PA i.start.length pc,.slice MA i.start.length mc,.slice GA i.start.length gc,.slice SA m.rc.length sc,.slice (some (ar bI oI)) il ic,RI (dn:Nat)] 116)).alloc (.cells #[RI (s.cap:Nat),.slice B1 s.msgs.length c1,RI (s.recv:Nat),RI (s.peak:Nat)] 120)).alloc (.cells #[RI (t.cap:Nat),.slice B2 t.msgs.length c2,RI (t.recv:Nat),RI (t.peak:Nat)] 120)).alloc (.cells RM 116)).alloc (.cells #[RI 0,RJ,RI 0,RI 0] 120)).alloc (.cells #[RI 0,RJ,RI 0,RI 0] 120)=W0
 bx:∀w',aq W0 w'->w'.heap[w.heap.size]?=some (.cells #[.slice A i.cfg.sizes.length c,RI i.cfg.shift,RI i.cfg.rate,RI i.cfg.mom,RI i.cfg.workers,RI i.cfg.batch,RI i.cfg.micros,RI i.cfg.steps,RI i.cfg.bucket,RI i.cfg.chunk,RI i.cfg.window,RI i.cfg.cap,.slice D i.data.length cd,.slice T i.start.length ct,.slice R i.draws.length cr,RI (x:Nat),.slice PA i.start.length pc,.slice MA i.start.length mc,.slice GA i.start.length gc,.slice SA m.rc.length sc,.slice (some (ar bI oI)) il ic,RI (dn:Nat)] 116 (0,0))/\w'.heap[w.heap.size+1]?=some (.cells #[RI (s.cap:Nat),.slice B1 s.msgs.length c1,RI (s.recv:Nat),RI (s.peak:Nat)] 120 (0,0))/\w'.heap[w.heap.size+1+1]?=some (.cells #[RI (t.cap:Nat),.slice B2 t.msgs.length c2,RI (t.recv:Nat),RI (t.peak:Nat)] 120 (0,0))/\w'.heap[w.heap.size+1+1+1]?=some (.cells RM 116 (0,0))/\w'.heap[w.heap.size+1+1+1+1]?=some (.cells #[RI 0,RJ,RI 0,RI 0] 120 (0,0))/\w'.heap[w.heap.size+1+1+1+1+1]?=some (.cells #[RI 0,RJ,RI 0,RI 0] 120 (0,0))
 K:aq w W0
 I0:gW (aH S w) A c D T ct R i
 P0:cU (aH S w) PA m.P pc
 M0:cU (aH S w) MA m.M mc
 G0:cU (aH S w) GA m.G gc
 R0:dR rEx 2 (aH S w) SA m.rc
 It0:Rd (aH S w) (some (ar bI oI)) (cD (dC i x))
 Pl:m.P.length=i.start.length
 Ml:m.M.length=i.start.length
 Gl:m.G.length=i.start.length
 s0:jy (aH S w) B1 s.msgs
 t0:jy (aH S w) B2 t.msgs
 s2:s.msgs.length<=c1
 t2:t.msgs.length<=c2
 il':(dC i x).length=il
 dn':bF i x m=dn
 s':bD i
 rw':W0.rangeAt bI (oI+dn*12) (bC y)
 S':∀k,S k->k<w.heap.size
 wd:IntKind.i64.wrap ((dn:Int)+1)=((dn:Int)+1)
 loc:(∀w',aq W0 w'->w'.cell? (ar w.heap.size 20)=some (.slice (some (ar bI oI)) il ic))/\(∀w',aq W0 w'->w'.cell? (ar w.heap.size 21)=some (RI (dn:Nat)))/\(∀w',aq W0 w'->w.heap.size<w'.heap.size)/\(dn:Int)<il/\¬(il:Int)<=dn/\¬(dn:Int)<0/\¬il<=dn
section
variable {S:Nat->Prop} {w W0:R8} {i:Inp} {x:Nat} {m:Mst} {s t:LSt} {y:Itm} {A:N_} {c:Nat} {D:N_} {cd:Nat} {T:N_} {ct:Nat} {R:N_} {cr:Nat} {PA:N_} {pc:Nat} {MA:N_} {mc:Nat} {GA:N_} {gc:Nat} {SA:N_} {sc bI oI ic:Nat} {B1:N_} {c1:Nat} {B2:N_} {c2 dn il:Nat}
variable (h:RdF S w W0 i x m s t y A c D cd T ct R cr PA pc MA mc GA gc SA sc bI oI ic B1 c1 B2 c2 dn il)
include h
end
section
variable {P:Program} {ops:T0} {Q:Exit->T1->R8->Prop} {X:Nat} {V:R8}
end
theorem nU (i:Inp) (x:Nat) (m:Mst) (y:Itm):(ie i x m y).st=m.st/\(ie i x m y).nx=m.nx:=by
 unfold ie
 split
 .exact ⟨rfl,rfl⟩
 .split
  .exact ⟨rfl,rfl⟩
  .split<;>exact ⟨rfl,rfl⟩
theorem mA {i:Inp} (hs:bD i) {x:Nat} {m m1:Mst} {y:Itm} (o:(cz i x m.st)[m.nx]?=some y) (h1:m1.st=m.st) (h:m1.nx=m.nx):bF i x (adv i x m1)=bF i x m+1:=by
 have hl:=(Ri.1 o).1;have e:bF i x m1=bF i x m:=by unfold bF;rw [h1,h]
 unfold adv;by_cases hc:m1.nx+1<(cz i x m1.st).length
 .rw [if_pos hc,<-e];exact vF i x m1
 .rw [if_neg hc,<-e];exact vE hs (by rw [h1,h] at *;omega)
def Cor.tg (c:Cor):Tg:=⟨c.st,c.bk,c.ph,c.rd,c.ch⟩
theorem Mi (a:Acn):a.cor.tg=a.tg:=rfl
structure WSt where
 m:Nat->Mst
 s:Nat->LSt
def aY {α:Type} (f:Nat->α) (k:Nat) (v:α) (y:Nat):α:=if y=k then v else f y
theorem bE {α:Type} (f:Nat->α) (k:Nat) (v:α):aY f k v k=v:=if_pos rfl
theorem bq {α:Type} (f:Nat->α) {k y:Nat} (v:α) (h:y≠k):aY f k v y=f y:=if_neg h
theorem gh {α:Type} (f:Nat->α) (k:Nat):aY f k (f k)=f:=by
 funext y
 unfold aY
 split
 .next h=>rw [h]
 .rfl
def WSt.pos (i:Inp) (M:WSt) (x:Nat):Nat:=bF i x (M.m x)
structure WOk (i:Inp) (M:WSt):Prop where
 mok:∀x,x<(ax i).W->MOk i x (M.m x)
 lok:∀x,x<(ax i).W->(M.s x).cap=i.cfg.cap.toNat/\(M.s x).recv<=(M.s x).msgs.length/\(M.s x).msgs.length<=(M.s x).recv+i.cfg.cap.toNat/\(M.s x).peak<=i.cfg.cap.toNat
 sn:∀x,x<(ax i).W->(M.s x).msgs.length=sN i x (M.pos i x)
 rn:∀x,x<(ax i).W->(M.s x).recv=rN i (nxW (ax i).W x) (M.pos i (nxW (ax i).W x))
 tg:∀x,x<(ax i).W->∀j,j<(M.s x).msgs.length->∃c,(fP (dC i x))[j]?=some c/\(aQ (M.s x).msgs j).tag=c.tg/\(aQ (M.s x).msgs j).vals.length=c.at'.2-c.at'.1/\W64 (aQ (M.s x).msgs j).vals
def Pk (i:Inp) (M:WSt) (x:Nat) (M1:WSt) (C:Nat):Prop:=
 ∃m1 s1 t1,jE i x (M.m x) (M.s (pvW (ax i).W x)) (M.s x) m1 s1 t1 C/\M1=⟨aY M.m x m1,aY (aY M.s (pvW (ax i).W x) s1) x t1⟩
theorem wJ {l:List Itm} {p:Nat} {y:Itm} (h:l[p]?=some y):l.take (p+1)=l.take p++[y]:=by
 rw [List.take_add_one,h];rfl
theorem yA {i:Inp} {x p:Nat} {y:Itm} (h:(dC i x)[p]?=some y):sN i x (p+1)=sN i x p+(if y.kind=3 then 1 else 0):=by
 unfold sN;rw [wJ h,oT,Rh]
 congr 1
 rcases ou (List.mem_of_getElem? h) with ⟨u,v,_⟩ | ⟨a,o,hk⟩
 .rw [if_neg v];unfold fP cB;simp [u]
 .cases hs:a.send<;>rw [hs] at hk<;>rw [hk]<;>unfold fP cB<;>simp [o,hs]
theorem yL {i:Inp} {x p:Nat} {y:Itm} (h:(dC i x)[p]?=some y):rN i x (p+1)=rN i x p+(if y.kind=4 then 1 else 0):=by
 unfold rN;rw [wJ h,rS,Rh]
 congr 1
 rcases ou (List.mem_of_getElem? h) with ⟨u,_,v⟩ | ⟨a,o,hk⟩
 .rw [if_neg v];unfold gw cB;simp [u]
 .cases hs:a.send<;>rw [hs] at hk<;>rw [hk]<;>unfold gw cB<;>simp [o,hs]
theorem PI {W x:Nat} (h:x<W):pvW W (nxW W x)=x:=by
 unfold nxW pvW;rcases QO (x+1) W with h1 | h1
 .rw [Nat.mod_eq_of_lt h1,show x+1+W-1=x+W by omega,Nat.add_mod_right,Nat.mod_eq_of_lt h]
 .have e:x+1=W:=ap;rw [e,Nat.mod_self,show 0+W-1=x by omega,Nat.mod_eq_of_lt h]
theorem Kr {W x:Nat} (h:x<W) (i:2<=W):pvW W x≠x:=by
 unfold pvW;rcases Nat.eq_zero_or_pos x with e | e
 .subst e;rw [show 0+W-1=W-1 by omega,Nat.mod_eq_of_lt ap];omega
 .rw [show x+W-1=(x-1)+W by omega,Nat.add_mod_right,Nat.mod_eq_of_lt ap];omega
theorem zu {p:Pln} {x st:Nat} {a:Acn} (h:a∈cB (aE p x st)):2<=p.W:=by
 rw [jW] at h;simp only [oC,oD,List.mem_flatMap,List.mem_range] at h;obtain ⟨_,_,_,_,r,hr,_⟩:=h;omega
theorem kz {l:List Itm} {y:Itm} {a:Acn} (h:y∈l) (i:y.a=some a):a∈cB l:=by
 unfold cB;exact List.mem_filterMap.2 ⟨y,h,i⟩
theorem N1 {i:Inp} {x:Nat} {a:Acn} (h:a∈cB (dC i x)):∃st,st<i.cfg.steps.toNat/\a∈cB (aE (ax i) x st):=by
 unfold cB at h;obtain ⟨y,p,u⟩:=List.mem_filterMap.1 h;obtain ⟨st,o,p⟩:=List.mem_flatMap.1 p;exact ⟨st,List.mem_range.1 o,kz p u⟩
section
variable {i:Inp} {M M1:WSt} {x C:Nat}
theorem WOk.msgI (h:WOk i M) (H:x<(ax i).W):MS i x (M.s (pvW (ax i).W x)):=λj v=>by
 have u:pvW (ax i).W x<(ax i).W:=lO ap;obtain ⟨c,h1,A,D,B⟩:=h.tg _ u j v;refine ⟨B,.inr ?_⟩;have e:=nQ i (pvW (ax i).W x) i.cfg.steps.toNat;rw [show (pvW (ax i).W x+1)%(ax i).W=x from sY H] at e;rw [show fP (dC i (pvW (ax i).W x))=gw (dC i x) from e] at h1;obtain ⟨a,o,hs,hc⟩:=xk h1;obtain ⟨st,_,o⟩:=N1 o;unfold cB at o;obtain ⟨y,C,p⟩:=List.mem_filterMap.1 o;rw [D,A,<-hc,Mi,<-MK C p hs];rfl
theorem WOk.cur (h:WOk i M) (hs:bD i) (o:x<(ax i).W):(cz i x (M.m x).st)[(M.m x).nx]?=(dC i x)[M.pos i x]?:=(h.mok x o).cur hs
theorem WOk.pick (h:WOk i M) (hs:bD i) (o:x<(ax i).W):∃M1 C,Pk i M x M1 C:=by
 have p:pvW (ax i).W x<(ax i).W:=lO ap;obtain ⟨m1,s1,t1,C,u⟩:=Fu i x (M.m x) (M.s (pvW (ax i).W x)) (M.s x) (h.lok _ p).2.1 (by rw [(h.lok x o).1];exact (h.lok x o).2.2.1);exact ⟨_,C,m1,s1,t1,u,rfl⟩
theorem qU (i:Inp) (M:WSt) (x:Nat) (m1:Mst) (S:Nat->LSt) (z:Nat):(⟨aY M.m x m1,S⟩:WSt).pos i z=if z=x then bF i x m1 else M.pos i z:=by
 unfold WSt.pos
 show bF i z (aY M.m x m1 z)=_
 by_cases e:z=x
 .subst e;rw [if_pos rfl,bE]
 .rw [if_neg e,bq _ _ e]
theorem zO (M:WSt) (x p:Nat):(⟨aY M.m x (M.m x),aY (aY M.s p (M.s p)) x (M.s x)⟩:WSt)=M:=by
 rw [gh,gh,gh]
theorem WOk.own (h:WOk i M) (C:x<(ax i).W) {m1:Mst} {y:Itm} (u:(dC i x)[M.pos i x]?=some y) (hm:MOk i x m1) (v:bF i x m1=M.pos i x+1) (B:y.kind≠3) (A:y.kind≠4):WOk i ⟨aY M.m x m1,M.s⟩:=by
 have o:∀z,(⟨aY M.m x m1,M.s⟩:WSt).pos i z=if z=x then M.pos i x+1 else M.pos i z:=λz=>by rw [qU,v]
 refine ⟨λz p=>?_,h.lok,λz p=>?_,λz p=>?_,h.tg⟩
 .by_cases e:z=x
  .subst e;show MOk i z (aY M.m z m1 z);rw [bE];exact hm
  .show MOk i z (aY M.m x m1 z);rw [bq _ _ e];exact h.mok z p
 .rw [o z];by_cases e:z=x
  .subst e;rw [if_pos rfl,yA u,if_neg B];exact h.sn z p
  .rw [if_neg e];exact h.sn z p
 .rw [o];by_cases e:nxW (ax i).W z=x
  .rw [if_pos e,e,yL u,if_neg A];have:=h.rn z p;rw [e] at this;exact this
  .rw [if_neg e];exact h.rn z p
theorem Pk.ok (hp:Pk i M x M1 C) (h:WOk i M) (hs:bD i) (L:x<(ax i).W) (hw:W64 (M.m x).G):
  WOk i M1/\(C=0->M1.pos i x=M.pos i x+1/\(∀z,z≠x->M1.m z=M.m z)/\M.pos i x<(dC i x).length)/\(C≠0->M1=M)/\(C=0↔can i i.cfg.cap.toNat (M.pos i) x):=by
 obtain ⟨m1,s1,t1,ht,rfl⟩:=hp;have N:pvW (ax i).W x<(ax i).W:=lO ap;have a9:nxW (ax i).W x<(ax i).W:=KR ap;have u:=h.cur hs L;have B:=ht.ok hs (h.mok x L);have O:=h.sn x L;have I:=h.rn _ N;rw [sY L] at I;have a1:=h.rn x L;have a0:=h.sn _ N;have a7:=(h.lok x L).1
 have A:∀{C:Nat},C≠0->¬can i i.cfg.cap.toNat (M.pos i) x->WOk i ⟨aY M.m x (M.m x),aY (aY M.s (pvW (ax i).W x) (M.s (pvW (ax i).W x))) x (M.s x)⟩/\(C=0->(⟨aY M.m x (M.m x),aY (aY M.s (pvW (ax i).W x) (M.s (pvW (ax i).W x))) x (M.s x)⟩:WSt).pos i x=M.pos i x+1/\(∀z,z≠x->(⟨aY M.m x (M.m x),aY (aY M.s (pvW (ax i).W x) (M.s (pvW (ax i).W x))) x (M.s x)⟩:WSt).m z=M.m z)/\M.pos i x<(dC i x).length)/\(C≠0->(⟨aY M.m x (M.m x),aY (aY M.s (pvW (ax i).W x) (M.s (pvW (ax i).W x))) x (M.s x)⟩:WSt)=M)/\(C=0↔can i i.cfg.cap.toNat (M.pos i) x):=λhC hn=>by
  rw [zO];exact ⟨h,λe=>absurd e hC,λ_=>rfl,⟨λe=>absurd e hC,λe=>absurd e hn⟩⟩
 have go:∀{y:Itm} {M1:WSt},(dC i x)[M.pos i x]?=some y->WOk i M1->M1.m=aY M.m x m1->bF i x m1=M.pos i x+1->can i i.cfg.cap.toNat (M.pos i) x->WOk i M1/\((0:Nat)=0->M1.pos i x=M.pos i x+1/\(∀z,z≠x->M1.m z=M.m z)/\M.pos i x<(dC i x).length)/\((0:Nat)≠0->M1=M)/\((0:Nat)=0↔can i i.cfg.cap.toNat (M.pos i) x):=λo a6 hm H hc=>
  ⟨a6,λ_=>⟨by unfold WSt.pos;rw [hm,bE];exact H,λz p=>by rw [hm,bq _ _ p],(Ri.1 o).1⟩,λe=>absurd rfl e,⟨λ_=>hc,λ_=>rfl⟩⟩
 cases ht with
 | fin hf=>
  refine A (by decide) ?_;rintro ⟨y,o,_⟩;rw [<-u,List.getElem?_eq_none hf] at o
  cases o
 | own y o ha=>
  have hk:=jn (du o).2 ha;have H:bF i x (adv i x (ie i x (M.m x) y))=M.pos i x+1:=mA hs o (nU i x (M.m x) y).1 (nU i x (M.m x) y).2;rw [u] at o;rw [gh,gh];exact go o (h.own L o B H ap ap) rfl H ⟨y,o,λe=>absurd e ap,λe=>absurd e ap⟩
 | send y a o ha hk hroom=>
  have D:=du o;have H:bF i x (adv i x (M.m x))=M.pos i x+1:=mA hs o rfl rfl;have a8:=zv hs.ok D.2 ha;rw [u] at o
  have a3:a.send=true:=by
   have:=(iW D.2 ha).1
   cases e:a.send with
   | true=>rfl
   | false=>rw [e,hk] at this;cases this
  rw [gh];obtain ⟨l1,l2,l3,l4⟩:=h.lok x L;have J:(⟨aY M.m x (adv i x (M.m x)),M.s⟩:WSt).pos i x=M.pos i x+1:=by rw [qU,if_pos rfl];exact H
  have v:∀z (S:Nat->LSt),z≠x->(⟨aY M.m x (adv i x (M.m x)),S⟩:WSt).pos i z=M.pos i z:=λz S e=>by rw [qU,if_neg e]
  refine go o ⟨λz p=>?_,λz p=>?_,λz p=>?_,λz p=>?_,λz p j U=>?_⟩ rfl H ⟨y,o,λ_=>by rw [<-O,<-a1];omega,λe=>ap⟩
  .by_cases e:z=x
   .subst e;show MOk i z (aY M.m z _ z);rw [bE];exact B
   .show MOk i z (aY M.m x _ z);rw [bq _ _ e];exact h.mok z p
  .by_cases e:z=x
   .subst e;rw [show (⟨aY M.m z (adv i z (M.m z)),aY M.s z ((M.s z).send ⟨a.tg,((M.m z).G.drop a.at'.1).take (a.at'.2-a.at'.1)⟩)⟩:WSt).s z=(M.s z).send ⟨a.tg,((M.m z).G.drop a.at'.1).take (a.at'.2-a.at'.1)⟩ from bE _ _ _];refine ⟨l1,?_,?_,?_⟩
    .show (M.s z).recv<=((M.s z).msgs++[_]).length;rw [Rh];omega
    .show ((M.s z).msgs++[_]).length<=(M.s z).recv+_;rw [Rh];simp only [Rr];omega
    .show max (M.s z).peak ((M.s z).msgs.length+1-(M.s z).recv)<=_;omega
   .rw [show (⟨aY M.m x (adv i x (M.m x)),aY M.s x ((M.s x).send ⟨a.tg,((M.m x).G.drop a.at'.1).take (a.at'.2-a.at'.1)⟩)⟩:WSt).s z=M.s z from bq _ _ e];exact h.lok z p
  .by_cases e:z=x
   .subst e;rw [show (⟨aY M.m z (adv i z (M.m z)),aY M.s z ((M.s z).send ⟨a.tg,((M.m z).G.drop a.at'.1).take (a.at'.2-a.at'.1)⟩)⟩:WSt).s z=(M.s z).send ⟨a.tg,((M.m z).G.drop a.at'.1).take (a.at'.2-a.at'.1)⟩ from bE _ _ _];rw [show (⟨aY M.m z (adv i z (M.m z)),aY M.s z ((M.s z).send ⟨a.tg,((M.m z).G.drop a.at'.1).take (a.at'.2-a.at'.1)⟩)⟩:WSt).pos i z=M.pos i z+1 from J,yA o,if_pos hk,<-O];simp [LSt.send]
   .rw [show (⟨aY M.m x (adv i x (M.m x)),aY M.s x ((M.s x).send ⟨a.tg,((M.m x).G.drop a.at'.1).take (a.at'.2-a.at'.1)⟩)⟩:WSt).s z=M.s z from bq _ _ e,v z _ e];exact h.sn z p
  .have hr:((⟨aY M.m x (adv i x (M.m x)),aY M.s x ((M.s x).send ⟨a.tg,((M.m x).G.drop a.at'.1).take (a.at'.2-a.at'.1)⟩)⟩:WSt).s z).recv=(M.s z).recv:=by
    by_cases e:z=x
    .subst e;show (aY M.s z _ z).recv=_;rw [bE];rfl
    .show (aY M.s x _ z).recv=_;rw [bq _ _ e]
   rw [hr,h.rn z p];by_cases e:nxW (ax i).W z=x
   .rw [e,show (⟨aY M.m x (adv i x (M.m x)),aY M.s x ((M.s x).send ⟨a.tg,((M.m x).G.drop a.at'.1).take (a.at'.2-a.at'.1)⟩)⟩:WSt).pos i x=M.pos i x+1 from J,yL o,if_neg ap];rfl
   .rw [v _ _ e]
  .by_cases e:z=x
   .subst e
    have e1:((⟨aY M.m z (adv i z (M.m z)),aY M.s z ((M.s z).send ⟨a.tg,((M.m z).G.drop a.at'.1).take (a.at'.2-a.at'.1)⟩)⟩:WSt).s z).msgs=(M.s z).msgs++[⟨a.tg,((M.m z).G.drop a.at'.1).take (a.at'.2-a.at'.1)⟩]:=by
     show (aY M.s z _ z).msgs=_;rw [bE];rfl
    rw [e1] at U |-;rw [uV];by_cases hl:j<(M.s z).msgs.length
    .rw [if_pos hl];exact h.tg z p j hl
    .rw [Rh,Rr] at U;have Z:j=(M.s z).msgs.length:=ap;rw [if_neg hl,if_pos Z];refine ⟨a.cor,?_,rfl,?_,λk hk=>?_⟩
     .rw [Z,O];exact zP o ha a3
     .show (((M.m z).G.drop a.at'.1).take (a.at'.2-a.at'.1)).length=a.at'.2-a.at'.1
      rw [Rn,Rq,(h.mok z p).lG];have:(ax i).n=i.start.length:=rfl;omega
     .have a4:k<a.at'.2-a.at'.1:=QE hk (by show (((M.m z).G.drop a.at'.1).take (a.at'.2-a.at'.1)).length<=_;rw [Rn];omega)
      show _<=nth (((M.m z).G.drop a.at'.1).take (a.at'.2-a.at'.1)) k/\nth (((M.m z).G.drop a.at'.1).take (a.at'.2-a.at'.1)) k<=_
      rw [eJ a4,eK];exact hw.nth _
   .rw [show (⟨aY M.m x (adv i x (M.m x)),aY M.s x ((M.s x).send ⟨a.tg,((M.m x).G.drop a.at'.1).take (a.at'.2-a.at'.1)⟩)⟩:WSt).s z=M.s z from bq _ _ e] at U |-;exact h.tg z p j U
 | full y a o ha hk hf=>
  refine A (by decide) ?_;rintro ⟨y',T,V,_⟩;rw [u,T] at o;injection o with o;subst o
  have:=V hk;rw [<-O,<-a1] at this;omega
 | recv y a o ha hk hlt heq=>
  have D:=du o;have H:bF i x (adv i x {M.m x with G:=iK (M.m x).G a.at'.1 (aQ (M.s (pvW (ax i).W x)).msgs (M.s (pvW (ax i).W x)).recv).vals a.add})=M.pos i x+1:=mA hs o rfl rfl;have h2:2<=(ax i).W:=zu (kz D.2 ha);have a2:=Kr L h2;rw [u] at o;obtain ⟨m1,a5⟩:∃m1,adv i x {M.m x with G:=iK (M.m x).G a.at'.1 (aQ (M.s (pvW (ax i).W x)).msgs (M.s (pvW (ax i).W x)).recv).vals a.add}=m1:=⟨_,rfl⟩;rw [a5] at H B go |-;obtain ⟨S,hS⟩:∃S,aY (aY M.s (pvW (ax i).W x) {M.s (pvW (ax i).W x) with recv:=(M.s (pvW (ax i).W x)).recv+1}) x (M.s x)=S:=⟨_,rfl⟩;have R:S (pvW (ax i).W x)={M.s (pvW (ax i).W x) with recv:=(M.s (pvW (ax i).W x)).recv+1}:=by rw [<-hS,bq _ _ a2,bE]
  have Q:∀z,z≠pvW (ax i).W x->S z=M.s z:=λz e=>by
   rw [<-hS];by_cases e2:z=x
   .subst e2;rw [bE]
   .rw [bq _ _ e2,bq _ _ e]
  have Y:∀z,(S z).msgs=(M.s z).msgs:=λz=>by
   by_cases e:z=pvW (ax i).W x
   .rw [e,R]
   .rw [Q z e]
  rw [hS];have J:(⟨aY M.m x m1,S⟩:WSt).pos i x=M.pos i x+1:=by rw [qU,if_pos rfl];exact H
  have v:∀z,z≠x->(⟨aY M.m x m1,S⟩:WSt).pos i z=M.pos i z:=λz e=>by rw [qU,if_neg e]
  refine go o ⟨λz p=>?_,λz p=>?_,λz p=>?_,λz p=>?_,λz p j U=>?_⟩ rfl H ⟨y,o,λe=>ap,λ_=>by rw [<-I,<-a0];exact hlt⟩
  .by_cases e:z=x
   .subst e;show MOk i z (aY M.m z _ z);rw [bE];exact B
   .show MOk i z (aY M.m x _ z);rw [bq _ _ e];exact h.mok z p
  .by_cases e:z=pvW (ax i).W x
   .obtain ⟨l1,l2,l3,l4⟩:=h.lok _ N;rw [show (⟨aY M.m x m1,S⟩:WSt).s z=S z from rfl,e,R];exact ⟨l1,hlt,by show (M.s (pvW (ax i).W x)).msgs.length<=(M.s (pvW (ax i).W x)).recv+1+_;omega,l4⟩
   .rw [show (⟨aY M.m x m1,S⟩:WSt).s z=S z from rfl,Q z e];exact h.lok z p
  .show (S z).msgs.length=_
   rw [Y,h.sn z p];by_cases e:z=x
   .subst e;rw [J,yA o,if_neg ap];rfl
   .rw [v z e]
  .show (S z).recv=_
   by_cases e:z=pvW (ax i).W x
   .rw [e,R,sY L,J,yL o,if_pos hk]
    show _+1=_
    rw [I]
   .have e2:nxW (ax i).W z≠x:=λe3=>e (by rw [<-e3,PI p]);rw [Q z e,v _ e2];exact h.rn z p
  .have e:(⟨aY M.m x m1,S⟩:WSt).s z=S z:=rfl;rw [e,Y] at U |-;exact h.tg z p j U
 | none y a o ha hk h0=>
  refine A (by decide) ?_;rintro ⟨y',T,_,h4⟩;rw [u,T] at o;injection o with o;subst o
  have:=h4 hk;rw [<-a0,<-I] at this;omega
 | other y a o ha hk hlt hne=>
  exfalso;have D:=du o;rw [u] at o;obtain ⟨c,h1,h2,_⟩:=h.tg _ N _ hlt;have e:=nQ i (pvW (ax i).W x) i.cfg.steps.toNat;rw [show (pvW (ax i).W x+1)%(ax i).W=x from sY L] at e;rw [show fP (dC i (pvW (ax i).W x))=gw (dC i x) from e,I] at h1;have V:=ux o ha (pB D.2 ha hk);rw [show (gw (List.take (M.pos i x) (dC i x))).length=rN i x (M.pos i x) from rfl,h1] at V;injection V with V
  rw [h2,V,Mi] at hne;exact hne rfl
theorem WOk.live (h:WOk i M) (hs:bD i) (p:1<=i.cfg.cap.toNat) (hl:∃x,x<(ax i).W/\M.pos i x<(dC i x).length):∃z,z<(ax i).W/\can i i.cfg.cap.toNat (M.pos i) z:=by
 obtain ⟨x,o,hl⟩:=hl;exact Qv hs.ok p (M.pos i) o hl
end
def fA (i:Inp):WSt:=⟨λ_=>fu i,λ_=>LSt.new i.cfg.cap.toNat⟩
theorem WOk.zero (i:Inp):WOk i (fA i):=by
 refine ⟨λx _=>MOk.zero x,λx _=>⟨rfl,Qx _,QB _,QB _⟩,λx _=>?_,λx _=>?_,λx _ j h=>by simp [fA,LSt.new] at h⟩
 .show 0=sN i x (bF i x (fu i))
  rw [show bF i x (fu i)=0 by simp [bF,fu]];rfl
 .show 0=rN i _ (bF i _ (fu i))
  rw [show bF i (nxW (ax i).W x) (fu i)=0 by simp [bF,fu]];rfl
structure dX (i:Inp) (M:WSt):Prop where
 ok:WOk i M
 wG:∀x,x<(ax i).W->W64 (M.m x).G
theorem DD (i:Inp) (P:Q_):∀(l:R_) (G:Q_),W64 G->W64 (dt i P G l):=by
 intro l
 induction l with
 | nil=>intro G h;exact h
 | cons x l ih=>intro G h;exact ih _ (fU λ_ _=>ig _)
theorem wC (n:Nat):W64 (List.replicate n 0):=λk hk=>by
 rw [Rp] at hk;simp [nth,hk]
theorem Lr {i:Inp} {x:Nat} {m:Mst} {y:Itm} (h:W64 m.G):W64 (ie i x m y).G:=by
 unfold ie
 split
 .exact DD i _ _ _ h
 .split
  .exact h
  .split
   .exact h
   .exact wC _
theorem MG {i:Inp} {x:Nat} {m:Mst}:(adv i x m).G=m.G:=by unfold adv;split<;>rfl
theorem jE.w64 {i:Inp} {x:Nat} {m m1:Mst} {s t s1 t1:LSt} {C:Nat} (h:jE i x m s t m1 s1 t1 C) (hw:W64 m.G) (o:∀j,j<s.msgs.length->W64 (aQ s.msgs j).vals):W64 m1.G:=by
 cases h with
 | fin=>exact hw
 | full=>exact hw
 | none=>exact hw
 | other=>exact hw
 | own=>rw [MG];exact Lr hw
 | send=>rw [MG];exact hw
 | recv y a _ _ _ hlt=>rw [MG];exact vI hw (o _ hlt)
theorem dX.zero {i:Inp} (hs:bD i):dX i (fA i):=⟨WOk.zero i,λx _=>wC _⟩
theorem dX.pick {i:Inp} {M v:WSt} {x C:Nat} (h:dX i M) (hs:bD i) (u:x<(ax i).W) (p:Pk i M x v C):dX i v:=by
 have o:pvW (ax i).W x<(ax i).W:=lO ap;refine ⟨(p.ok h.ok hs u (h.wG x u)).1,λz y=>?_⟩;obtain ⟨m1,s1,t1,B,rfl⟩:=p
 show W64 (aY M.m x m1 z).G
 by_cases e:z=x
 .subst e;rw [bE];exact B.w64 (h.wG z y) λj A=>(h.ok.tg _ o j A).choose_spec.2.2.2
 .rw [bq _ _ e];exact h.wG z y
noncomputable def pkF (i:Inp) (M:WSt) (x:Nat):WSt×Bool:=open Classical in
 if h:∃p:WSt×Nat,Pk i M x p.1 p.2 then ((Classical.choose h).1,decide ((Classical.choose h).2=0)) else (M,false)
theorem uF {i:Inp} {M:WSt} {x:Nat} (h:dX i M) (hs:bD i) (v:x<(ax i).W):∃C,Pk i M x (pkF i M x).1 C/\(pkF i M x).2=decide (C=0):=by
 obtain ⟨y,C,u⟩:=h.ok.pick hs v;have o:∃p:WSt×Nat,Pk i M x p.1 p.2:=⟨(y,C),u⟩;unfold pkF;rw [dif_pos o];exact ⟨_,Classical.choose_spec o,rfl⟩
noncomputable def pkZ (i:Inp) (M:WSt) (z:Int):WSt×Bool:=if 0<=z/\z<((ax i).W:Int) then pkF i M z.toNat else (M,false)
noncomputable def dJ (i:Inp) (M:WSt) (l:Q_):WSt×Nat:=l.foldl (λp z=>((pkZ i p.1 z).1,p.2+if (pkZ i p.1 z).2 then 1 else 0)) (M,0)
def WSt.sum (i:Inp) (M:WSt):Nat:=((List.range (ax i).W).map λx=>M.pos i x).sum
def jF (i:Inp):Nat:=((List.range (ax i).W).map λx=>(dC i x).length).sum
def WSt.fin (i:Inp) (M:WSt):Prop:=∀x,x<(ax i).W->M.pos i x=(dC i x).length
theorem MY {f g:Nat->Nat} {W x:Nat} (p:x<W) (h1:g x=f x+1) (h:∀z,z≠x->g z=f z):((List.range W).map g).sum=((List.range W).map f).sum+1:=by
 induction W with
 | zero=>omega
 | succ W ih=>
  rw [Rx,List.map_append,List.map_append,List.sum_append,List.sum_append];simp only [List.map_cons,List.map_nil,List.sum_cons,List.sum_nil,Nat.add_zero];by_cases e:x=W
  .subst e;rw [h1,List.map_congr_left (g:=f) (λz o=>h z (by have:=List.mem_range.1 o;omega))];omega
  .rw [ih ap,h W (λi=>e i.symm)];omega
theorem Jm {f g:Nat->Nat}:∀{W:Nat},(∀x,x<W->f x<=g x)->((List.range W).map f).sum<=((List.range W).map g).sum
 | 0,_=>Qx _
 | W+1,h=>by
  rw [Rx,List.map_append,List.map_append,List.sum_append,List.sum_append];simp only [List.map_cons,List.map_nil,List.sum_cons,List.sum_nil,Nat.add_zero];have:=Jm (W:=W) λx i=>h x ap;have:=h W ap;omega
theorem Jn {f g:Nat->Nat}:∀{W:Nat},(∀x,x<W->f x<=g x)->((List.range W).map f).sum=((List.range W).map g).sum->∀x,x<W->f x=g x
 | 0,_,_,x,o=>ap
 | W+1,h,e,x,o=>by
  rw [Rx,List.map_append,List.map_append,List.sum_append,List.sum_append] at e;simp only [List.map_cons,List.map_nil,List.sum_cons,List.sum_nil,Nat.add_zero] at e;have h1:=Jm (W:=W) λx o=>h x ap;have p:=h W ap;rcases QO x W with hl | hl
  .exact Jn (W:=W) (λx o=>h x ap) ap x hl
  .obtain rfl:x=W:=ap;omega
section
variable {i:Inp} {M:WSt}
theorem dX.pos_le (h:dX i M) (hs:bD i) {x:Nat} (o:x<(ax i).W):M.pos i x<=(dC i x).length:=(h.ok.mok x o).done hs
theorem dX.sum_le (h:dX i M) (hs:bD i):M.sum i<=jF i:=Jm λ_ o=>h.pos_le hs o
theorem dX.fin_iff (h:dX i M) (hs:bD i):M.fin i↔M.sum i=jF i:=by
 constructor
 .intro p;unfold WSt.sum jF
  congr 1
  exact List.map_congr_left λx o=>p x (List.mem_range.1 o)
 .intro he;exact Jn (λ_ o=>h.pos_le hs o) he
theorem rV (h:dX i M) (hs:bD i) {x:Nat} (o:x<(ax i).W):dX i (pkF i M x).1/\((pkF i M x).2=true↔can i i.cfg.cap.toNat (M.pos i) x)/\((pkF i M x).2=true->(pkF i M x).1.pos i x=M.pos i x+1/\(∀z,z≠x->(pkF i M x).1.pos i z=M.pos i z)/\(pkF i M x).1.sum i=M.sum i+1)/\((pkF i M x).2=false->(pkF i M x).1=M):=by
 obtain ⟨C,p,hb⟩:=uF h hs o;obtain ⟨_,B,H,D⟩:=p.ok h.ok hs o (h.wG x o);refine ⟨h.pick hs o p,by rw [hb,<-D];simp,λA=>?_,λu=>H (by rw [hb] at u;simpa using u)⟩;obtain ⟨v,I,_⟩:=B (by rw [hb] at A;simpa using A);have y:∀z,z≠x->(pkF i M x).1.pos i z=M.pos i z:=λz J=>by unfold WSt.pos;rw [I z J]
 exact ⟨v,y,MY o v y⟩
theorem yN (h:dX i M) (hs:bD i) (z:Int):dX i (pkZ i M z).1/\(pkZ i M z).1.sum i=M.sum i+(if (pkZ i M z).2 then 1 else 0)/\((pkZ i M z).2=false->(pkZ i M z).1=M):=by
 unfold pkZ
 split
 .next hz=>
  obtain ⟨h1,_,p,o⟩:=rV h hs (x:=z.toNat) ap;refine ⟨h1,?_,o⟩
  cases hb:(pkF i M z.toNat).2 with
  | true=>rw [if_pos rfl];exact (p hb).2.2
  | false=>rw [o hb];simp
 .exact ⟨h,by simp,λ_=>rfl⟩
theorem wY (l:Q_) (z:Int):dJ i M (l++[z])=((pkZ i (dJ i M l).1 z).1,(dJ i M l).2+if (pkZ i (dJ i M l).1 z).2 then 1 else 0):=by
 unfold dJ;rw [List.foldl_append];rfl
theorem tA (h:dX i M) (hs:bD i):∀l:Q_,dX i (dJ i M l).1/\(dJ i M l).1.sum i=M.sum i+(dJ i M l).2:=by
 have o:∀l:Q_,dX i (dJ i M l.reverse).1/\(dJ i M l.reverse).1.sum i=M.sum i+(dJ i M l.reverse).2:=by
  intro l
  induction l with
  | nil=>exact ⟨h,rfl⟩
  | cons z l ih=>
   rw [List.reverse_cons,wY];obtain ⟨h1,p,_⟩:=yN ih.1 hs z;refine ⟨h1,?_⟩
   show (pkZ i (dJ i M l.reverse).1 z).1.sum i=_
   rw [p,ih.2];omega
 intro l;have:=o l.reverse
 rwa [List.reverse_reverse] at this
end
section
variable {i:Inp} {M:WSt}
theorem zT (l:Q_):∀(M:WSt) (n:Nat),l.foldl (λp z=>((pkZ i p.1 z).1,p.2+if (pkZ i p.1 z).2 then 1 else 0)) (M,n)=((dJ i M l).1,n+(dJ i M l).2):=by
 unfold dJ
 induction l with
 | nil=>intro M n;rfl
 | cons z l ih=>
  intro M n;rw [List.foldl_cons,List.foldl_cons,ih,ih _ (0+_)];simp only [RB,Rz]
theorem sS (a l:Q_):dJ i M (a++l)=((dJ i (dJ i M a).1 l).1,(dJ i M a).2+(dJ i (dJ i M a).1 l).2):=by
 rw [show dJ i M (a++l)=l.foldl (λp z=>((pkZ i p.1 z).1,p.2+if (pkZ i p.1 z).2 then 1 else 0)) ((dJ i M a).1,(dJ i M a).2) from List.foldl_append,zT]
theorem wZ (z:Int) (l:Q_):dJ i M (z::l)=((dJ i (pkZ i M z).1 l).1,(if (pkZ i M z).2 then 1 else 0)+(dJ i (pkZ i M z).1 l).2):=by
 rw [show dJ i M (z::l)=l.foldl (λp z=>((pkZ i p.1 z).1,p.2+if (pkZ i p.1 z).2 then 1 else 0)) ((pkZ i M z).1,0+if (pkZ i M z).2 then 1 else 0) from rfl,zT,RB]
theorem Pj (h:dX i M) (hs:bD i) {x:Nat} (o:x<(ax i).W) (hc:can i i.cfg.cap.toNat (M.pos i) x):∀l:Q_,(x:Int)∈l->1<=(dJ i M l).2:=by
 intro l
 induction l with
 | nil=>intro h;cases h
 | cons z l ih=>
  intro hm;rw [wZ]
  cases hb:(pkZ i M z).2 with
  | true=>simp only [if_true];omega
  | false=>
   rw [(yN h hs z).2.2 hb];rcases List.mem_cons.1 hm with e | e
   .exfalso;subst e;unfold pkZ at hb;rw [if_pos ⟨by omega,by omega⟩] at hb;have:=(rV h hs o).2.1.2 hc;rw [Int.toNat_natCast] at hb;rw [hb] at this
    cases this
   .have:=ih e;simpa using this
theorem dX.some (h:dX i M) (hs:bD i) (p:1<=i.cfg.cap.toNat) (hn:¬M.fin i):∃z,z<(ax i).W/\can i i.cfg.cap.toNat (M.pos i) z:=by
 refine h.ok.live hs p ?_;refine Classical.byContradiction λhc=>hn λx o=>?_;have:=h.pos_le hs o;refine Classical.byContradiction λhe=>hc ⟨x,o,by omega⟩
theorem dX.fin_run (h:dX i M) (hs:bD i) (o:M.fin i) (l:Q_):(dJ i M l).1.fin i:=by
 obtain ⟨h1,p⟩:=tA h hs l;rw [h1.fin_iff hs];have v:=(h.fin_iff hs).1 o;have u:=h1.sum_le hs;omega
theorem vt (hs:bD i) (p:1<=i.cfg.cap.toNat):∀(bs:List (Q_)) {M:WSt},dX i M->(∀b∈bs,∀x,x<(ax i).W->(x:Int)∈b)->jF i<=M.sum i+bs.length->(dJ i M bs.flatten).1.fin i
 | [],M,h,_,hl=>by
  show M.fin i
  rw [h.fin_iff hs];have:=h.sum_le hs;simp only [List.length_nil] at hl;omega
 | b::bs,M,h,hb,hl=>by
  by_cases o:M.fin i
  .exact h.fin_run hs o _
  .obtain ⟨z,u,hc⟩:=h.some hs p o;have h1:=Pj h hs u hc b (hb b (List.mem_cons_self ..) z u);obtain ⟨v,y⟩:=tA h hs b;rw [List.flatten_cons,sS];refine vt hs p bs v (λc hm=>hb c (List.mem_cons_of_mem _ hm)) ?_;rw [List.length_cons] at hl;omega
end
def lK (W s n:Nat):Q_:=(List.range n).map λk=>(((k+s)%W:Nat):Int)
theorem qI {W s:Nat} (i:0<W):∀T:Nat,∃bs:List (Q_),lK W s (T*W)=bs.flatten/\bs.length=T/\∀b∈bs,∀x,x<W->(x:Int)∈b
 | 0=>⟨[],by simp [lK],rfl,λ_ h=>by cases h⟩
 | T+1=>by
  obtain ⟨bs,h1,p,u⟩:=qI (s:=s) i T;refine ⟨bs++[(List.range W).map λk=>(((T*W+k+s)%W:Nat):Int)],?_,by simp [p],λb hb x o=>?_⟩
  .rw [Rs,<-h1,Ry];unfold lK;rw [List.range_add,List.map_append];simp [List.map_map,Function.comp_def]
  .rcases Rw.1 hb with hb | hb
   .exact u b hb x o
   .rw [List.mem_singleton.1 hb];refine List.mem_map.2 ⟨(x+(W-s%W))%W,List.mem_range.2 (Nat.mod_lt _ i),?_⟩;have hm:=Nat.mod_lt s i
    congr 1
    rw [Rz,Nat.mul_comm T W,Nat.mul_add_mod,Nat.mod_add_mod,<-Nat.add_mod_mod,show x+(W-s%W)+s%W=x+W by omega,Nat.add_mod_right,Nat.mod_eq_of_lt o]
theorem qL {p:Pln} (h:bT p):jh p<=810000:=by
 have h1:=tx h (Qx p.buks.length);have i:=h.W8;have v:=h.mi;have o:=h.buks;have u:p.W*(p.mi+2*p.buks.length+1)<=8*141:=Nat.mul_le_mul i ap;unfold jh;omega
theorem kQ {i:Inp} (o:bT (ax i)):jF i=jh (ax i)*i.cfg.steps.toNat:=by
 have h:jF i=bH (ax i).W λx=>bH i.cfg.steps.toNat λst=>(aE (ax i) x st).length:=by
  unfold jF bH dC
  congr 1
  refine List.map_congr_left λx _=>?_
  show (iL i x i.cfg.steps.toNat).length=_
  unfold iL;rw [List.length_flatMap]
 rw [h,iP,dZ λst _=>D9 o st,fx,Nat.mul_comm]
end Go.Proofs.YtindmkcnjlgomaaGreat
namespace Go.Proofs.YtindmkcnjlgomaaGreat
open Go.RowKit Go.ChangeShapes Go.WideShapes Go.ChangeAt
open Tryz
theorem EA:kD prog 2 1 (OF .i64):=xB underlying2 (by kernel_rfl)
theorem uN:kD prog 27 1 (Es .u64):=qm underlying27 underlying33 (by kernel_rfl) (by kernel_rfl) (by kernel_rfl)
theorem I6 {l:Q_} (h:∀z∈l,(Lit.int .u64 z).wf=true):U64 l:=λk hk=>by
 have:=h _ (yR hk);simpa [Lit.wf,IntKind.min,IntKind.max,IntKind.signed,IntKind.bits] using this
theorem I5 {z:Int} (h:(Lit.int .i64 z).wf=true): -9223372036854775808<=z/\z<=9223372036854775807:=by
 simpa [Lit.wf,IntKind.min,IntKind.max,IntKind.signed,IntKind.bits] using h
theorem yc:prog.cellsOf 145=2:=by kernel_rfl
theorem vL:prog.cellsOf 24=12:=by kernel_rfl
theorem vK:prog.cellsOf 29=15:=by kernel_rfl
theorem uD {w:R8} {A:N_} {zs:Q_} {c:Nat} (h:zs.length<=c) (o:zs.length<=17592186043904) (p:Rd w A (aA .i64 zs)) (i:∀z∈zs,(Lit.int .i64 z).wf=true):cU w A zs c:=⟨h,o,p,yp i⟩
theorem KL:kD prog 145 2 rEx:=⟨yc,λ{H O W C L x} h o=>by
 obtain ⟨xs,n,_,v,hl,i,u⟩:=DataW.trod_struct underlying145 h;rw [yc] at hl;have p:xs.length=2:=i;obtain ⟨Y,A,c,a1,V,a3,Q,N,U⟩:=cu qo underlying145 v o (u 0 _ rfl) ap rfl;obtain ⟨J,B,d,y,R,Z,T,D,I⟩:=cu qo underlying145 v o (u 1 _ rfl) ap rfl;clear h u i p v o
 match L,hl with
 | [c0,c1],_=>
  simp at a1 y
  exact ⟨rfl,⟨Y,J⟩,A,c,B,d,by simp [a1,y],uD V Q N U,uD R T D I⟩⟩
theorem GQ:kD prog 25 1 (rSl rEx 2):=AK underlying25 KL (by kernel_rfl) (of_decide_eq_true (by kernel_rfl))
def Qh:fq Cfg:=λw h k=>∃A c,h=(dH A c k).toList/\kF w A c k/\(-9223372036854775808<=k.rate/\k.rate<=9223372036854775807)/\(-9223372036854775808<=k.mom/\k.mom<=9223372036854775807)/\W64 k.sizes/\W64 [k.shift,k.workers,k.batch,k.micros,k.steps,k.bucket,k.chunk,k.window,k.cap]
theorem GT:kD prog 24 12 Qh:=⟨vL,λ{H a7 W T cs x} h i=>by
 obtain ⟨xs,n,_,p,hl,u,o⟩:=DataW.trod_struct underlying24 h;rw [vL] at hl;have v:xs.length=12:=u;obtain ⟨sz,A,c,a1,a2,a3,a4,a5,a6⟩:=cu uO underlying24 p i (o 0 _ rfl) ap rfl;obtain ⟨z1,h1,g1⟩:=cu jH underlying24 p i (o 1 _ rfl) ap rfl;obtain ⟨z2,I,g2⟩:=cu EA underlying24 p i (o 2 _ rfl) ap rfl;obtain ⟨z3,R,g3⟩:=cu EA underlying24 p i (o 3 _ rfl) ap rfl;obtain ⟨z4,J,g4⟩:=cu jH underlying24 p i (o 4 _ rfl) ap rfl;obtain ⟨Z,N,g5⟩:=cu jH underlying24 p i (o 5 _ rfl) ap rfl;obtain ⟨z6,U,g6⟩:=cu jH underlying24 p i (o 6 _ rfl) ap rfl;obtain ⟨Y,L,g7⟩:=cu jH underlying24 p i (o 7 _ rfl) ap rfl;obtain ⟨z8,Q,g8⟩:=cu jH underlying24 p i (o 8 _ rfl) ap rfl;obtain ⟨z9,V,g9⟩:=cu jH underlying24 p i (o 9 _ rfl) ap rfl;obtain ⟨C,y,a8⟩:=cu jH underlying24 p i (o 10 _ rfl) ap rfl;obtain ⟨D,B,a0⟩:=cu jH underlying24 p i (o 11 _ rfl) ap rfl;clear h o u v p i
 match cs,hl with
 | [c0,c1,c2,c3,c4,c5,c6,c7,c8,c9,c10,c11],_=>
  simp at a1 h1 I R J N U L Q V y B;refine ⟨rfl,⟨sz,z1,z2,z3,z4,Z,z6,Y,z8,z9,C,D⟩,A,c,by simp [dH,a1,h1,I,R,J,N,U,L,Q,V,y,B],⟨a2,a3,a4,a5⟩,I5 g2,I5 g3,yp a6,?_⟩;refine yp λz O=>?_;simp only [List.mem_cons,List.not_mem_nil,or_false] at O
  rcases O with rfl | rfl | rfl | rfl | rfl | rfl | rfl | rfl | rfl<;>assumption⟩
def PH:fq Inp:=λw p i=>∃A c D o T ct R h,p=(aL A c D o T ct R h i).toList/\jB w A c D T ct R i/\i.data.length<=o/\o<=9223372036854775807/\i.draws.length<=h/\h<=9223372036854775807/\ct<=9223372036854775807/\W64 i.cfg.sizes/\W64 [i.cfg.shift,i.cfg.workers,i.cfg.batch,i.cfg.micros,i.cfg.steps,i.cfg.bucket,i.cfg.chunk,i.cfg.window,i.cfg.cap]
theorem GP:kD prog 29 15 PH:=⟨vK,λ{H a0 W I cs x} h i=>by
 obtain ⟨xs,n,_,v,hl,o,u⟩:=DataW.trod_struct underlying29 h;rw [vK] at hl;have p:xs.length=4:=o;obtain ⟨k,A,c,y,k2,k3,k4,k5,k6⟩:=cu GT underlying29 v i (u 0 _ rfl) ap rfl;obtain ⟨Z,D,cd,C,J,N,d4,d5⟩:=cu GQ underlying29 v i (u 1 _ rfl) ap rfl;obtain ⟨st,T,ct,t1,t2,L,Q,t5,U⟩:=cu qo underlying29 v i (u 2 _ rfl) ap rfl;obtain ⟨dr,R,cr,B,r2,O,Y,r5,V⟩:=cu uN underlying29 v i (u 3 _ rfl) ap rfl;clear h u o p v i
 match cs,hl with
 | [c0,c1,c2,c3,c4,c5,c6,c7,c8,c9,c10,c11,c12,c13,c14],_=>
  simp [dH] at y C t1 B
  exact ⟨rfl,⟨k,Z,st,dr⟩,A,c,D,cd,T,ct,R,cr,by simp [aL,y,C,t1,B],⟨k2,d5,d4,uD t2 Q t5 U,r5,Y,I6 V,k3,k4⟩,J,N,r2,O,L,k5,k6⟩⟩
theorem uQ {H:Type} {y:R9×Value->H} {W:R8} {base:Nat} {v:Value} {d:DataW H} {p:List MemPlace} (o:Value.okWide prog W .any base 29 v) (h:DataW.Trod y prog W 0 (λ_=>true) true 29 v d p) (z:ge prog 29 d):
  ∃(A:N_) (c:Nat) (D:N_) (u:Nat) (T:N_) (ct:Nat) (R:N_) (x:Nat) (i:Inp),v=.agg (aL A c D u T ct R x i)/\jB W A c D T ct R i/\i.data.length<=u/\u<=9223372036854775807/\i.draws.length<=x/\x<=9223372036854775807/\ct<=9223372036854775807/\W64 i.cfg.sizes/\W64 [i.cfg.shift,i.cfg.workers,i.cfg.batch,i.cfg.micros,i.cfg.steps,i.cfg.bucket,i.cfg.chunk,i.cfg.window,i.cfg.cap]:=by
 obtain ⟨B,rfl,_⟩:=okWide_struct underlying29 o;obtain ⟨i,⟨A,c,D,u,T,ct,R,x,e,h1⟩,_⟩:=nH GP h z;refine ⟨A,c,D,u,T,ct,R,x,i,?_,h1⟩;obtain ⟨l⟩:=B;have C:l=_:=e;rw [C]
theorem tw {P:Program} {ops:T0} {rest:List Oper} {op:Oper} {a:T1} {w:R8} {Q:Exit->T1->R8->Prop} {p:R9} {x:Operand} {b o:Nat} {xs:R6} {t:R9} {C:Nat×Nat} (i:R6) (hb:w.heap[b]?=some (.cells xs t C)) (hr:dg P p i.size) (hw:Region.wanted op (yielded ops a.tmps)=true) (u:op.op=.load p x) (B:a.eval x=.pointer (some (ar b o))) (hcs:(xs.toList.drop o).take i.toList.length=i.toList) (h:wpList P ops Q rest (a.put op.dst (.agg i)) w):wpList P ops Q (op::rest) a w:=by
 obtain ⟨⟨d,h1,v⟩,A⟩:=hr;refine wpList_step λK y=>?_;rw [if_pos hw];exact wp_load_mid p x u b o B i.toList d (fy hb o hcs) h1 v (by simpa using A) (y _ _ (by simpa using h))
end Go.Proofs.YtindmkcnjlgomaaGreat
namespace Go.Proofs.YtindmkcnjlgomaaGreat
open Go.RowKit
open Tryz
def Qa (i:Inp):Prop:=wB i/\(dQ i=0->i.cfg.workers<=6/\i.cfg.steps<=5/\i.start.length<=40)
theorem CV (A:N_) (c:Nat) (D:N_) (H:Nat) (T:N_) (ct:Nat) (R:N_) (B:Nat) (i:Inp) (w:R8) (h:jB w A c D T ct R i):Calls prog 29 #[.agg (aL A c D H T ct R B i)] w (vW (Qa i) w):=by
 obtain ⟨v,x⟩:∃v,w.alloc (.cells (aL A c D H T ct R B i) 29)=v:=⟨_,rfl⟩;have N:v.heap[w.heap.size]?=some (.cells (aL A c D H T ct R B i) 29 (0,0)):=by rw [<-x];exact Qy w _
 have y:aq w v:=by rw [<-x];exact (br w).alloc (Qx _) _
 have Z:=CW A c D H T ct R B i v (h.below y);have Q:=λ(hs:iZ i) p (q:aq v p)=>j9 A c D H T ct R B i p (((h.rd hs).below y).below q);have t4:∀p,aq v p->p.cell? (ar w.heap.size 4)=some (RI i.cfg.workers):=λp q=>Qz p w.heap.size 4 _ _ _ (sb N p q);have t7:∀p,aq v p->p.cell? (ar w.heap.size 7)=some (RI i.cfg.steps):=λp q=>Qz p w.heap.size 7 _ _ _ (sb N p q);have a1:∀p,aq v p->p.cell? (ar w.heap.size 13)=some (.slice T i.start.length ct):=λp q=>Qz p w.heap.size 13 _ _ _ (sb N p q);unfold vW Qa;unfold vW at Z;obtain ⟨L,J,Hf,a0,G0⟩:=ah x y Z Q N;have q0:=br v;clear x N y Z Q h;go_enter func29,ntmps29;go_wp2_with (refine aN (aL A c D H T ct R B i) (b:=w.heap.size) (by rw [L.o];exact G0.o) ez rfl rfl rfl rfl ?_);rw [L.o];refine Hf.o.mono ?_;rintro e w1 ⟨⟨b,rfl,hb⟩,U⟩;have O:=bt q0 U;obtain ⟨I,Y⟩:=ae (J.o.trans (U.mono J.o.size)) hb;clear hb U q0
 cases b with
 | false=>
  go_wp2_with fail;go_ret;exact ⟨⟨false,rfl,λh=>by cases h⟩,I.o⟩
 | true=>
  go_wp2_with (first | (refine aN (aL A c D H T ct R B i) (sb G0.o _ O) ez rfl rfl rfl rfl ?_) | (refine tw (aL A c D H T ct R B i) (sb G0.o _ O) ez rfl rfl rfl rfl ?_));refine (a0.o (Y.o (by trivial)).1 w1 O).mono ?_;rintro e w2 ⟨rfl,k2⟩;have q2:=bt O k2;have u:=aa (I.o.trans (k2.mono I.o.size));clear k2 O;obtain ⟨C,V⟩:∃C,dQ i=C:=⟨_,rfl⟩;rw [V];have HC:=aa V;clear V;by_cases h0:C=0
  .subst h0;by_cases h6:i.cfg.workers<=6
   .by_cases h5:i.cfg.steps<=5
    .by_cases h4:i.start.length<=40
     .go_wp2_with fail;go_ret;exact ⟨⟨_,rfl,λ_=>⟨Y.o (by trivial),λ_=>⟨h6,h5,h4⟩⟩⟩,u.o⟩
     .go_wp2_with fail;go_ret;exact ⟨⟨false,by simp;omega,λh=>by cases h⟩,u.o⟩
    .go_wp2_with fail;go_ret;exact ⟨.inl rfl,u.o⟩
   .go_wp2_with fail;go_ret;exact ⟨.inl rfl,u.o⟩
  .go_wp2_with fail;go_ret;exact ⟨⟨true,rfl,λ_=>⟨Y.o (by trivial),λh=>absurd (HC.o.symm.trans h) h0⟩⟩,u.o⟩
end Go.Proofs.YtindmkcnjlgomaaGreat
namespace Go.Proofs.YtindmkcnjlgomaaGreat
open Go.RowKit Go.ChangeShapes Go.WideShapes Go.ChangeAt
open Tryz
theorem ua (A:N_) (c:Nat) (D:N_) (C:Nat) (T:N_) (ct:Nat) (R:N_) (y:Nat) (i:Inp) (B:N_) (n c2:Nat) (W:R8) (hI:jB W A c D T ct R i):Calls prog 7 #[.agg (aL A c D C T ct R y i),.slice B n c2] W λe v=>(∃b,e=.returned (.bool b)/\(b=true->wB i/\dQ i=0/\n<=300))/\aq W v:=by
 have p:=λv (q:aq W v)=>CV A c D C T ct R y i v (hI.below q);have U:=λv (q:aq W v) (hs:iZ i)=>(hI.below q).rd hs;unfold vW at p;obtain ⟨W1,u⟩:∃W1,W.alloc (.cells (aL A c D C T ct R y i) 29)=W1:=⟨_,rfl⟩;have hx:W1.heap[W.heap.size]?=some (.cells (aL A c D C T ct R y i) 29 (0,0)):=by rw [<-u];exact Qy W _
 have hB:aq W W1:=by rw [<-u];exact (br W).alloc (Qx _) _
 have tl:=sl hx;obtain ⟨N,O,Q,a1,HB,I⟩:=ai hx u p U hB (λv (q:aq W1 v)=>hB.trans (q.mono hB.size));clear p U hI hx hB u;go_enter func7,ntmps7;go_wp2_with (refine aN (aL A c D C T ct R y i) (b:=W.heap.size) (by rw [O.o];exact N.o) ez rfl rfl rfl rfl ?_);rw [O.o];have Z:=br W1;refine (Q.o W1 (I.o _ Z)).mono ?_;rintro e w2 ⟨⟨b,rfl,x⟩,k2⟩;have V:=bt Z k2;clear Z k2;rcases dW b with rfl | rfl
 .clear x;go_wp2_with fail;go_ret;exact ⟨⟨false,rfl,λh=>by cases h⟩,I.o _ V⟩
 obtain ⟨Hs,Q2⟩:=ae (x rfl) V;have L:=aa (a1.o w2 (I.o _ V) Hs.o.1.1);clear x V;go_wp2_with (refine tw (aL A c D C T ct R y i) (sb N.o _ Q2.o) ez rfl rfl rfl rfl ?_);refine (j9 A c D C T ct R y i w2 L.o).mono ?_;rintro e w3 ⟨rfl,k3⟩;have Y:=aa (bt Q2.o k3);clear k3 L;by_cases J:dQ i=0
 .have H0:=aa J;rw [J];clear J;by_cases hn:n<=300
  .have a0:¬(300:Int)<n:=ap;have H:(n:Int)<=300:=ap;go_wp2_with fail;go_ret;exact ⟨⟨true,by simp [H],λ_=>⟨Hs.o.1,H0.o,hn⟩⟩,I.o _ Y.o⟩
  .have a0:(300:Int)<n:=ap;have H:¬(n:Int)<=300:=ap;go_wp2_with fail;go_ret;exact ⟨⟨false,by simp [H],λh=>by cases h⟩,I.o _ Y.o⟩
 .have a2:(dQ i != 0)=true:=by rw [bne_iff_ne];exact J
  have a3:(dQ i==0)=false:=by simpa using J
  clear J;go_wp2_with fail;go_ret;exact ⟨⟨false,rfl,λh=>by cases h⟩,I.o _ Y.o⟩
end Go.Proofs.YtindmkcnjlgomaaGreat
namespace Go.Proofs.YtindmkcnjlgomaaGreat
open Go.RowKit
open Tryz
def smK:Inp:=⟨⟨[1,1],1,1,1,2,2,1,1,2,1,1,1⟩,[([2],[6]),([4],[2])],[4,2],[1,0]⟩
theorem Jz:nk smK:=by
 refine ⟨⟨by decide,by decide,⟨⟨by decide,λk hk=>?_⟩,by decide⟩,by decide,by decide,by decide,by decide,by decide,by decide,by decide⟩,by decide,λx h=>?_,by decide,by decide⟩
 .have:k=0\/k=1:=by have:k<2:=hk;omega
  rcases this with rfl | rfl<;>decide
 .have:x=([2],[6])\/x=([4],[2]):=by simpa [smK] using h
  rcases this with rfl | rfl<;>decide
theorem jY:bD smK:=⟨Jz,by decide,by decide,by decide,by decide,by decide⟩
theorem Ov {w:R8} {b:Nat} (O:w.heap[b]?=some (.cells #[RI 1,RI 1] 3 (0,0))) {p u o i B y A:Nat} (H:w.heap[p]?=some (.cells #[RI 2] 2 (0,0))) (Q:w.heap[u]?=some (.cells #[RI 6] 2 (0,0))) (I:w.heap[o]?=some (.cells #[RI 4] 2 (0,0))) (N:w.heap[i]?=some (.cells #[RI 2] 2 (0,0))) (C:w.heap[B]?=some (.cells #[.slice (some (ar p 0)) 1 1,.slice (some (ar u 0)) 1 1,.slice (some (ar o 0)) 1 1,.slice (some (ar i 0)) 1 1] 145 (0,0))) (L:w.heap[y]?=some (.cells #[RI 4,RI 2] 2 (0,0))) (D:w.heap[A]?=some (.cells #[.int .u64 1,.int .u64 0] 33 (0,0))):
  gW w (some (ar b 0)) 2 (some (ar B 0)) (some (ar y 0)) 2 (some (ar A 0)) smK:=by
 refine ⟨⟨by decide,by decide,by decide,sW O⟩,?_,by decide,⟨by decide,by decide,sW L,qG (by simp [smK])⟩,by decide,sW D,by decide,λk hk=>?_,by decide,by decide⟩
 .refine ⟨[[.slice (some (ar p 0)) 1 1,.slice (some (ar u 0)) 1 1],[.slice (some (ar o 0)) 1 1,.slice (some (ar i 0)) 1 1]],sW C,rfl,by simp,λj x v=>?_⟩;have J:j=0\/j=1:=by have:=(Ri.1 v).1;simp [smK] at this;omega
  rcases J with rfl | rfl
  .have h:x=([2],[6]):=by simpa [smK] using v.symm
   subst h;exact ⟨_,_,_,_,rfl,⟨by decide,by decide,sW H,qG (by simp)⟩,⟨by decide,by decide,sW Q,qG (by simp)⟩⟩
  .have h:x=([4],[2]):=by simpa [smK] using v.symm
   subst h;exact ⟨_,_,_,_,rfl,⟨by decide,by decide,sW I,qG (by simp)⟩,⟨by decide,by decide,sW N,qG (by simp)⟩⟩
 .have:k=0\/k=1:=by have:k<2:=hk;omega
  rcases this with rfl | rfl<;>decide
theorem FG (w:R8):Calls prog 33 #[] w λe h=>∃b v y u o p i x:Nat,e=.returned (.agg #[.slice (some (ar b 0)) 2 2,RI 1,RI 1,RI 1,RI 2,RI 2,RI 1,RI 1,RI 2,RI 1,RI 1,RI 1,.slice (some (ar p 0)) 2 2,.slice (some (ar i 0)) 2 2,.slice (some (ar x 0)) 2 2])/\h.heap[b]?=some (.cells #[RI 1,RI 1] 3 (0,0))/\h.heap[v]?=some (.cells #[RI 2] 2 (0,0))/\h.heap[y]?=some (.cells #[RI 6] 2 (0,0))/\h.heap[u]?=some (.cells #[RI 4] 2 (0,0))/\h.heap[o]?=some (.cells #[RI 2] 2 (0,0))/\
  h.heap[p]?=some (.cells #[.slice (some (ar v 0)) 1 1,.slice (some (ar y 0)) 1 1,.slice (some (ar u 0)) 1 1,.slice (some (ar o 0)) 1 1] 145 (0,0))/\h.heap[i]?=some (.cells #[RI 4,RI 2] 2 (0,0))/\h.heap[x]?=some (.cells #[.int .u64 1,.int .u64 0] 33 (0,0))/\aq w h:=by
 go_enter func33,ntmps33;go_wp2_with fail;refine QM (Ai rfl rfl (bY [.cells #[.slice (some (ar (w.heap.size+1) 0)) 2 2,RI 1,RI 1,RI 1,RI 2,RI 2,RI 1,RI 1,RI 2,RI 1,RI 1,RI 1,.slice (some (ar (w.heap.size+1+1+1+1+1+1+1) 0)) 2 2,.slice (some (ar (w.heap.size+1+1+1+1+1+1+1+1) 0)) 2 2,.slice (some (ar (w.heap.size+1+1+1+1+1+1+1+1+1) 0)) 2 2] 29,.cells #[RI 1,RI 1] 3,.cells #[.slice (some (ar (w.heap.size+1) 0)) 2 2,RI 1,RI 1,RI 1,RI 2,RI 2,RI 1,RI 1,RI 2,RI 1,RI 1,RI 1] 24,.cells #[RI 2] 2,.cells #[RI 6] 2,.cells #[RI 4] 2,.cells #[RI 2] 2,.cells #[.slice (some (ar (w.heap.size+1+1+1) 0)) 1 1,.slice (some (ar (w.heap.size+1+1+1+1) 0)) 1 1,.slice (some (ar (w.heap.size+1+1+1+1+1) 0)) 1 1,.slice (some (ar (w.heap.size+1+1+1+1+1+1) 0)) 1 1] 145,.cells #[RI 4,RI 2] 2,.cells #[.int .u64 1,.int .u64 0] 33] w 0 rfl) ez) rfl ⟨_,_,_,_,_,_,_,_,rfl,bY [.cells #[.slice (some (ar (w.heap.size+1) 0)) 2 2,RI 1,RI 1,RI 1,RI 2,RI 2,RI 1,RI 1,RI 2,RI 1,RI 1,RI 1,.slice (some (ar (w.heap.size+1+1+1+1+1+1+1) 0)) 2 2,.slice (some (ar (w.heap.size+1+1+1+1+1+1+1+1) 0)) 2 2,.slice (some (ar (w.heap.size+1+1+1+1+1+1+1+1+1) 0)) 2 2] 29,.cells #[RI 1,RI 1] 3,.cells #[.slice (some (ar (w.heap.size+1) 0)) 2 2,RI 1,RI 1,RI 1,RI 2,RI 2,RI 1,RI 1,RI 2,RI 1,RI 1,RI 1] 24,.cells #[RI 2] 2,.cells #[RI 6] 2,.cells #[RI 4] 2,.cells #[RI 2] 2,.cells #[.slice (some (ar (w.heap.size+1+1+1) 0)) 1 1,.slice (some (ar (w.heap.size+1+1+1+1) 0)) 1 1,.slice (some (ar (w.heap.size+1+1+1+1+1) 0)) 1 1,.slice (some (ar (w.heap.size+1+1+1+1+1+1) 0)) 1 1] 145,.cells #[RI 4,RI 2] 2,.cells #[.int .u64 1,.int .u64 0] 33] w 1 rfl,bY [.cells #[.slice (some (ar (w.heap.size+1) 0)) 2 2,RI 1,RI 1,RI 1,RI 2,RI 2,RI 1,RI 1,RI 2,RI 1,RI 1,RI 1,.slice (some (ar (w.heap.size+1+1+1+1+1+1+1) 0)) 2 2,.slice (some (ar (w.heap.size+1+1+1+1+1+1+1+1) 0)) 2 2,.slice (some (ar (w.heap.size+1+1+1+1+1+1+1+1+1) 0)) 2 2] 29,.cells #[RI 1,RI 1] 3,.cells #[.slice (some (ar (w.heap.size+1) 0)) 2 2,RI 1,RI 1,RI 1,RI 2,RI 2,RI 1,RI 1,RI 2,RI 1,RI 1,RI 1] 24,.cells #[RI 2] 2,.cells #[RI 6] 2,.cells #[RI 4] 2,.cells #[RI 2] 2,.cells #[.slice (some (ar (w.heap.size+1+1+1) 0)) 1 1,.slice (some (ar (w.heap.size+1+1+1+1) 0)) 1 1,.slice (some (ar (w.heap.size+1+1+1+1+1) 0)) 1 1,.slice (some (ar (w.heap.size+1+1+1+1+1+1) 0)) 1 1] 145,.cells #[RI 4,RI 2] 2,.cells #[.int .u64 1,.int .u64 0] 33] w 3 rfl,bY [.cells #[.slice (some (ar (w.heap.size+1) 0)) 2 2,RI 1,RI 1,RI 1,RI 2,RI 2,RI 1,RI 1,RI 2,RI 1,RI 1,RI 1,.slice (some (ar (w.heap.size+1+1+1+1+1+1+1) 0)) 2 2,.slice (some (ar (w.heap.size+1+1+1+1+1+1+1+1) 0)) 2 2,.slice (some (ar (w.heap.size+1+1+1+1+1+1+1+1+1) 0)) 2 2] 29,.cells #[RI 1,RI 1] 3,.cells #[.slice (some (ar (w.heap.size+1) 0)) 2 2,RI 1,RI 1,RI 1,RI 2,RI 2,RI 1,RI 1,RI 2,RI 1,RI 1,RI 1] 24,.cells #[RI 2] 2,.cells #[RI 6] 2,.cells #[RI 4] 2,.cells #[RI 2] 2,.cells #[.slice (some (ar (w.heap.size+1+1+1) 0)) 1 1,.slice (some (ar (w.heap.size+1+1+1+1) 0)) 1 1,.slice (some (ar (w.heap.size+1+1+1+1+1) 0)) 1 1,.slice (some (ar (w.heap.size+1+1+1+1+1+1) 0)) 1 1] 145,.cells #[RI 4,RI 2] 2,.cells #[.int .u64 1,.int .u64 0] 33] w 4 rfl,bY [.cells #[.slice (some (ar (w.heap.size+1) 0)) 2 2,RI 1,RI 1,RI 1,RI 2,RI 2,RI 1,RI 1,RI 2,RI 1,RI 1,RI 1,.slice (some (ar (w.heap.size+1+1+1+1+1+1+1) 0)) 2 2,.slice (some (ar (w.heap.size+1+1+1+1+1+1+1+1) 0)) 2 2,.slice (some (ar (w.heap.size+1+1+1+1+1+1+1+1+1) 0)) 2 2] 29,.cells #[RI 1,RI 1] 3,.cells #[.slice (some (ar (w.heap.size+1) 0)) 2 2,RI 1,RI 1,RI 1,RI 2,RI 2,RI 1,RI 1,RI 2,RI 1,RI 1,RI 1] 24,.cells #[RI 2] 2,.cells #[RI 6] 2,.cells #[RI 4] 2,.cells #[RI 2] 2,.cells #[.slice (some (ar (w.heap.size+1+1+1) 0)) 1 1,.slice (some (ar (w.heap.size+1+1+1+1) 0)) 1 1,.slice (some (ar (w.heap.size+1+1+1+1+1) 0)) 1 1,.slice (some (ar (w.heap.size+1+1+1+1+1+1) 0)) 1 1] 145,.cells #[RI 4,RI 2] 2,.cells #[.int .u64 1,.int .u64 0] 33] w 5 rfl,bY [.cells #[.slice (some (ar (w.heap.size+1) 0)) 2 2,RI 1,RI 1,RI 1,RI 2,RI 2,RI 1,RI 1,RI 2,RI 1,RI 1,RI 1,.slice (some (ar (w.heap.size+1+1+1+1+1+1+1) 0)) 2 2,.slice (some (ar (w.heap.size+1+1+1+1+1+1+1+1) 0)) 2 2,.slice (some (ar (w.heap.size+1+1+1+1+1+1+1+1+1) 0)) 2 2] 29,.cells #[RI 1,RI 1] 3,.cells #[.slice (some (ar (w.heap.size+1) 0)) 2 2,RI 1,RI 1,RI 1,RI 2,RI 2,RI 1,RI 1,RI 2,RI 1,RI 1,RI 1] 24,.cells #[RI 2] 2,.cells #[RI 6] 2,.cells #[RI 4] 2,.cells #[RI 2] 2,.cells #[.slice (some (ar (w.heap.size+1+1+1) 0)) 1 1,.slice (some (ar (w.heap.size+1+1+1+1) 0)) 1 1,.slice (some (ar (w.heap.size+1+1+1+1+1) 0)) 1 1,.slice (some (ar (w.heap.size+1+1+1+1+1+1) 0)) 1 1] 145,.cells #[RI 4,RI 2] 2,.cells #[.int .u64 1,.int .u64 0] 33] w 6 rfl,bY [.cells #[.slice (some (ar (w.heap.size+1) 0)) 2 2,RI 1,RI 1,RI 1,RI 2,RI 2,RI 1,RI 1,RI 2,RI 1,RI 1,RI 1,.slice (some (ar (w.heap.size+1+1+1+1+1+1+1) 0)) 2 2,.slice (some (ar (w.heap.size+1+1+1+1+1+1+1+1) 0)) 2 2,.slice (some (ar (w.heap.size+1+1+1+1+1+1+1+1+1) 0)) 2 2] 29,.cells #[RI 1,RI 1] 3,.cells #[.slice (some (ar (w.heap.size+1) 0)) 2 2,RI 1,RI 1,RI 1,RI 2,RI 2,RI 1,RI 1,RI 2,RI 1,RI 1,RI 1] 24,.cells #[RI 2] 2,.cells #[RI 6] 2,.cells #[RI 4] 2,.cells #[RI 2] 2,.cells #[.slice (some (ar (w.heap.size+1+1+1) 0)) 1 1,.slice (some (ar (w.heap.size+1+1+1+1) 0)) 1 1,.slice (some (ar (w.heap.size+1+1+1+1+1) 0)) 1 1,.slice (some (ar (w.heap.size+1+1+1+1+1+1) 0)) 1 1] 145,.cells #[RI 4,RI 2] 2,.cells #[.int .u64 1,.int .u64 0] 33] w 7 rfl,bY [.cells #[.slice (some (ar (w.heap.size+1) 0)) 2 2,RI 1,RI 1,RI 1,RI 2,RI 2,RI 1,RI 1,RI 2,RI 1,RI 1,RI 1,.slice (some (ar (w.heap.size+1+1+1+1+1+1+1) 0)) 2 2,.slice (some (ar (w.heap.size+1+1+1+1+1+1+1+1) 0)) 2 2,.slice (some (ar (w.heap.size+1+1+1+1+1+1+1+1+1) 0)) 2 2] 29,.cells #[RI 1,RI 1] 3,.cells #[.slice (some (ar (w.heap.size+1) 0)) 2 2,RI 1,RI 1,RI 1,RI 2,RI 2,RI 1,RI 1,RI 2,RI 1,RI 1,RI 1] 24,.cells #[RI 2] 2,.cells #[RI 6] 2,.cells #[RI 4] 2,.cells #[RI 2] 2,.cells #[.slice (some (ar (w.heap.size+1+1+1) 0)) 1 1,.slice (some (ar (w.heap.size+1+1+1+1) 0)) 1 1,.slice (some (ar (w.heap.size+1+1+1+1+1) 0)) 1 1,.slice (some (ar (w.heap.size+1+1+1+1+1+1) 0)) 1 1] 145,.cells #[RI 4,RI 2] 2,.cells #[.int .u64 1,.int .u64 0] 33] w 8 rfl,bY [.cells #[.slice (some (ar (w.heap.size+1) 0)) 2 2,RI 1,RI 1,RI 1,RI 2,RI 2,RI 1,RI 1,RI 2,RI 1,RI 1,RI 1,.slice (some (ar (w.heap.size+1+1+1+1+1+1+1) 0)) 2 2,.slice (some (ar (w.heap.size+1+1+1+1+1+1+1+1) 0)) 2 2,.slice (some (ar (w.heap.size+1+1+1+1+1+1+1+1+1) 0)) 2 2] 29,.cells #[RI 1,RI 1] 3,.cells #[.slice (some (ar (w.heap.size+1) 0)) 2 2,RI 1,RI 1,RI 1,RI 2,RI 2,RI 1,RI 1,RI 2,RI 1,RI 1,RI 1] 24,.cells #[RI 2] 2,.cells #[RI 6] 2,.cells #[RI 4] 2,.cells #[RI 2] 2,.cells #[.slice (some (ar (w.heap.size+1+1+1) 0)) 1 1,.slice (some (ar (w.heap.size+1+1+1+1) 0)) 1 1,.slice (some (ar (w.heap.size+1+1+1+1+1) 0)) 1 1,.slice (some (ar (w.heap.size+1+1+1+1+1+1) 0)) 1 1] 145,.cells #[RI 4,RI 2] 2,.cells #[.int .u64 1,.int .u64 0] 33] w 9 rfl,fF [.cells #[.slice (some (ar (w.heap.size+1) 0)) 2 2,RI 1,RI 1,RI 1,RI 2,RI 2,RI 1,RI 1,RI 2,RI 1,RI 1,RI 1,.slice (some (ar (w.heap.size+1+1+1+1+1+1+1) 0)) 2 2,.slice (some (ar (w.heap.size+1+1+1+1+1+1+1+1) 0)) 2 2,.slice (some (ar (w.heap.size+1+1+1+1+1+1+1+1+1) 0)) 2 2] 29,.cells #[RI 1,RI 1] 3,.cells #[.slice (some (ar (w.heap.size+1) 0)) 2 2,RI 1,RI 1,RI 1,RI 2,RI 2,RI 1,RI 1,RI 2,RI 1,RI 1,RI 1] 24,.cells #[RI 2] 2,.cells #[RI 6] 2,.cells #[RI 4] 2,.cells #[RI 2] 2,.cells #[.slice (some (ar (w.heap.size+1+1+1) 0)) 1 1,.slice (some (ar (w.heap.size+1+1+1+1) 0)) 1 1,.slice (some (ar (w.heap.size+1+1+1+1+1) 0)) 1 1,.slice (some (ar (w.heap.size+1+1+1+1+1+1) 0)) 1 1] 145,.cells #[RI 4,RI 2] 2,.cells #[.int .u64 1,.int .u64 0] 33] w⟩
theorem mU {i:Func} {t u v x:Tmp} (h:i.results=#[.tmp t,.tmp u,.tmp v,.tmp x]) (tmps:R6) (P:Program) (w:R8): (results i tmps).run P w=.ok (.tuple #[tmps.getD t undef,tmps.getD u undef,tmps.getD v undef,tmps.getD x undef]) w:=by
 simp [results,h]
theorem yy {X:Nat} {v o:N_} {x u n:Nat} {p:Value} {z:Int} {w:R8} (hb:w.heap[X]?=some (.cells #[.slice v n x,.slice o n u,p] 99 (0,0))) (B:z<0\/(n:Int)<=z):Calls prog 43 #[(au X),RI z] w λe i=>e=.returned (.tuple #[.nilIface,.pointer none,.pointer none,.bool false])/\aq w i:=by
 have t:=λi q=>bx3 (sb hb i q);have y:=br w;clear hb;by_cases h:z<0
 .go_enter func43,ntmps43;go_wp2_with fail
  (try simp only [Exit.inBlock,Exit.then]);refine QM (mU rfl _ _ _) rfl ?_
  exact ⟨rfl,br w⟩
 .have A:(n:Int)<=z:=ap;go_enter func43,ntmps43;go_wp2_with fail
  (try simp only [Exit.inBlock,Exit.then]);refine QM (mU rfl _ _ _) rfl ?_
  exact ⟨rfl,br w⟩
theorem Oy {X:Nat} {L C:N_} {Q T n z p:Nat} {O v l l':Value} {J x:R7} {w:R8} (hb:w.heap[X]?=some (.cells #[.slice L n Q,.slice C n T,O] 99 (0,0))) (I:Rd w L J) (y:Rd w C x) (hz:z<n) (hn:n<=1000) (A:(z+n-1)%n=p) (N:J[z]?=some v) (hl:x[p]?=some l) (u:x[z]?=some l'):Calls prog 43 #[(au X),RI (z:Nat)] w λe h=>e=.returned (.tuple #[v,l,l',.bool true])/\aq w h:=by
 have R:p<n:=by rw [<-A];exact Nat.mod_lt _ ap
 obtain ⟨b1,o1,rfl,c1⟩:=I _ _ N;obtain ⟨b2,o2,rfl,c2⟩:=y _ _ hl;obtain ⟨b3,o3,U,c3⟩:=y _ _ u
 cases U
 have t:=λh q=>bx3 (sb hb h q);have t1:=λh (q:aq w h)=>(World.cell?_of_block (q.block _ (aB c1))).trans c1;have t2:=λh (q:aq w h)=>(World.cell?_of_block (q.block _ (aB c2))).trans c2;have Z:=λh (q:aq w h)=>(World.cell?_of_block (q.block _ (aB c3))).trans c3
 have i:((z:Int)+(n:Int)-1).tmod (n:Int)=(p:Int):=by
  rw [<-A,Int.tmod_eq_emod_of_nonneg ap,Int.natCast_emod,show ((z+n-1:Nat):Int)=(z:Int)+n-1 by omega]
 have B:((z:Int)+(n:Int)-1)%(n:Int)=(p:Int):=by rw [<-Int.tmod_eq_emod_of_nonneg ap];exact i
 have V:¬(n=0):=ap;have h1:0<=(z:Int):=ap;have h2:(z:Int)<(n:Int):=ap;have h3:0<=(p:Int):=ap;have h4:(p:Int)<(n:Int):=ap;have Y:IntKind.i64.wrap ((z:Int)+n)=(z:Int)+n:=QC _ ap;have w2:IntKind.i64.wrap ((z:Int)+n-1)=(z:Int)+n-1:=QC _ ap;have H:IntKind.i64.wrap (p:Int)=(p:Int):=QC _ ap;have w5:IntKind.i64.wrap (((z:Int)+n-1).tmod n)=(p:Int):=by rw [i];exact H
 have w6:IntKind.i64.wrap (((z:Int)+n-1)%n)=(p:Int):=by rw [B];exact H
 have D:=br w;clear hb I y A N hl u c1 c2 c3;go_enter func43,ntmps43;go_wp2_with fail;refine HA.g (λh:R8=>aq w h) ?_;refine HA.t ?_ [0,1,2,3,4,5,6,7,8,9,10,11,12,13,14,15,16,17,18,19,20,21,22,23,24,25,26,27,28,29] D.drew ?_;refine HA.d ?_;have K:=aa D.drew;go_wp2_with fail
 (try simp only [Exit.inBlock,Exit.then]);refine QM (mU rfl _ _ _) rfl ?_
 exact ⟨rfl,K.o⟩
theorem zU:dg prog 135 12:=⟨⟨_,underlying135,rfl⟩,by kernel_rfl⟩
theorem FT (w:R8):Calls prog 26 #[.pointer none] w λe h=>e=.returned (.bool true)/\aq w h:=by
 go_enter func26,ntmps26;have i:=br w;go_wp2_with fail;go_ret;exact ⟨rfl,i⟩
theorem FS {X n cw:Nat} {Z:N_} {bs:List Nat} {v1 v2:Value} {w:R8} {ok:Nat->Bool} {B:Bool} (hb:w.heap[X]?=some (.cells #[.slice Z n cw,v1,v2] 99 (0,0))) (U:Rd w Z (bs.map λb=>.iface 100 ((au b)))) (hn:bs.length=n) (a1:n<=1000) (hB:B=true↔∀k,k<n->ok k=false) (hx:∀k b u,bs[k]?=some b->aq w u->Calls prog 206 #[(au b)] u λe Q=>∃H:R6,e=.returned (.tuple #[.agg H,.bool (ok k)])/\(H.size=12/\H.toList.all (·.oneCell')=true)/\aq u Q):Calls prog 26 #[(au X)] w λe u=>e=.returned (.bool B)/\aq w u:=by
 have t:=λu q=>bx3 (sb hb u q);have hm:∀(b:Nat) (w:R8),(method 483 100 ((au b)) "Next").run prog w=.ok (206,(au b)) w:=λ_ _=>by kernel_rfl
 obtain ⟨HW,HX,V,Hn,HM⟩:=ah U hx hB hn hm;have q0:=br w;clear hb U hx hB hn hm;go_enter func26,ntmps26;go_wp2_with fail
 go_loopw [14] (λv wr=>∃k:Nat,k<=n/\v=RI k/\(∀j,j<k->ok j=false)/\aq w wr) (λv _=>n-(intOf v).toNat)
 .exact ⟨0,QB _,rfl,λj hj=>absurd hj (Nat.not_lt_zero j),q0⟩
 case round=>
  obtain ⟨k,hk,rfl,p,q⟩:=hrel;have HA:=aa p;clear p;by_cases y:k<n
  .have a0:(k:Int)<n:=ap;obtain ⟨b,x⟩:∃b,bs[k]?=some b:=⟨_,Rj (by rw [Hn.o];exact y)⟩;have hr:=HW.o k (.iface 100 ((au b))) (by rw [List.getElem?_map,x];rfl);obtain ⟨b1,o1,rfl,c1⟩:=hr;have c2:=(World.cell?_of_block (q.block b1 (aB c1))).trans c1;have Y:=HX.o k b wr x q;obtain ⟨CX,D⟩:=ae Y q;have L:=HM.o b;clear Y x c1;have tq:=t wr q;clear t;go_wp2_with fail;refine CX.o.mono ?_;rintro e w1 ⟨H,rfl,⟨C,i⟩,T⟩;obtain ⟨I,HO,h⟩:=af C i (D.o.trans (T.mono D.o.size));clear C i T q tq c2 L
   cases hok:ok k with
   | true=>
    have O:=aa hok;clear hok;go_wp2_with (refine aI (Qy _ _) zU rfl rfl rfl rfl I.o (by rw [I.o];rfl) HO.o ?_;intro w3 R A;have J:=aa A;clear R A);go_ret
    have N:B=false:=by
     cases hBB:B with
     | false=>rfl
     | true=>have:=V.o.1 hBB k y;rw [O.o] at this;cases this
    refine ⟨by rw [N];rfl,?_⟩;exact (h.o.alloc h.o.size _).trans (J.o.toBelow (by rw [QP];have:=h.o.size;omega) (λj e=>by have:=h.o.size;omega))
   | false=>
    have O:=aa hok;clear hok;go_wp2_with (refine aI (Qy _ _) zU rfl rfl rfl rfl I.o (by rw [I.o];rfl) HO.o ?_;intro w3 R A;have J:=aa ((h.o.alloc h.o.size _).trans (A.toBelow (by rw [QP];have:=h.o.size;omega) (λj e=>by have:=h.o.size;omega)));clear R A);go_roundw
    case rel=>
     refine ⟨k+1,by omega,by go_num,λj hj=>?_,J.o⟩;rcases QO j k with h1 | h1
     .exact HA.o j h1
     .obtain rfl:j=k:=ap;exact O.o
    case measure=>simp [intOf];omega
  .obtain rfl:k=n:=ap;have D:=aa q;clear t q;go_wp2_with fail;go_ret;exact ⟨by rw [V.o.2 HA.o];rfl,D.o⟩
def mM {σ:Type} (st:σ->Int->σ×Bool) (s:σ) (l:Q_):σ×Nat:=l.foldl (λp z=>((st p.1 z).1,p.2+if (st p.1 z).2 then 1 else 0)) (s,0)
theorem rK {σ:Type} (st:σ->Int->σ×Bool) (s:σ) (l:Q_) (z:Int):mM st s (l++[z])=((st (mM st s l).1 z).1,(mM st s l).2+if (st (mM st s l).1 z).2 then 1 else 0):=by
 unfold mM;rw [List.foldl_append];rfl
theorem yB {σ:Type} (st:σ->Int->σ×Bool) (s:σ) (l:Q_):∀k,(mM st s (l.take k)).2<=k
 | 0=>by simp [mM]
 | k+1=>by
  have i:=yB st s l k;rw [List.take_add_one]
  cases h:l[k]? with
  | none=>simp;omega
  | some z=>
   rw [Option.toList_some,rK];dsimp only
   split<;>omega
def oc {σ:Type} (fin:σ->Bool) (st:σ->Int->σ×Bool) (n:Nat):Nat->Nat->σ->σ×Nat
 | 0,p,s=>(s,p)
 | f+1,p,s=>if fin s then (s,p) else oc fin st n f (p+1) (st s ((p%n:Nat):Int)).1
theorem PF (z:Int) (w:R8):Calls prog 34 #[.pointer none,RI z] w λe h=>e=.returned (.tuple #[RI 0,.bool true])/\aq w h:=by
 have H:=aa (λh=>FT h);go_enter func34,ntmps34;go_wp2_with fail;go_step3;go_wp2_with fail;go_step3;go_wp2_with fail;refine (H.o _).mono ?_;rintro e x ⟨rfl,i⟩;have u:=aa i;clear i;go_wp2_with fail;refine (H.o _).mono ?_;rintro e y ⟨rfl,p⟩;have v:=aa (bt u.o p);clear p;go_wp2_with fail;simp only [Exit.noGoto];go_ret2;exact ⟨rfl,v.o⟩
theorem JF {σ:Type} {st:σ->Int->σ×Bool} {fin:σ->Bool} {I:R8->σ->Prop} {X n:Nat} {s:σ} {most:Int} {w:R8} (hn:1<=n) (aM:n<=1000) (hm:most<=1000000) (hb:∀w s,I w s->∃AW cw v1 v2,w.heap[X]?=some (.cells #[.slice AW n cw,v1,v2] 99 (0,0))) (hd:∀w s,I w s->Calls prog 26 #[(au X)] w λe O=>e=.returned (.bool (fin s))/\I O s) (hp:∀w s (z:Nat),I w s->z<n->Calls prog 14 #[(au X),RI (z:Nat)] w λe O=>e=.returned (.bool (st s z).2)/\I O (st s z).1) (h0:I w s):Calls prog 34 #[(au X),RI most] w λe O=>e=.returned (.tuple #[RI ((oc fin st n most.toNat 0 s).2:Nat),.bool (fin (oc fin st n most.toNat 0 s).1)])/\I O (oc fin st n most.toNat 0 s).1:=by
 obtain ⟨Hb,Hd,Hp,H0⟩:=ag hb hd hp h0;clear hb hd hp h0;go_enter func34,ntmps34;go_wp2_with fail;refine wp_scope_jumps 0 (λa' O=>∃(p:Nat) (s':σ) (u6 u7 u8 u9 V U a3 a9 a8 av a4 a1 a5 ab Y a2 a7 a6 ad a0 ao:Value),a'={tmps:=#[(au X),RI most,undef,undef,RI (p:Nat),.bool false,u6,u7,u8,u9,V,U,a3,a9,a8,av,a4,a1,a5,ab,Y,a2,a7,a6,ad,a0,ao],defers:=[]}/\(p:Int)<=1000000/\I O s'/\oc fin st n (most-p).toNat p s'=oc fin st n most.toNat 0 s) (λa' _=>(most-intOf (a'.tmps.getD 4 undef)).toNat) rfl ?_ ?_
 .go_wp2_with fail;go_step3;go_wp2_with fail;refine (Hd.o _ _ H0.o).mono ?_;rintro e w1 ⟨rfl,H⟩;have A:=aa H;clear H;obtain ⟨B,u⟩:∃B,fin s=B:=⟨_,rfl⟩;rw [u];have y:=aa (u▸Hd.o _ _ A.o);by_cases v:B=true\/most<=0
  .have hS:oc fin st n most.toNat 0 s=(s,0):=by
    have h0:most.toNat=(most-0).toNat:=by rw [Int.sub_zero]
    rw [h0];rcases v with h | h
    .rw [h] at u
     cases (most-0).toNat with
     | zero=>rfl
     | succ f=>simp [oc,u]
    .rw [show (most-0).toNat=0 by omega];rfl
   obtain ⟨HS,C⟩:=ae hS u;have Q:B=false->most<=0:=λh=>v.resolve_left (by rw [h];simp);clear v hS u
   cases B with
   | true=>
    go_wp2_with fail;refine y.o.mono ?_;rintro e w2 ⟨rfl,i⟩;have x:=aa i;clear i;go_wp2_with fail;simp only [Exit.jump];go_ret2;rw [HS.o];exact ⟨by rw [C.o];rfl,x.o⟩
   | false=>
    have R:most<=0:=Q rfl;go_wp2_with fail;refine y.o.mono ?_;rintro e w2 ⟨rfl,i⟩;have x:=aa i;clear i;go_wp2_with fail;simp only [Exit.jump];go_ret2;rw [HS.o];exact ⟨by rw [C.o];rfl,x.o⟩
  .obtain rfl:B=false:=by cases B with | true=>exact absurd (.inl rfl) v | false=>rfl
   have R:¬most<=0:=λh=>v (.inr h);obtain ⟨r,hr⟩:∃r,0%n=r:=⟨_,rfl⟩;have hz:r<n:=by rw [<-hr];exact Nat.mod_lt _ ap
   have J:=Hp.o _ _ r A.o hz;obtain ⟨AW,cw,v1,v2,D⟩:=Hb.o _ _ A.o;have tb:=bx3 D;have L:((0:Nat):Int)%(n:Int)=(r:Int):=by rw [<-hr];omega
   have T:(((0:Nat):Int)).tmod (n:Int)=(r:Int):=by rw [Int.tmod_eq_emod_of_nonneg ap];exact L
   have aG:¬(n=0):=ap;have Z:IntKind.i64.wrap (r:Int)=(r:Int):=QC _ ap;have w4:IntKind.i64.wrap (((0:Nat):Int).tmod (n:Int))=(r:Int):=by rw [T];exact Z
   have w5:IntKind.i64.wrap (((0:Nat):Int)%(n:Int))=(r:Int):=by rw [L];exact Z
   have w6:IntKind.i64.wrap (((0:Nat):Int)+1)=((0:Nat):Int)+1:=QC _ ap;obtain ⟨N,Hr⟩:=ae J hr;clear J D y v hz hr;go_wp2_with fail;rw [show r=0 by rw [<-Hr.o];exact Nat.zero_mod n] at N;refine N.o.mono ?_;rintro e w2 ⟨rfl,i⟩;have x:=aa i;clear i tb;go_wp2_with fail;go_step3;refine ⟨rfl,1,(st s 0).1,_,_,_,_,_,_,_,_,_,_,_,_,_,_,_,_,_,_,_,_,_,rfl,by omega,x.o,?_⟩;rw [show most.toNat=(most-1).toNat+1 by omega,oc,if_neg (by rw [u];simp)];rfl
 .rintro a' O ⟨p,s',u6,u7,u8,u9,V,U,a3,a9,a8,av,a4,a1,a5,ab,Y,a2,a7,a6,ad,a0,ao,rfl,hp,hI,hs⟩;go_wp2_with fail;refine (Hd.o _ _ hI).mono ?_;rintro e w1 ⟨rfl,H⟩;have A:=aa H;clear H;obtain ⟨B,u⟩:∃B,fin s'=B:=⟨_,rfl⟩;rw [u];have y:=aa (u▸Hd.o _ _ A.o);by_cases v:B=true\/most<=(p:Int)
  .have hS:oc fin st n most.toNat 0 s=(s',p):=by
    rw [<-hs];rcases v with h | h
    .rw [h] at u
     cases (most-(p:Int)).toNat with
     | zero=>rfl
     | succ f=>simp [oc,u]
    .rw [show (most-(p:Int)).toNat=0 by omega];rfl
   obtain ⟨HS,C⟩:=ae hS u;have Q:B=false->most<=(p:Int):=λh=>v.resolve_left (by rw [h];simp);clear v hS u
   cases B with
   | true=>
    go_wp2_with fail;refine y.o.mono ?_;rintro e w2 ⟨rfl,i⟩;have x:=aa i;clear i;go_wp2_with fail;simp only [Exit.jump];go_ret2;rw [HS.o];exact ⟨by rw [C.o];rfl,x.o⟩
   | false=>
    have R:most<=(p:Int):=Q rfl;go_wp2_with fail;refine y.o.mono ?_;rintro e w2 ⟨rfl,i⟩;have x:=aa i;clear i;go_wp2_with fail;simp only [Exit.jump];go_ret2;rw [HS.o];exact ⟨by rw [C.o];rfl,x.o⟩
  .obtain rfl:B=false:=by cases B with | true=>exact absurd (.inl rfl) v | false=>rfl
   have R:¬most<=(p:Int):=λh=>v (.inr h);obtain ⟨r,hr⟩:∃r,p%n=r:=⟨_,rfl⟩;have hz:r<n:=by rw [<-hr];exact Nat.mod_lt _ ap
   have J:=Hp.o _ _ r A.o hz;obtain ⟨AW,cw,v1,v2,D⟩:=Hb.o _ _ A.o;have tb:=bx3 D;have L:((p:Nat):Int)%(n:Int)=(r:Int):=by rw [<-hr];omega
   have T:(((p:Nat):Int)).tmod (n:Int)=(r:Int):=by rw [Int.tmod_eq_emod_of_nonneg ap];exact L
   have aG:¬(n=0):=ap;have Z:IntKind.i64.wrap (r:Int)=(r:Int):=QC _ ap;have w4:IntKind.i64.wrap (((p:Nat):Int).tmod (n:Int))=(r:Int):=by rw [T];exact Z
   have w5:IntKind.i64.wrap (((p:Nat):Int)%(n:Int))=(r:Int):=by rw [L];exact Z
   have w6:IntKind.i64.wrap (((p:Nat):Int)+1)=((p:Nat):Int)+1:=QC _ ap;obtain ⟨N,Hr⟩:=ae J hr;clear J D y v hz hr;go_wp2_with fail;refine N.o.mono ?_;rintro e w2 ⟨rfl,i⟩;have x:=aa i;clear i tb;go_wp2_with fail;go_step3;refine ⟨rfl,⟨p+1,(st s' ((r:Nat):Int)).1,_,_,_,_,_,_,_,_,_,_,_,_,_,_,_,_,_,_,_,_,_,rfl,by omega,x.o,?_⟩,?_⟩
   .rw [<-hs,show (most-(p:Int)).toNat=(most-((p+1:Nat):Int)).toNat+1 by omega]
    show _=(if fin s'=true then _ else _)
    rw [if_neg (by rw [u];simp),Hr.o]
   .simp [intOf];omega
noncomputable def DI (i:Inp) (M:WSt):Bool:=open Classical in decide (M.fin i)
theorem BE {i:Inp} {M:WSt}:DI i M=true↔M.fin i:=by unfold DI;exact @decide_eq_true_iff _ (Classical.propDecidable _)
noncomputable def wn (i:Inp) (M:WSt) (most:Int):WSt×Nat:=oc (DI i) (pkZ i) (ax i).W most.toNat 0 M
theorem BD {σ:Type} {fin:σ->Bool} {st:σ->Int->σ×Bool} {n:Nat} {Q:σ->Prop} (i:∀s z,Q s->Q (st s z).1):∀f p s,Q s->Q (oc fin st n f p s).1
 | 0,_,_,h=>h
 | f+1,p,s,h=>by
  unfold oc
  split
  .exact h
  .exact BD i f _ _ (i _ _ h)
theorem no (W s n:Nat):lK W s (n+1)=((s%W:Nat):Int)::lK W (s+1) n:=by
 unfold lK;rw [List.range_succ_eq_map,List.map_cons,List.map_map,RB]
 congr 1
 refine List.map_congr_left λk _=>?_
 show (((k+1+s)%W:Nat):Int)=(((k+(s+1))%W:Nat):Int)
 rw [show k+1+s=k+(s+1) by omega]
theorem ET {i:Inp}:∀(f p:Nat) (M:WSt),(oc (DI i) (pkZ i) (ax i).W f p M).1.fin i\/(oc (DI i) (pkZ i) (ax i).W f p M).1=(dJ i M (lK (ax i).W p f)).1
 | 0,_,_=>.inr rfl
 | f+1,p,M=>by
  unfold oc
  split
  .next h=>exact .inl (BE.1 h)
  .rw [no,wZ];exact ET f (p+1) _
theorem Ck (W s a b:Nat):lK W s (a+b)=lK W s a++lK W (s+a) b:=by
 induction a generalizing s with
 | zero=>rw [RB,Nat.add_zero];rfl
 | succ a ih=>rw [show a+1+b=(a+b)+1 by omega,no,no,ih,show s+1+a=s+(a+1) by omega];rfl
theorem LM {i:Inp} {M:WSt} {most:Int} (h:dX i M) (hs:bD i) (hm:((jF i*(ax i).W:Nat):Int)<=most):(wn i M most).1.fin i:=by
 have o:1<=(ax i).W:=by have:=hs.g.c.w;simp only [ax];omega
 rcases ET (i:=i) most.toNat 0 M with h1 | h1
 .exact h1
 .unfold wn;rw [h1];obtain ⟨r,hr⟩:∃r,most.toNat=jF i*(ax i).W+r:=⟨most.toNat-jF i*(ax i).W,by omega⟩;rw [hr,Ck,sS];obtain ⟨bs,u,x,v⟩:=qI (s:=0) o (jF i);have p:=vt hs (by have:=hs.g.c.ca;omega) bs h v ap;rw [<-u] at p;exact dX.fin_run (tA h hs _).1 hs p _
theorem I2 (a b:Int):wrap64 (wrap64 a+b)=wrap64 (a+b):=by unfold wrap64;omega
theorem D8 (a b:Int):wrap64 (wrap64 a+wrap64 b)=wrap64 (a+b):=by unfold wrap64;omega
theorem IY (a:Int):wrap64 (wrap64 a)=wrap64 a:=by unfold wrap64;omega
def ji (i:Inp) (P:Q_) (k:Nat):R_->Int
 | []=>0
 | x::l=>nth (fX i.cfg.sizes P i.cfg.shift x.1 x.2) k+ji i P k l
theorem wO (i:Inp) (P:Q_) (k:Nat) (b:R_):∀a:R_,ji i P k (a++b)=ji i P k a+ji i P k b
 | []=>by simp [ji]
 | x::a=>by have:=wO i P k b a;simp only [List.cons_append,ji,this];omega
theorem td (i:Inp) (P:Q_) {k:Nat} (hk:k<cnt i) (l:R_):nth (dP i P l) k=wrap64 (ji i P k l):=by
 have h:∀(l:R_) (a:Q_),a.length=cnt i->nth (l.foldl (λa x=>eU a (fX i.cfg.sizes P i.cfg.shift x.1 x.2)) a) k=wrap64 (nth a k+ji i P k l)\/l=[]:=by
  intro l
  induction l with
  | nil=>intro a _;exact .inr rfl
  | cons x l ih=>
   intro a o;have e:nth (eU a (fX i.cfg.sizes P i.cfg.shift x.1 x.2)) k=wrap64 (nth a k+nth (fX i.cfg.sizes P i.cfg.shift x.1 x.2) k):=bJ _ ap;rw [List.foldl_cons];rcases ih (eU a (fX i.cfg.sizes P i.cfg.shift x.1 x.2)) (by rw [gQ];exact o) with h | rfl
   .rw [h,e,I2];left;simp only [ji];congr 1;omega
   .left;rw [List.foldl_nil,e];simp [ji]
 rcases h l (List.replicate (cnt i) 0) (by simp) with h | rfl
 .unfold dP;rw [h];congr 1;simp [nth,hk]
 .simp [dP,nth,hk,ji,wrap64]
def sd (i:Inp) (z st k:Nat):Q_:=(List.range k).foldl (λg a=>dt i (eE i st).1 g (cN i.data (pL i z st a))) (List.replicate i.start.length 0)
def Du (i:Inp) (z st:Nat):Q_:=sd i z st (ax i).mi
theorem xG (i:Inp) (z st k:Nat):sd i z st (k+1)=dt i (eE i st).1 (sd i z st k) (cN i.data (pL i z st k)):=by
 unfold sd;rw [Rx,List.foldl_append];rfl
theorem wl (i:Inp) (P:Q_):∀(l:R_) (G:Q_),(dt i P G l).length=G.length:=by
 intro l
 induction l with
 | nil=>intro G;rfl
 | cons x l ih=>intro G;show (dt i P (eU G _) l).length=_;rw [ih,gQ]
theorem Ls (i:Inp) (z st:Nat):∀k,(sd i z st k).length=i.start.length:=by
 intro k
 induction k with
 | zero=>simp [sd]
 | succ k ih=>rw [xG,wl,ih]
def ns (i:Inp) (z st:Nat):Q_:=cQ (de i.draws i.data.length i.cfg.batch.toNat st) i.cfg.workers.toNat z
theorem Lt {i:Inp} (hs:bD i) (z st:Nat):Du i z st=dP i (eE i st).1 (cN i.data (ns i z st)):=by
 have h:0<(ax i).mi:=by have:=hs.g.c.mi;simp only [ax];omega
 unfold Du sd;have:=wh i (eE i st).1 (List.replicate i.start.length 0) i.data (ns i z st) (ax i).mi h;rw [hs.g.s] at this;rw [hs.g.s];exact this
theorem Bk {i:Inp} (hs:bD i) (z st:Nat) {q:Nat} (h:q<i.start.length):nth (Du i z st) q=wrap64 (ji i (eE i st).1 q (cN i.data (ns i z st))):=by
 rw [Lt hs,td i _ (by rw [<-hs.g.s];exact h)]
def pS (i:Inp) (st q:Nat):Int:=nth (wQ i (eE i st).1 st) q
theorem Cz (i:Inp) (P:Q_) (st q:Nat):∀k,ji i P q (cN i.data ((de i.draws i.data.length i.cfg.batch.toNat st).take (bdN (de i.draws i.data.length i.cfg.batch.toNat st).length i.cfg.workers.toNat k)))=((List.range k).map λz=>ji i P q (cN i.data (ns i z st))).sum:=by
 intro k
 induction k with
 | zero=>simp [bdN,cN,ji]
 | succ k ih=>
  rw [<-uH,Rx,List.map_append,List.sum_append,<-ih];simp only [List.map_cons,List.map_nil,List.sum_cons,List.sum_nil,Int.add_zero];rw [show cN i.data (List.take (bdN (de i.draws i.data.length i.cfg.batch.toNat st).length i.cfg.workers.toNat k) (de i.draws i.data.length i.cfg.batch.toNat st)++cQ (de i.draws i.data.length i.cfg.batch.toNat st) i.cfg.workers.toNat k)=cN i.data (List.take (bdN (de i.draws i.data.length i.cfg.batch.toNat st).length i.cfg.workers.toNat k) (de i.draws i.data.length i.cfg.batch.toNat st))++cN i.data (ns i k st) by simp [cN,ns],wO]
theorem LI {i:Inp} (hs:bD i) (st:Nat) {q:Nat} (o:q<i.start.length):pS i st q=wrap64 ((List.range (ax i).W).map λz=>ji i (eE i st).1 q (cN i.data (ns i z st))).sum:=by
 have h:0<i.cfg.workers.toNat:=hs.ok.W1;unfold pS wQ;rw [td i _ (by rw [<-hs.g.s];exact o),<-Cz i (eE i st).1 st q (ax i).W,show (ax i).W=i.cfg.workers.toNat from rfl,tT _ _ h,Rt]
def rU (i:Inp) (st s k q:Nat):Int:=wrap64 ((List.range (k+1)).map λd=>nth (Du i ((s+d)%(ax i).W) st) q).sum
theorem xq {i:Inp} (hs:bD i) (st:Nat) {s q:Nat} (h:s<(ax i).W) (o:q<i.start.length):rU i st s 0 q=nth (Du i s st) q:=by
 unfold rU;simp only [RB,List.range_one,List.map_cons,List.map_nil,List.sum_cons,List.sum_nil,Nat.add_zero,Int.add_zero];rw [Nat.mod_eq_of_lt h,Bk hs s st o,IY]
theorem Gv (i:Inp) (st s k q:Nat):wrap64 (nth (Du i ((s+(k+1))%(ax i).W) st) q+rU i st s k q)=rU i st s (k+1) q:=by
 unfold rU;rw [Rx (n:=k+1),List.map_append,List.sum_append];simp only [List.map_cons,List.map_nil,List.sum_cons,List.sum_nil,Int.add_zero];rw [Int.add_comm,I2]
theorem IZ (f:Nat->Int):∀n,wrap64 ((List.range n).map λd=>wrap64 (f d)).sum=wrap64 ((List.range n).map f).sum:=by
 intro n
 induction n with
 | zero=>rfl
 | succ n ih=>
  rw [Rx,List.map_append,List.map_append,List.sum_append,List.sum_append];simp only [List.map_cons,List.map_nil,List.sum_cons,List.sum_nil,Int.add_zero];rw [<-D8,ih,IY,D8]
theorem wK (f:Nat->Int) (a:Nat):∀b,((List.range (a+b)).map f).sum=((List.range a).map f).sum+((List.range b).map λd=>f (a+d)).sum:=by
 intro b
 induction b with
 | zero=>simp
 | succ b ih=>
  rw [<-Rz,Rx,List.map_append,List.sum_append,ih,Rx,List.map_append,List.sum_append];simp only [List.map_cons,List.map_nil,List.sum_cons,List.sum_nil,Int.add_zero];omega
theorem jv {f g:Nat->Int} {n:Nat} (h:∀k,k<n->f k=g k):(List.range n).map f=(List.range n).map g:=List.map_congr_left λk hk=>h k (List.mem_range.1 hk)
theorem MZ (f:Nat->Int) {W s:Nat} (h:s<W):((List.range W).map λd=>f ((s+d)%W)).sum=((List.range W).map f).sum:=by
 have o:=wK (λd=>f ((s+d)%W)) (W-s) s;have i:=wK f s (W-s);rw [show W-s+s=W by omega] at o;rw [show s+(W-s)=W by omega] at i;rw [o,i,Int.add_comm]
 congr 2
 .exact jv λk hk=>by rw [show s+(W-s+k)=k+W by omega,Nat.add_mod_right,Nat.mod_eq_of_lt ap]
 .exact jv λk hk=>by rw [Nat.mod_eq_of_lt ap]
theorem rT {i:Inp} (hs:bD i) (st:Nat) {s q:Nat} (h:s<(ax i).W) (o:q<i.start.length):rU i st s ((ax i).W-1) q=pS i st q:=by
 unfold rU;rw [show (ax i).W-1+1=(ax i).W by omega,MZ (λz=>nth (Du i z st) q) h,LI hs st o,<-IZ (λz=>ji i (eE i st).1 q (cN i.data (ns i z st)))]
 congr 2
 exact jv λz _=>Bk hs z st o
theorem iJ {p:Pln} {x st:Nat} {a:Acn} (h:a∈cB (aE p x st)):a.st=st/\a.ph<2/\a.rd<p.W-1/\a.bk<p.buks.length/\a∈cZ st a.bk (aK p.buks a.bk) p.W p.ck x a.ph a.rd:=by
 rw [jW] at h;simp only [oC,oD,List.mem_flatMap,List.mem_range] at h;obtain ⟨k,hk,ph,i,r,hr,j,A,o⟩:=h;obtain ⟨h1,u,y,v,_⟩:=lZ o;rw [h1,u,y,v];exact ⟨rfl,i,hr,by omega,o⟩
theorem N4 {p:Pln} (o:bT p) {x st ph r bk:Nat} (h:ph<2) (hr:r<p.W-1) (v:bk<p.buks.length) {a:Acn} (u:a∈cZ st bk (aK p.buks bk) p.W p.ck x ph r):a∈cB (aE p x st):=by
 rw [jW];simp only [oC,oD,List.mem_flatMap,List.mem_range];have hw:=o.wi;have i:=Nat.div_add_mod bk p.wi;have hm:=Nat.mod_lt bk (show 0<p.wi by omega);rw [Nat.mul_comm] at i;refine ⟨bk/p.wi,?_,ph,h,r,hr,bk%p.wi,by omega,by rw [i];exact u⟩;unfold di;rw [if_neg ap];have:bk/p.wi<=(p.buks.length-1)/p.wi:=Nat.div_le_div_right ap;omega
theorem rQ {st bk:Nat} {b:Rg} {W c x ph r:Nat} {a:Acn}:a∈cZ st bk b W c x ph r↔ (∃ch,ch<(chR (aK (dz b W) (cT W x ph r)) c).length/\a=⟨true,false,st,bk,ph,r,ch,aK (chR (aK (dz b W) (cT W x ph r)) c) ch⟩)\/ (∃ch,ch<(chR (aK (dz b W) (cE W x ph r)) c).length/\a=⟨false,ph==0,st,bk,ph,r,ch,aK (chR (aK (dz b W) (cE W x ph r)) c) ch⟩):=by
 unfold cZ iR;rw [List.mem_flatMap];constructor
 .rintro ⟨k,hk,h⟩;rw [Rw] at h;rcases h with h | h<;>split at h
  .rename_i hl;exact .inl ⟨k,hl,by simpa using h⟩
  .simp at h
  .rename_i hl;exact .inr ⟨k,hl,by simpa using h⟩
  .simp at h
 .rintro (⟨ch,hl,rfl⟩ | ⟨ch,hl,rfl⟩)
  .exact ⟨ch,List.mem_range.2 ap,Rw.2 (.inl (by rw [if_pos hl];simp))⟩
  .exact ⟨ch,List.mem_range.2 ap,Rw.2 (.inr (by rw [if_pos hl];simp))⟩
def Cov (r:Rg) (q:Nat):Prop:=r.1<=q/\q<r.2
theorem yw {b:Rg} {W s:Nat} (h:s<W):aK (dz b W) s=(bdN (b.2-b.1) W s+b.1,bdN (b.2-b.1) W (s+1)+b.1):=by
 simp [aK,dz,shR,fz,List.getD,h]
theorem EZ {s:Rg} {c k:Nat} (h:k<(chR s c).length):aK (chR s c) k=(k*c+s.1,min (k*c+c) (s.2-s.1)+s.1)/\k<di (s.2-s.1) c:=by
 have hl:(chR s c).length=di (s.2-s.1) c:=by simp [chR,shR,fv]
 rw [hl] at h;exact ⟨by simp [aK,chR,shR,fv,List.getD,h],h⟩
theorem Eh {b:Rg} {W s s' q:Nat} (h:s<W) (p:s'<W) (c:Cov (aK (dz b W) s) q) (i:Cov (aK (dz b W) s') q):s=s':=by
 rw [yw h] at c;rw [yw p] at i;obtain ⟨c1,c2⟩:=c;obtain ⟨u,o⟩:=i;simp only at c1 c2 u o;rcases Nat.lt_trichotomy s s' with e | e | e
 .have:=ky (b.2-b.1) W (show s+1<=s' by omega);omega
 .exact e
 .have:=ky (b.2-b.1) W (show s'+1<=s by omega);omega
theorem Ox {b:Rg} {W q:Nat} (p:0<W) (h:Cov b q):∃s,s<W/\Cov (aK (dz b W) s) q:=by
 obtain ⟨h1,u⟩:=h
 have i:∀k,k<=W->q-b.1<bdN (b.2-b.1) W k->∃s,s<k/\bdN (b.2-b.1) W s<=q-b.1/\q-b.1<bdN (b.2-b.1) W (s+1):=by
  intro k
  induction k with
  | zero=>intro _ h;simp [bdN] at h
  | succ k ih=>
   intro hk h;by_cases o:q-b.1<bdN (b.2-b.1) W k
   .obtain ⟨s,hs,h⟩:=ih ap o;exact ⟨s,by omega,h⟩
   .exact ⟨k,by omega,by omega,h⟩
 obtain ⟨s,hs,o,v⟩:=i W (Qx _) (by rw [tT _ _ p];omega);refine ⟨s,hs,?_⟩;rw [yw hs];exact ⟨by simp only;omega,by simp only;omega⟩
theorem zk {s:Rg} {c k q:Nat} (h:k<(chR s c).length) (hc:Cov (aK (chR s c) k) q):Cov s q:=by
 obtain ⟨e,_⟩:=EZ h;rw [e] at hc;obtain ⟨h1,i⟩:=hc;simp only at h1 i;exact ⟨by omega,by omega⟩
theorem Ph {s:Rg} {c k i q:Nat} (h:k<(chR s c).length) (p:i<(chR s c).length) (hc:Cov (aK (chR s c) k) q) (o:Cov (aK (chR s c) i) q):k=i:=by
 rw [(EZ h).1] at hc;rw [(EZ p).1] at o;obtain ⟨h1,u⟩:=hc;obtain ⟨x,v⟩:=o;simp only at h1 u x v;rcases Nat.lt_trichotomy k i with e | e | e
 .have:=RH c (show k+1<=i by omega);rw [Ry] at this;omega
 .exact e
 .have:=RH c (show i+1<=k by omega);rw [Ry] at this;omega
theorem PQ {s:Rg} {c q:Nat} (hc:1<=c) (h:Cov s q):∃k,k<(chR s c).length/\Cov (aK (chR s c) k) q:=by
 obtain ⟨h1,o⟩:=h;have hl:(chR s c).length=di (s.2-s.1) c:=by simp [chR,shR,fv]
 have i:=Nat.div_add_mod (q-s.1) c;have hm:=Nat.mod_lt (q-s.1) (show 0<c by omega);rw [Nat.mul_comm] at i
 have hk:(q-s.1)/c<(chR s c).length:=by
  rw [hl];unfold di;rw [if_neg ap];have:(q-s.1)/c<=(s.2-s.1-1)/c:=Nat.div_le_div_right ap;omega
 refine ⟨_,hk,?_⟩;rw [(EZ hk).1];exact ⟨by simp only;omega,by simp only;omega⟩
theorem zm {n s k i:Nat} (h:k<=i):bB n s i<=bB n s k:=by
 unfold bB;have:=RH s (show di n s-i<=di n s-k by omega);omega
theorem tQ {p:Pln} (i:bT p) {j:Nat} (h:j<p.buks.length):aK p.buks j=(bB p.n p.bu (j+1),bB p.n p.bu j):=by
 rw [Pln.buks,jq] at h;exact (DU i.bu h).1
theorem tO {p:Pln} (u:bT p) {j i q:Nat} (x:j<p.buks.length) (o:i<p.buks.length) (h:Cov (aK p.buks j) q) (v:Cov (aK p.buks i) q):j=i:=by
 rw [tQ u x] at h;rw [tQ u o] at v;obtain ⟨h1,y⟩:=h;obtain ⟨B,A⟩:=v;simp only at h1 y B A;rcases Nat.lt_trichotomy j i with e | e | e
 .have:=zm (n:=p.n) (s:=p.bu) (show j+1<=i by omega);omega
 .exact e
 .have:=zm (n:=p.n) (s:=p.bu) (show i+1<=j by omega);omega
theorem Mt {p:Pln} (v:bT p) {q:Nat} (h:q<p.n):∃j,j<p.buks.length/\Cov (aK p.buks j) q:=by
 have o:∀k,k<=di p.n p.bu->bB p.n p.bu k<=q->∃j,j<k/\bB p.n p.bu (j+1)<=q/\q<bB p.n p.bu j:=by
  intro k
  induction k with
  | zero=>intro _ u;rw [zl _ _ v.bu] at u;omega
  | succ k ih=>
   intro hk u;by_cases A:bB p.n p.bu k<=q
   .obtain ⟨j,x,h⟩:=ih ap A;exact ⟨j,by omega,h⟩
   .exact ⟨k,by omega,u,by omega⟩
 obtain ⟨j,x,h1,y⟩:=o _ (Qx _) (by rw [Pn];omega);have i:j<p.buks.length:=by rw [Pln.buks,jq];exact x
 exact ⟨j,i,by rw [tQ v i];exact ⟨h1,y⟩⟩
theorem uy {p:Pln} (o:bT p) {x st ph r bk q s:Nat} (h:ph<2) (hr:r<p.W-1) (i:bk<p.buks.length) (hs:cE p.W x ph r=s) (hc:Cov (aK (dz (aK p.buks bk) p.W) s) q):
  ∃a∈cB (aE p x st),a.send=false/\a.st=st/\a.bk=bk/\a.ph=ph/\a.rd=r/\Cov a.at' q:=by
 subst hs;obtain ⟨k,hk,u⟩:=PQ o.ck hc;exact ⟨_,N4 o h hr i (rQ.2 (.inr ⟨k,hk,rfl⟩)),rfl,rfl,rfl,rfl,rfl,u⟩
theorem yJ {p:Pln} {x st:Nat} {a:Acn} (h:a∈cB (aE p x st)) (hs:a.send=false):a.add=(a.ph==0)/\a.ch<(chR (aK (dz (aK p.buks a.bk) p.W) (cE p.W x a.ph a.rd)) p.ck).length/\a.at'=aK (chR (aK (dz (aK p.buks a.bk) p.W) (cE p.W x a.ph a.rd)) p.ck) a.ch:=by
 obtain ⟨_,_,_,_,o⟩:=iJ h;rcases rQ.1 o with ⟨ch,hl,e⟩ | ⟨ch,hl,e⟩
 .rw [e] at hs;cases hs
 .have i:a.ch=ch:=by rw [e]
  refine ⟨by rw [e],by rw [i];exact hl,by rw [i];rw [e]⟩
theorem Ou {p:Pln} {x st:Nat} {a:Acn} (h:a∈cB (aE p x st)) (hs:a.send=true):a.ch<(chR (aK (dz (aK p.buks a.bk) p.W) (cT p.W x a.ph a.rd)) p.ck).length/\a.at'=aK (chR (aK (dz (aK p.buks a.bk) p.W) (cT p.W x a.ph a.rd)) p.ck) a.ch:=by
 obtain ⟨_,_,_,_,o⟩:=iJ h;rcases rQ.1 o with ⟨ch,hl,e⟩ | ⟨ch,hl,e⟩
 .have i:a.ch=ch:=by rw [e]
  exact ⟨by rw [i];exact hl,by rw [i];rw [e]⟩
 .rw [e] at hs;cases hs
theorem gY {W a b:Nat} (hb:b<W) (h:∃k,a=b+k*W):a%W=b:=by
 obtain ⟨k,rfl⟩:=h;rw [Nat.add_mul_mod_self_right,Nat.mod_eq_of_lt hb]
theorem um {W x r:Nat} (i:x<W) (hr:r<W-1):cE W x 0 r<W/\(cE W x 0 r+(r+1))%W=x/\cE W x 0 r≠x:=by
 unfold cE;rcases QO x (r+1) with h | h
 .have e:(x+(2*W+0-r-1))%W=x+W-r-1:=gY ap ⟨1,by omega⟩;rw [e];exact ⟨by omega,gY i ⟨1,by omega⟩,by omega⟩
 .have e:(x+(2*W+0-r-1))%W=x-r-1:=gY ap ⟨2,by omega⟩;rw [e];exact ⟨by omega,gY i ⟨0,by omega⟩,by omega⟩
theorem FR {W x ph r o:Nat} (v:x<W) (u:ph<2) (hr:r<W-1) (p:o<W-1) (h:cE W x ph r=cE W x ph o):r=o:=by
 unfold cE at h
 have i:∀r,r<W-1->(x+(2*W+ph-r-1))%W=if x+ph<r+1 then x+ph+W-r-1 else if x+ph-r-1<W then x+ph-r-1 else x+ph-r-1-W:=λr hr=>by
  split
  .exact gY ap ⟨1,by omega⟩
  .split
   .exact gY ap ⟨2,by omega⟩
   .exact gY ap ⟨3,by omega⟩
 rw [i r hr,i o p] at h
 split at h<;>(try split at h)<;>(try split at h)<;>(try split at h)<;>omega
theorem zR {W x:Nat} (h:x<W):cT W x 0 0=x:=by
 unfold cT;exact gY h ⟨2,by omega⟩
theorem sP {W x ph r:Nat} (hr:r+1<=W):cT W x ph (r+1)=cE W x ph r:=by
 unfold cT cE;rw [show 2*W+ph-(r+1)=2*W+ph-r-1 by omega]
theorem JK {W x:Nat} (h:2<=W):cT W x 1 0=cE W x 0 (W-2):=by
 unfold cT cE;rw [show x+(2*W+1-0)=x+(2*W+0-(W-2)-1)+W by omega,Nat.add_mod_right]
theorem FQ {W x ph r:Nat} (i:x<W) (hr:r<W-1):cT W (pvW W x) ph r=cE W x ph r:=by
 have h:=zQ (W:=W) (x:=pvW W x) (ph:=ph) (r:=r) hr;rw [show (pvW W x+1)%W=x from sY i] at h;exact h
theorem JH {W x s:Nat} (o:x<W) (hs:s<W) (i:2<=W):s=cE W x 0 (W-2)\/∃r,r<W-1/\cE W x 1 r=s:=by
 by_cases h:s=cE W x 0 (W-2)
 .exact .inl h
 .right
  have e:cE W x 0 (W-2)=if x+1<W then x+1 else 0:=by
   unfold cE
   split
   .exact gY ap ⟨1,by omega⟩
   .exact gY ap ⟨2,by omega⟩
  rw [e] at h;rcases QO x s with h1 | h1
  .refine ⟨x+W-s,by split at h<;>omega,?_⟩;unfold cE;exact gY hs ⟨1,by omega⟩
  .refine ⟨x-s,by split at h<;>omega,?_⟩;unfold cE;exact gY hs ⟨2,by omega⟩
theorem sD {l:List Itm} {k:Nat} {y:Itm} (h:l[k]?=some y):cB (l.take (k+1))=cB (l.take k)++y.a.toList:=by
 have e:cB [y]=y.a.toList:=by
  unfold cB
  cases e:y.a<;>simp [e]
 rw [List.take_add_one,h,fp,<-e];rfl
theorem fN {l:List Itm} {k:Nat} {a:Acn} (h:a∈cB (l.take k)):a∈cB l:=by
 rw [gK l k,fp];exact List.mem_append_left _ h
theorem yZ {wi:Nat} {l:List Itm} {k:Nat} {y:Itm} {a b:Acn} (p:(cB l).Pairwise λa b=>a.key wi<b.key wi) (v:l[k]?=some y) (hb:y.a=some b) (i:a∈cB l) (u:a.key wi<b.key wi):a∈cB (l.take k):=by
 rw [gK l k,fp,Rw] at i;rcases i with i | i
 .exact i
 .obtain ⟨x,o,h⟩:=zb p i;rw [v] at o
  cases o
  have:=h b hb;omega
theorem Ly {p:Pln} {st:Nat} {a b:Acn} (h:InS p st a) (hb:InS p st b) (i:a.bk=b.bk) (hs:a.ph<b.ph):a.key p.wi<b.key p.wi:=by
 refine qs ?_;unfold Cor.q Acn.cor;simp only;rw [h.st,hb.st,i];have h1:=h.rd;have o:=h.bk;have v:=h.ch;have u:=hb.bk;omega
theorem Lx {p:Pln} {st:Nat} {a b:Acn} (i:InS p st a) (hb:InS p st b) (o:a.bk=b.bk) (h:a.ph=b.ph) (hs:a.rd<b.rd):a.key p.wi<b.key p.wi:=by
 refine qs ?_;unfold Cor.q Acn.cor;simp only;rw [i.st,hb.st,o,h];have u:=i.bk;have x:=i.ch;have v:=hb.bk;omega
theorem tz {b:Rg} {W s q:Nat} (hs:s<W) (h:Cov (aK (dz b W) s) q):Cov b q:=by
 rw [yw hs] at h;obtain ⟨h1,i⟩:=h;simp only at h1 i;have:=fY (b.2-b.1) W (s+1) ap ap;exact ⟨by omega,by omega⟩
theorem Nk {p:Pln} (I:bT p) {x st q:Nat} (V:x<p.W) {a b:Acn} (J:a∈cB (aE p x st)) (hb:b∈cB (aE p x st)) (sa:a.send=false) (sb:b.send=false) (i:a.ph=b.ph) (ca:Cov a.at' q) (C:Cov b.at' q):a.key p.wi=b.key p.wi/\a.bk=b.bk/\a.rd=b.rd:=by
 obtain ⟨a1,Z,O,R,_⟩:=iJ J;obtain ⟨L,U,N,T,_⟩:=iJ hb;obtain ⟨_,la,Y⟩:=yJ J sa;obtain ⟨_,lb,Q⟩:=yJ hb sb;rw [Y] at ca;rw [Q] at C;have o:=zk la ca;have y:=zk lb C;have A:0<p.W:=I.W1;have D:=tz (by unfold cE;exact Nat.mod_lt _ A) o;have B:=tz (by unfold cE;exact Nat.mod_lt _ A) y;have h:=tO I R T D B;rw [h] at o;have v:=Eh (by unfold cE;exact Nat.mod_lt _ A) (by unfold cE;exact Nat.mod_lt _ A) o y;rw [i] at v;have u:=FR V U O N v
 have H:a.ch=b.ch:=by
  rw [i,u,h] at la ca;exact Ph la lb ca C
 refine ⟨?_,h,u⟩;unfold Acn.key Cor.q Acn.cor;simp only;rw [a1,L,h,i,u,H,sa,sb]
theorem rr {p:Pln} {x st nx:Nat} (h:nx<p.mi):(aE p x st)[nx]?=some ⟨1,st,nx,none⟩:=by
 unfold aE;rw [Ro,Rk (by simpa using h)];simp [h]
theorem Gk {p:Pln} {x st nx:Nat} {y:Itm} (i:(aE p x st)[nx]?=some y) (h:p.mi<=nx):y.kind≠1:=by
 unfold aE at i;rw [Ro,Rl (by simpa using h)] at i;have:=List.mem_of_getElem? i;rw [Rw,List.mem_singleton] at this;rcases this with h | rfl
 .obtain ⟨g,_,h⟩:=List.mem_flatMap.1 h;unfold dx at h;simp only [Rw,List.mem_map,List.mem_flatMap] at h;rcases h with (⟨_,_,rfl⟩ | ⟨_,_,_,_,_,_,h⟩) | ⟨_,_,rfl⟩
  .exact λe=>by cases e
  .unfold cq at h;obtain ⟨c,_,rfl⟩:=List.mem_map.1 h;unfold fD
   split<;>exact λe=>by cases e
  .exact λe=>by cases e
 .exact λe=>by cases e
theorem qp {p:Pln} {x st:Nat}:∀{nx:Nat},nx<=p.mi->cB ((aE p x st).take nx)=[]/\opP p x st nx=(0,0)
 | 0,_=>⟨rfl,rfl⟩
 | nx+1,h=>by
  obtain ⟨h1,o⟩:=qp (p:=p) (x:=x) (st:=st) (nx:=nx) ap;have i:=rr (p:=p) (x:=x) (st:=st) (show nx<p.mi by omega);refine ⟨?_,?_⟩
  .rw [sD i,h1];rfl
  .rw [jl i,o];rfl
theorem ML {p:Pln} {x st nx:Nat} {y:Itm} {a:Acn} (i:(aE p x st)[nx]?=some y) (o:y.a=some a):p.mi<=nx:=by
 rcases QO nx p.mi with h | h
 .rw [rr h] at i
  cases i
  cases o
 .exact h
def opA:Nat×Nat->List Itm->Prop
 | _,[]=>True
 | s,y::r=>(∀a,y.a=some a->s.1<=a.bk)/\opA (opF s y) r
theorem pz:∀(l r:List Itm) (s:Nat×Nat),opA s (l++r)↔opA s l/\opA (l.foldl opF s) r
 | [],r,s=>by simp [opA]
 | y::l,r,s=>by
  have:=pz l r (opF s y);simp only [List.cons_append,opA,List.foldl_cons,this,and_assoc]
theorem KP:∀{l:List Itm} {s:Nat×Nat} {k:Nat} {y:Itm} {a:Acn},opA s l->l[k]?=some y->y.a=some a->((l.take k).foldl opF s).1<=a.bk
 | [],_,_,_,_,_,h,_=>by simp at h
 | z::l,s,0,y,a,hr,h,ha=>by
  simp only [Rc,Option.some.injEq] at h;subst h;exact hr.1 a ha
 | z::l,s,k+1,y,a,hr,h,ha=>by
  rw [Ra] at h;rw [List.take_succ_cons,List.foldl_cons];exact KP hr.2 h ha
theorem nI:∀{l:List Itm} (s:Nat×Nat),(∀y∈l,y.a=none)->opA s l
 | [],_,_=>trivial
 | y::l,s,h=>⟨λa i=>(by rw [h y (List.mem_cons_self ..)] at i;cases i),nI _ λz o=>h z (List.mem_cons_of_mem _ o)⟩
theorem EC:∀{l:List Itm} (s:Nat×Nat),(∀y∈l,(y.kind≠2/\y.kind≠5)/\∀a,y.a=some a->s.1<=a.bk)->opA s l
 | [],_,_=>trivial
 | y::l,s,h=>by
  obtain ⟨⟨h1,i⟩,o⟩:=h y (List.mem_cons_self ..);refine ⟨o,?_⟩;have e:opF s y=s:=by unfold opF;rw [if_neg h1,if_neg i]
  rw [e];exact EC s λz p=>h z (List.mem_cons_of_mem _ p)
theorem GV {p:Pln} (x st:Nat) (g:Rg) (h1:g.1<=g.2) (u:g.2<=p.buks.length) (v:g.2<=g.1+p.wi):opA (g.1,g.1) (dx p x st g):=by
 have a1:=rW (wi:=p.wi) (nb:=p.buks.length) st g.1 (g.2-g.1) g.1 ap ap
 have hr:∀y∈((List.range 2).flatMap λph=>(List.range (p.W-1)).flatMap λr=>(List.range' g.1 (g.2-g.1)).flatMap λj=>cq p x st ph r j),(y.kind≠2/\y.kind≠5)/\∀a,y.a=some a->g.1<=a.bk:=λy h=>by
  simp only [List.mem_flatMap] at h;obtain ⟨_,_,_,_,j,o,h⟩:=h;unfold cq at h;obtain ⟨c,hc,rfl⟩:=List.mem_map.1 h
  have hk:(fD st c).kind≠2/\(fD st c).kind≠5:=by
   unfold fD
   split<;>exact ⟨λe=>(by cases e),λe=>(by cases e)⟩
  refine ⟨hk,λa i=>?_⟩;simp only [fD,Option.some.injEq] at i;subst i;rw [(lZ hc).2.1];exact (List.mem_range'_1.1 o).1
 unfold dx;rw [pz,pz,a1.2];exact ⟨⟨nI _ λy h=>by obtain ⟨_,_,rfl⟩:=List.mem_map.1 h;rfl,EC _ hr⟩,nI _ λy h=>by obtain ⟨_,_,rfl⟩:=List.mem_map.1 h;rfl⟩
theorem uT {p:Pln} (h:bT p) (x st:Nat):∀k,k<=di p.buks.length p.wi->opA (0,0) (((List.range k).map λj=>((j*p.wi,min (j*p.wi+p.wi) p.buks.length):Rg)).flatMap (dx p x st))
 | 0,_=>trivial
 | k+1,hk=>by
  have v:=uT h x st k ap;have o:=(rX h x st k ap).2;have u:=iI (n:=p.buks.length) (size:=p.wi) (k:=k) ap;have i:min (k*p.wi) p.buks.length=k*p.wi:=ap;have hg:=GV (p:=p) x st (k*p.wi,min (k*p.wi+p.wi) p.buks.length) (by show k*p.wi<=_;omega) (by show min _ _<=_;omega) (by show min _ _<=_;omega);rw [Rx,List.map_append,List.flatMap_append,pz,o,i];simp only [List.map_cons,List.map_nil,List.flatMap_cons,List.flatMap_nil,List.append_nil];exact ⟨v,hg⟩
theorem GU {p:Pln} (o:bT p) (x st:Nat):opA (0,0) (aE p x st):=by
 have a1:=qY (wi:=p.wi) (nb:=p.buks.length) (l:=(List.range p.mi).map λa=>(⟨1,st,a,none⟩:Itm)) (0,0) (λy h=>by obtain ⟨_,_,rfl⟩:=List.mem_map.1 h;exact ⟨λe=>(by cases e),λe=>(by cases e)⟩);have i:p.grps=(List.range (di p.buks.length p.wi)).map λj=>((j*p.wi,min (j*p.wi+p.wi) p.buks.length):Rg):=rfl;unfold aE;rw [i,pz,pz,a1.2];exact ⟨⟨nI _ λy h=>by obtain ⟨_,_,rfl⟩:=List.mem_map.1 h;rfl,uT o x st _ (Qx _)⟩,nI _ λy h=>by rw [List.mem_singleton.1 h]⟩
theorem AO:∀(l:List Itm) (s:Nat×Nat),s.1<=(l.foldl opF s).1
 | [],_=>Qx _
 | y::l,s=>by
  have:=AO l (opF s y);have h:s.1<=(opF s y).1:=by unfold opF;split<;>(try split)<;>simp
  exact QD h this
theorem KO {p:Pln} {x st k i:Nat} (h:k<=i):(opP p x st k).1<=(opP p x st i).1:=by
 unfold opP;obtain ⟨d,rfl⟩:∃d,i=k+d:=⟨i-k,by omega⟩;rw [List.take_add,List.foldl_append];exact AO _ _
theorem zE {p:Pln} (v:bT p) {x st nx:Nat} {y:Itm} (u:(aE p x st)[nx]?=some y) (hk:y.kind=5) {a:Acn} (h:a∈cB (aE p x st)) (hb:a.bk=y.n):a∈cB ((aE p x st).take nx):=by
 have B:=(qZ (me v x st).1 u).2 hk;have hs:=jl u;unfold opF at hs;rw [if_neg ap,if_pos hk] at hs;rw [gK (aE p x st) nx,fp,Rw] at h;rcases h with h | h
 .exact h
 .exfalso;unfold cB at h;obtain ⟨z,C,i⟩:=List.mem_filterMap.1 h;obtain ⟨j,o⟩:=List.getElem?_of_mem C;rw [List.getElem?_drop] at o
  have H:j≠0:=by
   rintro rfl;rw [Nat.add_zero,u] at o
   cases o
   rcases vi (List.mem_of_getElem? u) with ⟨e,_⟩ | ⟨b,_,e⟩
   .rw [e] at i;cases i
   .rw [hk] at e;split at e<;>cases e
  have h1:=KP (GU v x st) o i;have A:=KO (p:=p) (x:=x) (st:=st) (show nx+1<=nx+j by omega);rw [hs] at A;have I:y.n=(opP p x st nx).1:=B.1;have D:(opP p x st (nx+j)).1<=a.bk:=h1;simp only at A;omega
def GI (i:Inp) (x st nx:Nat) (G:Q_) (q:Nat):Prop:= (∀a∈cB ((aE (ax i) x st).take nx),a.send=false->a.ph=1->Cov a.at' q->nth G q=pS i st q)/\ (∀a∈cB ((aE (ax i) x st).take nx),a.send=false->a.ph=0->Cov a.at' q->(∀b∈cB ((aE (ax i) x st).take nx),b.send=false->b.ph=1->¬Cov b.at' q)->nth G q=rU i st (cE (ax i).W x 0 a.rd) (a.rd+1) q)/\ ((∀a∈cB ((aE (ax i) x st).take nx),a.send=false->¬Cov a.at' q)->nth G q=nth (sd i x st (min nx (ax i).mi)) q)
section
variable {i:Inp} {x st nx q:Nat} {G:Q_} {y:Itm} {b:Acn}
theorem inS {p:Pln} (i:bT p) {a:Acn} (h:a∈cB (aE p x st)):InS p st a:=by
 rw [jW] at h;exact sF i h
theorem nr {p:Pln} (h:bT p):(cB (aE p x st)).Pairwise λa b=>a.key p.wi<b.key p.wi:=by
 rw [jW];exact Ca h x st
theorem tC {p:Pln} (i:bT p) {a:Acn} (o:a∈cB (aE p x st)) (hs:a.send=false) (hc:Cov a.at' q):Cov (aK (dz (aK p.buks a.bk) p.W) (cE p.W x a.ph a.rd)) q/\Cov (aK p.buks a.bk) q:=by
 obtain ⟨_,l,e⟩:=yJ o hs;rw [e] at hc;have h:=zk l hc;exact ⟨h,tz (by unfold cE;exact Nat.mod_lt _ i.W1) h⟩
theorem M7 {p:Pln} (i:bT p) {a:Acn} (o:a∈cB (aE p x st)) (hs:a.send=true) (hc:Cov a.at' q):Cov (aK (dz (aK p.buks a.bk) p.W) (cT p.W x a.ph a.rd)) q/\Cov (aK p.buks a.bk) q:=by
 obtain ⟨l,e⟩:=Ou o hs;rw [e] at hc;have h:=zk l hc;exact ⟨h,tz (by unfold cT;exact Nat.mod_lt _ i.W1) h⟩
theorem EE {p:Pln} (h:bT p) {a:Acn} (u:(aE p x st)[nx]?=some y) (hb:y.a=some b) (A:b.ph=0) (o:a∈cB ((aE p x st).take nx)) (h1:a.ph=1) (hk:a.bk=b.bk):False:=by
 have i:b∈cB (aE p x st):=kz (List.mem_of_getElem? u) hb;have v:=qz (nr h) u hb o;have B:=Ly (inS h i) (inS h (fN o)) hk.symm ap;omega
theorem GI.send (h:GI i x st nx G q) (hs:bD i) (L:x<(ax i).W) (N:(aE (ax i) x st)[nx]?=some y) (hb:y.a=some b) (Z:b.send=true) (hc:Cov b.at' q) (hq:q<i.start.length):
  nth G q=if b.ph=0 then rU i st (cT (ax i).W x 0 b.rd) b.rd q else pS i st q:=by
 have p:=hs.ok;have B:b∈cB (aE (ax i) x st):=kz (List.mem_of_getElem? N) hb;obtain ⟨b1,b2,b3,U,_⟩:=iJ B;obtain ⟨A,bk⟩:=M7 p B Z hc;have a0:=ML N hb;obtain ⟨h1,h2,h3⟩:=h;have D:∀a∈cB ((aE (ax i) x st).take nx),a.send=false->Cov a.at' q->a.bk=b.bk:=λa o v u=>tO p (iJ (fN o)).2.2.2.1 U (tC p (fN o) v u).2 bk;rcases (show b.ph=0\/b.ph=1 by omega) with V | p1
 .rw [if_pos V];rw [V] at A;have O:∀a∈cB ((aE (ax i) x st).take nx),a.send=false->a.ph=1->¬Cov a.at' q:=λa o v Y u=>EE p N hb V o Y (D a o v u)
  cases hr:b.rd with
  | zero=>
   rw [hr,zR L] at A;rw [zR L,xq hs st L hq,h3 (λa o v u=>?_),Nat.min_eq_right a0]
   .rfl
   .obtain ⟨_,a2,C,_,_⟩:=iJ (fN o);rcases (show a.ph=0\/a.ph=1 by omega) with e | e
    .have Q:=(tC p (fN o) v u).1;rw [D a o v u,e] at Q;exact (um L C).2.2 (Eh (um L C).1 L Q A)
    .exact O a o v e u
  | succ r=>
   rw [hr] at b3 A;rw [sP ap] at A |-;obtain ⟨a,o,a1,a2,C,H,T,R⟩:=uy (x:=x) (st:=st) p (show 0<2 by decide) (show r<(ax i).W-1 by omega) U rfl A;have I:=yZ (nr p) N hb o (Lx (inS p o) (inS p B) C (by rw [H,V]) ap);have:=h2 a I a1 H R O
   rwa [T] at this
 .rw [if_neg ap];have a7:2<=(ax i).W:=ap;by_cases J:∃a∈cB ((aE (ax i) x st).take nx),a.send=false/\a.ph=1/\Cov a.at' q
  .obtain ⟨a,o,e1,e2,e3⟩:=J;exact h1 a o e1 e2 e3
  .rw [p1] at A
   cases hr:b.rd with
   | zero=>
    rw [hr,JK a7] at A;obtain ⟨a,o,a1,a2,C,H,T,R⟩:=uy (x:=x) (st:=st) p (show 0<2 by decide) (show (ax i).W-2<(ax i).W-1 by omega) U rfl A;have I:=yZ (nr p) N hb o (Ly (inS p o) (inS p B) C ap);have:=h2 a I a1 H R (λc hc e1 e2 e3=>J ⟨c,hc,e1,e2,e3⟩);rw [this,T,show (ax i).W-2+1=(ax i).W-1 by omega];exact rT hs st (um L ap).1 hq
   | succ r=>
    rw [hr] at b3 A;rw [sP ap] at A;obtain ⟨a,o,a1,a2,C,H,T,R⟩:=uy (x:=x) (st:=st) p (show 1<2 by decide) (show r<(ax i).W-1 by omega) U rfl A;exact absurd ⟨a,yZ (nr p) N hb o (Lx (inS p o) (inS p B) C (by rw [H,p1]) ap),a1,H,R⟩ J
theorem GI.upd (h:GI i x st nx G q) (hs:bD i) (v:x<(ax i).W) (T:(aE (ax i) x st)[nx]?=some y) (hk:y.kind=5) (hn:y.n<(ax i).buks.length) (hc:Cov (aK (ax i).buks y.n) q) (A:q<i.start.length) (I:(ax i).mi<=nx):nth G q=pS i st q:=by
 have u:=hs.ok;obtain ⟨h1,U,Z⟩:=h;by_cases o:∃a∈cB ((aE (ax i) x st).take nx),a.send=false/\a.ph=1/\Cov a.at' q
 .obtain ⟨a,p,L,C,N⟩:=o;exact h1 a p L C N
 .rcases QO (ax i).W 2 with Q | Q
  .have V:=u.W1;have a0:x=0:=ap;rw [Z (λa p Y _=>by have:=zu (fN p);omega),Nat.min_eq_right I];have e:=rT hs st v A;rw [show (ax i).W-1=0 by omega,xq hs st v A] at e;exact e
  .obtain ⟨s,O,D⟩:=Ox (W:=(ax i).W) ap hc;rcases JH v O Q with e | ⟨r,hr,e⟩
   .rw [e] at D;obtain ⟨a,p,a1,a2,B,H,R,J⟩:=uy (x:=x) (st:=st) u (show 0<2 by decide) (show (ax i).W-2<(ax i).W-1 by omega) hn rfl D;have:=U a (zE u T hk p B) a1 H J (λc hc L C N=>o ⟨c,hc,L,C,N⟩);rw [this,R,show (ax i).W-2+1=(ax i).W-1 by omega];exact rT hs st (um v ap).1 A
   .obtain ⟨a,p,a1,a2,B,H,R,J⟩:=uy (x:=x) (st:=st) u (show 1<2 by decide) hr hn e D;exact absurd ⟨a,zE u T hk p B,a1,H,J⟩ o
def D7 (i:Inp) (x:Nat) (c:Cor) (v:Q_):Prop:=v.length=c.at'.2-c.at'.1/\∀t,t<v.length->nth v t=if c.ph=0 then rU i c.st (cT (ax i).W x 0 c.rd) c.rd (c.at'.1+t) else pS i c.st (c.at'.1+t)
theorem GI.recv (h:GI i x st nx G q) (hs:bD i) (hx:x<(ax i).W) (U:(aE (ax i) x st)[nx]?=some y) (hb:y.a=some b) (C:b.send=false) (hq:q<G.length) {v:Q_} (hv:D7 i (pvW (ax i).W x) b.cor v):GI i x st (nx+1) (iK G b.at'.1 v b.add) q:=by
 have T:=hs.ok;have I:b∈cB (aE (ax i) x st):=kz (List.mem_of_getElem? U) hb;obtain ⟨b1,b2,b3,b4,_⟩:=iJ I;have Z:=ML U hb;have Q:cB ((aE (ax i) x st).take (nx+1))=cB ((aE (ax i) x st).take nx)++[b]:=by rw [sD U,hb];rfl
 obtain ⟨v1,v2⟩:=hv;have a1:v.length=b.at'.2-b.at'.1:=v1;have e:=oh (G:=G) (lo:=b.at'.1) (v:=v) (add:=b.add) (k:=v.length) (j:=q) hq;have R:nth (iK G b.at'.1 v b.add) q=_:=e;obtain ⟨h1,h2,h3⟩:=h;have hm:min (nx+1) (ax i).mi=min nx (ax i).mi:=ap;by_cases hc:Cov b.at' q
 .obtain ⟨c1,c2⟩:=hc;rw [if_pos ⟨c1,by omega⟩] at R;have a0:=v2 (q-b.at'.1) ap;have A:nth v (q-b.at'.1)=if b.ph=0 then rU i b.st (cT (ax i).W (pvW (ax i).W x) 0 b.rd) b.rd (b.at'.1+(q-b.at'.1)) else pS i b.st (b.at'.1+(q-b.at'.1)):=a0
  rw [show b.at'.1+(q-b.at'.1)=q by omega,b1,FQ hx b3] at A;obtain ⟨J,_,_⟩:=yJ I C;unfold GI;rw [Q];rcases (show b.ph=0\/b.ph=1 by omega) with V | p1
  .rw [if_pos V] at A;rw [J,V,if_pos (show ((0:Nat)==0)=true from rfl),A] at R;have bk:=(tC T I C ⟨c1,c2⟩).2;have N:∀a∈cB ((aE (ax i) x st).take nx),a.send=false->a.ph=1->¬Cov a.at' q:=λa p u B o=>EE T U hb V p B (tO T (iJ (fN p)).2.2.2.1 b4 (tC T (fN p) u o).2 bk)
   have O:∀a∈cB ((aE (ax i) x st).take nx),a.send=false->a.ph=0->¬Cov a.at' q:=λa p u D o=>by
    have h4:=(Nk T hx (fN p) I u C (by rw [D,V]) o ⟨c1,c2⟩).1;have h5:=qz (nr T) U hb p;omega
   have L:=h3 (λa p u o=>by
    rcases (show a.ph=0\/a.ph=1 by have:=(iJ (fN p)).2.1;omega) with e0 | e1
    .exact O a p u e0 o
    .exact N a p u e1 o)
   rw [Nat.min_eq_right Z] at L
   have H:nth (iK G b.at'.1 v b.add) q=rU i st (cE (ax i).W x 0 b.rd) (b.rd+1) q:=by
    rw [J,V];rw [R,L,<-Gv,(um hx b3).2.1];rfl
   refine ⟨λa p u B o=>?_,λa p u D o _=>?_,λhn=>absurd ⟨c1,c2⟩ (hn b (by simp) C)⟩
   .rcases Rw.1 p with p | p
    .exact absurd o (N a p u B)
    .rw [List.mem_singleton.1 p] at B;omega
   .rcases Rw.1 p with p | p
    .exact absurd o (O a p u D)
    .rw [List.mem_singleton.1 p];exact H
  .rw [if_neg ap] at A
   have H:nth (iK G b.at'.1 v b.add) q=pS i st q:=by
    rw [J,p1];rw [J,p1,if_neg (show ¬((1:Nat)==0)=true by decide)] at R;exact R.trans A
   refine ⟨λ_ _ _ _ _=>H,λa p u D o hn=>absurd ⟨c1,c2⟩ (hn b (by simp) C p1),λhn=>absurd ⟨c1,c2⟩ (hn b (by simp) C)⟩
 .rw [if_neg (λhh=>hc ⟨hh.1,by omega⟩)] at R;unfold GI;rw [Q,hm,R];refine ⟨λa p u B o=>?_,λa p u D o hn=>?_,λhn=>h3 λa p=>hn a (List.mem_append_left _ p)⟩
  .rcases Rw.1 p with p | p
   .exact h1 a p u B o
   .rw [List.mem_singleton.1 p] at o;exact absurd o hc
  .rcases Rw.1 p with p | p
   .exact h2 a p u D o λc Y=>hn c (List.mem_append_left _ Y)
   .rw [List.mem_singleton.1 p] at o;exact absurd o hc
theorem GI.same (h:GI i x st nx G q) (H:(aE (ax i) x st)[nx]?=some y) (C:(ax i).mi<=nx) (hn:∀a,y.a=some a->a.send=true):GI i x st (nx+1) G q:=by
 have hm:min (nx+1) (ax i).mi=min nx (ax i).mi:=ap;obtain ⟨h1,D,I⟩:=h;unfold GI;rw [sD H,hm];have hb:∀a∈y.a.toList,a.send=true:=λa o=>hn a (by cases e:y.a<;>rw [e] at o<;>simp at o;rw [o]);refine ⟨λa o p A v=>?_,λa o p B v u=>?_,λu=>I λa o=>u a (List.mem_append_left _ o)⟩
 .rcases Rw.1 o with o | o
  .exact h1 a o p A v
  .rw [hb a o] at p;cases p
 .rcases Rw.1 o with o | o
  .exact D a o p B v λc hc=>u c (List.mem_append_left _ hc)
  .rw [hb a o] at p;cases p
end
end Go.Proofs.YtindmkcnjlgomaaGreat
