/- No condition. -/
import Derived.Test.YtindmkcnjlgomaaGreatR09
set_option linter.unusedSimpArgs false
set_option linter.unusedVariables false
set_option maxRecDepth 100000
set_option maxHeartbeats 4000000
namespace Go.Proofs.YtindmkcnjlgomaaGreat
open Go.RowKit
open Tryz
def GI (i:Inp) (x st nx:Nat) (G:N1) (q:Nat):Prop:= (∀a∈aY ((aB (au i) x st).take nx),a.send=false->a.ph=1->Cov a.at' q->nth G q=j2 i st q)/\ (∀a∈aY ((aB (au i) x st).take nx),a.send=false->a.ph=0->Cov a.at' q->(∀b∈aY ((aB (au i) x st).take nx),b.send=false->b.ph=1->¬Cov b.at' q)->nth G q=lF i st (aO (au i).W x 0 a.rd) (a.rd+1) q)/\ ((∀a∈aY ((aB (au i) x st).take nx),a.send=false->¬Cov a.at' q)->nth G q=nth (lO i x st (min nx (au i).mi)) q)
section
variable {i:Inp} {x st nx q:Nat} {G:N1} {y:Itm} {b:Acn}
theorem inS {p:Pln} (i:aT p) {a:Acn} (h:a∈aY (aB p x st)):InS p st a:=by
 rw [gh] at h;exact l7 i h
theorem jo {p:Pln} (h:aT p):(aY (aB p x st)).Pairwise λa b=>a.key p.wi<b.key p.wi:=by
 rw [gh];exact tT h x st
theorem mX {p:Pln} (i:aT p) {a:Acn} (o:a∈aY (aB p x st)) (u:a.send=false) (hc:Cov a.at' q):Cov (aD (bY (aD p.buks a.bk) p.W) (aO p.W x a.ph a.rd)) q/\Cov (aD p.buks a.bk) q:=by
 obtain ⟨_,l,e⟩:=rh o u;rw [e] at hc;have h:=pa l hc;exact ⟨h,mV (by unfold aO;exact Nat.mod_lt _ i.W1) h⟩
theorem Dp {p:Pln} (o:aT p) {a:Acn} (u:a∈aY (aB p x st)) (i:a.send=true) (hc:Cov a.at' q):Cov (aD (bY (aD p.buks a.bk) p.W) (bU p.W x a.ph a.rd)) q/\Cov (aD p.buks a.bk) q:=by
 obtain ⟨l,e⟩:=EH u i;rw [e] at hc;have h:=pa l hc;exact ⟨h,mV (by unfold bU;exact Nat.mod_lt _ o.W1) h⟩
theorem wH {p:Pln} (h:aT p) {a:Acn} (u:(aB p x st)[nx]?=some y) (hb:y.a=some b) (B:b.ph=0) (o:a∈aY ((aB p x st).take nx)) (A:a.ph=1) (hk:a.bk=b.bk):False:=by
 have i:b∈aY (aB p x st):=gC (List.mem_of_getElem? u) hb;have v:=ko (jo h) u hb o;have C:=B6 (inS h i) (inS h (dD o)) hk.symm ao;omega
theorem GI.send (h:GI i x st nx G q) (hs:bj i) (L:x<(au i).W) (N:(aB (au i) x st)[nx]?=some y) (hb:y.a=some b) (Z:b.send=true) (hc:Cov b.at' q) (hq:q<i.start.length):
  nth G q=if b.ph=0 then lF i st (bU (au i).W x 0 b.rd) b.rd q else j2 i st q:=by
 have p:=hs.ok;have B:b∈aY (aB (au i) x st):=gC (List.mem_of_getElem? N) hb;obtain ⟨b1,b2,b3,U,_⟩:=ff B;obtain ⟨A,bk⟩:=Dp p B Z hc;have a0:=C4 N hb;obtain ⟨h1,h2,h3⟩:=h;have D:∀a∈aY ((aB (au i) x st).take nx),a.send=false->Cov a.at' q->a.bk=b.bk:=λa o v u=>m8 p (ff (dD o)).2.2.2.1 U (mX p (dD o) v u).2 bk;rcases (show b.ph=0\/b.ph=1 by omega) with V | p1
 ·rw [if_pos V];rw [V] at A;have O:∀a∈aY ((aB (au i) x st).take nx),a.send=false->a.ph=1->¬Cov a.at' q:=λa o v Y u=>wH p N hb V o Y (D a o v u)
  cases hr:b.rd with
  | zero=>
   rw [hr,se L] at A;rw [se L,p8 hs st L hq,h3 (λa o v u=>?_),Nat.min_eq_right a0]
   ·rfl
   ·obtain ⟨_,a2,C,_,_⟩:=ff (dD o);rcases (show a.ph=0\/a.ph=1 by omega) with e | e
    ·have Q:=(mX p (dD o) v u).1;rw [D a o v u,e] at Q;exact (nC L C).2.2 (mU (nC L C).1 L Q A)
    ·exact O a o v e u
  | succ r=>
   rw [hr] at b3 A;rw [mt ao] at A ⊢;obtain ⟨a,o,a1,a2,C,H,T,R⟩:=nN (x:=x) (st:=st) p (show 0<2 by decide) (show r<(au i).W-1 by omega) U rfl A;have I:=rv (jo p) N hb o (BZ (inS p o) (inS p B) C (by rw [H,V]) ao);have:=h2 a I a1 H R O
   rwa [T] at this
 ·rw [if_neg ao];have a7:2<=(au i).W:=ao;by_cases J:∃a∈aY ((aB (au i) x st).take nx),a.send=false/\a.ph=1/\Cov a.at' q
  ·obtain ⟨a,o,e1,e2,e3⟩:=J;exact h1 a o e1 e2 e3
  ·rw [p1] at A
   cases hr:b.rd with
   | zero=>
    rw [hr,Aw a7] at A;obtain ⟨a,o,a1,a2,C,H,T,R⟩:=nN (x:=x) (st:=st) p (show 0<2 by decide) (show (au i).W-2<(au i).W-1 by omega) U rfl A;have I:=rv (jo p) N hb o (B6 (inS p o) (inS p B) C ao);have:=h2 a I a1 H R (λc hc e1 e2 e3=>J ⟨c,hc,e1,e2,e3⟩);rw [this,T,show (au i).W-2+1=(au i).W-1 by omega];exact lE hs st (nC L ao).1 hq
   | succ r=>
    rw [hr] at b3 A;rw [mt ao] at A;obtain ⟨a,o,a1,a2,C,H,T,R⟩:=nN (x:=x) (st:=st) p (show 1<2 by decide) (show r<(au i).W-1 by omega) U rfl A;exact absurd ⟨a,rv (jo p) N hb o (BZ (inS p o) (inS p B) C (by rw [H,p1]) ao),a1,H,R⟩ J
theorem GI.upd (h:GI i x st nx G q) (v:bj i) (A:x<(au i).W) (U:(aB (au i) x st)[nx]?=some y) (hk:y.kind=5) (hn:y.n<(au i).buks.length) (hc:Cov (aD (au i).buks y.n) q) (B:q<i.start.length) (J:(au i).mi<=nx):nth G q=j2 i st q:=by
 have u:=v.ok;obtain ⟨h1,V,h3⟩:=h;by_cases o:∃a∈aY ((aB (au i) x st).take nx),a.send=false/\a.ph=1/\Cov a.at' q
 ·obtain ⟨a,p,N,D,O⟩:=o;exact h1 a p N D O
 ·rcases Gn (au i).W 2 with R | R
  ·have Y:=u.W1;have a0:x=0:=ao;rw [h3 (λa p Z _=>by have:=rI (dD p);omega),Nat.min_eq_right J];have e:=lE v st A B;rw [show (au i).W-1=0 by omega,p8 v st A B] at e;exact e
  ·obtain ⟨s,Q,H⟩:=At (W:=(au i).W) ao hc;rcases Ar A Q R with e | ⟨r,hr,e⟩
   ·rw [e] at H;obtain ⟨a,p,a1,a2,C,I,T,L⟩:=nN (x:=x) (st:=st) u (show 0<2 by decide) (show (au i).W-2<(au i).W-1 by omega) hn rfl H;have:=V a (rP u U hk p C) a1 I L (λc hc N D O=>o ⟨c,hc,N,D,O⟩);rw [this,T,show (au i).W-2+1=(au i).W-1 by omega];exact lE v st (nC A ao).1 B
   ·obtain ⟨a,p,a1,a2,C,I,T,L⟩:=nN (x:=x) (st:=st) u (show 1<2 by decide) hr hn e H;exact absurd ⟨a,rP u U hk p C,a1,I,L⟩ o
def vT (i:Inp) (x:Nat) (c:Cor) (v:N1):Prop:=v.length=c.at'.2-c.at'.1/\∀t,t<v.length->nth v t=if c.ph=0 then lF i c.st (bU (au i).W x 0 c.rd) c.rd (c.at'.1+t) else j2 i c.st (c.at'.1+t)
theorem GI.recv (h:GI i x st nx G q) (hs:bj i) (hx:x<(au i).W) (U:(aB (au i) x st)[nx]?=some y) (hb:y.a=some b) (C:b.send=false) (hq:q<G.length) {v:N1} (hv:vT i (pvW (au i).W x) b.cor v):GI i x st (nx+1) (fO G b.at'.1 v b.add) q:=by
 have T:=hs.ok;have I:b∈aY (aB (au i) x st):=gC (List.mem_of_getElem? U) hb;obtain ⟨b1,b2,b3,b4,_⟩:=ff I;have Z:=C4 U hb;have Q:aY ((aB (au i) x st).take (nx+1))=aY ((aB (au i) x st).take nx)++[b]:=by rw [lY U,hb];rfl
 obtain ⟨v1,v2⟩:=hv;have a1:v.length=b.at'.2-b.at'.1:=v1;have e:=jD (G:=G) (lo:=b.at'.1) (v:=v) (add:=b.add) (k:=v.length) (j:=q) hq;have R:nth (fO G b.at'.1 v b.add) q=_:=e;obtain ⟨h1,h2,h3⟩:=h;have hm:min (nx+1) (au i).mi=min nx (au i).mi:=ao;by_cases hc:Cov b.at' q
 ·obtain ⟨c1,c2⟩:=hc;rw [if_pos ⟨c1,by omega⟩] at R;have a0:=v2 (q-b.at'.1) ao;have A:nth v (q-b.at'.1)=if b.ph=0 then lF i b.st (bU (au i).W (pvW (au i).W x) 0 b.rd) b.rd (b.at'.1+(q-b.at'.1)) else j2 i b.st (b.at'.1+(q-b.at'.1)):=a0
  rw [show b.at'.1+(q-b.at'.1)=q by omega,b1,xQ hx b3] at A;obtain ⟨J,_,_⟩:=rh I C;unfold GI;rw [Q];rcases (show b.ph=0\/b.ph=1 by omega) with V | p1
  ·rw [if_pos V] at A;rw [J,V,if_pos (show ((0:Nat)==0)=true from rfl),A] at R;have bk:=(mX T I C ⟨c1,c2⟩).2;have N:∀a∈aY ((aB (au i) x st).take nx),a.send=false->a.ph=1->¬Cov a.at' q:=λa p u B o=>wH T U hb V p B (m8 T (ff (dD p)).2.2.2.1 b4 (mX T (dD p) u o).2 bk)
   have O:∀a∈aY ((aB (au i) x st).take nx),a.send=false->a.ph=0->¬Cov a.at' q:=λa p u D o=>by
    have h4:=(DA T hx (dD p) I u C (by rw [D,V]) o ⟨c1,c2⟩).1;have h5:=ko (jo T) U hb p;omega
   have L:=h3 (λa p u o=>by
    rcases (show a.ph=0\/a.ph=1 by have:=(ff (dD p)).2.1;omega) with e0 | e1
    ·exact O a p u e0 o
    ·exact N a p u e1 o)
   rw [Nat.min_eq_right Z] at L
   have H:nth (fO G b.at'.1 v b.add) q=lF i st (aO (au i).W x 0 b.rd) (b.rd+1) q:=by
    rw [J,V];rw [R,L,<-yh,(nC hx b3).2.1];rfl
   refine ⟨λa p u B o=>?_,λa p u D o _=>?_,λhn=>absurd ⟨c1,c2⟩ (hn b (by simp) C)⟩
   ·rcases GU.1 p with p | p
    ·exact absurd o (N a p u B)
    ·rw [List.mem_singleton.1 p] at B;omega
   ·rcases GU.1 p with p | p
    ·exact absurd o (O a p u D)
    ·rw [List.mem_singleton.1 p];exact H
  ·rw [if_neg ao] at A
   have H:nth (fO G b.at'.1 v b.add) q=j2 i st q:=by
    rw [J,p1];rw [J,p1,if_neg (show ¬((1:Nat)==0)=true by decide)] at R;exact R.trans A
   refine ⟨λ_ _ _ _ _=>H,λa p u D o hn=>absurd ⟨c1,c2⟩ (hn b (by simp) C p1),λhn=>absurd ⟨c1,c2⟩ (hn b (by simp) C)⟩
 ·rw [if_neg (λhh=>hc ⟨hh.1,by omega⟩)] at R;unfold GI;rw [Q,hm,R];refine ⟨λa p u B o=>?_,λa p u D o hn=>?_,λhn=>h3 λa p=>hn a (List.mem_append_left _ p)⟩
  ·rcases GU.1 p with p | p
   ·exact h1 a p u B o
   ·rw [List.mem_singleton.1 p] at o;exact absurd o hc
  ·rcases GU.1 p with p | p
   ·exact h2 a p u D o λc Y=>hn c (List.mem_append_left _ Y)
   ·rw [List.mem_singleton.1 p] at o;exact absurd o hc
theorem GI.same (h:GI i x st nx G q) (H:(aB (au i) x st)[nx]?=some y) (C:(au i).mi<=nx) (hn:∀a,y.a=some a->a.send=true):GI i x st (nx+1) G q:=by
 have hm:min (nx+1) (au i).mi=min nx (au i).mi:=ao;obtain ⟨I,D,J⟩:=h;unfold GI;rw [lY H,hm];have hb:∀a∈y.a.toList,a.send=true:=λa o=>hn a (by cases e:y.a<;>rw [e] at o<;>simp at o;rw [o]);refine ⟨λa o p A v=>?_,λa o p B v u=>?_,λu=>J λa o=>u a (List.mem_append_left _ o)⟩
 ·rcases GU.1 o with o | o
  ·exact I a o p A v
  ·rw [hb a o] at p;cases p
 ·rcases GU.1 o with o | o
  ·exact D a o p B v λc hc=>u c (List.mem_append_left _ hc)
  ·rw [hb a o] at p;cases p
end
structure RIv (i:Inp) (x:Nat) (m:Mst):Prop where
 rc:m.rc=kw i (m.st+1)
 pm:m.st<i.cfg.steps.toNat->∀j,j<(au i).buks.length->∀q,Cov (aD (au i).buks j) q->nth m.P q=nth (cM i (if j<(opP (au i) x m.st m.nx).1 then m.st+1 else m.st)).1 q/\nth m.M q=nth (cM i (if j<(opP (au i) x m.st m.nx).1 then m.st+1 else m.st)).2 q
 g:m.st<i.cfg.steps.toNat->∀q,q<i.start.length->GI i x m.st m.nx m.G q
theorem Fv {p:Pln} (i:aT p) {j q:Nat} (o:j<p.buks.length) (h:Cov (aD p.buks j) q):q<p.n:=by
 rw [m9 i o] at h;have:=rF (n:=p.n) (s:=p.bu) (Gc j);rw [rE _ _ i.bu] at this;exact Gf h.2 this
theorem RIv.zero {i:Inp} (h:bj i) (x:Nat):RIv i x (eK i):=by
 refine ⟨rfl_rc h,λ_ j _ q p=>?_,λ_ q _=>?_⟩
 ·have e:(opP (au i) x (eK i).st (eK i).nx).1=0:=rfl;rw [e,if_neg ao];refine ⟨rfl,?_⟩
  show nth (List.replicate i.start.length 0) q=nth (List.replicate (cnt i) 0) q
  rw [h.g.s]
 ·refine ⟨λa o=>by simp [aY,eK] at o,λa o=>by simp [aY,eK] at o,λ_=>?_⟩
  show nth (List.replicate i.start.length 0) q=nth (lO i x 0 (min 0 _)) q
  rw [Nat.zero_min];rfl
where
 rfl_rc {i:Inp} (h:bj i):(eK i).rc=kw i 1:=by
  show [(i.start,List.replicate i.start.length 0)]=_
  rw [h.g.s];rfl
section
variable {i:Inp} {x:Nat} {m m1:Mst} {y:Itm}
theorem ln (v:bj i) (o:(bq i x m.st)[m.nx]?=some y) (hk:y.kind≠6) (u:m1.st=m.st) (p:m1.nx=m.nx):adv i x m1={m1 with nx:=m.nx+1}/\m.st<i.cfg.steps.toNat/\(aB (au i) x m.st)[m.nx]?=some y:=by
 obtain ⟨g1,A⟩:=cF o;have hc:bq i x m.st=aB (au i) x m.st:=if_pos g1;rw [hc] at o;have hr:=lR v.ok o;have hl:=(GF.1 o).1;refine ⟨?_,g1,o⟩;unfold adv
 rw [u,p,hc,if_pos (by
  rcases Gn (m.nx+1) (aB (au i) x m.st).length with h | h
  ·exact h
  ·exact absurd (hr.2 ao) hk)]
theorem Eh (u:bj i) (h:(bq i x m.st)[m.nx]?=some y) (hk:y.kind=6) (p:m1.st=m.st) (o:m1.nx=m.nx):adv i x m1={m1 with st:=m.st+1,nx:=0}/\m.st<i.cfg.steps.toNat/\(aB (au i) x m.st)[m.nx]?=some y/\m.nx+1=(aB (au i) x m.st).length:=by
 obtain ⟨g1,v⟩:=cF h;have hc:bq i x m.st=aB (au i) x m.st:=if_pos g1;rw [hc] at h;have hr:=(lR u.ok h).1 hk;refine ⟨?_,g1,h,hr⟩;unfold adv;rw [p,o,hc,if_neg ao]
theorem wQ (o:(aB (au i) x m.st)[m.nx]?=some y) (hk:y.kind≠1):(au i).mi<=m.nx:=by
 rcases Gn m.nx (au i).mi with h | h
 ·rw [kM h] at o;cases o;exact absurd rfl hk
 ·exact h
theorem RIv.all (h:RIv i x m) (hm:MOk i x m) (v:bj i) (o:m.st<i.cfg.steps.toNat) {k:Nat} (hk:∀j,j<(au i).buks.length->(if j<(opP (au i) x m.st m.nx).1 then m.st+1 else m.st)=k):m.P=(cM i k).1/\m.M=(cM i k).2:=by
 have hl:=rQ i v.g.s k;refine ⟨eG (by rw [hm.lP,hl.1,v.g.s]) λq p=>?_,eG (by rw [hm.lM,hl.2,v.g.s]) λq p=>?_⟩
 ·obtain ⟨j,u,hc⟩:=CH v.ok (q:=q) (by rw [hm.lP] at p;exact p);have:=(h.pm o j u q hc).1
  rwa [hk j u] at this
 ·obtain ⟨j,u,hc⟩:=CH v.ok (q:=q) (by rw [hm.lM] at p;exact p);have:=(h.pm o j u q hc).2
  rwa [hk j u] at this
theorem RIv.own (h:RIv i x m) (hm:MOk i x m) (D:bj i) (hx:x<(au i).W) (T:(bq i x m.st)[m.nx]?=some y) (C:y.a=none):RIv i x (adv i x (fN i x m y)):=by
 have Q:=D.ok;obtain ⟨Z,Y⟩:=od i x m y;rcases jz (cF T).2 C with k | k | k | k
 ·obtain ⟨L,u,o⟩:=ln D T ao Z Y
  have a2:m.nx<(au i).mi:=by
   rcases Gn m.nx (au i).mi with h | h
   ·exact h
   ·exact absurd k (yb o h)
  have ey:=o;rw [kM a2] at ey
  cases ey
  obtain ⟨t1,t2⟩:=kg (p:=au i) (x:=x) (st:=m.st) (nx:=m.nx) ao;obtain ⟨t3,t4⟩:=kg (p:=au i) (x:=x) (st:=m.st) (nx:=m.nx+1) ao;have hP:=(h.all hm D u (k:=m.st) (λj _=>by rw [t2,if_neg (by show ¬j<0;omega)])).1
  have hG:m.G=lO i x m.st m.nx:=eG (by rw [hm.lG,BU]) λq B=>by
   have:=(h.g u q (by rw [hm.lG] at B;exact B)).2.2 (λa C=>by rw [t1] at C;cases C)
   rwa [Nat.min_eq_left ao] at this
  rw [L]
  have J:fN i x m ⟨1,m.st,m.nx,none⟩={m with G:=lO i x m.st (m.nx+1)}:=by
   unfold fN;rw [if_pos rfl,qp,<-hG,<-hP]
  rw [J];refine ⟨h.rc,λ_ j H q B=>?_,λ_ q B=>?_⟩
  ·have:=h.pm u j H q B;rw [t2] at this
   show nth m.P q=nth (cM i (if j<(opP (au i) x m.st (m.nx+1)).1 then m.st+1 else m.st)).1 q/\nth m.M q=nth (cM i (if j<(opP (au i) x m.st (m.nx+1)).1 then m.st+1 else m.st)).2 q
   rw [t4];exact this
  ·show GI i x m.st (m.nx+1) (lO i x m.st (m.nx+1)) q
   unfold GI;rw [t3];exact ⟨λa C=>(by cases C),λa C=>(by cases C),λ_=>(by rw [Nat.min_eq_left ao])⟩
 ·obtain ⟨L,u,o⟩:=ln D T ao Z Y;rw [L]
  have J:fN i x m y={m with op:=m.op++[y.n]}:=by
   unfold fN;rw [if_neg ao,if_pos k]
  rw [J];refine ⟨h.rc,λ_ j H q B=>?_,λ_ q B=>?_⟩
  ·have eo:(opP (au i) x m.st (m.nx+1)).1=(opP (au i) x m.st m.nx).1:=by rw [fJ o];unfold opF;rw [if_pos k]
   show nth m.P q=nth (cM i (if j<(opP (au i) x m.st (m.nx+1)).1 then m.st+1 else m.st)).1 q/\nth m.M q=nth (cM i (if j<(opP (au i) x m.st (m.nx+1)).1 then m.st+1 else m.st)).2 q
   rw [eo];exact h.pm u j H q B
  ·exact (h.g u q B).same o (wQ o ao) (λa e=>by rw [C] at e;cases e)
 ·obtain ⟨L,u,o⟩:=ln D T ao Z Y;rw [L];have h5:=(kI (ix Q x m.st).1 o).2 k;have a5:=(ro Q x m.st m.nx).2.1;have a4:y.n=(opP (au i) x m.st m.nx).1:=h5.1
  have O:y.n<(au i).buks.length:=by
   have:(opP (au i) x m.st m.nx).1<(opP (au i) x m.st m.nx).2:=h5.2;omega
  have eo:(opP (au i) x m.st (m.nx+1)).1=(opP (au i) x m.st m.nx).1+1:=by rw [fJ o];unfold opF;rw [if_neg ao,if_pos k]
  obtain ⟨lo,v,hr⟩:∃lo v,aD (au i).buks y.n=(lo,v):=⟨_,_,rfl⟩
  have J:fN i x m y={m with P:=apP i.cfg.rate i.cfg.mom i.cfg.shift m.P m.M ((m.G.drop lo).take (v-lo)) lo (v-lo),M:=apM i.cfg.mom i.cfg.shift m.M ((m.G.drop lo).take (v-lo)) lo (v-lo),op:=eT m.op y.n}:=by
   unfold fN;rw [if_neg ao,if_neg ao,if_pos k,hr]
  rw [J];have hl:=rQ i D.g.s m.st;refine ⟨h.rc,λ_ j H q B=>?_,λ_ q B=>?_⟩
  ·have a0:=Fv Q H B;have A:q<i.start.length:=a0
   show nth (apP i.cfg.rate i.cfg.mom i.cfg.shift m.P m.M ((m.G.drop lo).take (v-lo)) lo (v-lo)) q=nth (cM i (if j<(opP (au i) x m.st (m.nx+1)).1 then m.st+1 else m.st)).1 q/\nth (apM i.cfg.mom i.cfg.shift m.M ((m.G.drop lo).take (v-lo)) lo (v-lo)) q=nth (cM i (if j<(opP (au i) x m.st (m.nx+1)).1 then m.st+1 else m.st)).2 q
   have aP:nth (apP i.cfg.rate i.cfg.mom i.cfg.shift m.P m.M ((m.G.drop lo).take (v-lo)) lo (v-lo)) q=if lo<=q/\q<lo+(v-lo) then nu i.cfg.rate i.cfg.shift (nth m.P q) (ip i.cfg.mom i.cfg.shift (nth m.M q) (nth ((m.G.drop lo).take (v-lo)) (q-lo))) else nth m.P q:=bP _ (by rw [hm.lP];exact A)
   have aM:nth (apM i.cfg.mom i.cfg.shift m.M ((m.G.drop lo).take (v-lo)) lo (v-lo)) q=if lo<=q/\q<lo+(v-lo) then ip i.cfg.mom i.cfg.shift (nth m.M q) (nth ((m.G.drop lo).take (v-lo)) (q-lo)) else nth m.M q:=bP _ (by rw [hm.lM];exact A)
   rw [aP,aM,eo];have I:=h.pm u j H q B;by_cases U:j=y.n
   ·subst U;have hc:=B;rw [hr] at hc;obtain ⟨c1,c2⟩:=hc;simp only at c1 c2;rw [if_neg ao] at I;have R:lo<=q/\q<lo+(v-lo):=⟨c1,by omega⟩;rw [if_pos R,if_pos R,if_pos ao,eA ao,eB,show lo+(q-lo)=q by omega,(h.g u q A).upd D hx o k O B A (wQ o ao),I.1,I.2];have f1:nth (cM i (m.st+1)).1 q=nu i.cfg.rate i.cfg.shift (nth (cM i m.st).1 q) (ip i.cfg.mom i.cfg.shift (nth (cM i m.st).2 q) (nth (pR i (cM i m.st).1 m.st) q)):=bP _ (by rw [hl.1,<-D.g.s];exact A);have f2:nth (cM i (m.st+1)).2 q=ip i.cfg.mom i.cfg.shift (nth (cM i m.st).2 q) (nth (pR i (cM i m.st).1 m.st) q):=bP _ (by rw [hl.2,<-D.g.s];exact A);rw [f1,f2];exact ⟨rfl,rfl⟩
   ·have N:¬(lo<=q/\q<lo+(v-lo)):=λhh=>U (m8 Q H O B (by rw [hr];exact ⟨hh.1,by show q<v;omega⟩));rw [if_neg N,if_neg N];have ej:(if j<(opP (au i) x m.st m.nx).1+1 then m.st+1 else m.st)=if j<(opP (au i) x m.st m.nx).1 then m.st+1 else m.st:=by split<;>split<;>omega
    rw [ej];exact I
  ·exact (h.g u q B).same o (wQ o ao) (λa e=>by rw [C] at e;cases e)
 ·obtain ⟨L,u,o,a3⟩:=Eh D T k Z Y;rw [L]
  have J:fN i x m y={m with rc:=m.rc++[(m.P,m.M)],G:=List.replicate i.start.length 0}:=by
   unfold fN;rw [if_neg ao,if_neg ao,if_neg ao]
  rw [J]
  have a1:(opP (au i) x m.st m.nx).1=(au i).buks.length:=by
   have V:=wD Q (x:=x) (st:=m.st) (nx:=m.nx+1) ao;rw [fJ o] at V;unfold opF at V;rw [if_neg ao,if_neg ao] at V;rw [V]
  obtain ⟨hP,hM⟩:=h.all hm D u (k:=m.st+1) (λj H=>by rw [a1,if_pos H]);refine ⟨?_,λ_ j H q B=>?_,λ_ q B=>?_⟩
  ·show m.rc++[(m.P,m.M)]=kw i (m.st+1+1)
   rw [ue,h.rc,hP,hM]
  ·show nth m.P q=nth (cM i (if j<0 then m.st+1+1 else m.st+1)).1 q/\nth m.M q=nth (cM i (if j<0 then m.st+1+1 else m.st+1)).2 q
   rw [if_neg ao,hP,hM];exact ⟨rfl,rfl⟩
  ·refine ⟨λa C=>by simp [aY] at C,λa C=>by simp [aY] at C,λ_=>?_⟩
   show nth (List.replicate i.start.length 0) q=nth (lO i x (m.st+1) (min 0 _)) q
   rw [Nat.zero_min];rfl
theorem RIv.send (h:RIv i x m) (I:bj i) (B:(bq i x m.st)[m.nx]?=some y) {a:Acn} (D:y.a=some a) (hk:y.kind=3) (u:a.send=true):RIv i x (adv i x m):=by
 obtain ⟨H,p,o⟩:=ln (m1:=m) I B ao rfl rfl;rw [H];have C:opP (au i) x m.st (m.nx+1)=opP (au i) x m.st m.nx:=by rw [fJ o];unfold opF;rw [if_neg ao,if_neg ao]
 refine ⟨h.rc,λ_ j A q v=>?_,λ_ q v=>?_⟩
 ·show nth m.P q=nth (cM i (if j<(opP (au i) x m.st (m.nx+1)).1 then m.st+1 else m.st)).1 q/\nth m.M q=nth (cM i (if j<(opP (au i) x m.st (m.nx+1)).1 then m.st+1 else m.st)).2 q
  rw [C];exact h.pm p j A q v
 ·exact (h.g p q v).same o (wQ o ao) (λb e=>by rw [D] at e;cases e;exact u)
theorem RIv.recv (h:RIv i x m) (hm:MOk i x m) (B:bj i) (N:x<(au i).W) (D:(bq i x m.st)[m.nx]?=some y) {a:Acn} (I:y.a=some a) (hk:y.kind=4) (A:a.send=false) {v:N1} (J:vT i (pvW (au i).W x) a.cor v):RIv i x (adv i x {m with G:=fO m.G a.at'.1 v a.add}):=by
 obtain ⟨L,o,p⟩:=ln (m1:={m with G:=fO m.G a.at'.1 v a.add}) B D ao rfl rfl;rw [L];have H:opP (au i) x m.st (m.nx+1)=opP (au i) x m.st m.nx:=by rw [fJ p];unfold opF;rw [if_neg ao,if_neg ao]
 refine ⟨h.rc,λ_ j C q u=>?_,λ_ q u=>?_⟩
 ·show nth m.P q=nth (cM i (if j<(opP (au i) x m.st (m.nx+1)).1 then m.st+1 else m.st)).1 q/\nth m.M q=nth (cM i (if j<(opP (au i) x m.st (m.nx+1)).1 then m.st+1 else m.st)).2 q
  rw [H];exact h.pm o j C q u
 ·exact (h.g o q u).recv B N p I A (by rw [hm.lG];exact u) J
end
structure RW (i:Inp) (M:WSt):Prop where
 mv:∀x,x<(au i).W->RIv i x (M.m x)
 ct:∀x,x<(au i).W->∀j,j<(M.s x).msgs.length->∃c,(dH (cN i x))[j]?=some c/\vT i x c (aN (M.s x).msgs j).vals
theorem Pk.ring {i:Inp} {M M1:WSt} {x C:Nat} (hp:Pk i M x M1 C) (h:WOk i M) (hr:RW i M) (I:bj i) (A:x<(au i).W):RW i M1:=by
 obtain ⟨m1,s1,t1,Z,rfl⟩:=hp;have N:pvW (au i).W x<(au i).W:=iO ao;have B:=h.cur I A;have o:RW i ⟨aL M.m x (M.m x),aL (aL M.s (pvW (au i).W x) (M.s (pvW (au i).W x))) x (M.s x)⟩:=by rw [rX];exact hr
 have H:RIv i x m1->∀z,z<(au i).W->RIv i z (aL M.m x m1 z):=λhm z v=>by
  by_cases e:z=x
  ·subst e;rw [aV];exact hm
  ·rw [aR _ _ e];exact hr.mv z v
 cases Z with
 | fin=>exact o
 | full=>exact o
 | none=>exact o
 | other=>exact o
 | own y hy ha=>
  rw [dP,dP];exact ⟨H ((hr.mv x A).own (h.mok x A) I A hy ha),hr.ct⟩
 | send y a hy ha hk hroom=>
  have p:=cF hy
  have u:a.send=true:=by
   have:=(fv p.2 ha).1
   cases e:a.send with
   | true=>rfl
   | false=>rw [e,hk] at this;cases this
  have a1:=vN I.ok p.2 ha;have Q:=p.1
  have Y:(aB (au i) x (M.m x).st)[(M.m x).nx]?=some y:=by
   have hc:bq i x (M.m x).st=aB (au i) x (M.m x).st:=if_pos Q
   rwa [hc] at hy
  have V:=(ff (gC p.2 ha)).1;rw [dP];refine ⟨H ((hr.mv x A).send I hy ha hk u),λz v j D=>?_⟩;by_cases e:z=x
  ·subst e
   have J:((⟨aL M.m z (adv i z (M.m z)),aL M.s z ((M.s z).send ⟨a.tg,((M.m z).G.drop a.at'.1).take (a.at'.2-a.at'.1)⟩)⟩:WSt).s z).msgs=(M.s z).msgs++[⟨a.tg,((M.m z).G.drop a.at'.1).take (a.at'.2-a.at'.1)⟩]:=by
    show (aL M.s z _ z).msgs=_;rw [aV];rfl
   rw [J] at D ⊢;rw [nW];by_cases hl:j<(M.s z).msgs.length
   ·rw [if_pos hl];exact hr.ct z v j hl
   ·rw [GE,GP] at D;have R:j=(M.s z).msgs.length:=ao;rw [if_neg hl,if_pos R];have hn:(au i).n=i.start.length:=rfl
    have T:(((M.m z).G.drop a.at'.1).take (a.at'.2-a.at'.1)).length=a.at'.2-a.at'.1:=by
     rw [GL,GO,(h.mok z v).lG];omega
    rw [B] at hy;refine ⟨a.cor,by rw [R,h.sn z v];exact rY hy ha u,T,λt Z=>?_⟩
    have a0:t<a.at'.2-a.at'.1:=by
     have:t<(((M.m z).G.drop a.at'.1).take (a.at'.2-a.at'.1)).length:=Z;omega
    show nth (((M.m z).G.drop a.at'.1).take (a.at'.2-a.at'.1)) t=if a.ph=0 then lF i a.st (bU (au i).W z 0 a.rd) a.rd (a.at'.1+t) else j2 i a.st (a.at'.1+t)
    rw [eA a0,eB,V];exact ((hr.mv z v).g Q (a.at'.1+t) ao).send I v Y ha u ⟨by omega,by omega⟩ ao
  ·have J:(⟨aL M.m x (adv i x (M.m x)),aL M.s x ((M.s x).send ⟨a.tg,((M.m x).G.drop a.at'.1).take (a.at'.2-a.at'.1)⟩)⟩:WSt).s z=M.s z:=aR _ _ e;rw [J] at D ⊢;exact hr.ct z v j D
 | recv y a hy ha hk hlt heq=>
  have p:=cF hy;have u:=lT p.2 ha hk;obtain ⟨c,c1,c2⟩:=hr.ct _ N _ hlt;have L:=h.rn _ N;rw [mA A] at L;have e:=jx i (pvW (au i).W x) i.cfg.steps.toNat;rw [show (pvW (au i).W x+1)%(au i).W=x from mA A] at e;rw [show dH (cN i (pvW (au i).W x))=dW (cN i x) from e,L] at c1;have O:=hy;rw [B] at O;have U:=nM O ha u;rw [show (dW (List.take (M.pos i x) (cN i x))).length=rN i x (M.pos i x) from rfl,c1] at U;injection U with U
  subst U;refine ⟨H ((hr.mv x A).recv (h.mok x A) I A hy ha hk u c2),λz v j D=>?_⟩
  have hm:((⟨aL M.m x (adv i x {M.m x with G:=fO (M.m x).G a.at'.1 (aN (M.s (pvW (au i).W x)).msgs (M.s (pvW (au i).W x)).recv).vals a.add}),aL (aL M.s (pvW (au i).W x) {M.s (pvW (au i).W x) with recv:=(M.s (pvW (au i).W x)).recv+1}) x (M.s x)⟩:WSt).s z).msgs=(M.s z).msgs:=by
   show (aL (aL M.s (pvW (au i).W x) _) x (M.s x) z).msgs=_
   by_cases J:z=x
   ·subst J;rw [aV]
   ·rw [aR _ _ J];by_cases e2:z=pvW (au i).W x
    ·subst e2;rw [aV]
    ·rw [aR _ _ e2]
  rw [hm] at D ⊢;exact hr.ct z v j D
theorem RW.zero {i:Inp} (h:bj i):RW i (j3 i):=⟨λx _=>RIv.zero h x,λx _ j o=>by simp [j3,LSt.new] at o⟩
theorem RIv.done {i:Inp} {x:Nat} {m:Mst} (h:RIv i x m) (hm:MOk i x m) (u:bj i) (p:bR i x m=(cN i x).length):m.rc=kw i (i.cfg.steps.toNat+1):=by
 rw [h.rc];rcases hm.ps with ⟨o,v⟩ | ⟨o,_⟩
 ·rw [lm u.ok] at p;unfold bR at p;have:=HU (aB (au i) x 0).length (Nat.succ_le_of_lt o);rw [GW] at this;omega
 ·rw [o]
theorem RW.pickZ {i:Inp} {M:WSt} (hr:RW i M) (h:dV i M) (o:bj i) (z:Int):RW i (pkZ i M z).1:=by
 unfold pkZ
 split
 ·obtain ⟨C,p, -⟩:=uI h o (x:=z.toNat) ao;exact p.ring h.ok hr o ao
 ·exact hr
theorem Dq:((mN smK*(au smK).W:Nat):Int)<=100:=by decide +kernel
theorem we:(pG smK (j3 smK) 100).1.fin smK:=Ci (dV.zero gj) gj Dq
theorem Dr:dV smK (pG smK (j3 smK) 100).1/\RW smK (pG smK (j3 smK) 100).1:=by
 unfold pG;exact tv (Q:=λM=>dV smK M/\RW smK M) (λM z h=>⟨(uH h.1 gj z).1,RW.pickZ h.2 h.1 gj z⟩) _ _ _ ⟨dV.zero gj,RW.zero gj⟩
theorem EJ:((pG smK (j3 smK) 100).1.m 1).rc=kw smK 2:=by
 have h:=Dr;have i:1<(au smK).W:=by decide
 exact RIv.done (h.2.mv 1 i) (h.1.ok.mok 1 i) gj (we 1 i)
theorem Ad:(cM smK 1).1=[-4, -2]:=by decide +kernel
theorem EV:cW prog 96 106 .nilIface 1 16:=⟨underlying96,info_parts (by kernel_rfl),rfl,by decide⟩
theorem EW:cW prog 97 103 (.pointer none) 1 8:=⟨underlying97,info_parts (by kernel_rfl),rfl,by decide⟩
theorem wn:eC prog 29 15:=⟨⟨_,underlying29,rfl⟩,by kernel_rfl⟩
theorem qj {w:N5} {u H s1 s2 B I:Nat} {o p:N6} {v1 v2:Value} {xs A:N4} (C:w.ownsRow u o s1 v1 B xs) (y:w.ownsRow H p s2 v2 I A) (h:o≠p) (j:Nat) (e:v1.ownBlock=some j) (f:v2.ownBlock=some j):False:=by
 rcases C.2 with ⟨i,_⟩ | ⟨v,_,_,i,_,D,_⟩
 ·rw [i] at e;cases e
 ·rw [i] at e;have x:v=j:=by simpa [Value.ownBlock] using e
  subst x;exact aw D h y f.symm
structure C9 (X cap:Nat) (rb rb':Nat->Prop) (l1:Nat) (w1 w':N5):Prop where
 hk:Keep (λj=>j=X\/rb j) w1 w'
 hty:∀j c,(j=X\/rb j)->w1.heap[j]?≠some (.cells c 2 (0,0))
 hrb:∀j,rb' j->rb j\/(w1.heap.size<=j/\j≠l1)
 hrl:∀j,rb' j->j<w'.heap.size
 hl:w1.heap.size<=l1/\l1<w'.heap.size
 hb:w'.heap[l1]?=some (.cells #[H9,H8 (cap:Nat),H8 0,H8 0,H8 0] 172 (0,0))
def sq (a b:Value) (j:Nat):Prop:=a.ownBlock=some j\/b.ownBlock=some j
structure xj (J:Nat->List Nat->List Nat->(Nat->Prop)->N5->Prop) (W1:N5) (X k:Nat) (w:N5) (bs ls:List Nat) (AW AL:N0) (cw cl:Nat):Prop where
 j:J X bs ls (sq (.slice AW k cw) (.slice AL k cl)) w
 hb:bs.length=k
 hl:ls.length=k
 box:w.heap[X]?=some (.cells #[.slice AW k cw,.slice AL k cl,H8 0] 99 (0,0))
 oW:w.ownsRow (X+1) 106 1 (.slice AW k cw) k (bs.map λb=>.iface 100 ((ar b)))
 oL:w.ownsRow (X+1) 103 1 (.slice AL k cl) k (ls.map λb=>(ar b))
 lo:W1.heap.size<=X
 q:ap W1 w
theorem Aa {J:Nat->List Nat->List Nat->(Nat->Prop)->N5->Prop} {i0 i1 i2 i3 i5 i6 i7 i8 i9 D I C B:Value} {N cap:Nat} {w W1:N5} (ad:w.alloc (.cells #[i0,i1,i2,i3,H8 (N:Nat),i5,i6,i7,i8,i9,D,H8 (cap:Nat),I,C,B] 29)=W1) (hN:N<=1000) (bz:1<=cap/\cap<=1048576) (bb:∀h,ap W1 h->Calls prog 40 #[.agg #[i0,i1,i2,i3,H8 (N:Nat),i5,i6,i7,i8,i9,D,H8 (cap:Nat),I,C,B]] h λe ak=>e=.returned (H8 0)/\ap h ak) (hl:∀h:N5,Calls prog 42 #[H8 (cap:Nat)] h λe ak=>e=.returned ((ar h.heap.size))/\ak=h.alloc (.cells #[H9,H8 (cap:Nat),H8 0,H8 0,H8 0] 172)) (h0:∀X h,W1.heap.size<=X->X<h.heap.size->ap W1 h->J X [] [] (λ_=>False) h) (hm:∀X k bs L rb h,k<N->W1.heap.size<=X->X<h.heap.size->ap W1 h->bs.length=k->L.length=k->J X bs L rb h->Calls prog 41 #[.agg #[i0,i1,i2,i3,H8 (N:Nat),i5,i6,i7,i8,i9,D,H8 (cap:Nat),I,C,B],H8 (k:Nat)] h λe H=>
   ∃b,e=.returned (.tuple #[(ar b),H8 0])/\ap h H/\∀l1 b8 w2,C9 X cap rb b8 l1 H w2->J X (bs++[b]) (L++[l1]) b8 w2):
  Calls prog 13 #[.agg #[i0,i1,i2,i3,H8 (N:Nat),i5,i6,i7,i8,i9,D,H8 (cap:Nat),I,C,B]] w λe h=>
   ∃X bs L AW y cw A,e=.returned (.tuple #[(ar X),H8 0])/\xj J W1 X N h bs L AW y cw A:=by
 have g0:W1.heap[w.heap.size]?=some (.cells #[i0,i1,i2,i3,H8 (N:Nat),i5,i6,i7,i8,i9,D,H8 (cap:Nat),I,C,B] 29 (0,0)):=by rw [<-ad];exact F4 w _
 have t4:∀h,ap W1 h->h.cell? (aq w.heap.size 4)=some (H8 (N:Nat)):=λh q=>Ga h w.heap.size 4 _ _ _ (sb g0 h q);have a6:∀h,ap W1 h->h.cell? (aq w.heap.size 11)=some (H8 (cap:Nat)):=λh q=>Ga h w.heap.size 11 _ _ _ (sb g0 h q);have tl:=sl g0;have bA:w.heap.size<W1.heap.size:=F1 g0;obtain ⟨bw,Hl,Hm,H0,b7,G0⟩:=ah bb hl hm h0 ad g0;have q1:=br W1;clear bb hl hm h0 ad g0;go_enter func13,ntmps13;go_wp2_with (refine eg #[i0,i1,i2,i3,H8 (N:Nat),i5,i6,i7,i8,i9,D,H8 (cap:Nat),I,C,B] (b:=w.heap.size) (by rw [b7.o];exact G0.o) wn rfl rfl rfl rfl ?_);rw [b7.o];refine (bw.o _ q1).mono ?_;rintro e w2 ⟨rfl,k2⟩;have q2:=bt q1 k2;clear k2;go_wp2_with fail;obtain ⟨X,hX⟩:∃X,w2.heap.size=X:=⟨_,rfl⟩;obtain ⟨W3,a2⟩:∃W3,w2.alloc (.cells #[H9,H9,H8 0] 99)=W3:=⟨_,rfl⟩;have g3:W3.heap[X]?=some (.cells #[H9,H9,H8 0] 99 (0,0)):=by rw [<-a2,<-hX];exact F4 w2 _
 have q3:ap W1 W3:=by rw [<-a2];exact q2.alloc q2.size _
 have gX:W1.heap.size<=X:=by rw [<-hX];exact q2.size
 have m3:xj J W1 X 0 W3 [] [] none none 0 0:=⟨(by
  have hrb:sq (H9) (H9)=λ_=>False:=by funext j;simp [sq,Value.ownBlock]
  rw [hrb];exact H0.o X W3 gX (F1 g3) q3),rfl,rfl,g3,Gj ..,Gj ..,gX,q3⟩
 rw [hX,a2];have M3:=aa m3;clear m3 g3 a2 hX q2 q1
 go_loopw [19] (λv wr=>∃k:Nat,k<=N/\v=H8 k/\∃bs L AW y cw A,xj J W1 X k wr bs L AW y cw A) (λv _=>N-(intOf v).toNat)
 ·exact ⟨0,Gc _,rfl,[],[],none,none,0,0,M3.o⟩
 case round=>
  obtain ⟨k,hk,rfl,bs,L,AW,y,cw,A,m⟩:=hrel;have aM:=F1 m.box;have bM:=m.q.size;have tb:=bx3 m.box;have u:=aa m;clear m;by_cases bi:k<N
  ·have cc:(k:Int)<N:=ao;have c1:=Hm.o X k bs L _ wr bi u.o.lo aM u.o.q u.o.hb u.o.hl u.o.j;have C1:=aa c1;have q0:=u.o.q;clear c1;go_wp2_with (refine eg #[i0,i1,i2,i3,H8 (N:Nat),i5,i6,i7,i8,i9,D,H8 (cap:Nat),I,C,B] (b:=w.heap.size) (sb G0.o _ q0) wn rfl rfl rfl rfl ?_);refine C1.o.mono ?_;rintro e H ⟨b,rfl,k1,hJ⟩;have HJ:=aa hJ;have q1:=bt q0 k1;have b1:=sb u.o.box H k1;have oW:=aA u.o.oW k1;have oL:=aA u.o.oL k1;have c9:=k1.size;have bv:=bx3 b1;obtain ⟨B1,OW,OL,Q1,K1⟩:=ag b1 oW oL q1 k1;clear hJ b1 oW oL q1 k1 tb q0;go_wp2_with (at_builtin;refine eH EV _ rfl (.tmp 32) (.tmp 35) rfl (X+1) (.slice AW k cw) k _ rfl (OW.o.alloc _) (some (aq H.heap.size 0)) 1 1 [.iface 100 ((ar b))] rfl (gN H _ _ H.heap.size rfl) (by simp) (by simp [Value.oneCell']) ao (by unfold maxLen;omega) (by simp;omega) ?_);intro A2 c2 w3 o3 b3 g3 n3;have kA:ap H (H.alloc (.cells #[.iface 100 ((ar b))] 106)):=(br H).alloc (F3 _) _;have a1:w3.heap[X]?=_:=(b3.block X ao).trans (sb B1.o _ kA);have kW:Keep (λj=>(Value.slice AW k cw).ownBlock=some j) H w3:=((Keep.refl _ H).alloc _).grown g3 (λk hk=>.inr hk);have aP:=kW.own OL.o (λj i h2=>qj OL.o OW.o (by decide) j i h2);have bn:=bx3 a1;have bG:=kW.size;have cd:=F1 a1;obtain ⟨bh,b2,b4,O3,N3,HK⟩:=ah a1 kW aP o3 n3 hk;clear kA a1 kW aP o3 n3 b3 g3 bv aM;go_wp2_with fail;obtain ⟨p,Z⟩:∃p,w3.setCell (aq X 0) (.slice A2 (k+1) c2)=p:=⟨_,rfl⟩;have kX:Keep (λj=>j=X) w3 p:=by rw [<-Z];exact Keep.setCell (S:=λj=>j=X) (Keep.refl _ _) _ (.inr rfl) _
   have U:p.heap[X]?=some (.cells #[.slice A2 (k+1) c2,.slice y k A,H8 0] 99 (0,0)):=by rw [<-Z];exact ss bh.o
   have bo:=λ(v:Value) (e:N6) (xs:N4) (o:p.ownsRow (X+1) e 1 v xs.length xs)=>o;have o4:=kX.own O3.o (λj i h2=>by have:=(O3.o.lt j i).1;omega);have a3:=kX.own b4.o (λj i h2=>by have:=(b4.o.lt j i).1;omega);rw [Z];have c8:=kX.size;have b5:=F1 U;have tX:=λh (q:Keep (λj=>(Value.slice y k A).ownBlock=some j) p h)=>bx3 ((q.block X b5 (λe=>by have:=(a3.lt X e).1;omega)).trans U)
   have b0:∀h,Keep (λj=>(Value.slice y k A).ownBlock=some j) p h->h.cell? (aq w.heap.size 11)=some (H8 (cap:Nat)):=λh q=>by
    have hW:p.cell? (aq w.heap.size 11)=some (H8 (cap:Nat)):=a6 p (Q1.o.trans ((b2.o.toBelow Q1.o.size (λj e=>by have:=(OW.o.lt j e).1;have:=u.o.lo;omega)).trans (kX.toBelow (by have:=Q1.o.size;omega) (λj e=>by have:=u.o.lo;omega))));exact (World.cell?_of_block (q.block w.heap.size ao (λe=>by have:=(a3.lt _ e).1;have:=u.o.lo;omega))).trans hW
   have q4:Keep (λj=>(Value.slice y k A).ownBlock=some j) p p.drew:=(Keep.refl _ _).drew;obtain ⟨ax,O4,bl,KX⟩:=af a3 o4 U kX;clear bn Z U kX o4 a3 bo t4 a6;refine XA.g 11 (λh:N5=>Keep (λj=>(Value.slice y k A).ownBlock=some j) p h) ?_;refine XA.t ?_ [0,1,2,3,4,5,6,7] q4 ?_;refine XA.c 8 (Hl.o _) ?_;rintro _ T ⟨rfl,h5⟩;obtain ⟨x,Y⟩:∃x,p.drew.heap.size=x:=⟨_,rfl⟩;rw [Y];have g5:T.heap[x]?=some (.cells #[H9,H8 (cap:Nat),H8 0,H8 0,H8 0] 172 (0,0)):=by rw [h5,<-Y];exact F4 p.drew _
   have k5:ap p T:=by rw [h5];exact (br p).drew.alloc (F3 _) _
   have q5:Keep (λj=>(Value.slice y k A).ownBlock=some j) p T:=by rw [h5];exact q4.alloc _
   have bX:T.heap.size=x+1:=by rw [h5,<-Y];simp
   have bI:x=p.heap.size:=by rw [<-Y];rfl
   clear h5 q4;refine ⟨_,rfl,q5,λ_=>?_⟩;refine XA.v 9 (T.alloc (.cells #[(ar x)] 103)) (.slice (some (aq T.heap.size 0)) 1 1) (q5.alloc _) ?_;refine XA.o 10 (λK' hK=>?_);have hO:=(aA ax.o k5).alloc (.cells #[(ar x)] 103);refine cZ EW (.tmp 43) (.tmp 48) rfl rfl (X+1) (.slice y k A) k _ rfl hO (some (aq T.heap.size 0)) 1 1 [(ar x)] rfl (gN T _ _ T.heap.size rfl) (by simp) (by simp [Value.oneCell']) ao (by unfold maxLen;omega) (by simp;omega) ?_;intro A6 c6 V o6 b6 g6 n6;have a5:Keep (λj=>(Value.slice y k A).ownBlock=some j) T V:=((Keep.refl _ T).alloc (.cells #[(ar x)] 103)).grown g6 (λk hk=>.inr hk);have q6:=(q5.alloc (.cells #[(ar x)] 103)).grown g6 (λk hk=>.inr hk);refine hK.out _ _ q6 λ_=>?_;refine XA.e ?_;simp only [GC,GD];have a0:V.heap[X]?=_:=(q6.block X b5 (λe=>by have:=(ax.o.lt X e).1;omega)).trans bl.o;have c7:=bx3 a0;have bO:=F1 a0;have a4:∀j,(Value.slice y k A).ownBlock=some j->j<H.heap.size:=λj e=>(OL.o.lt j e).2;have a7:V.heap[x]?=_:=(a5.block x ao (λe=>by have:=a4 x e;omega)).trans g5;have k7:Keep (λj=>j=X) V (V.setCell (aq X 1) (.slice A6 (k+1) c6)):=Keep.setCell (S:=λj=>j=X) (Keep.refl _ _) _ (.inr rfl) _;have h7:(V.setCell (aq X 1) (.slice A6 (k+1) c6)).heap[X]?=some (.cells #[.slice A2 (k+1) c2,.slice A6 (k+1) c6,H8 0] 99 (0,0)):=ss a0;have cb:=k7.size;have bN:=a5.size;have bd:=F1 a7;have O:Keep (λj=>j=X\/sq (.slice AW k cw) (.slice y k A) j) H (V.setCell (aq X 1) (.slice A6 (k+1) c6)):=(((b2.o.mono λk _ e=>.inr (.inl e)).trans (KX.o.mono λk _ e=>.inl e)).trans (q6.mono λk _ e=>.inr (.inr e))).trans (k7.mono λk _ e=>.inl e)
   have Q:C9 X cap (sq (.slice AW k cw) (.slice y k A)) (sq (.slice A2 (k+1) c2) (.slice A6 (k+1) c6)) x H (V.setCell (aq X 1) (.slice A6 (k+1) c6)):=by
    refine ⟨O,?_,?_,?_,⟨by omega,by omega⟩,(k7.block x bd (λe=>ao)).trans a7⟩
    ·rintro j c (rfl | e | e) hj
     ·rw [B1.o] at hj;simp at hj
     ·exact aw hj (by decide) OW.o e.symm
     ·exact aw hj (by decide) OL.o e.symm
    ·rintro j (e | e)
     ·have:=(O3.o.lt j e).2;rcases N3.o with i | i
      ·rw [i] at e;exact .inl (.inl e)
      ·rw [i] at e;simp at e;exact .inr ⟨by omega,by omega⟩
     ·rcases n6 with i | i
      ·rw [i] at e;exact .inl (.inr e)
      ·rw [i] at e;simp at e;exact .inr ⟨by omega,by omega⟩
    ·rintro j (e | e)
     ·have:=(O4.o.lt j e).2;have:=q6.size;omega
     ·have:=(o6.lt j e).2;omega
   have R:xj J W1 X (k+1) (V.setCell (aq X 1) (.slice A6 (k+1) c6)) (bs++[b]) (L++[x]) A2 A6 c2 c6:=by
    refine ⟨HJ.o _ _ _ Q,by simp [u.o.hb],by simp [u.o.hl],h7,?_,?_,u.o.lo,Q1.o.trans (O.toBelow Q1.o.size (λj e=>?_))⟩
    ·have:=k7.own (q6.own O4.o (λj i h2=>qj ax.o O4.o (by decide) j h2 i)) (λj i h2=>by have:=(O4.o.lt j i).1;omega);rw [List.map_append];exact this
    ·have:=k7.own o6 (λj i h2=>by have:=(o6.lt j i).1;omega);rw [List.map_append];exact this
    ·have bV:=u.o.lo;rcases e with e | e | e
     ·omega
     ·have:=(OW.o.lt j e).1;omega
     ·have:=(OL.o.lt j e).1;omega
   have a8:=aa R;clear R Q O k7 h7 a7 a0 q6 a5 n6 g6 b6 o6 hO q5 k5 g5 tX b0 hK K' a4;go_wp2_with fail;go_roundw
   ·exact ⟨k+1,by omega,by go_num,_,_,_,_,_,_,a8.o⟩
   ·simp [intOf];omega
  ·obtain rfl:k=N:=ao;clear tb t4 a6;go_wp2_with fail;go_ret2;exact ⟨X,bs,L,AW,y,cw,A,rfl,u.o⟩
theorem aH.i64 {H:Nat->Prop} {w:N5} {b x:Nat} {i:Inp} {a:MAd} {m:Mst} (h:aH H w b i x a m) {j:Nat} {c:N2} (o:w.heap[j]?=some (.cells c 2 (0,0))) (hm:Mut b a j):j=a.bp\/j=a.bm\/j=a.bg:=by
 rcases hm with e | e | e | e | e | e
 ·exact absurd e (km o h.blk (by decide))
 ·exact .inl e
 ·exact .inr (.inl e)
 ·exact .inr (.inr e)
 ·obtain ⟨rows,p,_⟩:=h.re;exact absurd (show some j=_ by rw [e];rfl) (aw o (by decide) p)
 ·exact absurd e.symm (aw o (by decide) h.oO)
theorem aJ.noI64 {w:N5} {B l:Nat} {g:Option Nat} {s:LSt} (h:aJ w B l g s) {j:Nat} {c:N2} (i:w.heap[j]?=some (.cells c 2 (0,0))):¬cI l g j:=by
 rintro (e | e)
 ·obtain ⟨o,hb⟩:=h.blk;exact absurd e (km i hb (by decide))
 ·subst e;obtain ⟨o,hb⟩:=h.ringBlk;exact absurd rfl (km i hb (by decide))
theorem aJ.mach {H G:Nat->Prop} {w o:N5} {B l b x:Nat} {g:Option Nat} {s:LSt} {i:Inp} {a:MAd} {m:Mst} (v:aJ w B l g s) (u:aH H w b i x a m) (p:a.bp<B/\a.bm<B/\a.bg<B) (hn:∀k,cI l g k->¬(Mut b a k\/G k)) (y:∀(j:Nat) (c:N2),w.heap[j]?=some (.cells c 2 (0,0))->¬G j) (hk:Keep (λk=>Mut b a k\/G k) w o):aJ o B l g s:=
 v.keep hk (hn l (.inl rfl)) (λj h=>hn j (.inr h)) (λj c h hb e=>e.elim (λe=>by rcases u.i64 h e with e | e | e<;>omega) (y j c h))
theorem aJ.lt {w:N5} {B l:Nat} {g:Option Nat} {s:LSt} (h:aJ w B l g s):∀k,cI l g k->k<w.heap.size:=by
 rintro k (e | e)
 ·rw [e];exact h.blocks.1
 ·exact (h.blocks.2 k e).2
def wS (l:Nat) (g:Option Nat) (i:Nat) (h:Option Nat) (k:Nat):Prop:=cI l g k\/cI i h k
def WH (E:Nat->Prop) (l:Nat) (g:Option Nat) (i:Nat) (h:Option Nat) (k:Nat):Prop:=wS l g i h k\/E k
structure Wld (E:Nat->Prop) (B:Nat) (w:N5) (b l l':Nat) (i:Inp) (x:Nat) (a:MAd) (m:Mst) (s t:LSt) (g g':Option Nat):Prop where
 mach:aH (WH E l g l' g') w b i x a m
 hn:∀k,Mut b a k->¬WH E l g l' g' k
 lf:aJ w B l g s
 lt:aJ w B l' g' t
 dj:∀k,cI l g k->¬cI l' g' k
 lo:b<B/\a.bp<B/\a.bm<B/\a.bg<B
 hB:B<=w.heap.size
 ne:∀k,wS l g l' g' k->¬E k
 ex:∀k,E k->k<w.heap.size
theorem Wld.below {E:Nat->Prop} {B:Nat} {w p:N5} {b l u x:Nat} {i:Inp} {a:MAd} {m:Mst} {s t:LSt} {g o:Option Nat} (h:Wld E B w b l u i x a m s t g o) (hb:ap w p):Wld E B p b l u i x a m s t g o:=
 ⟨h.mach.below hb h.hn,h.hn,h.lf.below hb,h.lt.below hb,h.dj,h.lo,Ge h.hB hb.size,h.ne,λk e=>Gf (h.ex k e) hb.size⟩
theorem Wld.newL {E:Nat->Prop} {B:Nat} {w:N5} {b l o x:Nat} {i:Inp} {a:MAd} {m:Mst} {s t:LSt} {g p:Option Nat} (h:Wld E B w b l o i x a m s t g p):∀k,w.heap.size<=k->¬wS l g o p k:=by
 rintro k hk (e | e)
 ·have:=h.lf.lt k e;omega
 ·have:=h.lt.lt k e;omega
theorem Wld.new {E:Nat->Prop} {B:Nat} {w:N5} {b l o x:Nat} {i:Inp} {a:MAd} {m:Mst} {s t:LSt} {g p:Option Nat} (h:Wld E B w b l o i x a m s t g p):∀k,w.heap.size<=k->¬WH E l g o p k:=by
 rintro k hk (e | e)
 ·exact h.newL k hk e
 ·have:=h.ex k e;omega
def Ek (b:Nat) (a:MAd) (l:Nat) (g:Option Nat) (i:Nat) (h:Option Nat) (k:Nat):Prop:=Mut b a k\/wS l g i h k
def gD (E:Nat->Prop) (B:Nat) (w:N5) (b l h:Nat) (i:Inp) (x:Nat) (a:MAd) (g p:Option Nat) (m1:Mst) (s1 t1:LSt) (o:N5):Prop:=
 ∃a1 g1,Wld E B o b l h i x a1 m1 s1 t1 g g1/\Keep (Ek b a l g h p) w o/\∀k,Ek b a1 l g h g1 k->Ek b a l g h p k\/w.heap.size<=k
theorem gD.below {E:Nat->Prop} {B:Nat} {w p:N5} {b l u x:Nat} {i:Inp} {a:MAd} {m:Mst} {s t:LSt} {g o:Option Nat} (h:Wld E B w b l u i x a m s t g o) (hb:ap w p):gD E B w b l u i x a g o m s t p:=
 ⟨a,o,h.below hb,Keep.below hb,λ_ h=>.inl h⟩
theorem gD.own {E:Nat->Prop} {B:Nat} {w A:N5} {b l v x:Nat} {i:Inp} {a:MAd} {m m1:Mst} {s t:LSt} {g u:Option Nat} (h:Wld E B w b l v i x a m s t g u) {T:N5->Mst->Prop} (L:∀w m,T w m->m=m1) (I:tV (WH E l g v u) (λ_=>False) b i x a m T w A):gD E B w b l v i x a g u (adv i x m1) s t A:=by
 obtain ⟨H,U,C, -, -,p,D,Q,N⟩:=I;rw [L _ _ N] at C;obtain ⟨J,O,R⟩:=Q;have o:=h.lo;have y:∀k,Mut b H k->¬WH E l g v u k:=λk hk=>(D k hk).elim (h.hn k) (h.new k)
 exact ⟨H,u,⟨C,y,h.lf.mach h.mach o.2 (λk hk e=>e.elim (λe=>h.hn k e (.inl (.inl hk))) id) (λ_ _ _ h=>h) p,h.lt.mach h.mach o.2 (λk hk e=>e.elim (λe=>h.hn k e (.inl (.inr hk))) id) (λ_ _ _ h=>h) p,h.dj,by rw [J,O,R];exact o,Ge h.hB p.size,h.ne,λk e=>Gf (h.ex k e) p.size⟩,
  p.mono λk _ e=>e.elim .inl False.elim,λk hk=>hk.elim (λe=>(D k e).imp .inl id) (λe=>.inl (.inr e))⟩
theorem DP {E:Nat->Prop} {B:Nat} {w:N5} {b l O x:Nat} {i:Inp} {a:MAd} {m m1:Mst} {s t s1 t1:LSt} {g Q:Option Nat} {C:Nat} (h:Wld E B w b l O i x a m s t g Q) (H:bj i) (hm:MOk i x m) (a0:El i x s) (L:t.msgs.length<100000000000) (a1: -9223372036854775808<=i.cfg.rate/\i.cfg.rate<=9223372036854775807) (a3: -9223372036854775808<=i.cfg.mom/\i.cfg.mom<=9223372036854775807) (hr:gZ i x m s t m1 s1 t1 C):Calls prog 204 #[(ar b),(ar l),(ar O)] w λe I=>e=.returned (H8 (C:Nat))/\gD E B w b l O i x a g Q m1 s1 t1 I:=by
 have v:∀{y:Itm} {ac:Acn},(bq i x m.st)[m.nx]?=some y->y.a=some ac->ac.at'.1<ac.at'.2/\ac.at'.2<=i.start.length:=λo p=>vN H.ok (cF o).2 p
 cases hr with
 | fin hf=>
  refine (wR h.mach hf _ _).mono ?_;rintro e I ⟨he,k⟩;exact ⟨he,gD.below h k⟩
 | own y o p=>
  refine (sU h.mach h.hn h.new H o (hm.okAt H o p) a1 a3 _ _).mono ?_;rintro e I ⟨he,hd⟩;exact ⟨he,gD.own h (λ_ _ e=>e) hd⟩
 | send y ac o p hk hroom=>
  refine (BJ h.mach h.hn h.new H o hk p (v o p).1 (v o p).2 _ h.lt hroom L h.hB (λk e=>.inl (.inr e)) h.lo.1).mono ?_;rintro e I ⟨he,H1,U,m2,h1,N, -, -, -,D,Y,⟨f1,f2,f3⟩,rfl,V,hH,hL,hg⟩;have u:=h.lo
  have J:∀k,WH E l g O V k->H1 k:=λk e=>(hH k).2 (by
   rcases e with (e | e | e) | e
   ·exact .inl (.inl (.inl e))
   ·exact .inl (.inl (.inr (.inl e)))
   ·exact .inr e
   ·exact .inl (.inr e))
  have A:∀k,V=some k->cI O Q k\/w.heap.size<=k:=λk e=>by
   rcases hg with rfl | ⟨j,e1,e2⟩
   ·exact .inl (.inr e)
   ·rw [e1] at e;cases e;exact .inr e2
  have R:∀k,Mut b U k->¬WH E l g O V k:=λk hk e=>N k hk (J k e)
  refine ⟨he,U,V,⟨h1.step (Keep.refl _ _) (λk _ e=>J k e) R,R,h.lf.mach h.mach u.2 (λk hk e=>e.elim (λe=>h.hn k e (.inl (.inl hk))) (h.dj k hk)) (λj c hj=>h.lt.noI64 hj) D,hL,λk hk e=>?_,by rw [f1,f2,f3];exact u,Ge h.hB D.size,λk hk Z=>?_,λk e=>Gf (h.ex k e) D.size⟩,
   D.mono λk _ e=>e.imp id .inr,λk hk=>?_⟩
  ·rcases e with e | e
   ·exact h.dj k hk (.inl e)
   ·rcases A k e with e | e
    ·exact h.dj k hk e
    ·have:=h.lf.lt k hk;omega
  ·rcases hk with e | e | e
   ·exact h.ne k (.inl e) Z
   ·exact h.ne k (.inr (.inl e)) Z
   ·rcases A k e with e | e
    ·exact h.ne k (.inr e) Z
    ·have:=h.ex k Z;omega
  ·rcases hk with e | e | e | e
   ·exact (Y k e).imp .inl id
   ·exact .inl (.inr (.inl e))
   ·exact .inl (.inr (.inr (.inl e)))
   ·exact (A k e).imp (λe=>.inr (.inr e)) id
 | full y ac o p hk hf=>
  refine (BM h.mach h.hn h.new H o hk p (v o p).1 (v o p).2 _ h.lt hf).mono ?_;rintro e I ⟨he,k⟩;exact ⟨he,gD.below h k⟩
 | recv y ac o p hk hlt heq=>
  have T:=a0.len H (cF o).1 (cF o).2 p (lT (cF o).2 p hk) hlt heq;have u:=h.lo;refine (BK h.mach h.hn h.new H o hk p (v o p).1 (v o p).2 _ h.lf (λk e=>.inl (.inl e)) u.1 u.2.2.2 hlt heq T.1 T.2).mono ?_;rintro e I ⟨he,U,m2,h1, -, -,D,Y,⟨f1,f2,f3⟩,rfl,hL⟩;have N:∀k,Mut b U k->¬WH E l g O Q k:=λk hk=>(Y k hk).elim (h.hn k) (h.new k)
  exact ⟨he,U,Q,⟨h1,N,hL,h.lt.mach h.mach u.2 (λk hk e=>e.elim (λe=>h.hn k e (.inl (.inr hk))) (λe=>h.dj k (.inl e) hk)) (λj c hj e=>h.lf.noI64 hj (.inl e)) D,h.dj,by rw [f1,f2,f3];exact u,Ge h.hB D.size,h.ne,λk e=>Gf (h.ex k e) D.size⟩,
   D.mono λk _ e=>e.imp id (λe=>.inl (.inl e)),λk hk=>hk.elim (λe=>(Y k e).imp .inl id) (λe=>.inl (.inr e))⟩
 | none y ac o p hk h0=>
  refine (oc h.mach h.hn h.new H o hk p _ h.lf (.inl h0)).mono ?_;rintro e I ⟨he,k⟩;rw [if_pos h0] at he;exact ⟨he,gD.below h k⟩
 | other y ac o p hk hlt hne=>
  refine (oc h.mach h.hn h.new H o hk p _ h.lf (.inr ⟨hlt,hne⟩)).mono ?_;rintro e I ⟨he,k⟩;rw [if_neg ao] at he;exact ⟨he,gD.below h k⟩
structure WAd where
 X:Nat
 b:Nat->Nat
 l:Nat->Nat
 a:Nat->MAd
 g:Nat->Option Nat
def WAd.mu (D:WAd) (x k:Nat):Prop:=Mut (D.b x) (D.a x) k
def WAd.li (D:WAd) (x k:Nat):Prop:=cI (D.l x) (D.g x) k
def WAd.all (D:WAd) (n k:Nat):Prop:=k=D.X\/∃x,x<n/\(D.mu x k\/D.li x k)
def WAd.oth (D:WAd) (n:Nat) (E:Nat->Prop) (x k:Nat):Prop:=(D.all n k\/E k)/\¬D.mu x k
structure eU (E:Nat->Prop) (i:Inp) (w:N5) (D:WAd) (B:Nat) (M:WSt):Prop where
 mach:∀x,x<(au i).W->aH (D.oth (au i).W E x) w (D.b x) i x (D.a x) (M.m x)
 lnk:∀x,x<(au i).W->aJ w B (D.l x) (D.g x) (M.s x)
 mm:∀x y k,x<(au i).W->y<(au i).W->D.mu x k->D.mu y k->x=y
 ml:∀x y k,x<(au i).W->y<(au i).W->D.mu x k->¬D.li y k
 ll:∀x y k,x<(au i).W->y<(au i).W->D.li x k->D.li y k->x=y
 xm:∀x,x<(au i).W->¬D.mu x D.X/\¬D.li x D.X
 lo:∀x,x<(au i).W->D.b x<B/\(D.a x).bp<B/\(D.a x).bm<B/\(D.a x).bg<B
 hB:B<=w.heap.size
 xl:D.X<w.heap.size
 ne:∀k,E k->¬D.all (au i).W k
 ex:∀k,E k->k<w.heap.size
section
variable {E E':Nat->Prop} {i:Inp} {w w':N5} {D:WAd} {B:Nat} {M:WSt} {x:Nat}
theorem eU.lt (h:eU E i w D B M):∀k,D.all (au i).W k->k<w.heap.size:=by
 rintro k (rfl | ⟨x,o,e | e⟩)
 ·exact h.xl
 ·exact (h.mach x o).mlt k e
 ·exact (h.lnk x o).lt k e
theorem eU.more (h:eU E i w D B M) (hb:ap w w') (he:∀k,E' k->k<w'.heap.size/\(E k\/w.heap.size<=k)):eU E' i w' D B M:=
 ⟨λx o=>(h.mach x o).step (Keep.below hb) (λk hk e=>⟨e.1.imp id λe=>(he k e).2.elim id λe=>absurd hk ao,e.2⟩) (λk hm e=>e.2 hm),λx o=>(h.lnk x o).below hb,h.mm,h.ml,h.ll,h.xm,h.lo,Ge h.hB hb.size,Gf h.xl hb.size,
  λk e=>(he k e).2.elim (h.ne k) λe p=>by have:=h.lt k p;omega,λk e=>(he k e).1⟩
theorem eU.below (h:eU E i w D B M) (hb:ap w w'):eU E i w' D B M:=h.more hb λk e=>⟨Gf (h.ex k e) hb.size,.inl e⟩
theorem eU.keepQ (h:eU E i w D B M) {Q:Nat->Prop} (hk:Keep Q w w') (p:∀k,Q k->k=D.X\/E k) (he:∀(j:Nat) (c:N2),w.heap[j]?=some (.cells c 2 (0,0))->B<=j->¬Q j):eU E i w' D B M:=
 ⟨λx o=>(h.mach x o).step (hk.mono λk _ e=>⟨(p k e).imp .inl id,λhm=>(p k e).elim (λe=>(h.xm x o).1 (e▸hm)) λe=>h.ne k e (.inr ⟨x,o,.inl hm⟩)⟩) (λk _ e=>e) (λk hm e=>e.2 hm),
  λx o=>(h.lnk x o).keep hk (λe=>(p _ e).elim (λe=>(h.xm x o).2 (e▸.inl rfl)) λe=>h.ne _ e (.inr ⟨x,o,.inr (.inl rfl)⟩)) (λj u e=>(p _ e).elim (λe=>(h.xm x o).2 (e▸.inr u)) λe=>h.ne _ e (.inr ⟨x,o,.inr (.inr u)⟩)) he,
  h.mm,h.ml,h.ll,h.xm,h.lo,Ge h.hB hk.size,Gf h.xl hk.size,h.ne,λk e=>Gf (h.ex k e) hk.size⟩
def WAd.rest (D:WAd) (n:Nat) (E:Nat->Prop) (x k:Nat):Prop:=(D.all n k\/E k)/\¬D.mu x k/\¬D.li (pvW n x) k/\¬D.li x k
theorem eU.wld (h:eU E i w D B M) (o:x<(au i).W) (y:2<=(au i).W):Wld (D.rest (au i).W E x) B w (D.b x) (D.l (pvW (au i).W x)) (D.l x) i x (D.a x) (M.m x) (M.s (pvW (au i).W x)) (M.s x) (D.g (pvW (au i).W x)) (D.g x):=by
 have p:pvW (au i).W x<(au i).W:=iO ao;have v:=AU o y;refine ⟨(h.mach x o).step (Keep.refl _ _) ?_ ?_,?_,h.lnk _ p,h.lnk x o,λk e u=>v (h.ll _ _ k p o e u),h.lo x o,h.hB,?_,?_⟩
 ·rintro k _ ((e | e) | e)
  ·exact ⟨.inl (.inr ⟨_,p,.inr e⟩),λhm=>h.ml _ _ k o p hm e⟩
  ·exact ⟨.inl (.inr ⟨_,o,.inr e⟩),λhm=>h.ml _ _ k o o hm e⟩
  ·exact ⟨e.1,e.2.1⟩
 ·rintro k hm ((e | e) | e)
  ·exact h.ml _ _ k o p hm e
  ·exact h.ml _ _ k o o hm e
  ·exact e.2.1 hm
 ·rintro k hm ((e | e) | e)
  ·exact h.ml _ _ k o p hm e
  ·exact h.ml _ _ k o o hm e
  ·exact e.2.1 hm
 ·rintro k (e | e) u
  ·exact u.2.2.1 e
  ·exact u.2.2.2 e
 ·rintro k ⟨e | e,_⟩
  ·exact h.lt k e
  ·exact h.ex k e
def WAd.upd (D:WAd) (x:Nat) (a1:MAd) (g1:Option Nat):WAd:=⟨D.X,D.b,D.l,aL D.a x a1,aL D.g x g1⟩
def vP (E:Nat->Prop) (i:Inp) (w:N5) (D:WAd) (B:Nat) (x:Nat) (h:WSt) (w':N5):Prop:=
 ∃a1 g1,eU E i w' (D.upd x a1 g1) B h/\Keep (λk=>D.all (au i).W k/\k≠D.X) w w'/\∀k,(D.upd x a1 g1).all (au i).W k->D.all (au i).W k\/w.heap.size<=k
theorem eU.did (h:eU E i w D B M) (V:x<(au i).W) {p:Nat} (hp:p<(au i).W) {C:Nat->Prop} (hC:∀k,C k->D.mu x k\/D.li p k\/D.li x k) {a1:MAd} {g1:Option Nat} {m1:Mst} {s1 t1:LSt} {H:Nat->Prop} (hm:aH H w' (D.b x) i x a1 m1) (hH:∀k,(D.upd x a1 g1).oth (au i).W E x k->H k) (hk:Keep C w w') (a4:p≠x->aJ w' B (D.l p) (D.g p) s1) (a7:aJ w' B (D.l x) g1 t1) (ax:p=x->t1=s1) (U:∀k,Mut (D.b x) a1 k->C k\/w.heap.size<=k) (Y:∀k,cI (D.l x) g1 k->C k\/w.heap.size<=k) (a2:∀k,Mut (D.b x) a1 k->¬cI (D.l x) g1 k/\¬D.li p k/\¬E k) (ad:p≠x->∀k,cI (D.l x) g1 k->¬D.li p k) (a6:∀k,cI (D.l x) g1 k->¬E k) (a8:a1.bp<B/\a1.bm<B/\a1.bg<B):vP E i w D B x ⟨aL M.m x m1,aL (aL M.s p s1) x t1⟩ w':=by
 have T:∀k,C k->D.all (au i).W k/\k≠D.X:=λk e=>by
  rcases hC k e with e | e | e
  ·exact ⟨.inr ⟨x,V,.inl e⟩,λh2=>(h.xm x V).1 (h2▸e)⟩
  ·exact ⟨.inr ⟨p,hp,.inr e⟩,λh2=>(h.xm p hp).2 (h2▸e)⟩
  ·exact ⟨.inr ⟨x,V,.inr e⟩,λh2=>(h.xm x V).2 (h2▸e)⟩
 have L:∀k,(D.upd x a1 g1).mu x k->Mut (D.b x) a1 k:=λk e=>by
  have:(aL D.a x a1 x)=a1:=aV _ _ _;unfold WAd.mu WAd.upd at e;simp only [this] at e;exact e
 have J:∀y k,y≠x->(D.upd x a1 g1).mu y k->D.mu y k:=λy k A e=>by
  have:(aL D.a x a1 y)=D.a y:=aR _ _ A;unfold WAd.mu WAd.upd at e;simp only [this] at e;exact e
 have R:∀k,(D.upd x a1 g1).li x k->cI (D.l x) g1 k:=λk e=>by
  have:(aL D.g x g1 x)=g1:=aV _ _ _;unfold WAd.li WAd.upd at e;simp only [this] at e;exact e
 have I:∀y k,y≠x->(D.upd x a1 g1).li y k->D.li y k:=λy k A e=>by
  have:(aL D.g x g1 y)=D.g y:=aR _ _ A;unfold WAd.li WAd.upd at e;simp only [this] at e;exact e
 have old:∀k,(D.upd x a1 g1).all (au i).W k->D.all (au i).W k\/w.heap.size<=k:=by
  rintro k (e | ⟨y,A,e⟩)
  ·exact .inl (.inl e)
  ·by_cases o:y=x
   ·subst o;rcases e with e | e
    ·exact (U k (L k e)).imp (λe=>(T k e).1) id
    ·exact (Y k (R k e)).imp (λe=>(T k e).1) id
   ·exact .inl (.inr ⟨y,A,e.imp (J y k o) (I y k o)⟩)
 -- what is changed or new is none of another worker's
 have N:∀y k,y<(au i).W->y≠x->(C k\/w.heap.size<=k)->¬D.mu y k/\(y≠p->¬D.li y k):=λy k A o e=>by
  rcases e with e | e
  ·rcases hC k e with e | e | e
   ·exact ⟨λu=>o (h.mm y x k A V u e),λ_ u=>h.ml x y k V A e u⟩
   ·exact ⟨λu=>h.ml y p k A hp u e,λhn u=>hn (h.ll y p k A hp u e)⟩
   ·exact ⟨λu=>h.ml y x k A V u e,λ_ u=>o (h.ll y x k A V u e)⟩
  ·exact ⟨λu=>by have:=h.lt k (.inr ⟨y,A,.inl u⟩);omega,λ_ u=>by have:=h.lt k (.inr ⟨y,A,.inr u⟩);omega⟩
 have a0:∀y k,y<(au i).W->y≠x->cI (D.l x) g1 k->¬D.mu y k/\¬D.li y k:=λy k A o e=>by
  refine ⟨(N y k A o (Y k e)).1,?_⟩;by_cases Q:y=p
  ·subst Q;exact ad o k e
  ·exact (N y k A o (Y k e)).2 Q
 have a5:∀(j:Nat) (c:N2),w.heap[j]?=some (.cells c 2 (0,0))->B<=j->¬C j:=λj c hj hb e=>by
  have ak:=h.lo x V;rcases hC j e with e | e | e
  ·rcases (h.mach x V).i64 hj e with e | e | e<;>omega
  ·exact (h.lnk p hp).noI64 hj e
  ·exact (h.lnk x V).noI64 hj e
 refine ⟨a1,g1,⟨λy A=>?_,λy A=>?_,λy z k A Z O u=>?_,λy z k A Z O u=>?_,λy z k A Z O u=>?_,λy A=>?_,λy A=>?_,Ge h.hB hk.size,Gf h.xl hk.size,λk e u=>?_,λk e=>Gf (h.ex k e) hk.size⟩,hk.mono λk _ e=>T k e,old⟩
 ·by_cases o:y=x
  ·subst o
   show aH _ w' (D.b y) i y (aL D.a y a1 y) (aL M.m y m1 y)
   rw [aV,aV];exact hm.step (Keep.refl _ _) (λk _ e=>hH k e) (λk O u=>u.2 (by unfold WAd.mu WAd.upd;simp only [aV];exact O))
  ·show aH _ w' (D.b y) i y (aL D.a x a1 y) (aL M.m x m1 y)
   rw [aR _ _ o,aR _ _ o];refine (h.mach y A).step (hk.mono λk _ e=>⟨.inl (T k e).1,(N y k A o (.inl e)).1⟩) (λk hl e=>⟨e.1.imp (λe=>(old k e).elim id λe=>absurd hl ao) id,λu=>e.2 ?_⟩) (λk O u=>u.2 ?_)
   ·unfold WAd.mu WAd.upd;simp only [aR _ _ o];exact u
   ·unfold WAd.mu WAd.upd;simp only [aR _ _ o];exact O
 ·by_cases o:y=x
  ·subst o
   show aJ w' B (D.l y) (aL D.g y g1 y) (aL (aL M.s p s1) y t1 y)
   rw [aV,aV];exact a7
  ·show aJ w' B (D.l y) (aL D.g x g1 y) (aL (aL M.s p s1) x t1 y)
   rw [aR _ _ o,aR _ _ o];by_cases Q:y=p
   ·subst Q;rw [aV];exact a4 o
   ·rw [aR _ _ Q];exact (h.lnk y A).keep hk (λe=>(N y _ A o (.inl e)).2 Q (.inl rfl)) (λj hj e=>(N y _ A o (.inl e)).2 Q (.inr hj)) a5
 ·by_cases o:y=x
  ·by_cases v:z=x
   ·rw [o,v]
   ·subst o;exact absurd (J z k v u) (N z k Z v (U k (L k O))).1
  ·by_cases v:z=x
   ·subst v;exact absurd (J y k o O) (N y k A o (U k (L k u))).1
   ·exact h.mm y z k A Z (J y k o O) (J z k v u)
 ·by_cases o:y=x
  ·subst o;by_cases v:z=y
   ·subst v;exact (a2 k (L k O)).1 (R k u)
   ·by_cases a3:z=p
    ·subst a3;exact (a2 k (L k O)).2.1 (I z k v u)
    ·exact (N z k Z v (U k (L k O))).2 a3 (I z k v u)
  ·by_cases v:z=x
   ·subst v;exact (a0 y k A o (R k u)).1 (J y k o O)
   ·exact h.ml y z k A Z (J y k o O) (I z k v u)
 ·by_cases o:y=x
  ·by_cases v:z=x
   ·rw [o,v]
   ·subst o;exact absurd (I z k v u) (a0 z k Z v (R k O)).2
  ·by_cases v:z=x
   ·subst v;exact absurd (I y k o O) (a0 y k A o (R k u)).2
   ·exact h.ll y z k A Z (I y k o O) (I z k v u)
 ·by_cases o:y=x
  ·subst o;refine ⟨λe=>?_,λe=>?_⟩
   ·rcases U _ (L _ e) with e | e
    ·exact (T _ e).2 rfl
    ·have:=h.xl;exact absurd this (Nat.not_lt.2 e)
   ·rcases Y _ (R _ e) with e | e
    ·exact (T _ e).2 rfl
    ·have:=h.xl;exact absurd this (Nat.not_lt.2 e)
  ·exact ⟨λe=>(h.xm y A).1 (J y _ o e),λe=>(h.xm y A).2 (I y _ o e)⟩
 ·by_cases o:y=x
  ·subst o
   show D.b y<B/\(aL D.a y a1 y).bp<B/\(aL D.a y a1 y).bm<B/\(aL D.a y a1 y).bg<B
   rw [aV];exact ⟨(h.lo y A).1,a8⟩
  ·show D.b y<B/\(aL D.a x a1 y).bp<B/\(aL D.a x a1 y).bm<B/\(aL D.a x a1 y).bg<B
   rw [aR _ _ o];exact h.lo y A
 ·rcases u with u | ⟨y,A,u⟩
  ·exact h.ne k e (.inl u)
  ·by_cases o:y=x
   ·subst o;rcases u with u | u
    ·exact (a2 k (L k u)).2.2 e
    ·exact a6 k (R k u) e
   ·exact h.ne k e (.inr ⟨y,A,u.imp (J y k o) (I y k o)⟩)
end
structure fh (i:Inp) (w:N5) (lo:Nat) (b l:Nat->Nat) (a:Nat->MAd) (s t:Nat->Nat) (k:Nat):Prop where
 mach:∀y,y<k->aH (λj=>j<s y\/t y<=j) w (b y) i y (a y) (eK i)
 win:∀y,y<k->∀j,Mut (b y) (a y) j->s y<=j/\j<t y
 chain:∀y,y<k->lo<=s y/\s y<=t y/\t y<=l y/\l y<w.heap.size
 next:∀y z,y<z->z<k->l y<s z
 lnk:∀y,y<k->∀B,aJ w B (l y) none (LSt.new i.cfg.cap.toNat)
section
variable {i:Inp} {w w':N5} {lo k:Nat} {b l:Nat->Nat} {a:Nat->MAd} {s t:Nat->Nat}
theorem fh.zero:fh i w lo b l a s t 0:=⟨λ_ h=>absurd h (Nat.not_lt_zero _),λ_ h=>absurd h (Nat.not_lt_zero _),λ_ h=>absurd h (Nat.not_lt_zero _),λ_ _ _ h=>absurd h (Nat.not_lt_zero _),λ_ h=>absurd h (Nat.not_lt_zero _)⟩
theorem gQ {l j:Nat} (e:cI l none j):j=l:=e.elim id λe=>by cases e
theorem fh.keep (h:fh i w lo b l a s t k) {Q:Nat->Prop} (hk:Keep Q w w') (u:∀j,j<w.heap.size->Q j->(∀y,y<k->(j<s y\/t y<=j)/\j≠l y)/\∀c,w.heap[j]?≠some (.cells c 2 (0,0))):fh i w' lo b l a s t k:=by
 refine ⟨λy o=>(h.mach y o).step (hk.mono λj p e=>((u j p e).1 y o).1) (λj _ e=>e) (λj hm e=>?_),h.win,λy o=>?_,h.next,λy o B=>(h.lnk y o B).keep (hk.mono λj p e=>((⟨p,e⟩:j<w.heap.size/\Q j))) (λe=>((u _ e.1 e.2).1 y o).2 rfl) (λj e=>by cases e) λj c p _ e=>(u j e.1 e.2).2 c p⟩
 ·have:=h.win y o j hm;omega
 ·have:=h.chain y o;have:=hk.size;omega
theorem fh.below (h:fh i w lo b l a s t k) (hb:ap w w'):fh i w' lo b l a s t k:=h.keep (Q:=λ_=>False) (Keep.below hb) λ_ _ e=>e.elim
theorem fh.more (h:fh i w lo b l a s t k) {A:Nat} {a1:MAd} {l1:Nat} {u:N5} (L:lo<=w.heap.size) (x:∀j,Mut A a1 j->w.heap.size<=j) (hm:∀(H:Nat->Prop) w'',Keep (λk=>k<w.heap.size) u w''->(∀k,H k->k<w.heap.size)->aH H w'' A i k a1 (eK i)) (h1:fh i u lo b l a s t k) (C:fh i w' lo b l a s t k) (V:w.heap.size<=u.heap.size) (hk:Keep (λj=>j<w.heap.size\/u.heap.size<=j) u w') (hl:u.heap.size<=l1) (J:l1<w'.heap.size) (R:∀B,aJ w' B l1 none (LSt.new i.cfg.cap.toNat)):
  fh i w' lo (aL b k A) (aL l k l1) (aL a k a1) (aL s k w.heap.size) (aL t k u.heap.size) (k+1):=by
 have D:=hm (λj=>j<w.heap.size) u (Keep.refl _ _) (λ_ e=>e);have v:=λj (e:Mut A a1 j)=>D.mlt j e
 have Q:aH (λj=>j<w.heap.size\/u.heap.size<=j) w' A i k a1 (eK i):=
  (D.step (H':=λj=>j<w.heap.size\/u.heap.size<=j) (Keep.refl _ _) (λj Z e=>e.elim id λe=>absurd Z ao) (λj e T=>by have:=x j e;have:=v j e;omega)).step hk (λ_ _ e=>e) (λj e T=>by have:=x j e;have:=v j e;omega)
 have o:∀y,y<k+1->y=k\/(y≠k/\y<k):=λy I=>ao;refine ⟨λy I=>?_,λy I=>?_,λy I=>?_,λy z N U=>?_,λy I=>?_⟩<;>rcases o y ao with rfl | ⟨e,p⟩
 ·simp only [aV];exact Q
 ·simp only [aR _ _ e];exact C.mach y p
 ·simp only [aV];exact λj e=>⟨x j e,v j e⟩
 ·simp only [aR _ _ e];exact C.win y p
 ·simp only [aV];exact ⟨L,V,hl,J⟩
 ·simp only [aR _ _ e];exact C.chain y p
 ·omega
 ·rcases o z U with rfl | ⟨Y,O⟩
  ·simp only [aV,aR _ _ e];exact (h.chain y p).2.2.2
  ·simp only [aR _ _ e,aR _ _ Y];exact C.next y z N O
 ·simp only [aV];exact R
 ·simp only [aR _ _ e];exact C.lnk y p
theorem fh.mem (h:fh i w lo b l a s t (au i).W) {X:Nat} (hX:X<lo) (Q:X<w.heap.size) {E:Nat->Prop} (L:∀j,E j->j<lo/\j≠X) (Y:lo<=w.heap.size):
  eU E i w ⟨X,b,l,a,λ_=>none⟩ w.heap.size ⟨λ_=>eK i,λ_=>LSt.new i.cfg.cap.toNat⟩:=by
 have p:∀y z,y<z->z<(au i).W->t y<=s z/\l y<s z:=λy z O o=>by
  have h1:=h.next y z O o;have h2:=h.chain y ao;omega
 have J:∀y z j,y<(au i).W->z<(au i).W->Mut (b y) (a y) j->Mut (b z) (a z) j->y=z:=λy z j A o D u=>by
  have I:=h.win y A j D;have w2:=h.win z o j u;rcases Nat.lt_trichotomy y z with e | e | e
  ·have:=p y z e o;omega
  ·exact e
  ·have:=p z y e A;omega
 have B:∀y z,y<(au i).W->z<(au i).W->l z<s y\/t y<=l z:=λy z A o=>by
  rcases Nat.lt_trichotomy y z with e | e | e
  ·have:=p y z e o;have:=h.chain z o;omega
  ·subst e;have:=h.chain y A;omega
  ·have:=p z y e A;omega
 refine ⟨λx v=>(h.mach x v).step (Keep.refl _ _) ?_ (λj e u=>u.2 e),λx v=>h.lnk x v _,J,λy z j A o D u=>?_,λy z j A o D u=>?_,λx v=>⟨λe=>?_,λe=>?_⟩,λx v=>?_,F3 _,Q,λj e u=>?_,λj e=>by have:=L j e;omega⟩
 ·rintro j R ⟨(e | ⟨z,o,e | e⟩) | e,u⟩
  ·have U:j=X:=e;have:=h.chain x v;omega
  ·have N:z≠x:=λH=>by subst H;exact u e
   have I:=h.win z o j e;rcases Nat.lt_or_gt_of_ne N with H | H
   ·have:=p z x H v;omega
   ·have:=p x z H o;omega
  ·have C:j=l z:=gQ e;rw [C];exact B x z v o
  ·have:=h.chain x v;have:=L j e;omega
 ·have C:j=l z:=gQ u;have I:=h.win y A j D;have:=B y z A o;omega
 ·have Z:j=l y:=gQ D;have T:j=l z:=gQ u;rcases Nat.lt_trichotomy y z with e | e | e
  ·have:=p y z e o;have:=h.chain z o;omega
  ·exact e
  ·have:=p z y e A;have:=h.chain y A;omega
 ·have I:s x<=X/\X<t x:=h.win x v _ e;have:=h.chain x v;omega
 ·have V:X=l x:=gQ e;have:=h.chain x v;omega
 ·have hl:=λj (e:Mut (b x) (a x) j)=>(h.mach x v).mlt j e;exact ⟨hl _ (.inl rfl),hl _ (.inr (.inl rfl)),hl _ (.inr (.inr (.inl rfl))),hl _ (.inr (.inr (.inr (.inl rfl))))⟩
 ·have R:=L j e;rcases u with u | ⟨z,o,u | u⟩
  ·exact R.2 u
  ·have:=h.win z o j u;have:=h.chain z o;omega
  ·have V:j=l z:=gQ u;have:=h.chain z o;omega
end
section
variable {E:Nat->Prop} {i:Inp} {w w':N5} {D:WAd} {B:Nat} {M M1:WSt} {x C:Nat}
theorem eU.oth_lt (h:eU E i w D B M):∀k,w.heap.size<=k->¬D.oth (au i).W E x k:=by
 rintro k hk ⟨e | e,_⟩
 ·have:=h.lt k e;omega
 ·have:=h.ex k e;omega
theorem eU.restE (h:eU E i w D B M) {k:Nat} (p:x<(au i).W) (u:pvW (au i).W x<(au i).W) (e:E k):D.rest (au i).W E x k:=
 ⟨.inr e,λo=>h.ne k e (.inr ⟨x,p,.inl o⟩),λo=>h.ne k e (.inr ⟨_,u,.inr o⟩),λo=>h.ne k e (.inr ⟨x,p,.inr o⟩)⟩
theorem eU.try (h:eU E i w D B M) (o:x<(au i).W) (N:2<=(au i).W) {m1:Mst} {s1 t1:LSt} (Q:gD (D.rest (au i).W E x) B w (D.b x) (D.l (pvW (au i).W x)) (D.l x) i x (D.a x) (D.g (pvW (au i).W x)) (D.g x) m1 s1 t1 w'):
  vP E i w D B x ⟨aL M.m x m1,aL (aL M.s (pvW (au i).W x) s1) x t1⟩ w':=by
 have J:pvW (au i).W x<(au i).W:=iO ao;have L:=AU o N;obtain ⟨a1,g1,hw,hk,hn⟩:=Q;have V:=h.wld o N
 refine h.did o J (C:=Ek (D.b x) (D.a x) (D.l (pvW (au i).W x)) (D.g (pvW (au i).W x)) (D.l x) (D.g x)) (λk e=>e.imp id id) hw.mach ?_ hk (λ_=>hw.lf) hw.lt (λe=>absurd e L) (λk e=>hn k (.inl e)) (λk e=>hn k (.inr (.inr e))) (λk e=>⟨λA=>hw.hn k e (.inl (.inr A)),λA=>hw.hn k e (.inl (.inl A)),λA=>hw.hn k e (.inr ?_)⟩)
  (λ_ k e A=>hw.dj k A e) (λk e A=>?_) hw.lo.2
 ·rintro k ⟨e,T⟩;by_cases O:cI (D.l x) g1 k
  ·exact .inl (.inr O)
  by_cases I:D.li (pvW (au i).W x) k
  ·exact .inl (.inl I)
  refine .inr ?_;rcases e with (e | ⟨y,H,e⟩) | e
  ·have U:k=D.X:=e;subst U;exact ⟨.inl (.inl rfl),(h.xm x o).1,I,(h.xm x o).2⟩
  ·by_cases v:y=x
   ·subst v;rcases e with e | e
    ·exact absurd e T
    ·refine absurd ?_ O;have R:aL D.g y g1 y=g1:=aV _ _ _;unfold WAd.li WAd.upd at e;simp only [R] at e;exact e
   ·have p:D.mu y k\/D.li y k:=by
     unfold WAd.mu WAd.li WAd.upd at e;simp only [aR _ _ v] at e;exact e
    refine ⟨.inl (.inr ⟨y,H,p⟩),λu=>?_,I,λu=>?_⟩
    ·rcases p with p | p
     ·exact v (h.mm y x k H o p u)
     ·exact h.ml x y k o H u p
    ·rcases p with p | p
     ·exact h.ml y x k H o p u
     ·exact v (h.ll y x k H o p u)
  ·exact ⟨.inr e,λu=>h.ne k e (.inr ⟨x,o,.inl u⟩),I,λu=>h.ne k e (.inr ⟨x,o,.inr u⟩)⟩
 ·exact h.restE o J A
 ·exact absurd (h.restE o J A) (hw.ne k (.inr e))
theorem eU.lone (h:eU E i w D B M) (o:x<(au i).W) {a1:MAd} {m1:Mst} (hm:aH (D.oth (au i).W E x) w' (D.b x) i x a1 m1) (hk:Keep (λk=>D.mu x k) w w') (J:∀k,Mut (D.b x) a1 k->D.mu x k\/w.heap.size<=k) (U:Fxd (D.a x) a1):
  vP E i w D B x ⟨aL M.m x m1,aL (aL M.s x (M.s x)) x (M.s x)⟩ w':=by
 have L:=h.lo x o
 have out:∀k,Mut (D.b x) a1 k->¬D.li x k/\¬E k:=λk e=>by
  rcases J k e with e | e
  ·exact ⟨h.ml x x k o o e,λu=>h.ne k u (.inr ⟨x,o,.inl e⟩)⟩
  ·exact ⟨λu=>by have:=h.lt k (.inr ⟨x,o,.inr u⟩);omega,λu=>by have:=h.ex k u;omega⟩
 have T:aJ w' B (D.l x) (D.g x) (M.s x):=(h.lnk x o).keep hk (λe=>h.ml x x _ o o e (.inl rfl)) (λj N e=>h.ml x x _ o o e (.inr N)) λj c N hb e=>by
  rcases (h.mach x o).i64 N e with e | e | e<;>omega
 refine h.did o o (C:=λk=>D.mu x k\/D.li x k) (H:=D.oth (au i).W E x) (a1:=a1) (g1:=D.g x) (m1:=m1) (s1:=M.s x) (t1:=M.s x) (λk e=>e.imp id .inr) hm ?_ (hk.mono λk _ e=>.inl e) (λe=>absurd rfl e) T (λ_=>rfl) (λk e=>(J k e).imp .inl id) (λk e=>.inl (.inr e)) (λk e=>⟨(out k e).1,(out k e).1,(out k e).2⟩) (λe=>absurd rfl e)
  (λk e u=>h.ne k u (.inr ⟨x,o,.inr e⟩)) (by obtain ⟨R,V,Z⟩:=U;rw [R,V,Z];exact L.2)
 rintro k ⟨e,Y⟩;rcases e with (e | ⟨y,I,e⟩) | e
 ·have Q:k=D.X:=e;subst Q;exact ⟨.inl (.inl rfl),(h.xm x o).1⟩
 ·by_cases p:y=x
  ·subst p;rcases e with e | e
   ·exact absurd e Y
   ·have O:aL D.g y (D.g y) y=D.g y:=aV _ _ _;unfold WAd.li WAd.upd at e;simp only [O] at e;exact ⟨.inl (.inr ⟨y,I,.inr e⟩),λv=>h.ml y y k I I v e⟩
  ·have A:D.mu y k\/D.li y k:=by
    unfold WAd.mu WAd.li WAd.upd at e;simp only [aR _ _ p] at e;exact e
   refine ⟨.inl (.inr ⟨y,I,A⟩),λv=>?_⟩;rcases A with A | A
   ·exact p (h.mm y x k I o A v)
   ·exact h.ml x y k o I v A
 ·exact ⟨.inr e,λv=>h.ne k e (.inr ⟨x,o,.inl v⟩)⟩
theorem EQ (o:x<(au i).W) (h:(au i).W<2):pvW (au i).W x=x:=by
 unfold pvW;rw [show (au i).W=1 by omega,Nat.mod_one];omega
theorem nU (u:(au i).W<2) {m:Mst} {y:Itm} {p:Acn} (o:(bq i x m.st)[m.nx]?=some y) (h:y.a=some p):False:=by
 have:=rI (gC (cF o).2 h);omega
theorem eU.pick (h:eU E i w D B M) (H:bj i) (o:x<(au i).W) (hw:WOk i M) (u:(M.s x).msgs.length<100000000000) (A: -9223372036854775808<=i.cfg.rate/\i.cfg.rate<=9223372036854775807) (v: -9223372036854775808<=i.cfg.mom/\i.cfg.mom<=9223372036854775807) (L:Pk i M x M1 C):Calls prog 204 #[.pointer (some ⟨D.b x,0,none⟩),.pointer (some ⟨D.l (pvW (au i).W x),0,none⟩),.pointer (some ⟨D.l x,0,none⟩)] w λe w'=>e=.returned (H8 (C:Nat))/\vP E i w D B x M1 w':=by
 obtain ⟨m1,s1,t1,hr,rfl⟩:=L;rcases Gn (au i).W 2 with p | I
 ·rw [EQ o p] at hr ⊢
  cases hr with
  | fin hf=>
   refine (wR (h.mach x o) hf _ _).mono ?_;rintro e w' ⟨he,k⟩;exact ⟨he,h.lone o ((h.below k).mach x o) (Keep.below k) (λk e=>.inl e) ⟨rfl,rfl,rfl⟩⟩
  | own y hy ha=>
   refine (sU (h.mach x o) (λk e R=>R.2 e) h.oth_lt H hy ((hw.mok x o).okAt H hy ha) A v _ _).mono ?_;rintro e w' ⟨he,U,T,p, -, -,O,Q,N,rfl⟩;exact ⟨he,h.lone o p (O.mono λk _ e=>e.elim id False.elim) Q N⟩
  | send y ac hy ha=>exact (nU p hy ha).elim
  | full y ac hy ha=>exact (nU p hy ha).elim
  | recv y ac hy ha=>exact (nU p hy ha).elim
  | none y ac hy ha=>exact (nU p hy ha).elim
  | other y ac hy ha=>exact (nU p hy ha).elim
 ·refine (DP (h.wld o I) H (hw.mok x o) (hw.msgI o) u A v hr).mono ?_;rintro e w' ⟨he,J⟩;exact ⟨he,h.try o I J⟩
end
theorem xG {X z b:Nat} {l D v0 v1:Value} {cnt C:Nat} {w:N5} {R:N5->Prop} (u:∀i,ap w i->Calls prog 43 #[(ar X),H8 (z:Nat)] i λe h=>e=.returned (.tuple #[.iface 100 ((ar b)),l,D,.bool true])/\ap i h) (p:∀i,ap w i->Calls prog 204 #[(ar b),l,D] i λe h=>e=.returned (H8 (C:Nat))/\h.heap[X]?=some (.cells #[v0,v1,H8 (cnt:Nat)] 99 (0,0))/\R h) (hc:cnt<=1000000000) (J:C=0):Calls prog 14 #[(ar X),H8 (z:Nat)] w λe i=>e=.returned (.bool true)/\∃v,R v/\i=v.setCell (aq X 2) (H8 ((cnt+1:Nat):Int)):=by
 subst J;obtain ⟨x,A⟩:=ab u p;have hm:∀w:N5,(method 483 100 ((ar b)) "Do").run prog w=.ok (204,(ar b)) w:=λ_=>by kernel_rfl
 have H:=br w;clear u p;go_enter func14,ntmps14;go_wp2_with fail;refine (x.o _ H).mono ?_;rintro e v ⟨rfl,I⟩;go_wp2_with fail;refine (A.o _ I).mono ?_;rintro e N ⟨rfl,y,B⟩;have t:=bx3 y;obtain ⟨L,Q⟩:=ab B y;have O:IntKind.i64.wrap ((cnt:Int)+1)=(cnt:Int)+1:=Gd _ ao;clear y B;go_wp2_with fail;go_ret;exact ⟨rfl,_,L.o,by push_cast;rfl⟩
theorem zZ {X z b:Nat} {l A:Value} {C:Nat} {w:N5} {R:N5->Prop} (u:∀h,ap w h->Calls prog 43 #[(ar X),H8 (z:Nat)] h λe i=>e=.returned (.tuple #[.iface 100 ((ar b)),l,A,.bool true])/\ap h i) (p:∀h,ap w h->Calls prog 204 #[(ar b),l,A] h λe i=>e=.returned (H8 (C:Nat))/\R i) (L:C≠0):Calls prog 14 #[(ar X),H8 (z:Nat)] w λe h=>e=.returned (.bool false)/\R h:=by
 obtain ⟨v,x⟩:=ab u p;have hm:∀w:N5,(method 483 100 ((ar b)) "Do").run prog w=.ok (204,(ar b)) w:=λ_=>by kernel_rfl
 have B:=br w;clear u p;go_enter func14,ntmps14;go_wp2_with fail;refine (v.o _ B).mono ?_;rintro e I ⟨rfl,D⟩;go_wp2_with fail;refine (x.o _ D).mono ?_;rintro e N ⟨rfl,y⟩;have H:=aa y;clear y;have J:¬(C:Int)=0:=ao;go_wp2_with fail;go_ret;exact ⟨rfl,H.o⟩
theorem xH {X:Value} {z:Int} {w:N5} (i:∀h,ap w h->Calls prog 43 #[X,H8 z] h λe u=>e=.returned (.tuple #[.nilIface,.pointer none,.pointer none,.bool false])/\ap h u):Calls prog 14 #[X,H8 z] w λe h=>e=.returned (.bool false)/\ap w h:=by
 have p:=aa i;have x:=br w;clear i;go_enter func14,ntmps14;go_wp2_with fail;refine (p.o _ x).mono ?_;rintro e A ⟨rfl,y⟩;have v:=aa y;go_wp2_with fail;go_ret;exact ⟨rfl,v.o⟩
def ng (D:WAd) (n:Nat):N4:=(List.range n).map λy=>.iface 100 (.pointer (some ⟨D.b y,0,none⟩))
def rq (D:WAd) (n:Nat):N4:=(List.range n).map λy=>.pointer (some ⟨D.l y,0,none⟩)
theorem Fp (D:WAd) {n y:Nat} (h:y<n):(ng D n)[y]?=some (.iface 100 (.pointer (some ⟨D.b y,0,none⟩))):=by simp [ng,h]
theorem Ep (D:WAd) {n y:Nat} (h:y<n):(rq D n)[y]?=some (.pointer (some ⟨D.l y,0,none⟩)):=by simp [rq,h]
def WAd.hid (D:WAd) (n:Nat) (E:Nat->Prop) (k:Nat):Prop:=D.all n k\/E k
structure WAt (E:Nat->Prop) (i:Inp) (w:N5) (D:WAd) (B:Nat) (M:WSt):Prop where
 mem:eU E i w D B M
 al:dV i M
 rows:∃AW cw AL cl,w.heap[D.X]?=some (.cells #[.slice AW (au i).W cw,.slice AL (au i).W cl,H8 (M.sum i:Nat)] 99 (0,0))/\Rd (aW (D.hid (au i).W E) w) AW (ng D (au i).W)/\Rd (aW (D.hid (au i).W E) w) AL (rq D (au i).W)
section
variable {E:Nat->Prop} {i:Inp} {w w':N5} {D:WAd} {B x:Nat} {M:WSt}
theorem WAt.more {o:Nat->Prop} (h:WAt E i w D B M) (hb:ap w w') (he:∀k,o k->k<w'.heap.size/\(E k\/w.heap.size<=k)):WAt o i w' D B M:=by
 obtain ⟨x,C,u,v,A,y,H⟩:=h.rows;have p:Ext (aW (D.hid (au i).W E) w) (aW (D.hid (au i).W o) w'):=dN (Keep.below hb) λk hk e=>e.imp id λe=>(he k e).2.elim id λe=>absurd hk ao;exact ⟨h.mem.more hb he,h.al,x,C,u,v,(hb.block _ h.mem.xl).trans A,a9 y p,a9 H p⟩
theorem WAt.below (h:WAt E i w D B M) (hb:ap w w'):WAt E i w' D B M:=h.more hb λk e=>⟨Gf (h.mem.ex k e) hb.size,.inl e⟩
theorem WAt.at (h:WAt E i w D B M) (A:bj i) (o:x<(au i).W):Calls prog 43 #[(ar D.X),H8 (x:Nat)] w λe w'=>e=.returned (.tuple #[.iface 100 (.pointer (some ⟨D.b x,0,none⟩)),.pointer (some ⟨D.l (pvW (au i).W x),0,none⟩),.pointer (some ⟨D.l x,0,none⟩),.bool true])/\ap w w':=by
 obtain ⟨I,J,C,H,v,u,y⟩:=h.rows;have p:=A.ok.W8;exact EM v (a9 u (jC _ _)) (a9 y (jC _ _)) o ao rfl (Fp D o) (Ep D (iO ao)) (Ep D o)
theorem WAt.did (h:WAt E i w D B M) {I:WSt} (L:vP E i w D B x I w'):∃o,o.X=D.X/\eU E i w' o B I/\Keep (λk=>D.all (au i).W k/\k≠D.X) w w'/\(∀k,o.all (au i).W k->D.all (au i).W k\/w.heap.size<=k)/\
  ∃u A p v,w'.heap[D.X]?=some (.cells #[.slice u (au i).W A,.slice p (au i).W v,H8 (M.sum i:Nat)] 99 (0,0))/\Rd (aW (o.hid (au i).W E) w') u (ng o (au i).W)/\Rd (aW (o.hid (au i).W E) w') p (rq o (au i).W):=by
 obtain ⟨a1,g1,Q,y,C⟩:=L;obtain ⟨u,A,p,v,J,N,O⟩:=h.rows;have H:Ext (aW (D.hid (au i).W E) w) (aW ((D.upd x a1 g1).hid (au i).W E) w'):=dN (y.mono λk _ e=>.inl e.1) λk hk e=>e.imp (λe=>(C k e).elim id λe=>absurd hk ao) id;exact ⟨D.upd x a1 g1,rfl,Q,y,C,u,A,p,v,(y.block _ h.mem.xl λe=>e.2 rfl).trans J,a9 N H,a9 O H⟩
theorem WAt.sum_le (h:WAt E i w D B M) (o:bj i):M.sum i<=1000000000:=by
 have x:=h.al.sum_le o;have u:=Dk o.ok;have p:=Di o.ok;have v:=o.s;have y:xy (au i)*i.cfg.steps.toNat<=810000*6:=Nat.mul_le_mul p ao;omega
theorem Fu (i:Inp) (x p:Nat):sN i x p<=p:=by
 unfold sN dH aY;rw [List.length_map];refine Ge (List.length_filter_le _ _) (Ge (List.length_filterMap_le _ _) ?_);rw [GL];omega
theorem wT (f:Nat->Nat):∀{n x:Nat},x<n->f x<=((List.range n).map f).sum
 | 0,_,h=>ao
 | n+1,x,h=>by
  rw [GV,List.map_append,List.sum_append];simp only [List.map_cons,List.map_nil,List.sum_cons,List.sum_nil,Nat.add_zero];by_cases e:x=n
  ·subst e;omega
  ·have:=wT f (n:=n) (x:=x) ao;omega
theorem DD (h:x<(au i).W):M.pos i x<=M.sum i:=wT _ h
def FE (E:Nat->Prop) (i:Inp) (w:N5) (D:WAd) (B:Nat) (o:WSt) (w':N5):Prop:=∃h,h.X=D.X/\WAt E i w' h B o/\Keep (λk=>D.all (au i).W k) w w'/\∀k,h.all (au i).W k->D.all (au i).W k\/w.heap.size<=k
theorem xp (h:WAt E i w D B M) (y:bj i) (Z: -9223372036854775808<=i.cfg.rate/\i.cfg.rate<=9223372036854775807) (a2: -9223372036854775808<=i.cfg.mom/\i.cfg.mom<=9223372036854775807) (z:Int):Calls prog 14 #[(ar D.X),H8 z] w λe w'=>e=.returned (.bool (pkZ i M z).2)/\FE E i w D B (pkZ i M z).1 w':=by
 by_cases hz:0<=z/\z<((au i).W:Int)
 ·obtain ⟨x,rfl⟩:∃x:Nat,z=x:=⟨z.toNat,by omega⟩;have A:x<(au i).W:=ao;have e1:pkZ i M x=pkF i M x:=by unfold pkZ;rw [if_pos hz,Int.toNat_natCast]
  rw [e1];obtain ⟨C,hp,hb⟩:=uI h.al y A;obtain ⟨hA, -,Q,V⟩:=uJ h.al y A
  have v:(M.s x).msgs.length<100000000000:=by
   have h1:=h.al.ok.sn x A;have h2:=h.al.pos_le y A;have h3:sN i x (M.pos i x)<=M.pos i x:=Fu i x _;have h4:M.pos i x<=M.sum i:=DD A;have h5:=h.sum_le y;omega
  have N:=λw' (q:ap w w')=>(h.below q).at y A;have J:=λw' (q:ap w w')=>(h.below q).mem.pick y A h.al.ok v Z a2 hp;by_cases U:C=0
  ·have ht:(pkF i M x).2=true:=by rw [hb];simp [U]
   rw [ht];obtain ⟨-, -,L⟩:=Q ht;have a0:=h.sum_le y;obtain ⟨AW,cw,AL,cl,k1,k2,k3⟩:=h.rows;refine (xG (X:=D.X) (v0:=.slice AW (au i).W cw) (v1:=.slice AL (au i).W cl) N (R:=λp=>∃o,ap w o/\vP E i o D B x (pkF i M x).1 p) (λo q=>(J o q).mono λe p H=>⟨H.1,?_,o,q,H.2⟩) a0 U).mono ?_
   ·obtain ⟨a1,g1, -,T, -⟩:=H.2;exact (T.block _ (Gf h.mem.xl q.size) λe=>e.2 rfl).trans (sb k1 o q)
   ·rintro e w3 ⟨he,p,⟨o,q,Y⟩,rfl⟩;obtain ⟨O,u,T,f3,f4,BW,dw,BL,dl,g1,g2,g3⟩:=(h.below q).did Y;have hk:Keep (λk=>k=D.X) p (p.setCell (aq D.X 2) (H8 ((M.sum i+1:Nat):Int))):=Keep.setCell (S:=λk=>k=D.X) (Keep.refl _ _) _ (.inr rfl) _;have I:Ext (aW (O.hid (au i).W E) p) (aW (O.hid (au i).W E) (p.setCell (aq D.X 2) (H8 ((M.sum i+1:Nat):Int)))):=dN (hk.mono λk _ e=>.inl (.inl (e.trans u.symm))) λk _ e=>e;refine ⟨he,O,u,⟨T.keepQ hk (λk e=>.inl (e.trans u.symm)) (λj c hj _ e=>km hj g1 (by decide) e),hA,BW,dw,BL,dl,?_,a9 g2 I,a9 g3 I⟩,?_,λk e=>(f4 k e).imp id λe=>Ge q.size e⟩
    ·rw [u,L];exact ss g1
    ·refine (Keep.below q).trans ((f3.mono λk _ e=>e.1).trans (hk.mono λk _ e=>.inl e))
  ·have hf:(pkF i M x).2=false:=by rw [hb];simp [U]
   rw [hf];refine (zZ N (λw' q=>(J w' q).mono λe p H=>⟨H.1,(⟨w',q,H.2⟩:∃o,ap w o/\vP E i o D B x (pkF i M x).1 p)⟩) U).mono ?_;rintro e p ⟨he,o,q,Y⟩;obtain ⟨O,u,T,f3,f4,f5⟩:=(h.below q).did Y;exact ⟨he,O,u,⟨T,hA,by rw [V hf,u];exact f5⟩,(Keep.below q).trans (f3.mono λk _ e=>e.1),λk e=>(f4 k e).imp id λe=>Ge q.size e⟩
 ·have e1:pkZ i M z=(M,false):=by unfold pkZ;rw [if_neg hz]
  rw [e1];obtain ⟨AW,cw,AL,cl,h1, -, -⟩:=h.rows;refine (xH λw' q=>Du (sb h1 w' q) ao).mono ?_;rintro e p ⟨he,q⟩;exact ⟨he,D,rfl,h.below q,Keep.below q,λk e=>.inl e⟩
end
theorem va {w:N5} {base l c:Nat} (hc:1<=c) (h:c<=1048576) (hb:ay w l (H9) c 0 0 0):aJ w base l none (LSt.new c):=
 ⟨⟨hc,h,F3 _,by simp [LSt.new],Gc _,by simp [LSt.new],by simp [LSt.new]⟩,H9,[],hb,by simpa [LSt.new] using Gj _ _ _ _,rfl,by simp [LSt.new],by simp,by simp [LSt.new]⟩
def WMk (i:Inp) (X:Nat) (bs h:List Nat) (rb:Nat->Prop) (w:N5):Prop:=∃b l a s t,bs=(List.range bs.length).map b/\h=(List.range bs.length).map l/\fh i w (X+1) b l a s t bs.length/\X<w.heap.size/\
 ∀j,rb j->X<j/\j<w.heap.size/\∀y,y<bs.length->(j<s y\/t y<=j)/\j≠l y
theorem sW (b:Nat->Nat) (k v:Nat):(List.range (k+1)).map (aL b k v)=(List.range k).map b++[v]:=by
 rw [GV,List.map_append]
 congr 1
 ·exact List.map_congr_left λx h=>aR _ _ (by have:=List.mem_range.1 h;omega)
 ·simp [aV]
theorem WMk.next {i:Inp} {X k I l1 cap:Nat} {bs U:List Nat} {rb v:Nat->Prop} {w J Q:N5} {a1:MAd} (h:WMk i X bs U rb w) (hk:bs.length=k) (x:i.cfg.cap.toNat=cap) (hc:1<=cap/\cap<=1048576) (V:ap w J) (N:∀j,Mut I a1 j->w.heap.size<=j) (hm:∀(H:Nat->Prop) w'',Keep (λk=>k<w.heap.size) J w''->(∀k,H k->k<w.heap.size)->aH H w'' I i k a1 (eK i)) (p:C9 X cap rb v l1 J Q):WMk i X (bs++[I]) (U++[l1]) v Q:=by
 obtain ⟨b,l,a,s,t,Y,T,C,h4,u⟩:=h;rw [hk] at Y T C u;have Z:=V.size;have A:=C.below V;have R:∀j,(j=X\/rb j)->j<w.heap.size:=λj e=>e.elim (λe=>ao) λe=>(u j e).2.1
 have L:fh i Q (X+1) b l a s t k:=A.keep p.hk λj _ e=>by
  refine ⟨λy O=>?_,λc=>p.hty j c e⟩;rcases e with rfl | e
  ·have:=C.chain y O;omega
  ·exact (u j e).2.2 y O
 have hf:=C.more (l1:=l1) ao N hm A L Z (p.hk.mono λj _ e=>.inl (R j e)) p.hl.1 p.hl.2 (λB=>by
  rw [x];exact va hc.1 hc.2 p.hb)
 have o:(bs++[I]).length=k+1:=by simp [hk]
 refine ⟨_,_,_,_,_,?_,?_,by rw [o];exact hf,by have:=p.hk.size;omega,λj e=>?_⟩
 ·rw [o,sW,<-Y]
 ·rw [o,sW,<-T]
 ·rw [o];refine ⟨(p.hrb j e).elim (λe=>(u j e).1) λe=>ao,p.hrl j e,λy O=>?_⟩;by_cases D:y=k
  ·subst D;simp only [aV];rcases p.hrb j e with e | e
   ·have:=(u j e).2.1;have:=p.hl.1;omega
   ·omega
  ·simp only [aR _ _ D];rcases p.hrb j e with e | e
   ·exact (u j e).2.2 y ao
   ·have:=C.chain y ao;omega
theorem zU (i:Inp):(j3 i).sum i=0:=by
 unfold WSt.sum;have:∀x,(j3 i).pos i x=0:=λx=>by simp [WSt.pos,j3,bR,eK]
 rw [List.map_congr_left (g:=λ_=>0) λx _=>this x]
 induction (List.range (au i).W) with
 | nil=>rfl
 | cons _ l ih=>simpa using ih
def Fg (E:Nat->Prop) (i:Inp) (w:N5) (e:Ending) (h:N5):Prop:=∃D B,e=.returned (.tuple #[(ar D.X),H8 0])/\WAt E i h D B (j3 i)/\ap w h/\∀j,D.all (au i).W j->w.heap.size<=j
theorem xr {E:Nat->Prop} (A:N0) (c:Nat) (D:N0) (N:Nat) (T:N0) (ct:Nat) (R:N0) (L:Nat) (i:Inp) (w:N5) (h:mM w A c D T ct R i) (Y:bj i) (hE:∀j,E j->j<w.heap.size):Calls prog 13 #[.agg (iU A c D N T ct R L i)] w (Fg E i w):=by
 obtain ⟨W1,u⟩:∃W1,w.alloc (.cells (iU A c D N T ct R L i) 29)=W1:=⟨_,rfl⟩;have U:ap w W1:=by rw [<-u];exact (br w).alloc (F3 _) _
 have ax:W1.heap.size=w.heap.size+1:=by rw [<-u];simp
 have hg:=Y.g.c;have ad:=hg.w;have a7:=hg.ca;have ew:((au i).W:Int)=i.cfg.workers:=by simp only [au];omega
 have ec:((i.cfg.cap.toNat:Nat):Int)=i.cfg.cap:=ao;have aP:=Y.ok.W8;have hI:=λo (q:ap W1 o)=>(h.below U).below q;have I:=λo (q:ap W1 o)=>qu A c D N T ct R L i o (hI o q);have V:=λ(x:Nat) o (q:ap W1 o) (hx:x<(au i).W)=>yK A c D N T ct R L i x o (hI o q) Y hx;have hv:iU A c D N T ct R L i=#[.slice A i.cfg.sizes.length c,H8 i.cfg.shift,H8 i.cfg.rate,H8 i.cfg.mom,H8 ((au i).W:Nat),H8 i.cfg.batch,H8 i.cfg.micros,H8 i.cfg.steps,H8 i.cfg.bucket,H8 i.cfg.chunk,H8 i.cfg.window,H8 (i.cfg.cap.toNat:Nat),.slice D i.data.length N,.slice T i.start.length ct,.slice R i.draws.length L]:=by rw [ew,ec]
 rw [wV.2 Y.g] at I;rw [hv] at I V u ⊢;refine (Aa (J:=λX bs ls rb o=>WMk i X bs ls rb o) u ao ao I (λo=>DS _ o ao) (λX o _ hX _=>⟨λ_=>0,λ_=>0,λ_=>⟨0,none,0,0,0,none,0,0,0,0,0,0,0,0,0,none,0,H9⟩,λ_=>0,λ_=>0,rfl,rfl,fh.zero,hX,λj e=>e.elim⟩) (λX k bs ls rb o hk a5 hX q a1 a6 hJ=>?_)).mono ?_
 ·refine (V k o q hk).mono ?_;rintro e w1 ⟨b,a,rfl,a0,a4,hm⟩;exact ⟨b,rfl,a0,λl1 ak w2 a2=>hJ.next a1 rfl ao a0 a4 hm a2⟩
 ·rintro e o ⟨X,bs,ls,AW,AL,cw,cl,rfl,m⟩;obtain ⟨b,l,a,s,t,h1,h2,O,h4,h5⟩:=m.j;rw [m.hb] at h1 h2 O h5;have hq:=m.q.size;have a5:=m.lo;have Z:eU E i o ⟨X,b,l,a,λ_=>none⟩ o.heap.size (j3 i):=O.mem (Nat.lt_succ_self X) h4 (λj e=>by have:=hE j e;omega) ao
  have H:∀{e:N6} {v:Value} {xs:N4},o.ownsRow (X+1) e 1 v (au i).W xs->(∀j,v.ownBlock=some j->sq (.slice AW (au i).W cw) (.slice AL (au i).W cl) j)->∀A n c',v=.slice A n c'->n=(au i).W->Rd (aW ((⟨X,b,l,a,λ_=>none⟩:WAd).hid (au i).W E) o) A xs:=by
   rintro e v xs ho hv A n c' rfl rfl;refine mY (Rd.own ho) λy p C=>?_
   have a8:X+1<=y.block:=by
    rcases ho.2 with ⟨B,_⟩ | ⟨g,_,_,B,_⟩
    ·injection B with e1;rw [e1] at p;cases p
    ·have Q:=(ho.lt g (by rw [B];simp [Value.ownBlock])).1;injection B with e1;rw [e1] at p;cases p;exact Q
   have a3:sq (.slice AW (au i).W cw) (.slice AL (au i).W cl) y.block:=by
    rcases ho.2 with ⟨B,_⟩ | ⟨g,_,_,B,_⟩
    ·injection B with e1;rw [e1] at p;cases p
    ·have Q:=hv g (by rw [B];simp [Value.ownBlock]);injection B with e1;rw [e1] at p;cases p;exact Q
   have Q:=h5 _ a3;rcases C with (C | ⟨z,hz,C | C⟩) | C
   ·have aM:y.block=X:=C;omega
   ·have:=O.win z hz _ C;have:=(Q.2.2 z hz).1;omega
   ·exact (Q.2.2 z hz).2 (gQ C)
   ·have:=hE _ C;omega
  refine ⟨⟨X,b,l,a,λ_=>none⟩,o.heap.size,rfl,⟨Z,dV.zero Y,AW,cw,AL,cl,?_,?_,?_⟩,U.trans (m.q.mono ao),?_⟩
  ·have:=m.box;rw [zU];exact this
  ·have:=H m.oW (λj e=>.inl e) AW _ cw rfl rfl;rw [h1,List.map_map] at this;exact this
  ·have:=H m.oL (λj e=>.inr e) AL _ cl rfl rfl;rw [h2,List.map_map] at this;exact this
  ·rintro j (e | ⟨y,p,e | e⟩)
   ·have hj:j=X:=e;omega
   ·have:=O.win y p j e;have:=O.chain y p;omega
   ·have hj:j=l y:=gQ e;have:=O.chain y p;omega
structure WIn (E:Nat->Prop) (i:Inp) (V:N5) (X:Nat) (M:WSt) (w:N5):Prop where
 ex:∃D B,D.X=X/\WAt E i w D B M/\∀j,D.all (au i).W j->V.heap.size<=j
 q:ap V w
section
variable {E:Nat->Prop} {i:Inp} {V w w':N5} {X:Nat} {M:WSt}
theorem WIn.below (h:WIn E i V X M w) (hb:ap w w'):WIn E i V X M w':=by
 obtain ⟨⟨D,B,u,o,v⟩,p⟩:=h;exact ⟨⟨D,B,u,o.below hb,v⟩,bt p hb⟩
theorem Fg.win {e:Ending} (h:Fg E i w e w'):∃X,e=.returned (.tuple #[(ar X),H8 0])/\WIn E i w X (j3 i) w'/\w.heap.size<=X/\ap w w':=by
 obtain ⟨D,B,v,u,p,o⟩:=h;exact ⟨D.X,v,⟨⟨D,B,rfl,u,o⟩,p⟩,o _ (.inl rfl),p⟩
theorem WIn.pick (h:WIn E i V X M w) (L:bj i) (o: -9223372036854775808<=i.cfg.rate/\i.cfg.rate<=9223372036854775807) (p: -9223372036854775808<=i.cfg.mom/\i.cfg.mom<=9223372036854775807) (z:Int):Calls prog 14 #[(ar X),H8 z] w λe w'=>e=.returned (.bool (pkZ i M z).2)/\WIn E i V X (pkZ i M z).1 w':=by
 obtain ⟨⟨D,B,rfl,H,v⟩,u⟩:=h;refine (xp H L o p z).mono ?_;rintro e w' ⟨he,J,x,N,y,I⟩;have A:=u.size;exact ⟨he,⟨J,B,x,N,λj C=>(I j C).elim (v j) λh=>ao⟩,u.trans (y.toBelow A v)⟩
theorem WIn.done (h:WIn E i V X M w) (A:bj i) {Bo:Bool} (hB:Bo=true↔M.fin i):Calls prog 26 #[(ar X)] w λe w'=>e=.returned (.bool Bo)/\ap w w':=by
 obtain ⟨⟨D,B,rfl,v,Z⟩,U⟩:=h;obtain ⟨Y,cw,R,cl,J,N,T⟩:=v.rows;have O:=A.ok.W8;have Q:((List.range (au i).W).map D.b).map (λb=>Value.iface 100 ((ar b)))=ng D (au i).W:=by rw [List.map_map];rfl
 refine xU (ok:=λx=>decide (M.pos i x<(cN i x).length)) (bs:=(List.range (au i).W).map D.b) J (by rw [Q];exact a9 N (jC _ _)) (by simp) ao ?_ λx b w' hb q=>?_
 ·rw [hB];constructor
  ·intro H x p;have:=H x p;simp [this]
  ·intro H x p;have L:=H x p;have h6:=v.al.pos_le A p;simp only [G7] at L;omega
 ·have p:x<(au i).W:=by
   have:=(GF.1 hb).1;simpa using this
  have C:b=D.b x:=by
   rw [List.getElem?_map,List.getElem?_range p] at hb;simpa using hb.symm
  subst C;have hm:=(v.below q).mem.mach x p;have u:=v.al.ok.mok x p
  cases hy:(bq i x (M.m x).st)[(M.m x).nx]? with
  | none=>
   refine (wJ hm (List.getElem?_eq_none_iff.1 hy)).mono ?_;rintro e I ⟨rfl,k⟩;have o:=u.cur A;rw [hy] at o;have:=List.getElem?_eq_none_iff.1 o.symm;exact ⟨_,by rw [show decide (M.pos i x<(cN i x).length)=false from G3 (by unfold WSt.pos;omega)],⟨rfl,by decide⟩,k⟩
  | some y=>
   refine (qm hm hy).mono ?_;rintro e I ⟨rfl,k⟩;have o:=u.cur A;rw [hy] at o;have:=(GF.1 o.symm).1;exact ⟨_,by rw [show decide (M.pos i x<(cN i x).length)=true from GZ this],⟨by simp [ou],by rw [List.all_eq_true];exact wU y⟩,k⟩
end
theorem xF {X:Value} {z b:Nat} {D lb:Value} {R:Ending->N5->Prop} {w:N5} (p:Calls prog 43 #[X,H8 (z:Nat)] w λe h=>e=.returned (.tuple #[.iface 100 ((ar b)),D,lb,.bool true])/\ap w h) (i:∀x,ap w x->Calls prog 208 #[(ar b)] x λe h=>(∃v,e=.returned v)/\R e h):Calls prog 35 #[X,H8 (z:Nat)] w R:=by
 have hm:∀(w:N5),(method 483 100 ((ar b)) "Trajectory").run prog w=.ok (208,(ar b)) w:=λ_=>by kernel_rfl
 obtain ⟨u,B⟩:=ab p i;clear p i;go_enter func35,ntmps35;go_wp2_with fail;refine u.o.mono ?_;rintro e A ⟨rfl,y⟩;have C:=aa (B.o A y);clear y;go_wp2_with fail;refine C.o.mono ?_;rintro e I ⟨⟨v,rfl⟩,hr⟩;have H:=aa hr;clear hr;go_wp2_with fail;exact H.o
section
variable {E:Nat->Prop} {i:Inp} {V w w':N5} {X:Nat} {M:WSt}
theorem yI (p:bj i) {x:Nat} {m:Mst} (h:MOk i x m):m.rc.length<=100:=by
 have v:=h.rc;have u:=p.s;rcases h.ps with o | o<;>omega
theorem WIn.trajIn (h:WIn E i V X M w) (y:bj i) {x:Nat} (p:x<(au i).W):Calls prog 35 #[(ar X),H8 (x:Nat)] w λe w'=>∃v,e=.returned v/\StL w.heap.size w' (M.m x).rc v/\ap w w':=by
 obtain ⟨⟨D,B,rfl,u,Q⟩,O⟩:=h;refine (xF (R:=λe w'=>∃v,e=.returned v/\StL w.heap.size w' (M.m x).rc v/\ap w w') (u.at y p) λN q=>?_).mono λe w' hr=>hr;have o:=u.al.ok.mok x p;refine (yH ((u.below q).mem.mach x p) o.rl y.n (yI y o)).mono ?_;rintro e T ⟨v,rfl,H,L⟩;obtain ⟨rows,I,A,J,C⟩:=H;exact ⟨⟨v,rfl⟩,v,rfl,⟨rows,aG I q.size,A,J,λj x p=>(C j x p).base q.size⟩,bt q L⟩
end
theorem WIn.fin {E:Nat->Prop} {i:Inp} {V w:N5} {X:Nat} {M:WSt} (h:WIn E i V X M w) (v:bj i) (y: -9223372036854775808<=i.cfg.rate/\i.cfg.rate<=9223372036854775807) (A: -9223372036854775808<=i.cfg.mom/\i.cfg.mom<=9223372036854775807) {most:Int} (hm:most<=1000000):Calls prog 34 #[(ar X),H8 most] w λe o=>e=.returned (.tuple #[H8 ((pG i M most).2:Nat),.bool (vq i (pG i M most).1)])/\WIn E i V X (pG i M most).1 o:=by
 have N:=v.ok.W8;have x:1<=(au i).W:=by have:=v.g.c.w;simp only [au];omega
 refine Ai (st:=pkZ i) (fin:=vq i) (I:=λo u=>WIn E i V X u o) x ao hm (λo u p=>?_) (λo u p=>?_) (λo u z p _=>p.pick v y A z) h
 ·obtain ⟨⟨D,B,rfl,H, -⟩, -⟩:=p;obtain ⟨J,L,O,R,C,T,Q⟩:=H.rows;exact ⟨J,L,_,_,C⟩
 ·refine (p.done v tw).mono ?_;rintro e U ⟨he,q⟩;exact ⟨he,p.below q⟩
theorem xq (w:N5):Calls prog 9 #[] w λe h=>e=.returned (.bool true)/\ap w h:=by
 go_enter func9,ntmps9;go_wp2_with fail;refine (xI w).mono ?_;rintro e w0 ⟨b,b2,b3,b4,b5,b6,b7,b8,rfl,h0,h2,h3,h4,h5,h6,h7,h8,k0⟩;have u:=EI h0 h2 h3 h4 h5 h6 h7 h8;have hc:=xr (E:=λ_=>False) (some (aq b 0)) 2 (some (aq b6 0)) 2 (some (aq b7 0)) 2 (some (aq b8 0)) 2 smK w0 u gj (λ_ e=>e.elim);obtain ⟨HC,I,Y,T⟩:=af hc k0 u.ra u.rm;clear h0 h2 h3 h4 h5 h6 h7 h8 u hc k0;go_wp2_with fail;refine Calls.mono HC.o ?_;rintro e w1 hn;obtain ⟨X,rfl,hw, -,q1⟩:=hn.win;have hf:=hw.fin gj Y.o T.o (most:=100) ao;obtain ⟨Hf,Q1⟩:=ab hf (I.o.trans (q1.mono I.o.size));clear hn hw q1 hf HC;go_wp2_with fail;refine Hf.o.mono ?_;rintro e w2 ⟨rfl,i⟩;have q2:=i.q;have O:=λh (q:ap w2 h)=>(i.below q).trajIn gj (x:=1) (by decide);have hx:=λh (q:ap w2 h)=>(i.below q).done gj (Bo:=true) ⟨λ_=>we,λ_=>rfl⟩;rw [EJ] at O;obtain ⟨HX,HT,Q2⟩:=ae hx O (I.o.trans (q2.mono I.o.size));clear Hf i q2 hx O;go_wp2_with fail;refine (HT.o _ (br w2)).mono ?_;rintro e H ⟨v,rfl,Z,R⟩;obtain ⟨A,c,rfl,hc⟩:=Z.form;have U:2<=c:=hc;have hl:(kw smK 2).length=2:=rfl;obtain ⟨B,o,A1,c1,A2,c2,rfl,g1,Q,g3,J, -⟩:=iC Z.rd (j:=1) (x:=cM smK 1) rfl;rw [Ad] at Q J;obtain ⟨b1,o1,rfl,D⟩:=J.hr.num (k:=0) (by decide);obtain ⟨a1,a0,C,L⟩:=J.hr.num (k:=1) (by decide);injection C with C
 injection C with C e2
 subst C e2;have l1:=aC D;rw [Nat.add_zero,show nth [-4, -2] 0= -4 from rfl] at D;rw [show nth [-4, -2] 1= -2 from rfl] at L;obtain ⟨C0,C1,C2,Q3,V⟩:=ag (λh (q:ap H h)=>(q.cell (p:=(aq b1 o1)) l1).trans D) (λh (q:ap H h)=>(q.cell (p:=(aq b1 (o1+1))) l1).trans L) (λh (q:ap H h)=>(q.cell (p:=(aq B (o+1*2))) g1).trans Q) (Q2.o.trans (R.mono Q2.o.size)) (HX.o H R);rw [hl];clear D L g1 Q g3 J Z hc U hl l1 R HX HT;go_wp2_with fail;refine V.o.mono ?_;rintro e N ⟨rfl,y⟩;have D:=C0.o N y;have L:=C1.o N y;have p2:=C2.o N y;have Q4:=aa (Q3.o.trans (y.mono Q3.o.size));clear y;go_wp2_with fail;go_ret;exact ⟨rfl,Q4.o⟩
end Go.Proofs.YtindmkcnjlgomaaGreat
namespace Go.Proofs.YtindmkcnjlgomaaGreat
open Go.RowKit Go.ChangeShapes Go.WideShapes Go.ChangeAt
open Tryz
theorem uy:eC prog 67 2:=⟨⟨_,underlying67,rfl⟩,by kernel_rfl⟩
theorem uQ {w h:N5} {o:Obj} (k:Keep (λj=>j=w.heap.size) (w.alloc o) h):ap w h:= ((br w).alloc (F3 _) o).trans (k.toBelow (by rw [Gp];omega) (λj i=>ao))
theorem AI {w:N5} {A:N0} {l:List Rg} (hr:Rd w A (aI l)) {t:Nat} {a:Rg} (h:l[t]?=some a):∃b o,A=some (aq b o)/\w.rangeAt b (o+t*2) [H8 (a.1:Int),H8 (a.2:Int)]:=by
 have p:=iu h;obtain ⟨b,o,e,y⟩:=hr (t*2) _ p.1;obtain ⟨B,C,u,x⟩:=hr (t*2+1) _ p.2;subst e;injection u with u
 injection u with e1 e2 _
 subst e1 e2;refine ⟨b,o,rfl,λj v i=>?_⟩
 match j,i with
 | 0,i=>simp at i;subst i;exact y
 | 1,i=>simp at i;subst i;rw [GX];exact x
theorem D9 {n s j:Nat} (h:j<be n s):(dU n s)[j]?=some (j*s,min (j*s+s) n):=by simp [dU,h]
theorem Fa {n s j:Nat} (u:1<=s) (h:j<be n s):j*s<=min (j*s+s) n/\1<=n:=by
 unfold be at h
 split at h
 ·omega
 ·have i:j<=(n-1)/s:=ao;have p:=HU s i;have o:=Nat.div_mul_le_self (n-1) s;omega
theorem mT {H:Type} {c7:N6×Value->H} {base:Nat} {v0 v1:Value} {d0 d1:DataW H} {p0 p1:List MemPlace} (W:N5) (o0:Value.okWide prog W .any base 58 v0) (h0:DataW.Trod c7 prog W 0 (λ_=>true) true 58 v0 d0 p0) (z0:jI prog 58 d0) (o1:Value.okWide prog W .any base 59 v1) (h1:DataW.Trod c7 prog W 0 (λ_=>true) true 59 v1 d1 p1) (z1:jI prog 59 d1):Calls prog 5 #[v0,v1] W λe i=>e=.returned (.bool true)/\ap W i:=by
 obtain ⟨A,vs,c,xs,rfl,dc,bA⟩:=DI o0 h0 z0;obtain ⟨y0,y1,rfl,e7,dw⟩:=yz o1 h1;clear o0 h0 z0 o1 h1 z1;obtain ⟨Y,rfl⟩:∃Y:Nat,y0=Y:=⟨y0.toNat,by omega⟩;obtain ⟨a1,rfl⟩:∃a1:Nat,y1=a1:=⟨y1.toNat,by omega⟩;obtain ⟨W1,a5⟩:∃W1,W.alloc (.cells #[.int .u8 (Y:Nat),.int .u8 (a1:Nat)] 59)=W1:=⟨_,rfl⟩;have y:W1.heap[W.heap.size]?=some (.cells #[.int .u8 (Y:Nat),.int .u8 (a1:Nat)] 59 (0,0)):=by rw [<-a5];exact F4 W _
 have hB:ap W W1:=by rw [<-a5];exact (br W).alloc (F3 _) _
 have bs:=λi (q:ap W1 i)=>bA.below (hB.trans (q.mono hB.size));have t0:∀i,ap W1 i->i.cell? (aq W.heap.size 0)=some (.int .u8 (Y:Nat)):=λi q=>Ga i W.heap.size 0 _ _ _ (sb y i q);have t1:∀i,ap W1 i->i.cell? (aq W.heap.size 1)=some (.int .u8 (a1:Nat)):=λi q=>Ga i W.heap.size 1 _ _ _ (sb y i q);have tl:=sl y;obtain ⟨d4,HB,HV,T0,T1,D⟩:=ah a5 hB bs t0 t1 (λi (q:ap W1 i)=>(xq i).mono λe d5 (h:_/\Below _ _ _)=>(⟨h.1,hB.trans ((q.trans (h.2.mono q.size)).mono hB.size)⟩:e=.returned (.bool true)/\ap W d5));have bd:=Cj A vs c W1 (bs W1 (br W1)).vecs ao;obtain ⟨N,hN⟩:∃N,vs.length=N:=⟨_,rfl⟩;obtain ⟨fw,b1⟩:∃fw,zh vs=fw:=⟨_,rfl⟩;rw [hN,b1] at bd;rw [hN] at dc ⊢;obtain ⟨R,e3,bI⟩:=ae hN b1 bd;clear bA y hB bs t0 t1 a5 bd hN b1;have q1:=br W1;go_enter func5,ntmps5;go_upto_region 1 with (fail);rw [d4.o];go_wp2_with fail;refine bI.o.mono ?_;rintro e w2 ⟨rfl,rfl⟩;clear bI;have Q1:=aa q1;clear q1;by_cases g1:fw=true;rotate_left
 ·obtain rfl:fw=false:=by simpa using g1
  go_wp2_with fail;refine (D.o _ Q1.o).mono ?_;rintro e w3 ⟨rfl,Z⟩;go_wp2_with fail;go_ret;exact ⟨rfl,Z⟩
 obtain rfl:fw=true:=g1;by_cases g2:(N:Int)<1
 ·go_wp2_with fail;refine (D.o _ Q1.o).mono ?_;rintro e w3 ⟨rfl,Z⟩;go_wp2_with fail;go_ret;exact ⟨rfl,Z⟩
 by_cases g3:(8:Int)<N
 ·go_wp2_with fail;refine (D.o _ Q1.o).mono ?_;rintro e w3 ⟨rfl,Z⟩;go_wp2_with fail;go_ret;exact ⟨rfl,Z⟩
 have a6:1<=N:=ao;have d3:N<=8:=ao;have B:=HV.o W1 Q1.o;obtain ⟨B0,cw,b8,cb, -, -⟩:=B.2.2 0 (by rw [R.o];omega);obtain ⟨b,o,rfl,p⟩:=B.1 0 _ b8;rw [Nat.add_zero] at p;obtain ⟨n,hn⟩:∃n,(cX vs 0).length=n:=⟨_,rfl⟩;rw [hn] at p;have lb:=aC p;have P0:=aa (λi (q:ap W1 i)=>(q.cell (p:=(aq b o)) lb).trans p);have dO:(0:Int)<N:=ao;by_cases g4:(60:Int)<n
 ·clear B b8;go_wp2_with fail;refine (D.o _ Q1.o).mono ?_;rintro e w3 ⟨rfl,Z⟩;go_wp2_with fail;go_ret;exact ⟨rfl,Z⟩
 have a7:n<=60:=ao;have bG:=B.slrd B.1;have Q:=uz (some (aq b o)) vs c n (cX vs 0) W1 bG (by rw [R.o];omega) (fK (by rw [R.o];omega)) hn;rw [R.o] at Q;obtain ⟨a8,Hn⟩:=ab Q hn;clear B b8 cb hn bG Q;go_wp2_with fail;refine a8.o.mono ?_;rintro e w2 ⟨vS,ok,rfl,k2,bi,b7⟩;have Q2:=aa (bt Q1.o k2)
 cases ok with
 | false=>
  clear bi b7 k2 p;go_wp2_with fail;refine (D.o _ Q2.o).mono ?_;rintro e w3 ⟨rfl,Z⟩;go_wp2_with fail;go_ret;exact ⟨rfl,Z⟩
 | true=>
  have L:=b7 rfl;have bo:=(bi L).2;obtain ⟨AS,cS,rfl, -⟩:=aE bo;have I:∀x,x<N->(cX vs x).length=n:=λx y=>L x _ (fK (by rw [R.o];exact y))
  have aP:∀x,x<N->(cX vs x).length=n/\W64 (cX vs x):=λx y=>by
   obtain ⟨_,_,_,_,_,h⟩:=(HV.o W1 Q1.o).2.2 x (by rw [R.o];exact y);exact ⟨I x y,h⟩
  obtain ⟨HS,dv,Hw⟩:=ae (Rd.own bo) I aP;clear bi b7 k2 L bo I aP p;have a3:=(HV.o W1 Q1.o).2.1;rw [R.o] at a3;have cj:=aa a3;clear a3 a8;go_wp2_with fail
  go_loopw [7,47] (λv u wr=>∃k:Nat,k<=N/\u=H8 (k:Nat)/\∃A' c',v=.slice A' k c'/\wr.ownsRow w2.heap.size 73 1 v k (xs.take k)/\ap w2 wr) (λ_ u _=>N-(intOf u).toNat)
  ·exact ⟨0,Gc _,rfl,none,0,rfl,Gj _ _ _ _,br w2⟩
  case round=>
   obtain ⟨k,hk,rfl,A',c',rfl,ho,q⟩:=hrel;obtain ⟨HO,V⟩:=ab ho q;by_cases cn:k<N
   ·have e8:(k:Int)<N:=ao;have bh:=HV.o wr (bt Q2.o q);obtain ⟨Bk,ck,b3, -, -, -⟩:=bh.2.2 k (by rw [R.o];exact cn);obtain ⟨b',o',e,pk⟩:=bh.1 k _ b3;injection e with e
    injection e with e1 e2 _
    subst e1 e2;have cd:=q.size;have d2:=aa b3;clear ho q bh b3;go_wp2_with (at_builtin;refine bJ m6 _ rfl (.tmp 51) (.tmp 53) rfl w2.heap.size (.slice A' k c') k _ rfl HO.o [.slice Bk (cX vs k).length ck] rfl rfl (by simp [Value.oneCell']) ao (by unfold maxLen;omega) cd ?_);intro g6 c6 w6 o6 b6 _;obtain ⟨cc,co⟩:=ab (show w6.ownsRow w2.heap.size 73 1 (.slice (some (aq g6 0)) (k+1) c6) (k+1) (xs.take (k+1)) by rw [List.take_add_one,d2.o];exact o6) (V.o.trans b6);clear o6 b6 pk;go_wp2_with fail;go_roundw
    ·exact ⟨k+1,by omega,by go_num,some (aq g6 0),c6,rfl,cc.o,co.o⟩
    ·simp [intOf];omega
   ·obtain rfl:N=k:=ao;have dA:¬((N:Int)<N):=ao;have Q3:=aa (bt Q2.o V.o);have C:=Rd.own HO.o;rw [List.take_of_length_le (by rw [cj.o];exact F3 _)] at C;obtain ⟨HL,bM⟩:=ab ((HV.o wr Q3.o).slrd C) (HS.o.below V.o);clear ho q C HO V HS;obtain ⟨s,hs⟩:∃s,1+Y=s:=⟨_,rfl⟩;obtain ⟨ck,dT⟩:∃ck,1+a1=ck:=⟨_,rfl⟩;obtain ⟨W3,rfl⟩:∃W3:N5,W3=wr:=⟨_,rfl⟩;have c0:∀i,ap W3 i->i.cell? (aq W.heap.size 0)=some (.int .u8 (Y:Nat)):=λi q=>T0.o i (bt Q3.o q);have cl:∀i,ap W3 i->i.cell? (aq b o)=some (.slice B0 n cw):=λi q=>P0.o i (bt Q3.o q);have e1:IntKind.i64.wrap (Y:Int)=(Y:Int):=Gd _ ao;have e2:IntKind.i64.wrap (1+(Y:Int))=(s:Int):=by rw [Gd _ ao];omega
    have lz:=tl _ Q3.o;have e6:=Gf lb Q3.o.size;go_upto_region 12 with (fail);have s0:=(br W3).drew;refine HA.g (λi:N5=>ap W3 i) ?_;refine HA.t ?_ [0,1,2,3,4,5,6,7,10] s0 ?_;refine HA.c 8 (AR n s _ ao ao ao) ?_;rintro _ w4 ⟨v4,rfl,U,k4⟩;obtain ⟨A4,c4,rfl, -⟩:=aE U;have s1:=bt s0 k4;refine ⟨_,rfl,s1,λ_=>?_⟩;rw [dt] at U ⊢;obtain ⟨m,hm⟩:∃m,be n s=m:=⟨_,rfl⟩;rw [hm] at U ⊢;refine HA.t ?_ [9] s1 ?_;refine HA.d ?_;have dp:m<=60:=by rw [<-hm];exact Ge (fF n s) a7
    obtain ⟨d8,Q4⟩:=ab (Rd.own U) (bt Q3.o s1);have ci:an (cO gO 1 w4 A' vs):=aa (HL.o.below fl s1);obtain ⟨cx,Hm⟩:=ab (bM.o.below s1) hm;clear s0 s1 k4 U c0 cl e1 e2 hm HL bM;go_wp2_with fail
    go_loopw [7,66] (λv u wr=>∃j:Nat,j<=m/\u=H8 (j:Nat)/\∃A5 c5,v=.slice A5 N c5/\an (cO gO 1 wr A5 (trL n s N ck vs j))/\ap w4 wr) (λ_ u _=>m-(intOf u).toNat)
    ·exact ⟨0,Gc _,rfl,A',c',rfl,ci,br w4⟩
    case round=>
     obtain ⟨j,hj,rfl,A5,c5,rfl,hL,q⟩:=hrel;obtain ⟨Wj,rfl⟩:∃Wj:N5,Wj=wr:=⟨_,rfl⟩;have V:=aa q;by_cases c9:j<m
     ·have dG:(j:Int)<m:=ao;have b5:j<be n s:=by rw [Hm.o];exact c9
      have J:=Fa ao b5
      have O:j*s<n+s:=by
       have:=J.2;have h1:=J.1;omega
      have ad:=qP (ck:=ck) (vs:=vs) R.o a6 (show 1<=s by omega) ao Hw.o j O;obtain ⟨b4,o4,rfl,bn⟩:=AI (d8.o.below q) (D9 b5);obtain ⟨lo,bb⟩:∃lo,j*s=lo:=⟨_,rfl⟩;obtain ⟨hi,a4⟩:∃hi,min (lo+s) n=hi:=⟨_,rfl⟩;rw [bb,a4] at bn J;have c1:Wj.cell? (aq W.heap.size 1)=some (.int .u8 (a1:Nat)):=T1.o Wj (bt Q4.o q);obtain ⟨d9,cA,d7,ak,bO⟩:=ag bn bb a4 ad J;have d6:hi<=n:=by rw [<-a4];omega
      clear q bn bb a4 ad J O b5 c1;go_upto_region 15 with (first | (refine vV d9.o uy rfl rfl rfl ?_) | (refine dx (F4 _ _) uy rfl rfl rfl rfl rfl rfl rfl ?_;intro Wa ea ka;obtain ⟨EA,KA⟩:=ab ea (uQ ka);clear ea ka));have e1:IntKind.i64.wrap (a1:Int)=(a1:Int):=Gd _ ao;have e2:IntKind.i64.wrap (1+(a1:Int))=(ck:Int):=by rw [Gd _ ao];omega
      have c1:Wa.cell? (aq W.heap.size 1)=some (.int .u8 (a1:Nat)):=T1.o Wa (bt Q4.o (bt V.o KA.o));have bX:cO gO 1 Wa A5 (trL n s N ck vs j):=hL.out.below fl KA.o;have C:=uF 0 j lo hi N ck n A5 (trL n s N ck vs j) c5 Wa ak.o.1 a6 d3 bO.o.2 a7 bO.o.1 d6 ao (λx y=>(ak.o.2 x y).1) bX;have bw:=aa C;clear C bX;go_wp2_with (refine eg #[H8 (lo:Nat),H8 (hi:Nat)] (b:=Wj.heap.size) EA.o uy rfl rfl rfl rfl ?_);refine bw.o.mono ?_;rintro e w6 ⟨⟨A6,c6,g6,e5,rfl,bv⟩,k6⟩
      have cf:an (cO gO 1 w6 A6 (trL n s N ck vs (j+1))):=aa (by
       have h:=bv.slrd ao;rw [<-d7.o,<-cA.o] at h
       exact h)
      have cs:=aa (V.o.trans ((bt KA.o k6).mono V.o.size));have e0:((N:Int) != (N:Int))=false:=by simp
      clear bv k6 e1 e2 c1 bw;go_wp2_with fail;go_roundw
      ·exact ⟨j+1,by omega,by go_num,A6,c6,rfl,cf,cs.o⟩
      ·simp [intOf];omega
     ·obtain rfl:m=j:=ao;have ds:¬((m:Int)<m):=ao;obtain ⟨Q5,cv⟩:=ab (bt Q4.o V.o) (cx.o.below V.o);have aM:∀x,x<N->cX (trL n s N ck vs m) x=ie n vs:=λx y=>by rw [<-Hm.o];exact Dh R.o a6 ao ao Hw.o y
      have O:m*s<n+s:=by
       have:=Hm.o;unfold be at this
       split at this
       ·subst this;omega
       ·have h2:=Nat.div_add_mod (n-1) s;have h4:m*s=s*((n-1)/s)+s:=by rw [<-this,Nat.add_mul,Nat.one_mul,Nat.mul_comm]
        omega
      have T:=(qP (ck:=ck) (vs:=vs) R.o a6 (show 1<=s by omega) ao Hw.o m O).1;obtain ⟨bV,dk⟩:=ab aM T;clear q aM O T;go_wp2_with fail
      go_loopw [98] (λu wr=>∃x:Nat,x<=N/\u=H8 (x:Nat)/\ap Wj wr) (λu _=>N-(intOf u).toNat)
      ·exact ⟨0,Gc _,rfl,br Wj⟩
      case round=>
       obtain ⟨x,y,rfl,q⟩:=hrel;have bz:=aa q;by_cases b0:x<N
       ·have a3:(x:Int)<N:=ao;have bN:cO gO 1 wr A5 (trL n s N ck vs m):=hL.out.below fl q;obtain ⟨bx,ox,Ax,ax,rfl,e4,px,bl,a2⟩:=fp bN (fK (show x<(trL n s N ck vs m).length by rw [dk.o];exact b0));rw [bV.o x b0] at px bl a2;have b2:=AA Ax AS (ie n vs) (ie n vs) ax cS wr bl (cv.o.below q) a2 a2;rw [GZ rfl,im] at b2;rw [im] at px;have c8:=aa b2;clear q bN bl a2 b2;go_wp2_with fail;refine c8.o.mono ?_;rintro e w7 ⟨rfl,nd,rfl⟩;have cr:=aa (bt bz.o (Gi (br wr) nd));clear c8;go_wp2_with fail;go_roundw
        ·exact ⟨x+1,by omega,by go_num,cr.o⟩
        ·simp [intOf];omega
       ·obtain rfl:N=x:=ao;have dn:¬((N:Int)<N):=ao;have Q7:=aa (bt Q5.o bz.o);clear q;go_wp2_with fail;refine (D.o _ Q7.o).mono ?_;rintro e w8 ⟨rfl,h8⟩;go_wp2_with fail;go_ret;exact ⟨rfl,h8⟩
end Go.Proofs.YtindmkcnjlgomaaGreat
