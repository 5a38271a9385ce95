/- No condition. -/
import Derived.Test.YtindmkcnjlgomaaGreatQ10
set_option linter.unusedSimpArgs false
set_option linter.unusedVariables false
set_option maxRecDepth 100000
set_option maxHeartbeats 4000000
namespace Go.Proofs.YtindmkcnjlgomaaGreat
open Go.RowKit
open Tryz
structure RIv (i:Inp) (x:Nat) (m:Mst):Prop where
 rc:m.rc=qK i (m.st+1)
 pm:m.st<i.cfg.steps.toNat->∀j,j<(ax i).buks.length->∀q,Cov (aK (ax i).buks j) q->nth m.P q=nth (eE i (if j<(opP (ax i) x m.st m.nx).1 then m.st+1 else m.st)).1 q/\nth m.M q=nth (eE i (if j<(opP (ax i) x m.st m.nx).1 then m.st+1 else m.st)).2 q
 g:m.st<i.cfg.steps.toNat->∀q,q<i.start.length->GI i x m.st m.nx m.G q
theorem PG {p:Pln} (i:bT p) {j q:Nat} (o:j<p.buks.length) (h:Cov (aK p.buks j) q):q<p.n:=by
 rw [tQ i o] at h;have:=zm (n:=p.n) (s:=p.bu) (QB j);rw [zl _ _ i.bu] at this;exact QE h.2 this
theorem RIv.zero {i:Inp} (hs:bD i) (x:Nat):RIv i x (fu i):=by
 refine ⟨rfl_rc hs,λ_ j _ q o=>?_,λ_ q _=>?_⟩
 .have e:(opP (ax i) x (fu i).st (fu i).nx).1=0:=rfl;rw [e,if_neg ap];refine ⟨rfl,?_⟩
  show nth (List.replicate i.start.length 0) q=nth (List.replicate (cnt i) 0) q
  rw [hs.g.s]
 .refine ⟨λa h=>by simp [cB,fu] at h,λa h=>by simp [cB,fu] at h,λ_=>?_⟩
  show nth (List.replicate i.start.length 0) q=nth (sd i x 0 (min 0 _)) q
  rw [Nat.zero_min];rfl
where
 rfl_rc {i:Inp} (hs:bD i):(fu i).rc=qK i 1:=by
  show [(i.start,List.replicate i.start.length 0)]=_
  rw [hs.g.s];rfl
section
variable {i:Inp} {x:Nat} {m m1:Mst} {y:Itm}
theorem rE (hs:bD i) (o:(cz i x m.st)[m.nx]?=some y) (hk:y.kind≠6) (h1:m1.st=m.st) (p:m1.nx=m.nx):adv i x m1={m1 with nx:=m.nx+1}/\m.st<i.cfg.steps.toNat/\(aE (ax i) x m.st)[m.nx]?=some y:=by
 obtain ⟨g1,u⟩:=du o;have hc:cz i x m.st=aE (ax i) x m.st:=if_pos g1;rw [hc] at o;have hr:=sj hs.ok o;have hl:=(Ri.1 o).1;refine ⟨?_,g1,o⟩;unfold adv
 rw [h1,p,hc,if_pos (by
  rcases QO (m.nx+1) (aE (ax i) x m.st).length with h | h
  .exact h
  .exact absurd (hr.2 ap) hk)]
theorem N2 (hs:bD i) (h:(cz i x m.st)[m.nx]?=some y) (hk:y.kind=6) (h1:m1.st=m.st) (o:m1.nx=m.nx):adv i x m1={m1 with st:=m.st+1,nx:=0}/\m.st<i.cfg.steps.toNat/\(aE (ax i) x m.st)[m.nx]?=some y/\m.nx+1=(aE (ax i) x m.st).length:=by
 obtain ⟨g1,p⟩:=du h;have hc:cz i x m.st=aE (ax i) x m.st:=if_pos g1;rw [hc] at h;have hr:=(sj hs.ok h).1 hk;refine ⟨?_,g1,h,hr⟩;unfold adv;rw [h1,o,hc,if_neg ap]
theorem EI (o:(aE (ax i) x m.st)[m.nx]?=some y) (hk:y.kind≠1):(ax i).mi<=m.nx:=by
 rcases QO m.nx (ax i).mi with h | h
 .rw [rr h] at o;cases o;exact absurd rfl hk
 .exact h
theorem RIv.all (h:RIv i x m) (hm:MOk i x m) (hs:bD i) (o:m.st<i.cfg.steps.toNat) {k:Nat} (hk:∀j,j<(ax i).buks.length->(if j<(opP (ax i) x m.st m.nx).1 then m.st+1 else m.st)=k):m.P=(eE i k).1/\m.M=(eE i k).2:=by
 have hl:=zF i hs.g.s k;refine ⟨hZ (by rw [hm.lP,hl.1,hs.g.s]) λq u=>?_,hZ (by rw [hm.lM,hl.2,hs.g.s]) λq u=>?_⟩
 .obtain ⟨j,p,hc⟩:=Mt hs.ok (q:=q) (by rw [hm.lP] at u;exact u);have:=(h.pm o j p q hc).1
  rwa [hk j p] at this
 .obtain ⟨j,p,hc⟩:=Mt hs.ok (q:=q) (by rw [hm.lM] at u;exact u);have:=(h.pm o j p q hc).2
  rwa [hk j p] at this
theorem RIv.own (h:RIv i x m) (hm:MOk i x m) (hs:bD i) (hx:x<(ax i).W) (R:(cz i x m.st)[m.nx]?=some y) (C:y.a=none):RIv i x (adv i x (ie i x m y)):=by
 have O:=hs.ok;obtain ⟨V,U⟩:=nU i x m y;rcases jn (du R).2 C with k | k | k | k
 .obtain ⟨J,u,o⟩:=rE hs R ap V U
  have a0:m.nx<(ax i).mi:=by
   rcases QO m.nx (ax i).mi with h | h
   .exact h
   .exact absurd k (Gk o h)
  have ey:=o;rw [rr a0] at ey
  cases ey
  obtain ⟨t1,t2⟩:=qp (p:=ax i) (x:=x) (st:=m.st) (nx:=m.nx) ap;obtain ⟨t3,t4⟩:=qp (p:=ax i) (x:=x) (st:=m.st) (nx:=m.nx+1) ap;have hP:=(h.all hm hs u (k:=m.st) (λj _=>by rw [t2,if_neg (by show ¬j<0;omega)])).1
  have hG:m.G=sd i x m.st m.nx:=hZ (by rw [hm.lG,Ls]) λq B=>by
   have:=(h.g u q (by rw [hm.lG] at B;exact B)).2.2 (λa C=>by rw [t1] at C;cases C)
   rwa [Nat.min_eq_left ap] at this
  rw [J]
  have I:ie i x m ⟨1,m.st,m.nx,none⟩={m with G:=sd i x m.st (m.nx+1)}:=by
   unfold ie;rw [if_pos rfl,xG,<-hG,<-hP]
  rw [I];refine ⟨h.rc,λ_ j D q B=>?_,λ_ q B=>?_⟩
  .have:=h.pm u j D q B;rw [t2] at this
   show nth m.P q=nth (eE i (if j<(opP (ax i) x m.st (m.nx+1)).1 then m.st+1 else m.st)).1 q/\nth m.M q=nth (eE i (if j<(opP (ax i) x m.st (m.nx+1)).1 then m.st+1 else m.st)).2 q
   rw [t4];exact this
  .show GI i x m.st (m.nx+1) (sd i x m.st (m.nx+1)) q
   unfold GI;rw [t3];exact ⟨λa C=>(by cases C),λa C=>(by cases C),λ_=>(by rw [Nat.min_eq_left ap])⟩
 .obtain ⟨J,u,o⟩:=rE hs R ap V U;rw [J]
  have I:ie i x m y={m with op:=m.op++[y.n]}:=by
   unfold ie;rw [if_neg ap,if_pos k]
  rw [I];refine ⟨h.rc,λ_ j D q B=>?_,λ_ q B=>?_⟩
  .have eo:(opP (ax i) x m.st (m.nx+1)).1=(opP (ax i) x m.st m.nx).1:=by rw [jl o];unfold opF;rw [if_pos k]
   show nth m.P q=nth (eE i (if j<(opP (ax i) x m.st (m.nx+1)).1 then m.st+1 else m.st)).1 q/\nth m.M q=nth (eE i (if j<(opP (ax i) x m.st (m.nx+1)).1 then m.st+1 else m.st)).2 q
   rw [eo];exact h.pm u j D q B
  .exact (h.g u q B).same o (EI o ap) (λa e=>by rw [C] at e;cases e)
 .obtain ⟨J,u,o⟩:=rE hs R ap V U;rw [J];have h5:=(qZ (me O x m.st).1 o).2 k;have a3:=(tE O x m.st m.nx).2.1;have a2:y.n=(opP (ax i) x m.st m.nx).1:=h5.1
  have N:y.n<(ax i).buks.length:=by
   have:(opP (ax i) x m.st m.nx).1<(opP (ax i) x m.st m.nx).2:=h5.2;omega
  have eo:(opP (ax i) x m.st (m.nx+1)).1=(opP (ax i) x m.st m.nx).1+1:=by rw [jl o];unfold opF;rw [if_neg ap,if_pos k]
  obtain ⟨lo,v,hr⟩:∃lo v,aK (ax i).buks y.n=(lo,v):=⟨_,_,rfl⟩
  have I:ie i x m y={m with P:=apP i.cfg.rate i.cfg.mom i.cfg.shift m.P m.M ((m.G.drop lo).take (v-lo)) lo (v-lo),M:=apM i.cfg.mom i.cfg.shift m.M ((m.G.drop lo).take (v-lo)) lo (v-lo),op:=iu m.op y.n}:=by
   unfold ie;rw [if_neg ap,if_neg ap,if_pos k,hr]
  rw [I];have hl:=zF i hs.g.s m.st;refine ⟨h.rc,λ_ j D q B=>?_,λ_ q B=>?_⟩
  .have Y:=PG O D B;have A:q<i.start.length:=Y
   show nth (apP i.cfg.rate i.cfg.mom i.cfg.shift m.P m.M ((m.G.drop lo).take (v-lo)) lo (v-lo)) q=nth (eE i (if j<(opP (ax i) x m.st (m.nx+1)).1 then m.st+1 else m.st)).1 q/\nth (apM i.cfg.mom i.cfg.shift m.M ((m.G.drop lo).take (v-lo)) lo (v-lo)) q=nth (eE i (if j<(opP (ax i) x m.st (m.nx+1)).1 then m.st+1 else m.st)).2 q
   have aP:nth (apP i.cfg.rate i.cfg.mom i.cfg.shift m.P m.M ((m.G.drop lo).take (v-lo)) lo (v-lo)) q=if lo<=q/\q<lo+(v-lo) then kU i.cfg.rate i.cfg.shift (nth m.P q) (eI i.cfg.mom i.cfg.shift (nth m.M q) (nth ((m.G.drop lo).take (v-lo)) (q-lo))) else nth m.P q:=bJ _ (by rw [hm.lP];exact A)
   have aM:nth (apM i.cfg.mom i.cfg.shift m.M ((m.G.drop lo).take (v-lo)) lo (v-lo)) q=if lo<=q/\q<lo+(v-lo) then eI i.cfg.mom i.cfg.shift (nth m.M q) (nth ((m.G.drop lo).take (v-lo)) (q-lo)) else nth m.M q:=bJ _ (by rw [hm.lM];exact A)
   rw [aP,aM,eo];have H:=h.pm u j D q B;by_cases T:j=y.n
   .subst T;have hc:=B;rw [hr] at hc;obtain ⟨c1,c2⟩:=hc;simp only at c1 c2;rw [if_neg ap] at H;have Q:lo<=q/\q<lo+(v-lo):=⟨c1,by omega⟩;rw [if_pos Q,if_pos Q,if_pos ap,eJ ap,eK,show lo+(q-lo)=q by omega,(h.g u q A).upd hs hx o k N B A (EI o ap),H.1,H.2];have f1:nth (eE i (m.st+1)).1 q=kU i.cfg.rate i.cfg.shift (nth (eE i m.st).1 q) (eI i.cfg.mom i.cfg.shift (nth (eE i m.st).2 q) (nth (wQ i (eE i m.st).1 m.st) q)):=bJ _ (by rw [hl.1,<-hs.g.s];exact A);have f2:nth (eE i (m.st+1)).2 q=eI i.cfg.mom i.cfg.shift (nth (eE i m.st).2 q) (nth (wQ i (eE i m.st).1 m.st) q):=bJ _ (by rw [hl.2,<-hs.g.s];exact A);rw [f1,f2];exact ⟨rfl,rfl⟩
   .have L:¬(lo<=q/\q<lo+(v-lo)):=λhh=>T (tO O D N B (by rw [hr];exact ⟨hh.1,by show q<v;omega⟩));rw [if_neg L,if_neg L];have ej:(if j<(opP (ax i) x m.st m.nx).1+1 then m.st+1 else m.st)=if j<(opP (ax i) x m.st m.nx).1 then m.st+1 else m.st:=by split<;>split<;>omega
    rw [ej];exact H
  .exact (h.g u q B).same o (EI o ap) (λa e=>by rw [C] at e;cases e)
 .obtain ⟨J,u,o,a1⟩:=N2 hs R k V U;rw [J]
  have I:ie i x m y={m with rc:=m.rc++[(m.P,m.M)],G:=List.replicate i.start.length 0}:=by
   unfold ie;rw [if_neg ap,if_neg ap,if_neg ap]
  rw [I]
  have Z:(opP (ax i) x m.st m.nx).1=(ax i).buks.length:=by
   have h1:=EB O (x:=x) (st:=m.st) (nx:=m.nx+1) ap;rw [jl o] at h1;unfold opF at h1;rw [if_neg ap,if_neg ap] at h1;rw [h1]
  obtain ⟨hP,hM⟩:=h.all hm hs u (k:=m.st+1) (λj D=>by rw [Z,if_pos D]);refine ⟨?_,λ_ j D q B=>?_,λ_ q B=>?_⟩
  .show m.rc++[(m.P,m.M)]=qK i (m.st+1+1)
   rw [Cm,h.rc,hP,hM]
  .show nth m.P q=nth (eE i (if j<0 then m.st+1+1 else m.st+1)).1 q/\nth m.M q=nth (eE i (if j<0 then m.st+1+1 else m.st+1)).2 q
   rw [if_neg ap,hP,hM];exact ⟨rfl,rfl⟩
  .refine ⟨λa C=>by simp [cB] at C,λa C=>by simp [cB] at C,λ_=>?_⟩
   show nth (List.replicate i.start.length 0) q=nth (sd i x (m.st+1) (min 0 _)) q
   rw [Nat.zero_min];rfl
theorem RIv.send (h:RIv i x m) (hs:bD i) (B:(cz i x m.st)[m.nx]?=some y) {a:Acn} (D:y.a=some a) (hk:y.kind=3) (v:a.send=true):RIv i x (adv i x m):=by
 obtain ⟨H,p,o⟩:=rE (m1:=m) hs B ap rfl rfl;rw [H];have C:opP (ax i) x m.st (m.nx+1)=opP (ax i) x m.st m.nx:=by rw [jl o];unfold opF;rw [if_neg ap,if_neg ap]
 refine ⟨h.rc,λ_ j A q u=>?_,λ_ q u=>?_⟩
 .show nth m.P q=nth (eE i (if j<(opP (ax i) x m.st (m.nx+1)).1 then m.st+1 else m.st)).1 q/\nth m.M q=nth (eE i (if j<(opP (ax i) x m.st (m.nx+1)).1 then m.st+1 else m.st)).2 q
  rw [C];exact h.pm p j A q u
 .exact (h.g p q u).same o (EI o ap) (λb e=>by rw [D] at e;cases e;exact v)
theorem RIv.recv (h:RIv i x m) (hm:MOk i x m) (hs:bD i) (L:x<(ax i).W) (C:(cz i x m.st)[m.nx]?=some y) {a:Acn} (H:y.a=some a) (hk:y.kind=4) (A:a.send=false) {v:Q_} (I:D7 i (pvW (ax i).W x) a.cor v):RIv i x (adv i x {m with G:=iK m.G a.at'.1 v a.add}):=by
 obtain ⟨J,o,p⟩:=rE (m1:={m with G:=iK m.G a.at'.1 v a.add}) hs C ap rfl rfl;rw [J];have D:opP (ax i) x m.st (m.nx+1)=opP (ax i) x m.st m.nx:=by rw [jl p];unfold opF;rw [if_neg ap,if_neg ap]
 refine ⟨h.rc,λ_ j B q u=>?_,λ_ q u=>?_⟩
 .show nth m.P q=nth (eE i (if j<(opP (ax i) x m.st (m.nx+1)).1 then m.st+1 else m.st)).1 q/\nth m.M q=nth (eE i (if j<(opP (ax i) x m.st (m.nx+1)).1 then m.st+1 else m.st)).2 q
  rw [D];exact h.pm o j B q u
 .exact (h.g o q u).recv hs L p H A (by rw [hm.lG];exact u) I
end
structure RW (i:Inp) (M:WSt):Prop where
 mv:∀x,x<(ax i).W->RIv i x (M.m x)
 ct:∀x,x<(ax i).W->∀j,j<(M.s x).msgs.length->∃c,(fP (dC i x))[j]?=some c/\D7 i x c (aQ (M.s x).msgs j).vals
theorem Pk.ring {i:Inp} {M M1:WSt} {x C:Nat} (hp:Pk i M x M1 C) (h:WOk i M) (hr:RW i M) (hs:bD i) (A:x<(ax i).W):RW i M1:=by
 obtain ⟨m1,s1,t1,Y,rfl⟩:=hp;have L:pvW (ax i).W x<(ax i).W:=lO ap;have B:=h.cur hs A;have o:RW i ⟨aY M.m x (M.m x),aY (aY M.s (pvW (ax i).W x) (M.s (pvW (ax i).W x))) x (M.s x)⟩:=by rw [zO];exact hr
 have H:RIv i x m1->∀z,z<(ax i).W->RIv i z (aY M.m x m1 z):=λhm z v=>by
  by_cases e:z=x
  .subst e;rw [bE];exact hm
  .rw [bq _ _ e];exact hr.mv z v
 cases Y with
 | fin=>exact o
 | full=>exact o
 | none=>exact o
 | other=>exact o
 | own y hy ha=>
  rw [gh,gh];exact ⟨H ((hr.mv x A).own (h.mok x A) hs A hy ha),hr.ct⟩
 | send y a hy ha hk hroom=>
  have p:=du hy
  have u:a.send=true:=by
   have:=(iW p.2 ha).1
   cases e:a.send with
   | true=>rfl
   | false=>rw [e,hk] at this;cases this
  have a0:=zv hs.ok p.2 ha;have O:=p.1
  have V:(aE (ax i) x (M.m x).st)[(M.m x).nx]?=some y:=by
   have hc:cz i x (M.m x).st=aE (ax i) x (M.m x).st:=if_pos O
   rwa [hc] at hy
  have U:=(iJ (kz p.2 ha)).1;rw [gh];refine ⟨H ((hr.mv x A).send hs hy ha hk u),λz v j D=>?_⟩;by_cases e:z=x
  .subst e
   have I:((⟨aY M.m z (adv i z (M.m z)),aY M.s z ((M.s z).send ⟨a.tg,((M.m z).G.drop a.at'.1).take (a.at'.2-a.at'.1)⟩)⟩:WSt).s z).msgs=(M.s z).msgs++[⟨a.tg,((M.m z).G.drop a.at'.1).take (a.at'.2-a.at'.1)⟩]:=by
    show (aY M.s z _ z).msgs=_;rw [bE];rfl
   rw [I] at D |-;rw [uV];by_cases hl:j<(M.s z).msgs.length
   .rw [if_pos hl];exact hr.ct z v j hl
   .rw [Rh,Rr] at D;have Q:j=(M.s z).msgs.length:=ap;rw [if_neg hl,if_pos Q];have hn:(ax i).n=i.start.length:=rfl
    have R:(((M.m z).G.drop a.at'.1).take (a.at'.2-a.at'.1)).length=a.at'.2-a.at'.1:=by
     rw [Rn,Rq,(h.mok z v).lG];omega
    rw [B] at hy;refine ⟨a.cor,by rw [Q,h.sn z v];exact zP hy ha u,R,λt Y=>?_⟩
    have Z:t<a.at'.2-a.at'.1:=by
     have:t<(((M.m z).G.drop a.at'.1).take (a.at'.2-a.at'.1)).length:=Y;omega
    show nth (((M.m z).G.drop a.at'.1).take (a.at'.2-a.at'.1)) t=if a.ph=0 then rU i a.st (cT (ax i).W z 0 a.rd) a.rd (a.at'.1+t) else pS i a.st (a.at'.1+t)
    rw [eJ Z,eK,U];exact ((hr.mv z v).g O (a.at'.1+t) ap).send hs v V ha u ⟨by omega,by omega⟩ ap
  .have I:(⟨aY M.m x (adv i x (M.m x)),aY M.s x ((M.s x).send ⟨a.tg,((M.m x).G.drop a.at'.1).take (a.at'.2-a.at'.1)⟩)⟩:WSt).s z=M.s z:=bq _ _ e;rw [I] at D |-;exact hr.ct z v j D
 | recv y a hy ha hk hlt heq=>
  have p:=du hy;have u:=pB p.2 ha hk;obtain ⟨c,c1,c2⟩:=hr.ct _ L _ hlt;have J:=h.rn _ L;rw [sY A] at J;have e:=nQ i (pvW (ax i).W x) i.cfg.steps.toNat;rw [show (pvW (ax i).W x+1)%(ax i).W=x from sY A] at e;rw [show fP (dC i (pvW (ax i).W x))=gw (dC i x) from e,J] at c1;have N:=hy;rw [B] at N;have T:=ux N ha u;rw [show (gw (List.take (M.pos i x) (dC i x))).length=rN i x (M.pos i x) from rfl,c1] at T;injection T with T
  subst T;refine ⟨H ((hr.mv x A).recv (h.mok x A) hs A hy ha hk u c2),λz v j D=>?_⟩
  have hm:((⟨aY M.m x (adv i x {M.m x with G:=iK (M.m x).G a.at'.1 (aQ (M.s (pvW (ax i).W x)).msgs (M.s (pvW (ax i).W x)).recv).vals a.add}),aY (aY M.s (pvW (ax i).W x) {M.s (pvW (ax i).W x) with recv:=(M.s (pvW (ax i).W x)).recv+1}) x (M.s x)⟩:WSt).s z).msgs=(M.s z).msgs:=by
   show (aY (aY M.s (pvW (ax i).W x) _) x (M.s x) z).msgs=_
   by_cases I:z=x
   .subst I;rw [bE]
   .rw [bq _ _ I];by_cases e2:z=pvW (ax i).W x
    .subst e2;rw [bE]
    .rw [bq _ _ e2]
  rw [hm] at D |-;exact hr.ct z v j D
theorem RW.zero {i:Inp} (hs:bD i):RW i (fA i):=⟨λx _=>RIv.zero hs x,λx _ j h=>by simp [fA,LSt.new] at h⟩
theorem RIv.done {i:Inp} {x:Nat} {m:Mst} (h:RIv i x m) (hm:MOk i x m) (hs:bD i) (o:bF i x m=(dC i x).length):m.rc=qK i (i.cfg.steps.toNat+1):=by
 rw [h.rc];rcases hm.ps with ⟨h1,p⟩ | ⟨h1,_⟩
 .rw [ot hs.ok] at o;unfold bF at o;have:=RH (aE (ax i) x 0).length (Nat.succ_le_of_lt h1);rw [Ry] at this;omega
 .rw [h1]
theorem RW.pickZ {i:Inp} {M:WSt} (hr:RW i M) (h:dX i M) (hs:bD i) (z:Int):RW i (pkZ i M z).1:=by
 unfold pkZ
 split
 .obtain ⟨C,o, -⟩:=uF h hs (x:=z.toNat) ap;exact o.ring h.ok hr hs ap
 .exact hr
theorem M8:((jF smK*(ax smK).W:Nat):Int)<=100:=by decide +kernel
theorem Ed:(wn smK (fA smK) 100).1.fin smK:=LM (dX.zero jY) jY M8
theorem M9:dX smK (wn smK (fA smK) 100).1/\RW smK (wn smK (fA smK) 100).1:=by
 unfold wn;exact BD (Q:=λM=>dX smK M/\RW smK M) (λM z h=>⟨(yN h.1 jY z).1,RW.pickZ h.2 h.1 jY z⟩) _ _ _ ⟨dX.zero jY,RW.zero jY⟩
theorem Ow:((wn smK (fA smK) 100).1.m 1).rc=qK smK 2:=by
 have h:=M9;have i:1<(ax smK).W:=by decide
 exact RIv.done (h.2.mv 1 i) (h.1.ok.mok 1 i) jY (Ed 1 i)
theorem Jy:(eE smK 1).1=[-4, -2]:=by decide +kernel
theorem Pd:dN prog 96 106 .nilIface 1 16:=⟨underlying96,info_parts (by kernel_rfl),rfl,by decide⟩
theorem Pe:dN prog 97 103 (.pointer none) 1 8:=⟨underlying97,info_parts (by kernel_rfl),rfl,by decide⟩
theorem El:dg prog 29 15:=⟨⟨_,underlying29,rfl⟩,by kernel_rfl⟩
theorem gi {w:R8} {u B s1 s2 A C:Nat} {o p:R9} {v1 v2:Value} {xs ys:R7} (h1:w.ownsRow u o s1 v1 A xs) (y:w.ownsRow B p s2 v2 C ys) (h:o≠p) (j:Nat) (e:v1.ownBlock=some j) (f:v2.ownBlock=some j):False:=by
 rcases h1.2 with ⟨i,_⟩ | ⟨x,_,_,i,_,hg,_⟩
 .rw [i] at e;cases e
 .rw [i] at e;have v:x=j:=by simpa [Value.ownBlock] using e
  subst v;exact ay hg h y f.symm
structure MP (X cap:Nat) (rb rb':Nat->Prop) (l1:Nat) (w1 w':R8):Prop where
 hk:Keep (λj=>j=X\/rb j) w1 w'
 hty:∀j c,(j=X\/rb j)->w1.heap[j]?≠some (.cells c 2 (0,0))
 hrb:∀j,rb' j->rb j\/(w1.heap.size<=j/\j≠l1)
 hrl:∀j,rb' j->j<w'.heap.size
 hl:w1.heap.size<=l1/\l1<w'.heap.size
 hb:w'.heap[l1]?=some (.cells #[RJ,RI (cap:Nat),RI 0,RI 0,RI 0] 172 (0,0))
def nm (a b:Value) (j:Nat):Prop:=a.ownBlock=some j\/b.ownBlock=some j
structure Fk (J:Nat->List Nat->List Nat->(Nat->Prop)->R8->Prop) (W1:R8) (X k:Nat) (w:R8) (bs ls:List Nat) (AW AL:N_) (cw cl:Nat):Prop where
 j:J X bs ls (nm (.slice AW k cw) (.slice AL k cl)) w
 hb:bs.length=k
 hl:ls.length=k
 box:w.heap[X]?=some (.cells #[.slice AW k cw,.slice AL k cl,RI 0] 99 (0,0))
 oW:w.ownsRow (X+1) 106 1 (.slice AW k cw) k (bs.map λb=>.iface 100 ((au b)))
 oL:w.ownsRow (X+1) 103 1 (.slice AL k cl) k (ls.map λb=>(au b))
 lo:W1.heap.size<=X
 q:aq W1 w
theorem Jw {J:Nat->List Nat->List Nat->(Nat->Prop)->R8->Prop} {i0 i1 i2 i3 i5 i6 i7 i8 i9 C H B A:Value} {N cap:Nat} {w W1:R8} (a8:w.alloc (.cells #[i0,i1,i2,i3,RI (N:Nat),i5,i6,i7,i8,i9,C,RI (cap:Nat),H,B,A] 29)=W1) (hN:N<=1000) (bh:1<=cap/\cap<=1048576) (b2:∀h,aq W1 h->Calls prog 40 #[.agg #[i0,i1,i2,i3,RI (N:Nat),i5,i6,i7,i8,i9,C,RI (cap:Nat),H,B,A]] h λe a9=>e=.returned (RI 0)/\aq h a9) (hl:∀h:R8,Calls prog 42 #[RI (cap:Nat)] h λe a9=>e=.returned ((au h.heap.size))/\a9=h.alloc (.cells #[RJ,RI (cap:Nat),RI 0,RI 0,RI 0] 172)) (h0:∀X h,W1.heap.size<=X->X<h.heap.size->aq W1 h->J X [] [] (λ_=>False) h) (hm:∀X k bs I rb h,k<N->W1.heap.size<=X->X<h.heap.size->aq W1 h->bs.length=k->I.length=k->J X bs I rb h->Calls prog 41 #[.agg #[i0,i1,i2,i3,RI (N:Nat),i5,i6,i7,i8,i9,C,RI (cap:Nat),H,B,A],RI (k:Nat)] h λe D=>
   ∃b,e=.returned (.tuple #[(au b),RI 0])/\aq h D/\∀l1 b0 w2,MP X cap rb b0 l1 D w2->J X (bs++[b]) (I++[l1]) b0 w2):
  Calls prog 13 #[.agg #[i0,i1,i2,i3,RI (N:Nat),i5,i6,i7,i8,i9,C,RI (cap:Nat),H,B,A]] w λe h=>
   ∃X bs I AW x cw y,e=.returned (.tuple #[(au X),RI 0])/\Fk J W1 X N h bs I AW x cw y:=by
 have g0:W1.heap[w.heap.size]?=some (.cells #[i0,i1,i2,i3,RI (N:Nat),i5,i6,i7,i8,i9,C,RI (cap:Nat),H,B,A] 29 (0,0)):=by rw [<-a8];exact Qy w _
 have t4:∀h,aq W1 h->h.cell? (ar w.heap.size 4)=some (RI (N:Nat)):=λh q=>Qz h w.heap.size 4 _ _ _ (sb g0 h q);have a5:∀h,aq W1 h->h.cell? (ar w.heap.size 11)=some (RI (cap:Nat)):=λh q=>Qz h w.heap.size 11 _ _ _ (sb g0 h q);have tl:=sl g0;have bi:w.heap.size<W1.heap.size:=Qw g0;obtain ⟨bf,Hl,Hm,H0,aR,G0⟩:=ai b2 hl hm h0 a8 g0;have q1:=br W1;clear b2 hl hm h0 a8 g0;go_enter func13,ntmps13;go_wp2_with (refine aN #[i0,i1,i2,i3,RI (N:Nat),i5,i6,i7,i8,i9,C,RI (cap:Nat),H,B,A] (b:=w.heap.size) (by rw [aR.o];exact G0.o) El rfl rfl rfl rfl ?_);rw [aR.o];refine (bf.o _ q1).mono ?_;rintro e w2 ⟨rfl,k2⟩;have q2:=bt q1 k2;clear k2;go_wp2_with fail;obtain ⟨X,hX⟩:∃X,w2.heap.size=X:=⟨_,rfl⟩;obtain ⟨W3,a1⟩:∃W3,w2.alloc (.cells #[RJ,RJ,RI 0] 99)=W3:=⟨_,rfl⟩;have g3:W3.heap[X]?=some (.cells #[RJ,RJ,RI 0] 99 (0,0)):=by rw [<-a1,<-hX];exact Qy w2 _
 have q3:aq W1 W3:=by rw [<-a1];exact q2.alloc q2.size _
 have gX:W1.heap.size<=X:=by rw [<-hX];exact q2.size
 have m3:Fk J W1 X 0 W3 [] [] none none 0 0:=⟨(by
  have hrb:nm (RJ) (RJ)=λ_=>False:=by funext j;simp [nm,Value.ownBlock]
  rw [hrb];exact H0.o X W3 gX (Qw g3) q3),rfl,rfl,g3,QI ..,QI ..,gX,q3⟩
 rw [hX,a1];have M3:=aa m3;clear m3 g3 a1 hX q2 q1
 go_loopw [19] (λv wr=>∃k:Nat,k<=N/\v=RI k/\∃bs I AW x cw y,Fk J W1 X k wr bs I AW x cw y) (λv _=>N-(intOf v).toNat)
 .exact ⟨0,QB _,rfl,[],[],none,none,0,0,M3.o⟩
 case round=>
  obtain ⟨k,hk,rfl,bs,I,AW,x,cw,y,m⟩:=hrel;have ad:=Qw m.box;have bo:=m.q.size;have tb:=bx3 m.box;have p:=aa m;clear m;by_cases b7:k<N
  .have bO:(k:Int)<N:=ap;have c1:=Hm.o X k bs I _ wr b7 p.o.lo ad p.o.q p.o.hb p.o.hl p.o.j;have C1:=aa c1;have q0:=p.o.q;clear c1;go_wp2_with (refine aN #[i0,i1,i2,i3,RI (N:Nat),i5,i6,i7,i8,i9,C,RI (cap:Nat),H,B,A] (b:=w.heap.size) (sb G0.o _ q0) El rfl rfl rfl rfl ?_);refine C1.o.mono ?_;rintro e D ⟨b,rfl,k1,hJ⟩;have HJ:=aa hJ;have q1:=bt q0 k1;have b1:=sb p.o.box D k1;have oW:=az p.o.oW k1;have oL:=az p.o.oL k1;have bM:=k1.size;have be:=bx3 b1;obtain ⟨B1,OW,OL,Q1,K1⟩:=ah b1 oW oL q1 k1;clear hJ b1 oW oL q1 k1 tb q0;go_wp2_with (at_builtin;refine dK Pd _ rfl (.tmp 32) (.tmp 35) rfl (X+1) (.slice AW k cw) k _ rfl (OW.o.alloc _) (some (ar D.heap.size 0)) 1 1 [.iface 100 ((au b))] rfl (dV D _ _ D.heap.size rfl) (by simp) (by simp [Value.oneCell']) ap (by unfold maxLen;omega) (by simp;omega) ?_);intro A2 c2 w3 o3 b3 g3 n3;have kA:aq D (D.alloc (.cells #[.iface 100 ((au b))] 106)):=(br D).alloc (Qx _) _;have a0:w3.heap[X]?=_:=(b3.block X ap).trans (sb B1.o _ kA);have kW:Keep (λj=>(Value.slice AW k cw).ownBlock=some j) D w3:=((Keep.refl _ D).alloc _).grown g3 (λk hk=>.inr hk);have ao:=kW.own OL.o (λj h1 h2=>gi OL.o OW.o (by decide) j h1 h2);have b9:=bx3 a0;have bl:=kW.size;have bV:=Qw a0;obtain ⟨b5,aG,aM,O3,N3,HK⟩:=ai a0 kW ao o3 n3 hk;clear kA a0 kW ao o3 n3 b3 g3 be ad;go_wp2_with fail;obtain ⟨i,Y⟩:∃i,w3.setCell (ar X 0) (.slice A2 (k+1) c2)=i:=⟨_,rfl⟩;have kX:Keep (λj=>j=X) w3 i:=by rw [<-Y];exact Keep.setCell (S:=λj=>j=X) (Keep.refl _ _) _ (.inr rfl) _
   have T:i.heap[X]?=some (.cells #[.slice A2 (k+1) c2,.slice x k y,RI 0] 99 (0,0)):=by rw [<-Y];exact ss b5.o
   have bb:=λ(v:Value) (e:R9) (xs:R7) (o:i.ownsRow (X+1) e 1 v xs.length xs)=>o;have o4:=kX.own O3.o (λj h1 h2=>by have:=(O3.o.lt j h1).1;omega);have a2:=kX.own aM.o (λj h1 h2=>by have:=(aM.o.lt j h1).1;omega);rw [Y];have bI:=kX.size;have aP:=Qw T;have tX:=λh (q:Keep (λj=>(Value.slice x k y).ownBlock=some j) i h)=>bx3 ((q.block X aP (λe=>by have:=(a2.lt X e).1;omega)).trans T)
   have av:∀h,Keep (λj=>(Value.slice x k y).ownBlock=some j) i h->h.cell? (ar w.heap.size 11)=some (RI (cap:Nat)):=λh q=>by
    have hW:i.cell? (ar w.heap.size 11)=some (RI (cap:Nat)):=a5 i (Q1.o.trans ((aG.o.toBelow Q1.o.size (λj e=>by have:=(OW.o.lt j e).1;have:=p.o.lo;omega)).trans (kX.toBelow (by have:=Q1.o.size;omega) (λj e=>by have:=p.o.lo;omega))));exact (World.cell?_of_block (q.block w.heap.size ap (λe=>by have:=(a2.lt _ e).1;have:=p.o.lo;omega))).trans hW
   have q4:Keep (λj=>(Value.slice x k y).ownBlock=some j) i i.drew:=(Keep.refl _ _).drew;obtain ⟨ab,O4,b8,KX⟩:=ag a2 o4 T kX;clear b9 Y T kX o4 a2 bb t4 a5;refine XA.g 11 (λh:R8=>Keep (λj=>(Value.slice x k y).ownBlock=some j) i h) ?_;refine XA.t ?_ [0,1,2,3,4,5,6,7] q4 ?_;refine XA.c 8 (Hl.o _) ?_;rintro _ R ⟨rfl,h5⟩;obtain ⟨u,V⟩:∃u,i.drew.heap.size=u:=⟨_,rfl⟩;rw [V];have g5:R.heap[u]?=some (.cells #[RJ,RI (cap:Nat),RI 0,RI 0,RI 0] 172 (0,0)):=by rw [h5,<-V];exact Qy i.drew _
   have k5:aq i R:=by rw [h5];exact (br i).drew.alloc (Qx _) _
   have q5:Keep (λj=>(Value.slice x k y).ownBlock=some j) i R:=by rw [h5];exact q4.alloc _
   have bA:R.heap.size=u+1:=by rw [h5,<-V];simp
   have bn:u=i.heap.size:=by rw [<-V];rfl
   clear h5 q4;refine ⟨_,rfl,q5,λ_=>?_⟩;refine XA.v 9 (R.alloc (.cells #[(au u)] 103)) (.slice (some (ar R.heap.size 0)) 1 1) (q5.alloc _) ?_;refine XA.o 10 (λK' hK=>?_);have hO:=(az ab.o k5).alloc (.cells #[(au u)] 103);refine bW Pe (.tmp 43) (.tmp 48) rfl rfl (X+1) (.slice x k y) k _ rfl hO (some (ar R.heap.size 0)) 1 1 [(au u)] rfl (dV R _ _ R.heap.size rfl) (by simp) (by simp [Value.oneCell']) ap (by unfold maxLen;omega) (by simp;omega) ?_;intro A6 c6 U o6 b6 g6 n6;have a4:Keep (λj=>(Value.slice x k y).ownBlock=some j) R U:=((Keep.refl _ R).alloc (.cells #[(au u)] 103)).grown g6 (λk hk=>.inr hk);have q6:=(q5.alloc (.cells #[(au u)] 103)).grown g6 (λk hk=>.inr hk);refine hK.out _ _ q6 λ_=>?_;refine XA.e ?_;simp only [Re,Rf];have Z:U.heap[X]?=_:=(q6.block X aP (λe=>by have:=(ab.o.lt X e).1;omega)).trans b8.o;have bG:=bx3 Z;have bw:=Qw Z;have a3:∀j,(Value.slice x k y).ownBlock=some j->j<D.heap.size:=λj e=>(OL.o.lt j e).2;have a6:U.heap[u]?=_:=(a4.block u ap (λe=>by have:=a3 u e;omega)).trans g5;have k7:Keep (λj=>j=X) U (U.setCell (ar X 1) (.slice A6 (k+1) c6)):=Keep.setCell (S:=λj=>j=X) (Keep.refl _ _) _ (.inr rfl) _;have h7:(U.setCell (ar X 1) (.slice A6 (k+1) c6)).heap[X]?=some (.cells #[.slice A2 (k+1) c2,.slice A6 (k+1) c6,RI 0] 99 (0,0)):=ss Z;have bN:=k7.size;have bv:=a4.size;have b4:=Qw a6;have L:Keep (λj=>j=X\/nm (.slice AW k cw) (.slice x k y) j) D (U.setCell (ar X 1) (.slice A6 (k+1) c6)):=(((aG.o.mono λk _ e=>.inr (.inl e)).trans (KX.o.mono λk _ e=>.inl e)).trans (q6.mono λk _ e=>.inr (.inr e))).trans (k7.mono λk _ e=>.inl e)
   have O:MP X cap (nm (.slice AW k cw) (.slice x k y)) (nm (.slice A2 (k+1) c2) (.slice A6 (k+1) c6)) u D (U.setCell (ar X 1) (.slice A6 (k+1) c6)):=by
    refine ⟨L,?_,?_,?_,⟨by omega,by omega⟩,(k7.block u b4 (λe=>ap)).trans a6⟩
    .rintro j c (rfl | e | e) hj
     .rw [B1.o] at hj;simp at hj
     .exact ay hj (by decide) OW.o e.symm
     .exact ay hj (by decide) OL.o e.symm
    .rintro j (e | e)
     .have:=(O3.o.lt j e).2;rcases N3.o with h1 | h1
      .rw [h1] at e;exact .inl (.inl e)
      .rw [h1] at e;simp at e;exact .inr ⟨by omega,by omega⟩
     .rcases n6 with h1 | h1
      .rw [h1] at e;exact .inl (.inr e)
      .rw [h1] at e;simp at e;exact .inr ⟨by omega,by omega⟩
    .rintro j (e | e)
     .have:=(O4.o.lt j e).2;have:=q6.size;omega
     .have:=(o6.lt j e).2;omega
   have Q:Fk J W1 X (k+1) (U.setCell (ar X 1) (.slice A6 (k+1) c6)) (bs++[b]) (I++[u]) A2 A6 c2 c6:=by
    refine ⟨HJ.o _ _ _ O,by simp [p.o.hb],by simp [p.o.hl],h7,?_,?_,p.o.lo,Q1.o.trans (L.toBelow Q1.o.size (λj e=>?_))⟩
    .have:=k7.own (q6.own O4.o (λj h1 h2=>gi ab.o O4.o (by decide) j h2 h1)) (λj h1 h2=>by have:=(O4.o.lt j h1).1;omega);rw [List.map_append];exact this
    .have:=k7.own o6 (λj h1 h2=>by have:=(o6.lt j h1).1;omega);rw [List.map_append];exact this
    .have bz:=p.o.lo;rcases e with e | e | e
     .omega
     .have:=(OW.o.lt j e).1;omega
     .have:=(OL.o.lt j e).1;omega
   have a7:=aa Q;clear Q O L k7 h7 a6 Z q6 a4 n6 g6 b6 o6 hO q5 k5 g5 tX av hK K' a3;go_wp2_with fail;go_roundw
   .exact ⟨k+1,by omega,by go_num,_,_,_,_,_,_,a7.o⟩
   .simp [intOf];omega
  .obtain rfl:k=N:=ap;clear tb t4 a5;go_wp2_with fail;go_ret2;exact ⟨X,bs,I,AW,x,cw,y,rfl,p.o⟩
theorem aU.i64 {H:Nat->Prop} {w:R8} {b x:Nat} {i:Inp} {a:MAd} {m:Mst} (h:aU H w b i x a m) {j:Nat} {c:R6} (o:w.heap[j]?=some (.cells c 2 (0,0))) (hm:Mut b a j):j=a.bp\/j=a.bm\/j=a.bg:=by
 rcases hm with e | e | e | e | e | e
 .exact absurd e (qy o h.blk (by decide))
 .exact .inl e
 .exact .inr (.inl e)
 .exact .inr (.inr e)
 .obtain ⟨rows,p,_⟩:=h.re;exact absurd (show some j=_ by rw [e];rfl) (ay o (by decide) p)
 .exact absurd e.symm (ay o (by decide) h.oO)
theorem aV.noI64 {w:R8} {B l:Nat} {g:Option Nat} {s:LSt} (h:aV w B l g s) {j:Nat} {c:R6} (i:w.heap[j]?=some (.cells c 2 (0,0))):¬eg l g j:=by
 rintro (e | e)
 .obtain ⟨o,hb⟩:=h.blk;exact absurd e (qy i hb (by decide))
 .subst e;obtain ⟨o,hb⟩:=h.ringBlk;exact absurd rfl (qy i hb (by decide))
theorem aV.mach {H G:Nat->Prop} {w o:R8} {B l b x:Nat} {g:Option Nat} {s:LSt} {i:Inp} {a:MAd} {m:Mst} (v:aV w B l g s) (u:aU H w b i x a m) (p:a.bp<B/\a.bm<B/\a.bg<B) (hn:∀k,eg l g k->¬(Mut b a k\/G k)) (y:∀(j:Nat) (c:R6),w.heap[j]?=some (.cells c 2 (0,0))->¬G j) (hk:Keep (λk=>Mut b a k\/G k) w o):aV o B l g s:=
 v.keep hk (hn l (.inl rfl)) (λj h=>hn j (.inr h)) (λj c h hb e=>e.elim (λe=>by rcases u.i64 h e with e | e | e<;>omega) (y j c h))
theorem aV.lt {w:R8} {B l:Nat} {g:Option Nat} {s:LSt} (h:aV w B l g s):∀k,eg l g k->k<w.heap.size:=by
 rintro k (e | e)
 .rw [e];exact h.blocks.1
 .exact (h.blocks.2 k e).2
def EN (l:Nat) (g:Option Nat) (l':Nat) (h:Option Nat) (k:Nat):Prop:=eg l g k\/eg l' h k
def WH (E:Nat->Prop) (l:Nat) (g:Option Nat) (l':Nat) (h:Option Nat) (k:Nat):Prop:=EN l g l' h k\/E k
structure Wld (E:Nat->Prop) (B:Nat) (w:R8) (b l l':Nat) (i:Inp) (x:Nat) (a:MAd) (m:Mst) (s t:LSt) (g g':Option Nat):Prop where
 mach:aU (WH E l g l' g') w b i x a m
 hn:∀k,Mut b a k->¬WH E l g l' g' k
 lf:aV w B l g s
 lt:aV w B l' g' t
 dj:∀k,eg l g k->¬eg l' g' k
 lo:b<B/\a.bp<B/\a.bm<B/\a.bg<B
 hB:B<=w.heap.size
 ne:∀k,EN l g l' g' k->¬E k
 ex:∀k,E k->k<w.heap.size
theorem Wld.below {E:Nat->Prop} {B:Nat} {w o:R8} {b l l' x:Nat} {i:Inp} {a:MAd} {m:Mst} {s t:LSt} {g p:Option Nat} (h:Wld E B w b l l' i x a m s t g p) (hb:aq w o):Wld E B o b l l' i x a m s t g p:=
 ⟨h.mach.below hb h.hn,h.hn,h.lf.below hb,h.lt.below hb,h.dj,h.lo,QD h.hB hb.size,h.ne,λk e=>QE (h.ex k e) hb.size⟩
theorem Wld.newL {E:Nat->Prop} {B:Nat} {w:R8} {b l l' x:Nat} {i:Inp} {a:MAd} {m:Mst} {s t:LSt} {g o:Option Nat} (h:Wld E B w b l l' i x a m s t g o):∀k,w.heap.size<=k->¬EN l g l' o k:=by
 rintro k hk (e | e)
 .have:=h.lf.lt k e;omega
 .have:=h.lt.lt k e;omega
theorem Wld.new {E:Nat->Prop} {B:Nat} {w:R8} {b l l' x:Nat} {i:Inp} {a:MAd} {m:Mst} {s t:LSt} {g o:Option Nat} (h:Wld E B w b l l' i x a m s t g o):∀k,w.heap.size<=k->¬WH E l g l' o k:=by
 rintro k hk (e | e)
 .exact h.newL k hk e
 .have:=h.ex k e;omega
def N6 (b:Nat) (a:MAd) (l:Nat) (g:Option Nat) (l':Nat) (h:Option Nat) (k:Nat):Prop:=Mut b a k\/EN l g l' h k
def kC (E:Nat->Prop) (B:Nat) (w:R8) (b l l':Nat) (i:Inp) (x:Nat) (a:MAd) (g o:Option Nat) (m1:Mst) (s1 t1:LSt) (h:R8):Prop:=
 ∃a1 g1,Wld E B h b l l' i x a1 m1 s1 t1 g g1/\Keep (N6 b a l g l' o) w h/\∀k,N6 b a1 l g l' g1 k->N6 b a l g l' o k\/w.heap.size<=k
theorem kC.below {E:Nat->Prop} {B:Nat} {w p:R8} {b l l' x:Nat} {i:Inp} {a:MAd} {m:Mst} {s t:LSt} {g o:Option Nat} (h:Wld E B w b l l' i x a m s t g o) (hb:aq w p):kC E B w b l l' i x a g o m s t p:=
 ⟨a,o,h.below hb,Keep.below hb,λ_ h=>.inl h⟩
theorem kC.own {E:Nat->Prop} {B:Nat} {w y:R8} {b l l' x:Nat} {i:Inp} {a:MAd} {m m1:Mst} {s t:LSt} {g u:Option Nat} (h:Wld E B w b l l' i x a m s t g u) {T:R8->Mst->Prop} (L:∀w m,T w m->m=m1) (D:Ce (WH E l g l' u) (λ_=>False) b i x a m T w y):kC E B w b l l' i x a g u (adv i x m1) s t y:=by
 obtain ⟨A,Q,h1, -, -,p,C,I,O⟩:=D;rw [L _ _ O] at h1;obtain ⟨J,H,N⟩:=I;have o:=h.lo;have v:∀k,Mut b A k->¬WH E l g l' u k:=λk hk=>(C k hk).elim (h.hn k) (h.new k)
 exact ⟨A,u,⟨h1,v,h.lf.mach h.mach o.2 (λk hk e=>e.elim (λe=>h.hn k e (.inl (.inl hk))) id) (λ_ _ _ h=>h) p,h.lt.mach h.mach o.2 (λk hk e=>e.elim (λe=>h.hn k e (.inl (.inr hk))) id) (λ_ _ _ h=>h) p,h.dj,by rw [J,H,N];exact o,QD h.hB p.size,h.ne,λk e=>QE (h.ex k e) p.size⟩,
  p.mono λk _ e=>e.elim .inl False.elim,λk hk=>hk.elim (λe=>(C k e).imp .inl id) (λe=>.inl (.inr e))⟩
theorem NB {E:Nat->Prop} {B:Nat} {w:R8} {b l l' x:Nat} {i:Inp} {a:MAd} {m m1:Mst} {s t s1 t1:LSt} {g N:Option Nat} {C:Nat} (h:Wld E B w b l l' i x a m s t g N) (hs:bD i) (hm:MOk i x m) (Y:MS i x s) (J:t.msgs.length<100000000000) (Z: -9223372036854775808<=i.cfg.rate/\i.cfg.rate<=9223372036854775807) (a0: -9223372036854775808<=i.cfg.mom/\i.cfg.mom<=9223372036854775807) (hr:jE i x m s t m1 s1 t1 C):Calls prog 204 #[(au b),(au l),(au l')] w λe H=>e=.returned (RI (C:Nat))/\kC E B w b l l' i x a g N m1 s1 t1 H:=by
 have v:∀{y:Itm} {ac:Acn},(cz i x m.st)[m.nx]?=some y->y.a=some ac->ac.at'.1<ac.at'.2/\ac.at'.2<=i.start.length:=λo p=>zv hs.ok (du o).2 p
 cases hr with
 | fin hf=>
  refine (EL h.mach hf _ _).mono ?_;rintro e H ⟨he,k⟩;exact ⟨he,kC.below h k⟩
 | own y o p=>
  refine (Bg h.mach h.hn h.new hs o (hm.okAt hs o p) Z a0 _ _).mono ?_;rintro e H ⟨he,hd⟩;exact ⟨he,kC.own h (λ_ _ e=>e) hd⟩
 | send y ac o p hk hroom=>
  refine (Lk h.mach h.hn h.new hs o hk p (v o p).1 (v o p).2 _ h.lt hroom J h.hB (λk e=>.inl (.inr e)) h.lo.1).mono ?_;rintro e H ⟨he,H1,R,m2,h1,L, -, -, -,D,U,⟨f1,f2,f3⟩,rfl,T,hH,hL,hg⟩;have u:=h.lo
  have I:∀k,WH E l g l' T k->H1 k:=λk e=>(hH k).2 (by
   rcases e with (e | e | e) | e
   .exact .inl (.inl (.inl e))
   .exact .inl (.inl (.inr (.inl e)))
   .exact .inr e
   .exact .inl (.inr e))
  have A:∀k,T=some k->eg l' N k\/w.heap.size<=k:=λk e=>by
   rcases hg with rfl | ⟨j,e1,e2⟩
   .exact .inl (.inr e)
   .rw [e1] at e;cases e;exact .inr e2
  have O:∀k,Mut b R k->¬WH E l g l' T k:=λk hk e=>L k hk (I k e)
  refine ⟨he,R,T,⟨h1.step (Keep.refl _ _) (λk _ e=>I k e) O,O,h.lf.mach h.mach u.2 (λk hk e=>e.elim (λe=>h.hn k e (.inl (.inl hk))) (h.dj k hk)) (λj c hj=>h.lt.noI64 hj) D,hL,λk hk e=>?_,by rw [f1,f2,f3];exact u,QD h.hB D.size,λk hk V=>?_,λk e=>QE (h.ex k e) D.size⟩,
   D.mono λk _ e=>e.imp id .inr,λk hk=>?_⟩
  .rcases e with e | e
   .exact h.dj k hk (.inl e)
   .rcases A k e with e | e
    .exact h.dj k hk e
    .have:=h.lf.lt k hk;omega
  .rcases hk with e | e | e
   .exact h.ne k (.inl e) V
   .exact h.ne k (.inr (.inl e)) V
   .rcases A k e with e | e
    .exact h.ne k (.inr e) V
    .have:=h.ex k V;omega
  .rcases hk with e | e | e | e
   .exact (U k e).imp .inl id
   .exact .inl (.inr (.inl e))
   .exact .inl (.inr (.inr (.inl e)))
   .exact (A k e).imp (λe=>.inr (.inr e)) id
 | full y ac o p hk hf=>
  refine (Lm h.mach h.hn h.new hs o hk p (v o p).1 (v o p).2 _ h.lt hf).mono ?_;rintro e H ⟨he,k⟩;exact ⟨he,kC.below h k⟩
 | recv y ac o p hk hlt heq=>
  have Q:=Y.len hs (du o).1 (du o).2 p (pB (du o).2 p hk) hlt heq;have u:=h.lo;refine (Ll h.mach h.hn h.new hs o hk p (v o p).1 (v o p).2 _ h.lf (λk e=>.inl (.inl e)) u.1 u.2.2.2 hlt heq Q.1 Q.2).mono ?_;rintro e H ⟨he,R,m2,h1, -, -,D,U,⟨f1,f2,f3⟩,rfl,hL⟩;have L:∀k,Mut b R k->¬WH E l g l' N k:=λk hk=>(U k hk).elim (h.hn k) (h.new k)
  exact ⟨he,R,N,⟨h1,L,hL,h.lt.mach h.mach u.2 (λk hk e=>e.elim (λe=>h.hn k e (.inl (.inr hk))) (λe=>h.dj k (.inl e) hk)) (λj c hj e=>h.lf.noI64 hj (.inl e)) D,h.dj,by rw [f1,f2,f3];exact u,QD h.hB D.size,h.ne,λk e=>QE (h.ex k e) D.size⟩,
   D.mono λk _ e=>e.imp id (λe=>.inl (.inl e)),λk hk=>hk.elim (λe=>(U k e).imp .inl id) (λe=>.inl (.inr e))⟩
 | none y ac o p hk h0=>
  refine (uZ h.mach h.hn h.new hs o hk p _ h.lf (.inl h0)).mono ?_;rintro e H ⟨he,k⟩;rw [if_pos h0] at he;exact ⟨he,kC.below h k⟩
 | other y ac o p hk hlt hne=>
  refine (uZ h.mach h.hn h.new hs o hk p _ h.lf (.inr ⟨hlt,hne⟩)).mono ?_;rintro e H ⟨he,k⟩;rw [if_neg ap] at he;exact ⟨he,kC.below h k⟩
structure WAd where
 X:Nat
 b:Nat->Nat
 l:Nat->Nat
 a:Nat->MAd
 g:Nat->Option Nat
def WAd.mu (D:WAd) (x k:Nat):Prop:=Mut (D.b x) (D.a x) k
def WAd.li (D:WAd) (x k:Nat):Prop:=eg (D.l x) (D.g x) k
def WAd.all (D:WAd) (n k:Nat):Prop:=k=D.X\/∃x,x<n/\(D.mu x k\/D.li x k)
def WAd.oth (D:WAd) (n:Nat) (E:Nat->Prop) (x k:Nat):Prop:=(D.all n k\/E k)/\¬D.mu x k
structure gS (E:Nat->Prop) (i:Inp) (w:R8) (D:WAd) (B:Nat) (M:WSt):Prop where
 mach:∀x,x<(ax i).W->aU (D.oth (ax i).W E x) w (D.b x) i x (D.a x) (M.m x)
 lnk:∀x,x<(ax i).W->aV w B (D.l x) (D.g x) (M.s x)
 mm:∀x y k,x<(ax i).W->y<(ax i).W->D.mu x k->D.mu y k->x=y
 ml:∀x y k,x<(ax i).W->y<(ax i).W->D.mu x k->¬D.li y k
 ll:∀x y k,x<(ax i).W->y<(ax i).W->D.li x k->D.li y k->x=y
 xm:∀x,x<(ax i).W->¬D.mu x D.X/\¬D.li x D.X
 lo:∀x,x<(ax i).W->D.b x<B/\(D.a x).bp<B/\(D.a x).bm<B/\(D.a x).bg<B
 hB:B<=w.heap.size
 xl:D.X<w.heap.size
 ne:∀k,E k->¬D.all (ax i).W k
 ex:∀k,E k->k<w.heap.size
section
variable {E E':Nat->Prop} {i:Inp} {w w':R8} {D:WAd} {B:Nat} {M:WSt} {x:Nat}
theorem gS.lt (h:gS E i w D B M):∀k,D.all (ax i).W k->k<w.heap.size:=by
 rintro k (rfl | ⟨x,o,e | e⟩)
 .exact h.xl
 .exact (h.mach x o).mlt k e
 .exact (h.lnk x o).lt k e
theorem gS.more (h:gS E i w D B M) (hb:aq w w') (he:∀k,E' k->k<w'.heap.size/\(E k\/w.heap.size<=k)):gS E' i w' D B M:=
 ⟨λx o=>(h.mach x o).step (Keep.below hb) (λk hk e=>⟨e.1.imp id λe=>(he k e).2.elim id λe=>absurd hk ap,e.2⟩) (λk hm e=>e.2 hm),λx o=>(h.lnk x o).below hb,h.mm,h.ml,h.ll,h.xm,h.lo,QD h.hB hb.size,QE h.xl hb.size,
  λk e=>(he k e).2.elim (h.ne k) λe p=>by have:=h.lt k p;omega,λk e=>(he k e).1⟩
theorem gS.below (h:gS E i w D B M) (hb:aq w w'):gS E i w' D B M:=h.more hb λk e=>⟨QE (h.ex k e) hb.size,.inl e⟩
theorem gS.keepQ (h:gS E i w D B M) {Q:Nat->Prop} (hk:Keep Q w w') (p:∀k,Q k->k=D.X\/E k) (he:∀(j:Nat) (c:R6),w.heap[j]?=some (.cells c 2 (0,0))->B<=j->¬Q j):gS E i w' D B M:=
 ⟨λx o=>(h.mach x o).step (hk.mono λk _ e=>⟨(p k e).imp .inl id,λhm=>(p k e).elim (λe=>(h.xm x o).1 (e▸hm)) λe=>h.ne k e (.inr ⟨x,o,.inl hm⟩)⟩) (λk _ e=>e) (λk hm e=>e.2 hm),
  λx o=>(h.lnk x o).keep hk (λe=>(p _ e).elim (λe=>(h.xm x o).2 (e▸.inl rfl)) λe=>h.ne _ e (.inr ⟨x,o,.inr (.inl rfl)⟩)) (λj u e=>(p _ e).elim (λe=>(h.xm x o).2 (e▸.inr u)) λe=>h.ne _ e (.inr ⟨x,o,.inr (.inr u)⟩)) he,
  h.mm,h.ml,h.ll,h.xm,h.lo,QD h.hB hk.size,QE h.xl hk.size,h.ne,λk e=>QE (h.ex k e) hk.size⟩
def WAd.rest (D:WAd) (n:Nat) (E:Nat->Prop) (x k:Nat):Prop:=(D.all n k\/E k)/\¬D.mu x k/\¬D.li (pvW n x) k/\¬D.li x k
theorem gS.wld (h:gS E i w D B M) (o:x<(ax i).W) (y:2<=(ax i).W):Wld (D.rest (ax i).W E x) B w (D.b x) (D.l (pvW (ax i).W x)) (D.l x) i x (D.a x) (M.m x) (M.s (pvW (ax i).W x)) (M.s x) (D.g (pvW (ax i).W x)) (D.g x):=by
 have p:pvW (ax i).W x<(ax i).W:=lO ap;have v:=Kr o y;refine ⟨(h.mach x o).step (Keep.refl _ _) ?_ ?_,?_,h.lnk _ p,h.lnk x o,λk e u=>v (h.ll _ _ k p o e u),h.lo x o,h.hB,?_,?_⟩
 .rintro k _ ((e | e) | e)
  .exact ⟨.inl (.inr ⟨_,p,.inr e⟩),λhm=>h.ml _ _ k o p hm e⟩
  .exact ⟨.inl (.inr ⟨_,o,.inr e⟩),λhm=>h.ml _ _ k o o hm e⟩
  .exact ⟨e.1,e.2.1⟩
 .rintro k hm ((e | e) | e)
  .exact h.ml _ _ k o p hm e
  .exact h.ml _ _ k o o hm e
  .exact e.2.1 hm
 .rintro k hm ((e | e) | e)
  .exact h.ml _ _ k o p hm e
  .exact h.ml _ _ k o o hm e
  .exact e.2.1 hm
 .rintro k (e | e) u
  .exact u.2.2.1 e
  .exact u.2.2.2 e
 .rintro k ⟨e | e,_⟩
  .exact h.lt k e
  .exact h.ex k e
def WAd.upd (D:WAd) (x:Nat) (a1:MAd) (g1:Option Nat):WAd:=⟨D.X,D.b,D.l,aY D.a x a1,aY D.g x g1⟩
def D5 (E:Nat->Prop) (i:Inp) (w:R8) (D:WAd) (B:Nat) (x:Nat) (h:WSt) (w':R8):Prop:=
 ∃a1 g1,gS E i w' (D.upd x a1 g1) B h/\Keep (λk=>D.all (ax i).W k/\k≠D.X) w w'/\∀k,(D.upd x a1 g1).all (ax i).W k->D.all (ax i).W k\/w.heap.size<=k
theorem gS.did (h:gS E i w D B M) (V:x<(ax i).W) {p:Nat} (hp:p<(ax i).W) {C:Nat->Prop} (hC:∀k,C k->D.mu x k\/D.li p k\/D.li x k) {a1:MAd} {g1:Option Nat} {m1:Mst} {s1 t1:LSt} {H:Nat->Prop} (hm:aU H w' (D.b x) i x a1 m1) (hH:∀k,(D.upd x a1 g1).oth (ax i).W E x k->H k) (hk:Keep C w w') (a5:p≠x->aV w' B (D.l p) (D.g p) s1) (a8:aV w' B (D.l x) g1 t1) (ao:p=x->t1=s1) (U:∀k,Mut (D.b x) a1 k->C k\/w.heap.size<=k) (Y:∀k,eg (D.l x) g1 k->C k\/w.heap.size<=k) (a2:∀k,Mut (D.b x) a1 k->¬eg (D.l x) g1 k/\¬D.li p k/\¬E k) (ab:p≠x->∀k,eg (D.l x) g1 k->¬D.li p k) (a7:∀k,eg (D.l x) g1 k->¬E k) (a9:a1.bp<B/\a1.bm<B/\a1.bg<B):D5 E i w D B x ⟨aY M.m x m1,aY (aY M.s p s1) x t1⟩ w':=by
 have T:∀k,C k->D.all (ax i).W k/\k≠D.X:=λk e=>by
  rcases hC k e with e | e | e
  .exact ⟨.inr ⟨x,V,.inl e⟩,λh2=>(h.xm x V).1 (h2▸e)⟩
  .exact ⟨.inr ⟨p,hp,.inr e⟩,λh2=>(h.xm p hp).2 (h2▸e)⟩
  .exact ⟨.inr ⟨x,V,.inr e⟩,λh2=>(h.xm x V).2 (h2▸e)⟩
 have L:∀k,(D.upd x a1 g1).mu x k->Mut (D.b x) a1 k:=λk e=>by
  have:(aY D.a x a1 x)=a1:=bE _ _ _;unfold WAd.mu WAd.upd at e;simp only [this] at e;exact e
 have J:∀y k,y≠x->(D.upd x a1 g1).mu y k->D.mu y k:=λy k A e=>by
  have:(aY D.a x a1 y)=D.a y:=bq _ _ A;unfold WAd.mu WAd.upd at e;simp only [this] at e;exact e
 have R:∀k,(D.upd x a1 g1).li x k->eg (D.l x) g1 k:=λk e=>by
  have:(aY D.g x g1 x)=g1:=bE _ _ _;unfold WAd.li WAd.upd at e;simp only [this] at e;exact e
 have I:∀y k,y≠x->(D.upd x a1 g1).li y k->D.li y k:=λy k A e=>by
  have:(aY D.g x g1 y)=D.g y:=bq _ _ A;unfold WAd.li WAd.upd at e;simp only [this] at e;exact e
 have a3:∀k,(D.upd x a1 g1).all (ax i).W k->D.all (ax i).W k\/w.heap.size<=k:=by
  rintro k (e | ⟨y,A,e⟩)
  .exact .inl (.inl e)
  .by_cases o:y=x
   .subst o;rcases e with e | e
    .exact (U k (L k e)).imp (λe=>(T k e).1) id
    .exact (Y k (R k e)).imp (λe=>(T k e).1) id
   .exact .inl (.inr ⟨y,A,e.imp (J y k o) (I y k o)⟩)
 -- what is changed or new is none of another worker's
 have N:∀y k,y<(ax i).W->y≠x->(C k\/w.heap.size<=k)->¬D.mu y k/\(y≠p->¬D.li y k):=λy k A o e=>by
  rcases e with e | e
  .rcases hC k e with e | e | e
   .exact ⟨λu=>o (h.mm y x k A V u e),λ_ u=>h.ml x y k V A e u⟩
   .exact ⟨λu=>h.ml y p k A hp u e,λhn u=>hn (h.ll y p k A hp u e)⟩
   .exact ⟨λu=>h.ml y x k A V u e,λ_ u=>o (h.ll y x k A V u e)⟩
  .exact ⟨λu=>by have:=h.lt k (.inr ⟨y,A,.inl u⟩);omega,λ_ u=>by have:=h.lt k (.inr ⟨y,A,.inr u⟩);omega⟩
 have a0:∀y k,y<(ax i).W->y≠x->eg (D.l x) g1 k->¬D.mu y k/\¬D.li y k:=λy k A o e=>by
  refine ⟨(N y k A o (Y k e)).1,?_⟩;by_cases Q:y=p
  .subst Q;exact ab o k e
  .exact (N y k A o (Y k e)).2 Q
 have a6:∀(j:Nat) (c:R6),w.heap[j]?=some (.cells c 2 (0,0))->B<=j->¬C j:=λj c hj hb e=>by
  have ad:=h.lo x V;rcases hC j e with e | e | e
  .rcases (h.mach x V).i64 hj e with e | e | e<;>omega
  .exact (h.lnk p hp).noI64 hj e
  .exact (h.lnk x V).noI64 hj e
 refine ⟨a1,g1,⟨λy A=>?_,λy A=>?_,λy z k A Z O u=>?_,λy z k A Z O u=>?_,λy z k A Z O u=>?_,λy A=>?_,λy A=>?_,QD h.hB hk.size,QE h.xl hk.size,λk e u=>?_,λk e=>QE (h.ex k e) hk.size⟩,hk.mono λk _ e=>T k e,a3⟩
 .by_cases o:y=x
  .subst o
   show aU _ w' (D.b y) i y (aY D.a y a1 y) (aY M.m y m1 y)
   rw [bE,bE];exact hm.step (Keep.refl _ _) (λk _ e=>hH k e) (λk O u=>u.2 (by unfold WAd.mu WAd.upd;simp only [bE];exact O))
  .show aU _ w' (D.b y) i y (aY D.a x a1 y) (aY M.m x m1 y)
   rw [bq _ _ o,bq _ _ o];refine (h.mach y A).step (hk.mono λk _ e=>⟨.inl (T k e).1,(N y k A o (.inl e)).1⟩) (λk hl e=>⟨e.1.imp (λe=>(a3 k e).elim id λe=>absurd hl ap) id,λu=>e.2 ?_⟩) (λk O u=>u.2 ?_)
   .unfold WAd.mu WAd.upd;simp only [bq _ _ o];exact u
   .unfold WAd.mu WAd.upd;simp only [bq _ _ o];exact O
 .by_cases o:y=x
  .subst o
   show aV w' B (D.l y) (aY D.g y g1 y) (aY (aY M.s p s1) y t1 y)
   rw [bE,bE];exact a8
  .show aV w' B (D.l y) (aY D.g x g1 y) (aY (aY M.s p s1) x t1 y)
   rw [bq _ _ o,bq _ _ o];by_cases Q:y=p
   .subst Q;rw [bE];exact a5 o
   .rw [bq _ _ Q];exact (h.lnk y A).keep hk (λe=>(N y _ A o (.inl e)).2 Q (.inl rfl)) (λj hj e=>(N y _ A o (.inl e)).2 Q (.inr hj)) a6
 .by_cases o:y=x
  .by_cases v:z=x
   .rw [o,v]
   .subst o;exact absurd (J z k v u) (N z k Z v (U k (L k O))).1
  .by_cases v:z=x
   .subst v;exact absurd (J y k o O) (N y k A o (U k (L k u))).1
   .exact h.mm y z k A Z (J y k o O) (J z k v u)
 .by_cases o:y=x
  .subst o;by_cases v:z=y
   .subst v;exact (a2 k (L k O)).1 (R k u)
   .by_cases a4:z=p
    .subst a4;exact (a2 k (L k O)).2.1 (I z k v u)
    .exact (N z k Z v (U k (L k O))).2 a4 (I z k v u)
  .by_cases v:z=x
   .subst v;exact (a0 y k A o (R k u)).1 (J y k o O)
   .exact h.ml y z k A Z (J y k o O) (I z k v u)
 .by_cases o:y=x
  .by_cases v:z=x
   .rw [o,v]
   .subst o;exact absurd (I z k v u) (a0 z k Z v (R k O)).2
  .by_cases v:z=x
   .subst v;exact absurd (I y k o O) (a0 y k A o (R k u)).2
   .exact h.ll y z k A Z (I y k o O) (I z k v u)
 .by_cases o:y=x
  .subst o;refine ⟨λe=>?_,λe=>?_⟩
   .rcases U _ (L _ e) with e | e
    .exact (T _ e).2 rfl
    .have:=h.xl;exact absurd this (Nat.not_lt.2 e)
   .rcases Y _ (R _ e) with e | e
    .exact (T _ e).2 rfl
    .have:=h.xl;exact absurd this (Nat.not_lt.2 e)
  .exact ⟨λe=>(h.xm y A).1 (J y _ o e),λe=>(h.xm y A).2 (I y _ o e)⟩
 .by_cases o:y=x
  .subst o
   show D.b y<B/\(aY D.a y a1 y).bp<B/\(aY D.a y a1 y).bm<B/\(aY D.a y a1 y).bg<B
   rw [bE];exact ⟨(h.lo y A).1,a9⟩
  .show D.b y<B/\(aY D.a x a1 y).bp<B/\(aY D.a x a1 y).bm<B/\(aY D.a x a1 y).bg<B
   rw [bq _ _ o];exact h.lo y A
 .rcases u with u | ⟨y,A,u⟩
  .exact h.ne k e (.inl u)
  .by_cases o:y=x
   .subst o;rcases u with u | u
    .exact (a2 k (L k u)).2.2 e
    .exact a7 k (R k u) e
   .exact h.ne k e (.inr ⟨y,A,u.imp (J y k o) (I y k o)⟩)
end
structure iN (i:Inp) (w:R8) (lo:Nat) (b l:Nat->Nat) (a:Nat->MAd) (s t:Nat->Nat) (k:Nat):Prop where
 mach:∀y,y<k->aU (λj=>j<s y\/t y<=j) w (b y) i y (a y) (fu i)
 win:∀y,y<k->∀j,Mut (b y) (a y) j->s y<=j/\j<t y
 chain:∀y,y<k->lo<=s y/\s y<=t y/\t y<=l y/\l y<w.heap.size
 next:∀y z,y<z->z<k->l y<s z
 lnk:∀y,y<k->∀B,aV w B (l y) none (LSt.new i.cfg.cap.toNat)
section
variable {i:Inp} {w w':R8} {lo k:Nat} {b l:Nat->Nat} {a:Nat->MAd} {s t:Nat->Nat}
theorem iN.zero:iN i w lo b l a s t 0:=⟨λ_ h=>absurd h (Nat.not_lt_zero _),λ_ h=>absurd h (Nat.not_lt_zero _),λ_ h=>absurd h (Nat.not_lt_zero _),λ_ _ _ h=>absurd h (Nat.not_lt_zero _),λ_ h=>absurd h (Nat.not_lt_zero _)⟩
theorem lB {l j:Nat} (e:eg l none j):j=l:=e.elim id λe=>by cases e
theorem iN.keep (h:iN i w lo b l a s t k) {Q:Nat->Prop} (hk:Keep Q w w') (u:∀j,j<w.heap.size->Q j->(∀y,y<k->(j<s y\/t y<=j)/\j≠l y)/\∀c,w.heap[j]?≠some (.cells c 2 (0,0))):iN i w' lo b l a s t k:=by
 refine ⟨λy o=>(h.mach y o).step (hk.mono λj p e=>((u j p e).1 y o).1) (λj _ e=>e) (λj hm e=>?_),h.win,λy o=>?_,h.next,λy o B=>(h.lnk y o B).keep (hk.mono λj p e=>((⟨p,e⟩:j<w.heap.size/\Q j))) (λe=>((u _ e.1 e.2).1 y o).2 rfl) (λj e=>by cases e) λj c p _ e=>(u j e.1 e.2).2 c p⟩
 .have:=h.win y o j hm;omega
 .have:=h.chain y o;have:=hk.size;omega
theorem iN.below (h:iN i w lo b l a s t k) (hb:aq w w'):iN i w' lo b l a s t k:=h.keep (Q:=λ_=>False) (Keep.below hb) λ_ _ e=>e.elim
theorem iN.more (h:iN i w lo b l a s t k) {A:Nat} {a1:MAd} {l1:Nat} {u:R8} (L:lo<=w.heap.size) (x:∀j,Mut A a1 j->w.heap.size<=j) (hm:∀(H:Nat->Prop) w'',Keep (λk=>k<w.heap.size) u w''->(∀k,H k->k<w.heap.size)->aU H w'' A i k a1 (fu i)) (h1:iN i u lo b l a s t k) (C:iN i w' lo b l a s t k) (hs:w.heap.size<=u.heap.size) (hk:Keep (λj=>j<w.heap.size\/u.heap.size<=j) u w') (hl:u.heap.size<=l1) (J:l1<w'.heap.size) (R:∀B,aV w' B l1 none (LSt.new i.cfg.cap.toNat)):
  iN i w' lo (aY b k A) (aY l k l1) (aY a k a1) (aY s k w.heap.size) (aY t k u.heap.size) (k+1):=by
 have D:=hm (λj=>j<w.heap.size) u (Keep.refl _ _) (λ_ e=>e);have v:=λj (e:Mut A a1 j)=>D.mlt j e
 have Q:aU (λj=>j<w.heap.size\/u.heap.size<=j) w' A i k a1 (fu i):=
  (D.step (H':=λj=>j<w.heap.size\/u.heap.size<=j) (Keep.refl _ _) (λj Y e=>e.elim id λe=>absurd Y ap) (λj e T=>by have:=x j e;have:=v j e;omega)).step hk (λ_ _ e=>e) (λj e T=>by have:=x j e;have:=v j e;omega)
 have o:∀y,y<k+1->y=k\/(y≠k/\y<k):=λy I=>ap;refine ⟨λy I=>?_,λy I=>?_,λy I=>?_,λy z N U=>?_,λy I=>?_⟩<;>rcases o y ap with rfl | ⟨e,p⟩
 .simp only [bE];exact Q
 .simp only [bq _ _ e];exact C.mach y p
 .simp only [bE];exact λj e=>⟨x j e,v j e⟩
 .simp only [bq _ _ e];exact C.win y p
 .simp only [bE];exact ⟨L,hs,hl,J⟩
 .simp only [bq _ _ e];exact C.chain y p
 .omega
 .rcases o z U with rfl | ⟨V,O⟩
  .simp only [bE,bq _ _ e];exact (h.chain y p).2.2.2
  .simp only [bq _ _ e,bq _ _ V];exact C.next y z N O
 .simp only [bE];exact R
 .simp only [bq _ _ e];exact C.lnk y p
theorem iN.mem (h:iN i w lo b l a s t (ax i).W) {X:Nat} (hX:X<lo) (Q:X<w.heap.size) {E:Nat->Prop} (L:∀j,E j->j<lo/\j≠X) (Y:lo<=w.heap.size):
  gS E i w ⟨X,b,l,a,λ_=>none⟩ w.heap.size ⟨λ_=>fu i,λ_=>LSt.new i.cfg.cap.toNat⟩:=by
 have p:∀y z,y<z->z<(ax i).W->t y<=s z/\l y<s z:=λy z O o=>by
  have h1:=h.next y z O o;have h2:=h.chain y ap;omega
 have J:∀y z j,y<(ax i).W->z<(ax i).W->Mut (b y) (a y) j->Mut (b z) (a z) j->y=z:=λy z j A o D u=>by
  have I:=h.win y A j D;have w2:=h.win z o j u;rcases Nat.lt_trichotomy y z with e | e | e
  .have:=p y z e o;omega
  .exact e
  .have:=p z y e A;omega
 have B:∀y z,y<(ax i).W->z<(ax i).W->l z<s y\/t y<=l z:=λy z A o=>by
  rcases Nat.lt_trichotomy y z with e | e | e
  .have:=p y z e o;have:=h.chain z o;omega
  .subst e;have:=h.chain y A;omega
  .have:=p z y e A;omega
 refine ⟨λx v=>(h.mach x v).step (Keep.refl _ _) ?_ (λj e u=>u.2 e),λx v=>h.lnk x v _,J,λy z j A o D u=>?_,λy z j A o D u=>?_,λx v=>⟨λe=>?_,λe=>?_⟩,λx v=>?_,Qx _,Q,λj e u=>?_,λj e=>by have:=L j e;omega⟩
 .rintro j R ⟨(e | ⟨z,o,e | e⟩) | e,u⟩
  .have U:j=X:=e;have:=h.chain x v;omega
  .have N:z≠x:=λH=>by subst H;exact u e
   have I:=h.win z o j e;rcases Nat.lt_or_gt_of_ne N with H | H
   .have:=p z x H v;omega
   .have:=p x z H o;omega
  .have C:j=l z:=lB e;rw [C];exact B x z v o
  .have:=h.chain x v;have:=L j e;omega
 .have C:j=l z:=lB u;have I:=h.win y A j D;have:=B y z A o;omega
 .have Z:j=l y:=lB D;have T:j=l z:=lB u;rcases Nat.lt_trichotomy y z with e | e | e
  .have:=p y z e o;have:=h.chain z o;omega
  .exact e
  .have:=p z y e A;have:=h.chain y A;omega
 .have I:s x<=X/\X<t x:=h.win x v _ e;have:=h.chain x v;omega
 .have V:X=l x:=lB e;have:=h.chain x v;omega
 .have hl:=λj (e:Mut (b x) (a x) j)=>(h.mach x v).mlt j e;exact ⟨hl _ (.inl rfl),hl _ (.inr (.inl rfl)),hl _ (.inr (.inr (.inl rfl))),hl _ (.inr (.inr (.inr (.inl rfl))))⟩
 .have R:=L j e;rcases u with u | ⟨z,o,u | u⟩
  .exact R.2 u
  .have:=h.win z o j u;have:=h.chain z o;omega
  .have V:j=l z:=lB u;have:=h.chain z o;omega
end
section
variable {E:Nat->Prop} {i:Inp} {w w':R8} {D:WAd} {B:Nat} {M M1:WSt} {x C:Nat}
theorem gS.oth_lt (h:gS E i w D B M):∀k,w.heap.size<=k->¬D.oth (ax i).W E x k:=by
 rintro k hk ⟨e | e,_⟩
 .have:=h.lt k e;omega
 .have:=h.ex k e;omega
theorem gS.restE (h:gS E i w D B M) {k:Nat} (p:x<(ax i).W) (u:pvW (ax i).W x<(ax i).W) (e:E k):D.rest (ax i).W E x k:=
 ⟨.inr e,λo=>h.ne k e (.inr ⟨x,p,.inl o⟩),λo=>h.ne k e (.inr ⟨_,u,.inr o⟩),λo=>h.ne k e (.inr ⟨x,p,.inr o⟩)⟩
theorem gS.try (h:gS E i w D B M) (o:x<(ax i).W) (N:2<=(ax i).W) {m1:Mst} {s1 t1:LSt} (Q:kC (D.rest (ax i).W E x) B w (D.b x) (D.l (pvW (ax i).W x)) (D.l x) i x (D.a x) (D.g (pvW (ax i).W x)) (D.g x) m1 s1 t1 w'):
  D5 E i w D B x ⟨aY M.m x m1,aY (aY M.s (pvW (ax i).W x) s1) x t1⟩ w':=by
 have J:pvW (ax i).W x<(ax i).W:=lO ap;have L:=Kr o N;obtain ⟨a1,g1,hw,hk,hn⟩:=Q;have V:=h.wld o N
 refine h.did o J (C:=N6 (D.b x) (D.a x) (D.l (pvW (ax i).W x)) (D.g (pvW (ax i).W x)) (D.l x) (D.g x)) (λk e=>e.imp id id) hw.mach ?_ hk (λ_=>hw.lf) hw.lt (λe=>absurd e L) (λk e=>hn k (.inl e)) (λk e=>hn k (.inr (.inr e))) (λk e=>⟨λA=>hw.hn k e (.inl (.inr A)),λA=>hw.hn k e (.inl (.inl A)),λA=>hw.hn k e (.inr ?_)⟩)
  (λ_ k e A=>hw.dj k A e) (λk e A=>?_) hw.lo.2
 .rintro k ⟨e,T⟩;by_cases O:eg (D.l x) g1 k
  .exact .inl (.inr O)
  by_cases I:D.li (pvW (ax i).W x) k
  .exact .inl (.inl I)
  refine .inr ?_;rcases e with (e | ⟨y,H,e⟩) | e
  .have U:k=D.X:=e;subst U;exact ⟨.inl (.inl rfl),(h.xm x o).1,I,(h.xm x o).2⟩
  .by_cases v:y=x
   .subst v;rcases e with e | e
    .exact absurd e T
    .refine absurd ?_ O;have R:aY D.g y g1 y=g1:=bE _ _ _;unfold WAd.li WAd.upd at e;simp only [R] at e;exact e
   .have p:D.mu y k\/D.li y k:=by
     unfold WAd.mu WAd.li WAd.upd at e;simp only [bq _ _ v] at e;exact e
    refine ⟨.inl (.inr ⟨y,H,p⟩),λu=>?_,I,λu=>?_⟩
    .rcases p with p | p
     .exact v (h.mm y x k H o p u)
     .exact h.ml x y k o H u p
    .rcases p with p | p
     .exact h.ml y x k H o p u
     .exact v (h.ll y x k H o p u)
  .exact ⟨.inr e,λu=>h.ne k e (.inr ⟨x,o,.inl u⟩),I,λu=>h.ne k e (.inr ⟨x,o,.inr u⟩)⟩
 .exact h.restE o J A
 .exact absurd (h.restE o J A) (hw.ne k (.inr e))
theorem gS.lone (h:gS E i w D B M) (o:x<(ax i).W) {a1:MAd} {m1:Mst} (hm:aU (D.oth (ax i).W E x) w' (D.b x) i x a1 m1) (hk:Keep (λk=>D.mu x k) w w') (J:∀k,Mut (D.b x) a1 k->D.mu x k\/w.heap.size<=k) (Q:Fxd (D.a x) a1):
  D5 E i w D B x ⟨aY M.m x m1,aY (aY M.s x (M.s x)) x (M.s x)⟩ w':=by
 have L:=h.lo x o
 have out:∀k,Mut (D.b x) a1 k->¬D.li x k/\¬E k:=λk e=>by
  rcases J k e with e | e
  .exact ⟨h.ml x x k o o e,λu=>h.ne k u (.inr ⟨x,o,.inl e⟩)⟩
  .exact ⟨λu=>by have:=h.lt k (.inr ⟨x,o,.inr u⟩);omega,λu=>by have:=h.ex k u;omega⟩
 have Z:aV w' B (D.l x) (D.g x) (M.s x):=(h.lnk x o).keep hk (λe=>h.ml x x _ o o e (.inl rfl)) (λj N e=>h.ml x x _ o o e (.inr N)) λj c N hb e=>by
  rcases (h.mach x o).i64 N e with e | e | e<;>omega
 refine h.did o o (C:=λk=>D.mu x k\/D.li x k) (H:=D.oth (ax i).W E x) (a1:=a1) (g1:=D.g x) (m1:=m1) (s1:=M.s x) (t1:=M.s x) (λk e=>e.imp id .inr) hm ?_ (hk.mono λk _ e=>.inl e) (λe=>absurd rfl e) Z (λ_=>rfl) (λk e=>(J k e).imp .inl id) (λk e=>.inl (.inr e)) (λk e=>⟨(out k e).1,(out k e).1,(out k e).2⟩) (λe=>absurd rfl e)
  (λk e u=>h.ne k u (.inr ⟨x,o,.inr e⟩)) (by obtain ⟨T,O,V⟩:=Q;rw [T,O,V];exact L.2)
 rintro k ⟨e,U⟩;rcases e with (e | ⟨y,A,e⟩) | e
 .have Y:k=D.X:=e;subst Y;exact ⟨.inl (.inl rfl),(h.xm x o).1⟩
 .by_cases p:y=x
  .subst p;rcases e with e | e
   .exact absurd e U
   .have R:aY D.g y (D.g y) y=D.g y:=bE _ _ _;unfold WAd.li WAd.upd at e;simp only [R] at e;exact ⟨.inl (.inr ⟨y,A,.inr e⟩),λI=>h.ml y y k A A I e⟩
  .have v:D.mu y k\/D.li y k:=by
    unfold WAd.mu WAd.li WAd.upd at e;simp only [bq _ _ p] at e;exact e
   refine ⟨.inl (.inr ⟨y,A,v⟩),λI=>?_⟩;rcases v with v | v
   .exact p (h.mm y x k A o v I)
   .exact h.ml x y k o A I v
 .exact ⟨.inr e,λI=>h.ne k e (.inr ⟨x,o,.inl I⟩)⟩
theorem KQ (h:x<(ax i).W) (h1:(ax i).W<2):pvW (ax i).W x=x:=by
 unfold pvW;rw [show (ax i).W=1 by omega,Nat.mod_one];omega
theorem ju (h1:(ax i).W<2) {m:Mst} {y:Itm} {h:Acn} (p:(cz i x m.st)[m.nx]?=some y) (o:y.a=some h):False:=by
 have:=zu (kz (du p).2 o);omega
theorem gS.pick (h:gS E i w D B M) (hs:bD i) (o:x<(ax i).W) (hw:WOk i M) (p:(M.s x).msgs.length<100000000000) (v: -9223372036854775808<=i.cfg.rate/\i.cfg.rate<=9223372036854775807) (u: -9223372036854775808<=i.cfg.mom/\i.cfg.mom<=9223372036854775807) (I:Pk i M x M1 C):Calls prog 204 #[.pointer (some ⟨D.b x,0,none⟩),.pointer (some ⟨D.l (pvW (ax i).W x),0,none⟩),.pointer (some ⟨D.l x,0,none⟩)] w λe w'=>e=.returned (RI (C:Nat))/\D5 E i w D B x M1 w':=by
 obtain ⟨m1,s1,t1,hr,rfl⟩:=I;rcases QO (ax i).W 2 with h1 | A
 .rw [KQ o h1] at hr |-
  cases hr with
  | fin hf=>
   refine (EL (h.mach x o) hf _ _).mono ?_;rintro e w' ⟨he,k⟩;exact ⟨he,h.lone o ((h.below k).mach x o) (Keep.below k) (λk e=>.inl e) ⟨rfl,rfl,rfl⟩⟩
  | own y hy ha=>
   refine (Bg (h.mach x o) (λk e O=>O.2 e) h.oth_lt hs hy ((hw.mok x o).okAt hs hy ha) v u _ _).mono ?_;rintro e w' ⟨he,R,Q,h1, -, -,L,N,J,rfl⟩;exact ⟨he,h.lone o h1 (L.mono λk _ e=>e.elim id False.elim) N J⟩
  | send y ac hy ha=>exact (ju h1 hy ha).elim
  | full y ac hy ha=>exact (ju h1 hy ha).elim
  | recv y ac hy ha=>exact (ju h1 hy ha).elim
  | none y ac hy ha=>exact (ju h1 hy ha).elim
  | other y ac hy ha=>exact (ju h1 hy ha).elim
 .refine (NB (h.wld o A) hs (hw.mok x o) (hw.msgI o) p v u hr).mono ?_;rintro e w' ⟨he,H⟩;exact ⟨he,h.try o A H⟩
end
theorem FC {X z b:Nat} {l l' v0 v1:Value} {cnt C:Nat} {w:R8} {R:R8->Prop} (u:∀i,aq w i->Calls prog 43 #[(au X),RI (z:Nat)] i λe h=>e=.returned (.tuple #[.iface 100 ((au b)),l,l',.bool true])/\aq i h) (p:∀i,aq w i->Calls prog 204 #[(au b),l,l'] i λe h=>e=.returned (RI (C:Nat))/\h.heap[X]?=some (.cells #[v0,v1,RI (cnt:Nat)] 99 (0,0))/\R h) (hc:cnt<=1000000000) (I:C=0):Calls prog 14 #[(au X),RI (z:Nat)] w λe i=>e=.returned (.bool true)/\∃v,R v/\i=v.setCell (ar X 2) (RI ((cnt+1:Nat):Int)):=by
 subst I;obtain ⟨x,A⟩:=ae u p;have hm:∀w:R8,(method 483 100 ((au b)) "Do").run prog w=.ok (204,(au b)) w:=λ_=>by kernel_rfl
 have D:=br w;clear u p;go_enter func14,ntmps14;go_wp2_with fail;refine (x.o _ D).mono ?_;rintro e v ⟨rfl,H⟩;go_wp2_with fail;refine (A.o _ H).mono ?_;rintro e L ⟨rfl,y,B⟩;have t:=bx3 y;obtain ⟨J,O⟩:=ae B y;have N:IntKind.i64.wrap ((cnt:Int)+1)=(cnt:Int)+1:=QC _ ap;clear y B;go_wp2_with fail;go_ret;exact ⟨rfl,_,J.o,by push_cast;rfl⟩
theorem Jv {X z b:Nat} {l l':Value} {C:Nat} {w:R8} {R:R8->Prop} (u:∀h,aq w h->Calls prog 43 #[(au X),RI (z:Nat)] h λe i=>e=.returned (.tuple #[.iface 100 ((au b)),l,l',.bool true])/\aq h i) (p:∀h,aq w h->Calls prog 204 #[(au b),l,l'] h λe i=>e=.returned (RI (C:Nat))/\R i) (J:C≠0):Calls prog 14 #[(au X),RI (z:Nat)] w λe h=>e=.returned (.bool false)/\R h:=by
 obtain ⟨v,x⟩:=ae u p;have hm:∀w:R8,(method 483 100 ((au b)) "Do").run prog w=.ok (204,(au b)) w:=λ_=>by kernel_rfl
 have A:=br w;clear u p;go_enter func14,ntmps14;go_wp2_with fail;refine (v.o _ A).mono ?_;rintro e H ⟨rfl,B⟩;go_wp2_with fail;refine (x.o _ B).mono ?_;rintro e L ⟨rfl,y⟩;have D:=aa y;clear y;have I:¬(C:Int)=0:=ap;go_wp2_with fail;go_ret;exact ⟨rfl,D.o⟩
theorem FD {X:Value} {z:Int} {w:R8} (i:∀h,aq w h->Calls prog 43 #[X,RI z] h λe u=>e=.returned (.tuple #[.nilIface,.pointer none,.pointer none,.bool false])/\aq h u):Calls prog 14 #[X,RI z] w λe h=>e=.returned (.bool false)/\aq w h:=by
 have p:=aa i;have x:=br w;clear i;go_enter func14,ntmps14;go_wp2_with fail;refine (p.o _ x).mono ?_;rintro e A ⟨rfl,y⟩;have v:=aa y;go_wp2_with fail;go_ret;exact ⟨rfl,v.o⟩
def tW (D:WAd) (n:Nat):R7:=(List.range n).map λy=>.iface 100 (.pointer (some ⟨D.b y,0,none⟩))
def yU (D:WAd) (n:Nat):R7:=(List.range n).map λy=>.pointer (some ⟨D.l y,0,none⟩)
theorem PB (D:WAd) {n y:Nat} (h:y<n):(tW D n)[y]?=some (.iface 100 (.pointer (some ⟨D.b y,0,none⟩))):=by simp [tW,h]
theorem Oi (D:WAd) {n y:Nat} (h:y<n):(yU D n)[y]?=some (.pointer (some ⟨D.l y,0,none⟩)):=by simp [yU,h]
def WAd.hid (D:WAd) (n:Nat) (E:Nat->Prop) (k:Nat):Prop:=D.all n k\/E k
structure WAt (E:Nat->Prop) (i:Inp) (w:R8) (D:WAd) (B:Nat) (M:WSt):Prop where
 mem:gS E i w D B M
 al:dX i M
 rows:∃AW cw AL cl,w.heap[D.X]?=some (.cells #[.slice AW (ax i).W cw,.slice AL (ax i).W cl,RI (M.sum i:Nat)] 99 (0,0))/\Rd (aH (D.hid (ax i).W E) w) AW (tW D (ax i).W)/\Rd (aH (D.hid (ax i).W E) w) AL (yU D (ax i).W)
section
variable {E:Nat->Prop} {i:Inp} {w w':R8} {D:WAd} {B x:Nat} {M:WSt}
theorem WAt.more {o:Nat->Prop} (h:WAt E i w D B M) (hb:aq w w') (he:∀k,o k->k<w'.heap.size/\(E k\/w.heap.size<=k)):WAt o i w' D B M:=by
 obtain ⟨x,A,u,v,h1,y,C⟩:=h.rows;have p:Ext (aH (D.hid (ax i).W E) w) (aH (D.hid (ax i).W o) w'):=bP (Keep.below hb) λk hk e=>e.imp id λe=>(he k e).2.elim id λe=>absurd hk ap;exact ⟨h.mem.more hb he,h.al,x,A,u,v,(hb.block _ h.mem.xl).trans h1,aW y p,aW C p⟩
theorem WAt.below (h:WAt E i w D B M) (hb:aq w w'):WAt E i w' D B M:=h.more hb λk e=>⟨QE (h.mem.ex k e) hb.size,.inl e⟩
theorem WAt.at (h:WAt E i w D B M) (hs:bD i) (o:x<(ax i).W):Calls prog 43 #[(au D.X),RI (x:Nat)] w λe w'=>e=.returned (.tuple #[.iface 100 (.pointer (some ⟨D.b x,0,none⟩)),.pointer (some ⟨D.l (pvW (ax i).W x),0,none⟩),.pointer (some ⟨D.l x,0,none⟩),.bool true])/\aq w w':=by
 obtain ⟨C,H,y,A,h1,u,v⟩:=h.rows;have p:=hs.ok.W8;exact Oy h1 (aW u (fk _ _)) (aW v (fk _ _)) o ap rfl (PB D o) (Oi D (lO ap)) (Oi D o)
theorem WAt.did (h:WAt E i w D B M) {I:WSt} (L:D5 E i w D B x I w'):∃o,o.X=D.X/\gS E i w' o B I/\Keep (λk=>D.all (ax i).W k/\k≠D.X) w w'/\(∀k,o.all (ax i).W k->D.all (ax i).W k\/w.heap.size<=k)/\
  ∃u A p v,w'.heap[D.X]?=some (.cells #[.slice u (ax i).W A,.slice p (ax i).W v,RI (M.sum i:Nat)] 99 (0,0))/\Rd (aH (o.hid (ax i).W E) w') u (tW o (ax i).W)/\Rd (aH (o.hid (ax i).W E) w') p (yU o (ax i).W):=by
 obtain ⟨a1,g1,h1,y,C⟩:=L;obtain ⟨u,A,p,v,J,N,O⟩:=h.rows;have H:Ext (aH (D.hid (ax i).W E) w) (aH ((D.upd x a1 g1).hid (ax i).W E) w'):=bP (y.mono λk _ e=>.inl e.1) λk hk e=>e.imp (λe=>(C k e).elim id λe=>absurd hk ap) id;exact ⟨D.upd x a1 g1,rfl,h1,y,C,u,A,p,v,(y.block _ h.mem.xl λe=>e.2 rfl).trans J,aW N H,aW O H⟩
theorem WAt.sum_le (h:WAt E i w D B M) (hs:bD i):M.sum i<=1000000000:=by
 have h1:=h.al.sum_le hs;have p:=kQ hs.ok;have o:=qL hs.ok;have u:=hs.s;have v:jh (ax i)*i.cfg.steps.toNat<=810000*6:=Nat.mul_le_mul o ap;omega
theorem Oe (i:Inp) (x p:Nat):sN i x p<=p:=by
 unfold sN fP cB;rw [List.length_map];refine QD (List.length_filter_le _ _) (QD (List.length_filterMap_le _ _) ?_);rw [Rn];omega
theorem EO (f:Nat->Nat):∀{n x:Nat},x<n->f x<=((List.range n).map f).sum
 | 0,_,h=>ap
 | n+1,x,h=>by
  rw [Rx,List.map_append,List.sum_append];simp only [List.map_cons,List.map_nil,List.sum_cons,List.sum_nil,Nat.add_zero];by_cases e:x=n
  .subst e;omega
  .have:=EO f (n:=n) (x:=x) ap;omega
theorem Eu (h:x<(ax i).W):M.pos i x<=M.sum i:=EO _ h
def PV (E:Nat->Prop) (i:Inp) (w:R8) (D:WAd) (B:Nat) (o:WSt) (w':R8):Prop:=∃h,h.X=D.X/\WAt E i w' h B o/\Keep (λk=>D.all (ax i).W k) w w'/\∀k,h.all (ax i).W k->D.all (ax i).W k\/w.heap.size<=k
theorem wF (h:WAt E i w D B M) (hs:bD i) (Y: -9223372036854775808<=i.cfg.rate/\i.cfg.rate<=9223372036854775807) (a0: -9223372036854775808<=i.cfg.mom/\i.cfg.mom<=9223372036854775807) (z:Int):Calls prog 14 #[(au D.X),RI z] w λe w'=>e=.returned (.bool (pkZ i M z).2)/\PV E i w D B (pkZ i M z).1 w':=by
 by_cases hz:0<=z/\z<((ax i).W:Int)
 .obtain ⟨x,rfl⟩:∃x:Nat,z=x:=⟨z.toNat,by omega⟩;have y:x<(ax i).W:=ap;have e1:pkZ i M x=pkF i M x:=by unfold pkZ;rw [if_pos hz,Int.toNat_natCast]
  rw [e1];obtain ⟨C,hp,hb⟩:=uF h.al hs y;obtain ⟨hA, -,O,U⟩:=rV h.al hs y
  have v:(M.s x).msgs.length<100000000000:=by
   have h1:=h.al.ok.sn x y;have h2:=h.al.pos_le hs y;have h3:sN i x (M.pos i x)<=M.pos i x:=Oe i x _;have h4:M.pos i x<=M.sum i:=Eu y;have h5:=h.sum_le hs;omega
  have L:=λw' (q:aq w w')=>(h.below q).at hs y;have I:=λw' (q:aq w w')=>(h.below q).mem.pick hs y h.al.ok v Y a0 hp;by_cases T:C=0
  .have ht:(pkF i M x).2=true:=by rw [hb];simp [T]
   rw [ht];obtain ⟨-, -,J⟩:=O ht;have Z:=h.sum_le hs;obtain ⟨AW,cw,AL,cl,k1,k2,k3⟩:=h.rows;refine (FC (X:=D.X) (v0:=.slice AW (ax i).W cw) (v1:=.slice AL (ax i).W cl) L (R:=λp=>∃o,aq w o/\D5 E i o D B x (pkF i M x).1 p) (λo q=>(I o q).mono λe p A=>⟨A.1,?_,o,q,A.2⟩) Z T).mono ?_
   .obtain ⟨a1,g1, -,Q, -⟩:=A.2;exact (Q.block _ (QE h.mem.xl q.size) λe=>e.2 rfl).trans (sb k1 o q)
   .rintro e w3 ⟨he,p,⟨o,q,V⟩,rfl⟩;obtain ⟨N,u,Q,f3,f4,BW,dw,BL,dl,g1,g2,g3⟩:=(h.below q).did V;have hk:Keep (λk=>k=D.X) p (p.setCell (ar D.X 2) (RI ((M.sum i+1:Nat):Int))):=Keep.setCell (S:=λk=>k=D.X) (Keep.refl _ _) _ (.inr rfl) _;have H:Ext (aH (N.hid (ax i).W E) p) (aH (N.hid (ax i).W E) (p.setCell (ar D.X 2) (RI ((M.sum i+1:Nat):Int)))):=bP (hk.mono λk _ e=>.inl (.inl (e.trans u.symm))) λk _ e=>e;refine ⟨he,N,u,⟨Q.keepQ hk (λk e=>.inl (e.trans u.symm)) (λj c hj _ e=>qy hj g1 (by decide) e),hA,BW,dw,BL,dl,?_,aW g2 H,aW g3 H⟩,?_,λk e=>(f4 k e).imp id λe=>QD q.size e⟩
    .rw [u,J];exact ss g1
    .refine (Keep.below q).trans ((f3.mono λk _ e=>e.1).trans (hk.mono λk _ e=>.inl e))
  .have hf:(pkF i M x).2=false:=by rw [hb];simp [T]
   rw [hf];refine (Jv L (λw' q=>(I w' q).mono λe p A=>⟨A.1,(⟨w',q,A.2⟩:∃o,aq w o/\D5 E i o D B x (pkF i M x).1 p)⟩) T).mono ?_;rintro e p ⟨he,o,q,V⟩;obtain ⟨N,u,Q,f3,f4,f5⟩:=(h.below q).did V;exact ⟨he,N,u,⟨Q,hA,by rw [U hf,u];exact f5⟩,(Keep.below q).trans (f3.mono λk _ e=>e.1),λk e=>(f4 k e).imp id λe=>QD q.size e⟩
 .have e1:pkZ i M z=(M,false):=by unfold pkZ;rw [if_neg hz]
  rw [e1];obtain ⟨AW,cw,AL,cl,h1, -, -⟩:=h.rows;refine (FD λw' q=>yy (sb h1 w' q) ap).mono ?_;rintro e p ⟨he,q⟩;exact ⟨he,D,rfl,h.below q,Keep.below q,λk e=>.inl e⟩
end
theorem Dv {w:R8} {base l c:Nat} (hc:1<=c) (h:c<=1048576) (hb:aC w l (RJ) c 0 0 0):aV w base l none (LSt.new c):=
 ⟨⟨hc,h,Qx _,by simp [LSt.new],QB _,by simp [LSt.new],by simp [LSt.new]⟩,RJ,[],hb,by simpa [LSt.new] using QI _ _ _ _,rfl,by simp [LSt.new],by simp,by simp [LSt.new]⟩
def WMk (i:Inp) (X:Nat) (bs h:List Nat) (rb:Nat->Prop) (w:R8):Prop:=∃b l a s t,bs=(List.range bs.length).map b/\h=(List.range bs.length).map l/\iN i w (X+1) b l a s t bs.length/\X<w.heap.size/\
 ∀j,rb j->X<j/\j<w.heap.size/\∀y,y<bs.length->(j<s y\/t y<=j)/\j≠l y
theorem Bi (b:Nat->Nat) (k v:Nat):(List.range (k+1)).map (aY b k v)=(List.range k).map b++[v]:=by
 rw [Rx,List.map_append]
 congr 1
 .exact List.map_congr_left λx h=>bq _ _ (by have:=List.mem_range.1 h;omega)
 .simp [bE]
theorem WMk.next {i:Inp} {X k D l1 cap:Nat} {bs T:List Nat} {rb u:Nat->Prop} {w I O:R8} {a1:MAd} (h:WMk i X bs T rb w) (hk:bs.length=k) (v:i.cfg.cap.toNat=cap) (hc:1<=cap/\cap<=1048576) (U:aq w I) (L:∀j,Mut D a1 j->w.heap.size<=j) (hm:∀(H:Nat->Prop) w'',Keep (λk=>k<w.heap.size) I w''->(∀k,H k->k<w.heap.size)->aU H w'' D i k a1 (fu i)) (hs:MP X cap rb u l1 I O):WMk i X (bs++[D]) (T++[l1]) u O:=by
 obtain ⟨b,l,a,s,t,h1,R,A,Z,p⟩:=h;rw [hk] at h1 R A p;have V:=U.size;have x:=A.below U;have Q:∀j,(j=X\/rb j)->j<w.heap.size:=λj e=>e.elim (λe=>ap) λe=>(p j e).2.1
 have J:iN i O (X+1) b l a s t k:=x.keep hs.hk λj _ e=>by
  refine ⟨λy N=>?_,λc=>hs.hty j c e⟩;rcases e with rfl | e
  .have:=A.chain y N;omega
  .exact (p j e).2.2 y N
 have Y:=A.more (l1:=l1) ap L hm x J V (hs.hk.mono λj _ e=>.inl (Q j e)) hs.hl.1 hs.hl.2 (λB=>by
  rw [v];exact Dv hc.1 hc.2 hs.hb)
 have o:(bs++[D]).length=k+1:=by simp [hk]
 refine ⟨_,_,_,_,_,?_,?_,by rw [o];exact Y,by have:=hs.hk.size;omega,λj e=>?_⟩
 .rw [o,Bi,<-h1]
 .rw [o,Bi,<-R]
 .rw [o];refine ⟨(hs.hrb j e).elim (λe=>(p j e).1) λe=>ap,hs.hrl j e,λy N=>?_⟩;by_cases C:y=k
  .subst C;simp only [bE];rcases hs.hrb j e with e | e
   .have:=(p j e).2.1;have:=hs.hl.1;omega
   .omega
  .simp only [bq _ _ C];rcases hs.hrb j e with e | e
   .exact (p j e).2.2 y ap
   .have:=A.chain y ap;omega
theorem ud (i:Inp):(fA i).sum i=0:=by
 unfold WSt.sum;have:∀x,(fA i).pos i x=0:=λx=>by simp [WSt.pos,fA,bF,fu]
 rw [List.map_congr_left (g:=λ_=>0) λx _=>this x]
 induction (List.range (ax i).W) with
 | nil=>rfl
 | cons _ l ih=>simpa using ih
def D4 (E:Nat->Prop) (i:Inp) (w:R8) (e:Ending) (h:R8):Prop:=∃D B,e=.returned (.tuple #[(au D.X),RI 0])/\WAt E i h D B (fA i)/\aq w h/\∀j,D.all (ax i).W j->w.heap.size<=j
theorem oK {E:Nat->Prop} (A:N_) (c:Nat) (D:N_) (N:Nat) (T:N_) (ct:Nat) (R:N_) (L:Nat) (i:Inp) (w:R8) (h:gW w A c D T ct R i) (hs:bD i) (hE:∀j,E j->j<w.heap.size):Calls prog 13 #[.agg (aL A c D N T ct R L i)] w (D4 E i w):=by
 obtain ⟨W1,u⟩:∃W1,w.alloc (.cells (aL A c D N T ct R L i) 29)=W1:=⟨_,rfl⟩;have U:aq w W1:=by rw [<-u];exact (br w).alloc (Qx _) _
 have ab:W1.heap.size=w.heap.size+1:=by rw [<-u];simp
 have hg:=hs.g.c;have a8:=hg.w;have a6:=hg.ca;have ew:((ax i).W:Int)=i.cfg.workers:=by simp only [ax];omega
 have ec:((i.cfg.cap.toNat:Nat):Int)=i.cfg.cap:=ap;have ao:=hs.ok.W8;have hI:=λo (q:aq W1 o)=>(h.below U).below q;have I:=λo (q:aq W1 o)=>xT A c D N T ct R L i o (hI o q);have V:=λ(x:Nat) o (q:aq W1 o) (hx:x<(ax i).W)=>Ih A c D N T ct R L i x o (hI o q) hs hx;have hv:aL A c D N T ct R L i=#[.slice A i.cfg.sizes.length c,RI i.cfg.shift,RI i.cfg.rate,RI i.cfg.mom,RI ((ax i).W:Nat),RI i.cfg.batch,RI i.cfg.micros,RI i.cfg.steps,RI i.cfg.bucket,RI i.cfg.chunk,RI i.cfg.window,RI (i.cfg.cap.toNat:Nat),.slice D i.data.length N,.slice T i.start.length ct,.slice R i.draws.length L]:=by rw [ew,ec]
 rw [rt.2 hs.g] at I;rw [hv] at I V u |-;refine (Jw (J:=λX bs ls rb o=>WMk i X bs ls rb o) u ap ap I (λo=>NF _ o ap) (λX o _ hX _=>⟨λ_=>0,λ_=>0,λ_=>⟨0,none,0,0,0,none,0,0,0,0,0,0,0,0,0,none,0,RJ⟩,λ_=>0,λ_=>0,rfl,rfl,iN.zero,hX,λj e=>e.elim⟩) (λX k bs ls rb o hk a4 hX q a0 a5 hJ=>?_)).mono ?_
 .refine (V k o q hk).mono ?_;rintro e w1 ⟨b,a,rfl,Z,a3,hm⟩;exact ⟨b,rfl,Z,λl1 a9 w2 a1=>hJ.next a0 rfl ap Z a3 hm a1⟩
 .rintro e o ⟨X,bs,ls,AW,AL,cw,cl,rfl,m⟩;obtain ⟨b,l,a,s,t,h1,h2,O,h4,h5⟩:=m.j;rw [m.hb] at h1 h2 O h5;have hq:=m.q.size;have a4:=m.lo;have Y:gS E i o ⟨X,b,l,a,λ_=>none⟩ o.heap.size (fA i):=O.mem (Nat.lt_succ_self X) h4 (λj e=>by have:=hE j e;omega) ap
  have H:∀{e:R9} {v:Value} {xs:R7},o.ownsRow (X+1) e 1 v (ax i).W xs->(∀j,v.ownBlock=some j->nm (.slice AW (ax i).W cw) (.slice AL (ax i).W cl) j)->∀A n c',v=.slice A n c'->n=(ax i).W->Rd (aH ((⟨X,b,l,a,λ_=>none⟩:WAd).hid (ax i).W E) o) A xs:=by
   rintro e v xs ho hv A n c' rfl rfl;refine mV (Rd.own ho) λy p C=>?_
   have a7:X+1<=y.block:=by
    rcases ho.2 with ⟨B,_⟩ | ⟨g,_,_,B,_⟩
    .injection B with e1;rw [e1] at p;cases p
    .have Q:=(ho.lt g (by rw [B];simp [Value.ownBlock])).1;injection B with e1;rw [e1] at p;cases p;exact Q
   have a2:nm (.slice AW (ax i).W cw) (.slice AL (ax i).W cl) y.block:=by
    rcases ho.2 with ⟨B,_⟩ | ⟨g,_,_,B,_⟩
    .injection B with e1;rw [e1] at p;cases p
    .have Q:=hv g (by rw [B];simp [Value.ownBlock]);injection B with e1;rw [e1] at p;cases p;exact Q
   have Q:=h5 _ a2;rcases C with (C | ⟨z,hz,C | C⟩) | C
   .have ad:y.block=X:=C;omega
   .have:=O.win z hz _ C;have:=(Q.2.2 z hz).1;omega
   .exact (Q.2.2 z hz).2 (lB C)
   .have:=hE _ C;omega
  refine ⟨⟨X,b,l,a,λ_=>none⟩,o.heap.size,rfl,⟨Y,dX.zero hs,AW,cw,AL,cl,?_,?_,?_⟩,U.trans (m.q.mono ap),?_⟩
  .have:=m.box;rw [ud];exact this
  .have:=H m.oW (λj e=>.inl e) AW _ cw rfl rfl;rw [h1,List.map_map] at this;exact this
  .have:=H m.oL (λj e=>.inr e) AL _ cl rfl rfl;rw [h2,List.map_map] at this;exact this
  .rintro j (e | ⟨y,p,e | e⟩)
   .have hj:j=X:=e;omega
   .have:=O.win y p j e;have:=O.chain y p;omega
   .have hj:j=l y:=lB e;have:=O.chain y p;omega
structure WIn (E:Nat->Prop) (i:Inp) (V:R8) (X:Nat) (M:WSt) (w:R8):Prop where
 ex:∃D B,D.X=X/\WAt E i w D B M/\∀j,D.all (ax i).W j->V.heap.size<=j
 q:aq V w
section
variable {E:Nat->Prop} {i:Inp} {V w w':R8} {X:Nat} {M:WSt}
theorem WIn.below (h:WIn E i V X M w) (hb:aq w w'):WIn E i V X M w':=by
 obtain ⟨⟨D,B,h1,o,u⟩,p⟩:=h;exact ⟨⟨D,B,h1,o.below hb,u⟩,bt p hb⟩
theorem D4.win {e:Ending} (h:D4 E i w e w'):∃X,e=.returned (.tuple #[(au X),RI 0])/\WIn E i w X (fA i) w'/\w.heap.size<=X/\aq w w':=by
 obtain ⟨D,B,h1,u,p,o⟩:=h;exact ⟨D.X,h1,⟨⟨D,B,rfl,u,o⟩,p⟩,o _ (.inl rfl),p⟩
theorem WIn.pick (h:WIn E i V X M w) (hs:bD i) (o: -9223372036854775808<=i.cfg.rate/\i.cfg.rate<=9223372036854775807) (p: -9223372036854775808<=i.cfg.mom/\i.cfg.mom<=9223372036854775807) (z:Int):Calls prog 14 #[(au X),RI z] w λe w'=>e=.returned (.bool (pkZ i M z).2)/\WIn E i V X (pkZ i M z).1 w':=by
 obtain ⟨⟨D,B,rfl,H,v⟩,u⟩:=h;refine (wF H hs o p z).mono ?_;rintro e w' ⟨he,J,x,L,y,I⟩;have A:=u.size;exact ⟨he,⟨J,B,x,L,λj C=>(I j C).elim (v j) λh=>ap⟩,u.trans (y.toBelow A v)⟩
theorem WIn.done (h:WIn E i V X M w) (hs:bD i) {Bo:Bool} (hB:Bo=true↔M.fin i):Calls prog 26 #[(au X)] w λe w'=>e=.returned (.bool Bo)/\aq w w':=by
 obtain ⟨⟨D,B,rfl,v,Y⟩,T⟩:=h;obtain ⟨U,Z,Q,cl,I,L,R⟩:=v.rows;have N:=hs.ok.W8;have O:((List.range (ax i).W).map D.b).map (λb=>Value.iface 100 ((au b)))=tW D (ax i).W:=by rw [List.map_map];rfl
 refine FS (ok:=λx=>decide (M.pos i x<(dC i x).length)) (bs:=(List.range (ax i).W).map D.b) I (by rw [O];exact aW L (fk _ _)) (by simp) ap ?_ λx b w' hb q=>?_
 .rw [hB];constructor
  .intro C x p;have:=C x p;simp [this]
  .intro C x p;have J:=C x p;have h6:=v.al.pos_le hs p;simp only [RE] at J;omega
 .have p:x<(ax i).W:=by
   have:=(Ri.1 hb).1;simpa using this
  have A:b=D.b x:=by
   rw [List.getElem?_map,List.getElem?_range p] at hb;simpa using hb.symm
  subst A;have hm:=(v.below q).mem.mach x p;have u:=v.al.ok.mok x p
  cases hy:(cz i x (M.m x).st)[(M.m x).nx]? with
  | none=>
   refine (yS hm (List.getElem?_eq_none_iff.1 hy)).mono ?_;rintro e H ⟨rfl,k⟩;have o:=u.cur hs;rw [hy] at o;have:=List.getElem?_eq_none_iff.1 o.symm;exact ⟨_,by rw [show decide (M.pos i x<(dC i x).length)=false from RD (by unfold WSt.pos;omega)],⟨rfl,by decide⟩,k⟩
  | some y=>
   refine (jQ hm hy).mono ?_;rintro e H ⟨rfl,k⟩;have o:=u.cur hs;rw [hy] at o;have:=(Ri.1 o.symm).1;exact ⟨_,by rw [show decide (M.pos i x<(dC i x).length)=true from RC this],⟨by simp [sk],by rw [List.all_eq_true];exact EQ y⟩,k⟩
end
theorem FB {X:Value} {z b:Nat} {la lb:Value} {R:Ending->R8->Prop} {w:R8} (p:Calls prog 43 #[X,RI (z:Nat)] w λe h=>e=.returned (.tuple #[.iface 100 ((au b)),la,lb,.bool true])/\aq w h) (i:∀x,aq w x->Calls prog 208 #[(au b)] x λe h=>(∃v,e=.returned v)/\R e h):Calls prog 35 #[X,RI (z:Nat)] w R:=by
 have hm:∀(w:R8),(method 483 100 ((au b)) "Trajectory").run prog w=.ok (208,(au b)) w:=λ_=>by kernel_rfl
 obtain ⟨u,B⟩:=ae p i;clear p i;go_enter func35,ntmps35;go_wp2_with fail;refine u.o.mono ?_;rintro e A ⟨rfl,y⟩;have C:=aa (B.o A y);clear y;go_wp2_with fail;refine C.o.mono ?_;rintro e H ⟨⟨v,rfl⟩,hr⟩;have D:=aa hr;clear hr;go_wp2_with fail;exact D.o
section
variable {E:Nat->Prop} {i:Inp} {V w w':R8} {X:Nat} {M:WSt}
theorem If (hs:bD i) {x:Nat} {m:Mst} (h:MOk i x m):m.rc.length<=100:=by
 have h1:=h.rc;have p:=hs.s;rcases h.ps with o | o<;>omega
theorem WIn.trajIn (h:WIn E i V X M w) (hs:bD i) {x:Nat} (p:x<(ax i).W):Calls prog 35 #[(au X),RI (x:Nat)] w λe w'=>∃v,e=.returned v/\StL w.heap.size w' (M.m x).rc v/\aq w w':=by
 obtain ⟨⟨D,B,rfl,u,O⟩,N⟩:=h;refine (FB (R:=λe w'=>∃v,e=.returned v/\StL w.heap.size w' (M.m x).rc v/\aq w w') (u.at hs p) λL q=>?_).mono λe w' hr=>hr;have o:=u.al.ok.mok x p;refine (Ic ((u.below q).mem.mach x p) o.rl hs.n (If hs o)).mono ?_;rintro e Q ⟨v,rfl,C,J⟩;obtain ⟨rows,H,y,I,A⟩:=C;exact ⟨⟨v,rfl⟩,v,rfl,⟨rows,aF H q.size,y,I,λj x p=>(A j x p).base q.size⟩,bt q J⟩
end
theorem WIn.fin {E:Nat->Prop} {i:Inp} {V w:R8} {X:Nat} {M:WSt} (h:WIn E i V X M w) (hs:bD i) (x: -9223372036854775808<=i.cfg.rate/\i.cfg.rate<=9223372036854775807) (y: -9223372036854775808<=i.cfg.mom/\i.cfg.mom<=9223372036854775807) {most:Int} (hm:most<=1000000):Calls prog 34 #[(au X),RI most] w λe p=>e=.returned (.tuple #[RI ((wn i M most).2:Nat),.bool (DI i (wn i M most).1)])/\WIn E i V X (wn i M most).1 p:=by
 have H:=hs.ok.W8;have v:1<=(ax i).W:=by have:=hs.g.c.w;simp only [ax];omega
 refine JF (st:=pkZ i) (fin:=DI i) (I:=λp u=>WIn E i V X u p) v ap hm (λp u o=>?_) (λp u o=>?_) (λp u z o _=>o.pick hs x y z) h
 .obtain ⟨⟨D,B,rfl,J, -⟩, -⟩:=o;obtain ⟨C,L,N,O,A,Q,R⟩:=J.rows;exact ⟨C,L,_,_,A⟩
 .refine (o.done hs BE).mono ?_;rintro e T ⟨he,q⟩;exact ⟨he,o.below q⟩
theorem jL (w:R8):Calls prog 9 #[] w λe h=>e=.returned (.bool true)/\aq w h:=by
 go_enter func9,ntmps9;go_wp2_with fail;refine (FG w).mono ?_;rintro e w0 ⟨b,b2,b3,b4,b5,b6,b7,b8,rfl,h0,h2,h3,h4,h5,h6,h7,h8,k0⟩;have u:=Ov h0 h2 h3 h4 h5 h6 h7 h8;have hc:=oK (E:=λ_=>False) (some (ar b 0)) 2 (some (ar b6 0)) 2 (some (ar b7 0)) 2 (some (ar b8 0)) 2 smK w0 u jY (λ_ e=>e.elim);obtain ⟨HC,I,Y,T⟩:=ag hc k0 u.ra u.rm;clear h0 h2 h3 h4 h5 h6 h7 h8 u hc k0;go_wp2_with fail;refine Calls.mono HC.o ?_;rintro e w1 hn;obtain ⟨X,rfl,hw, -,q1⟩:=hn.win;have hf:=hw.fin jY Y.o T.o (most:=100) ap;obtain ⟨Hf,Q1⟩:=ae hf (I.o.trans (q1.mono I.o.size));clear hn hw q1 hf HC;go_wp2_with fail;refine Hf.o.mono ?_;rintro e w2 ⟨rfl,i⟩;have q2:=i.q;have O:=λh (q:aq w2 h)=>(i.below q).trajIn jY (x:=1) (by decide);have hx:=λh (q:aq w2 h)=>(i.below q).done jY (Bo:=true) ⟨λ_=>Ed,λ_=>rfl⟩;rw [Ow] at O;obtain ⟨HX,HT,Q2⟩:=af hx O (I.o.trans (q2.mono I.o.size));clear Hf i q2 hx O;go_wp2_with fail;refine (HT.o _ (br w2)).mono ?_;rintro e H ⟨v,rfl,Z,R⟩;obtain ⟨A,c,rfl,hc⟩:=Z.form;have U:2<=c:=hc;have hl:(qK smK 2).length=2:=rfl;obtain ⟨B,o,A1,c1,A2,c2,rfl,g1,Q,g3,J, -⟩:=iG Z.rd (j:=1) (x:=eE smK 1) rfl;rw [Jy] at Q J;obtain ⟨b1,o1,rfl,D⟩:=J.hr.num (k:=0) (by decide);obtain ⟨a1,a0,C,L⟩:=J.hr.num (k:=1) (by decide);injection C with C
 injection C with C e2
 subst C e2;have l1:=aB D;rw [Nat.add_zero,show nth [-4, -2] 0= -4 from rfl] at D;rw [show nth [-4, -2] 1= -2 from rfl] at L;obtain ⟨C0,C1,C2,Q3,V⟩:=ah (λh (q:aq H h)=>(q.cell (p:=(ar b1 o1)) l1).trans D) (λh (q:aq H h)=>(q.cell (p:=(ar b1 (o1+1))) l1).trans L) (λh (q:aq H h)=>(q.cell (p:=(ar B (o+1*2))) g1).trans Q) (Q2.o.trans (R.mono Q2.o.size)) (HX.o H R);rw [hl];clear D L g1 Q g3 J Z hc U hl l1 R HX HT;go_wp2_with fail;refine V.o.mono ?_;rintro e N ⟨rfl,y⟩;have D:=C0.o N y;have L:=C1.o N y;have p2:=C2.o N y;have Q4:=aa (Q3.o.trans (y.mono Q3.o.size));clear y;go_wp2_with fail;go_ret;exact ⟨rfl,Q4.o⟩
end Go.Proofs.YtindmkcnjlgomaaGreat
