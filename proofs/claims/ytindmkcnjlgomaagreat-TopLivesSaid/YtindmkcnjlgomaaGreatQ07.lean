/- No condition. -/
import Derived.Test.YtindmkcnjlgomaaGreatQ06
import Derived.Laws.CopyOwn
import Derived.WalkMore
import Derived.Deep.LoopGhost
set_option linter.unusedSimpArgs false
set_option linter.unusedVariables false
set_option maxRecDepth 100000
set_option maxHeartbeats 4000000
namespace Go.Proofs.YtindmkcnjlgomaaGreat
open Go.RowKit
open Tryz
structure Cor where
 st:Nat
 bk:Nat
 ph:Nat
 rd:Nat
 ch:Nat
 at':Rg
def Acn.cor (a:Acn):Cor:=⟨a.st,a.bk,a.ph,a.rd,a.ch,a.at'⟩
def cB (l:List Itm):List Acn:=l.filterMap (·.a)
def fP (l:List Itm):List Cor:=((cB l).filter λa=>a.send).map Acn.cor
def gw (l:List Itm):List Cor:=((cB l).filter λa=> !a.send).map Acn.cor
theorem fp (l r:List Itm):cB (l++r)=cB l++cB r:=List.filterMap_append ..
theorem oT (l r:List Itm):fP (l++r)=fP l++fP r:=by simp [fP,fp]
theorem rS (l r:List Itm):gw (l++r)=gw l++gw r:=by simp [gw,fp]
theorem mC {α:Type} (l:List α) (f:α->List Itm):cB (l.flatMap f)=l.flatMap λx=>cB (f x):=by
 induction l with
 | nil=>rfl
 | cons x l ih=>rw [List.flatMap_cons,fp,ih,List.flatMap_cons]
theorem eR {α β:Type} {l:List α} {f g:α->List β} (h:∀x∈l,f x=g x):l.flatMap f=l.flatMap g:=by
 induction l with
 | nil=>rfl
 | cons x l ih=>rw [List.flatMap_cons,List.flatMap_cons,h x (by simp),ih λy i=>h y (by simp [i])]
theorem sE {α:Type} (l:List α) (f:α->Itm) (h:∀x,(f x).a=none):cB (l.map f)=[]:=by
 induction l with
 | nil=>rfl
 | cons x l ih=>rw [List.map_cons,cB,List.filterMap_cons,h x];exact ih
theorem D2 (p:Pln) (w st ph r j:Nat):cB (cq p w st ph r j)=cZ st j (aK p.buks j) p.W p.ck w ph r:=by
 unfold cq cB;rw [List.filterMap_map];generalize cZ st j (aK p.buks j) p.W p.ck w ph r=l
 induction l with
 | nil=>rfl
 | cons x l ih=>rw [List.filterMap_cons];show x::_=_;rw [ih]
def oD (p:Pln) (w st a n:Nat):List Acn:=(List.range 2).flatMap λph=>(List.range (p.W-1)).flatMap λr=>(List.range n).flatMap λj=>cZ st (a+j) (aK p.buks (a+j)) p.W p.ck w ph r
theorem D3 (p:Pln) (w st:Nat) (g:Rg):cB (dx p w st g)=oD p w st g.1 (g.2-g.1):=by
 unfold dx oD;rw [fp,fp,sE _ _ (λ_=>rfl),sE _ _ (λ_=>rfl),List.append_nil,List.nil_append,mC];refine eR λph _=>?_;rw [mC];refine eR λr _=>?_;rw [mC,List.range'_eq_map_range,List.flatMap_map];exact eR λj _=>D2 p w st ph r _
def oC (p:Pln) (w st:Nat):List Acn:=(List.range (di p.buks.length p.wi)).flatMap λk=>oD p w st (k*p.wi) (min (k*p.wi+p.wi) p.buks.length-k*p.wi)
theorem jW (p:Pln) (w st:Nat):cB (aE p w st)=oC p w st:=by
 unfold aE oC;rw [fp,fp,sE _ _ (λ_=>rfl),List.nil_append,mC]
 show _++[]=_
 rw [List.append_nil,Pln.grps,fv,List.flatMap_map];exact eR λk _=>D3 p w st _
theorem vS (i:Inp) (x k:Nat):cB (iL i x k)=(List.range k).flatMap λst=>oC (ax i) x st:=by
 unfold iL;rw [mC];exact eR λst _=>jW _ _ _
theorem qj {β:Type} (f:Nat->β) (a:Nat):∀m,((List.range m).flatMap λi=>if i<a then [f i] else [])=(List.range (min m a)).map f
 | 0=>by simp
 | m+1=>by
  rw [Rx,List.flatMap_append,qj f a m];by_cases h:m<a
  .rw [show min (m+1) a=min m a+1 by omega,Rx,List.map_append];simp [h,show min m a=m by omega]
  .rw [show min (m+1) a=min m a by omega];simp [h]
theorem GF (x y:List Rg) (f g:Nat->Rg->Acn) (o:∀i r,(f i r).send=true) (hg:∀i r,(g i r).send=false):(iR x y f g).filter (λa=>a.send)=(List.range x.length).map λi=>f i (aK x i):=by
 unfold iR;rw [List.filter_flatMap]
 have:∀i:Nat,List.filter (λa:Acn=>a.send) ((if i<x.length then [f i (aK x i)] else [])++(if i<y.length then [g i (aK y i)] else []))=if i<x.length then [f i (aK x i)] else []:=λi=>by
  by_cases h1:i<x.length<;>by_cases h:i<y.length<;>simp [h1,h,o,hg]
 simp only [this];rw [qj (λi=>f i (aK x i)),show min (max x.length y.length) x.length=x.length by omega]
theorem GG (x y:List Rg) (f g:Nat->Rg->Acn) (o:∀i r,(f i r).send=true) (hg:∀i r,(g i r).send=false):(iR x y f g).filter (λa=> !a.send)=(List.range y.length).map λi=>g i (aK y i):=by
 unfold iR;rw [List.filter_flatMap]
 have:∀i:Nat,List.filter (λa:Acn=> !a.send) ((if i<x.length then [f i (aK x i)] else [])++(if i<y.length then [g i (aK y i)] else []))=if i<y.length then [g i (aK y i)] else []:=λi=>by
  by_cases h1:i<x.length<;>by_cases h:i<y.length<;>simp [h1,h,o,hg]
 simp only [this];rw [qj (λi=>g i (aK y i)),show min (max x.length y.length) y.length=y.length by omega]
theorem zQ {W x ph r:Nat} (hr:r<W-1):cT W x ph r=cE W ((x+1)%W) ph r:=by
 unfold cT cE;rw [Nat.mod_add_mod]
 congr 1
 omega
theorem CM (st bk:Nat) (b:Rg) (W c x ph r:Nat) (hr:r<W-1):((cZ st bk b W c x ph r).filter λa=>a.send).map Acn.cor=((cZ st bk b W c ((x+1)%W) ph r).filter λa=> !a.send).map Acn.cor:=by
 unfold cZ;rw [GF _ _ _ _ (λ_ _=>rfl) (λ_ _=>rfl),GG _ _ _ _ (λ_ _=>rfl) (λ_ _=>rfl),<-zQ hr,List.map_map,List.map_map];rfl
theorem nQ (i:Inp) (x k:Nat):fP (iL i x k)=gw (iL i ((x+1)%(ax i).W) k):=by
 unfold fP gw;rw [vS,vS];simp only [oC,oD,List.filter_flatMap,List.map_flatMap];refine eR λst _=>eR λg _=>eR λph _=>eR λr hr=>eR λj _=>?_;exact CM _ _ _ _ _ _ _ _ (List.mem_range.1 hr)
def Cor.q (wi:Nat) (c:Cor):Nat:=((((c.st*64+c.bk/wi)*2+c.ph)*64+c.rd)*64+c.bk)*128+c.ch
def Acn.key (wi:Nat) (a:Acn):Nat:=2*a.cor.q wi+(if a.send then 0 else 1)
theorem lZ {st bk:Nat} {b:Rg} {W c x ph r:Nat} {a:Acn} (h:a∈cZ st bk b W c x ph r):a.st=st/\a.bk=bk/\a.ph=ph/\a.rd=r/\a.ch<(cZ st bk b W c x ph r).length:=by
 rw [j8];unfold cZ iR at h;obtain ⟨i,o,h⟩:=List.mem_flatMap.1 h;rw [List.mem_range] at o;rw [Rw] at h;rcases h with h | h<;>split at h
 .simp only [List.mem_singleton] at h;subst h;exact ⟨rfl,rfl,rfl,rfl,by show i<_;omega⟩
 .simp at h
 .simp only [List.mem_singleton] at h;subst h;exact ⟨rfl,rfl,rfl,rfl,by show i<_;omega⟩
 .simp at h
theorem ma {β:Type} {R:β->β->Prop} {n:Nat} {f:Nat->List β} (h1:∀k,k<n->(f k).Pairwise R) (u:∀k h,k<h->h<n->∀a∈f k,∀b∈f h,R a b):((List.range n).flatMap f).Pairwise R:=by
 rw [List.pairwise_flatMap];refine ⟨λk hk=>h1 k (List.mem_range.1 hk),?_⟩;refine List.Pairwise.imp_of_mem ?_ (List.pairwise_lt_range (n:=n));intro k h _ i o;exact λa p b hb=>u k h o (List.mem_range.1 i) a p b hb
theorem J5 (wi st bk:Nat) (b:Rg) (W c x ph r:Nat):(cZ st bk b W c x ph r).Pairwise λa b=>a.key wi<b.key wi:=by
 unfold cZ iR;refine ma (λk _=>?_) (λk p o _ a i d h=>?_)
 .split<;>split<;>simp [Acn.key,Acn.cor,Cor.q]
 .rw [Rw] at i h
  have u:a.key wi<=2*(((((st*64+bk/wi)*2+ph)*64+r)*64+bk)*128+k)+1:=by
   rcases i with i | i<;>split at i
   .simp only [List.mem_singleton] at i;subst i;simp only [Acn.key,Acn.cor,Cor.q];split<;>omega
   .simp at i
   .simp only [List.mem_singleton] at i;subst i;simp only [Acn.key,Acn.cor,Cor.q];split<;>omega
   .simp at i
  have v:2*(((((st*64+bk/wi)*2+ph)*64+r)*64+bk)*128+p)<=d.key wi:=by
   rcases h with h | h<;>split at h
   .simp only [List.mem_singleton] at h;subst h;simp only [Acn.key,Acn.cor,Cor.q];split<;>omega
   .simp at h
   .simp only [List.mem_singleton] at h;subst h;simp only [Acn.key,Acn.cor,Cor.q];split<;>omega
   .simp at h
  omega
structure InS (p:Pln) (st:Nat) (a:Acn):Prop where
 st:a.st=st
 g:a.bk/p.wi<64
 ph:a.ph<2
 rd:a.rd<64
 bk:a.bk<64
 ch:a.ch<128
theorem sG {p:Pln} (h:bT p) {w st s n:Nat} (hn:s+n<=p.buks.length) {a:Acn} (i:a∈oD p w st s n):InS p st a/\s<=a.bk/\a.bk<s+n:=by
 simp only [oD,List.mem_flatMap,List.mem_range] at i;obtain ⟨ph,u,r,hr,j,y,i⟩:=i;obtain ⟨h1,A,D,B,C⟩:=lZ i;have hb:=h.buks;have o:=h.round w st ph r (s+j);rw [cq,List.length_map] at o;have x:=h.W8;have v:=Nat.div_le_self a.bk p.wi;exact ⟨⟨h1,by omega,by omega,by omega,by omega,by omega⟩,by omega,by omega⟩
theorem qs {wi:Nat} {a b:Acn} (h:a.cor.q wi<b.cor.q wi):a.key wi<b.key wi:=by
 unfold Acn.key;split<;>split<;>omega
theorem MJ {p:Pln} (h:bT p) (w st k n:Nat) (hn:k*p.wi+n<=p.buks.length) (hw:n<=p.wi):(oD p w st (k*p.wi) n).Pairwise λa b=>a.key p.wi<b.key p.wi:=by
 have hb:=h.buks
 have L:∀j,j<n->(k*p.wi+j)/p.wi=k:=λj v=>by
  rw [Nat.mul_comm,Nat.mul_add_div (by have:=h.wi;omega),Nat.div_eq_of_lt ap,Nat.add_zero]
 have hm:∀{ph r j:Nat} {a:Acn},a∈cZ st (k*p.wi+j) (aK p.buks (k*p.wi+j)) p.W p.ck w ph r->j<n->a.cor.q p.wi=((((st*64+k)*2+ph)*64+r)*64+(k*p.wi+j))*128+a.ch/\a.ch<128:=λ{ph r j a} o v=>by
  obtain ⟨h1,Q,U,T,Y⟩:=lZ o;have A:=h.round w st ph r (k*p.wi+j);rw [cq,List.length_map] at A;refine ⟨?_,by omega⟩;simp only [Cor.q,Acn.cor,h1,Q,U,T,L j v]
 have V:=h.W8;unfold oD;refine ma (λph R=>ma (λr hr=>ma (λj v=>J5 _ _ _ _ _ _ _ _ _) ?_) ?_) ?_
 .intro j B x u a o b i;obtain ⟨H,D⟩:=hm o ap;obtain ⟨I,J⟩:=hm i u;exact qs ap
 .intro r O x y a o b i;simp only [List.mem_flatMap,List.mem_range] at o i;obtain ⟨j,v,o⟩:=o;obtain ⟨B,u,i⟩:=i;obtain ⟨H,D⟩:=hm o v;obtain ⟨I,J⟩:=hm i u;exact qs ap
 .intro ph N x C a o b i;simp only [List.mem_flatMap,List.mem_range] at o i;obtain ⟨r,hr,j,v,o⟩:=o;obtain ⟨O,y,B,u,i⟩:=i;obtain ⟨H,D⟩:=hm o v;obtain ⟨I,J⟩:=hm i u;exact qs ap
theorem mD {p:Pln} (h:bT p) {k:Nat} (hk:k<di p.buks.length p.wi):k*p.wi+(min (k*p.wi+p.wi) p.buks.length-k*p.wi)<=p.buks.length/\min (k*p.wi+p.wi) p.buks.length-k*p.wi<=p.wi:=by
 have:=iI hk;omega
theorem sF {p:Pln} (h:bT p) {w st:Nat} {a:Acn} (i:a∈oC p w st):InS p st a:=by
 simp only [oC,List.mem_flatMap,List.mem_range] at i;obtain ⟨k,hk,i⟩:=i;exact (sG h (mD h hk).1 i).1
theorem Ca {p:Pln} (h:bT p) (w st:Nat):(oC p w st).Pairwise λa b=>a.key p.wi<b.key p.wi:=by
 unfold oC;refine ma (λk hk=>MJ h w st k _ (mD h hk).1 (mD h hk).2) ?_;intro k B u i a y b hb;have g1:=mD h (show k<di p.buks.length p.wi by omega);have o:=mD h i;obtain ⟨m1,C,H⟩:=sG h g1.1 y;obtain ⟨x,A,I⟩:=sG h o.1 hb;have v:=h.wi
 have D:a.bk/p.wi<=k:=by
  have:=Nat.div_lt_of_lt_mul (show a.bk<p.wi*(k+1) by rw [Nat.mul_add,Nat.mul_comm];omega);omega
 have J:B<=b.bk/p.wi:=(Nat.le_div_iff_mul_le ap).2 A;refine qs ?_;have:=m1.ph;have:=m1.rd;have:=m1.bk;have:=m1.ch;have:=m1.st;have:=x.st;simp only [Cor.q,Acn.cor];omega
theorem zt {i:Inp} (h:bT (ax i)) (x k:Nat):(cB (iL i x k)).Pairwise λa b=>a.key (ax i).wi<b.key (ax i).wi:=by
 rw [vS];refine ma (λst _=>Ca h x st) ?_;intro st v o _ a u b hb;have m1:=sF h u;have p:=sF h hb;refine qs ?_;have:=m1.ph;have:=m1.rd;have:=m1.bk;have:=m1.ch;have:=m1.st;have g1:=m1.g;have:=p.st;simp only [Cor.q,Acn.cor];generalize a.bk/(ax i).wi=ga at g1 |-;generalize b.bk/(ax i).wi=gb;omega
theorem Cp (S n b steps t:Nat) (l:Q_) (w:R8) (h:gH w S n b steps l) (hb:1<=b) (hn:n<=1048576) (y:1<=n/b) (V:steps<=1048576) (ht:t<steps):Calls prog 234 #[(au S),RI t] w λe w'=>∃A c,e=.returned (.slice A b c)/\b<=c/\Rd w' A (aA .i64 (de l n b t))/\aq w w':=by
 have u:=CA S n b steps t l w h hn y V ht;obtain ⟨Ab,cb,Ao,co,vs,h1,Q,h3,h4,h5⟩:=h;have a0:=Nat.div_le_self n b;have he:=BH (n:=n) (b:=b) ht;have hm:=Nat.mod_lt t y;have I:=qE n b _ hm;have N:=Ft n b _ hb hm;have i:=DV (n-n%b) b hm;rw [N] at i;obtain ⟨A1,c1,k1,k2,R⟩:=h5 _ he;have D:de l n b t=((gC l n ((t/(n/b))*(n-1))).drop (t%(n/b)*b)).take b:=rfl;rw [D];have a1:epN n b steps<=steps:=fE _ _;obtain ⟨pl,B⟩:∃pl,gC l n ((t/(n/b))*(n-1))=pl:=⟨_,rfl⟩;have a2:pl.length=n:=by rw [<-B];exact jO _ _ _
 rw [B] at R |-;obtain ⟨E,hE⟩:∃E,epN n b steps=E:=⟨_,rfl⟩;rw [hE] at he h1 h4 a1;obtain ⟨U,C⟩:∃U,t/(n/b)=U:=⟨_,rfl⟩;obtain ⟨T,O⟩:∃T,t%(n/b)=T:=⟨_,rfl⟩;rw [C] at u he k1;rw [O] at u hm I i |-;obtain ⟨nb,x⟩:∃nb,n/b=nb:=⟨_,rfl⟩;rw [x] at h1 Q y hm a0 i;obtain ⟨lo,J⟩:∃lo,T*b=lo:=⟨_,rfl⟩;rw [J] at I i |-;obtain ⟨bb,ob,rfl,q0⟩:=Q _ _ i.1;obtain ⟨_,_,e2,q1⟩:=Q _ _ i.2;injection e2 with e2;injection e2 with i1 i2 _;subst i1;subst i2
 obtain ⟨bo,oo,rfl,q2⟩:=h3 _ _ k1;obtain ⟨bg,og,rfl,q3⟩:=R.num (show 0<pl.length by omega);rw [<-Rz] at q1;have a8:(T:Int)<nb:=ap;have aP:(U:Int)<E:=ap;have a5:(lo:Int)<=((lo+b:Nat):Int):=ap;have ad:((lo+b:Nat):Int)<=c1:=ap;have a9:lo<=lo+b:=ap;have ao:lo+b<=c1:=ap;have aM:¬(c1=lo):=ap;have b1:bo<w.heap.size:=aB q2;have b2:bb<w.heap.size:=aB q0;obtain ⟨⟨r0,r1,r2,r3⟩,rf⟩:=bx4 h1;have b3:S<w.heap.size:=Qw h1;obtain ⟨H1,Y,K3⟩:=af h1 u R;clear u R h1 Q h3 h4 h5 hE C O x J B a2 i k1 q3 N D;go_enter func234,ntmps234;go_wp2_with fail;refine Y.o.mono ?_;rintro e w' ⟨rfl,d,rfl⟩;have p:aq w (w.drewN d):=QH (QA _ _) d;have v:(w.drewN d).heap.size=w.heap.size:=by simp
 generalize w.drewN d=w1 at p v |-;have ab:=aw p q0;have a7:=aw p q1;have b0:=aw p q2;have H:=(p.block _ b3).trans H1.o;obtain ⟨⟨y0,y1,y2,y3⟩,yf⟩:=bx4 H;rw [<-v] at b1 b2 b3;obtain ⟨L,Z⟩:=ae p v;clear q0 q1 q2 r0 r1 r2 r3 rf p v H;go_wp2_with fail;have av:(lo:Int)+b<=c1:=ap;have aG:((lo:Int)+b).toNat=lo+b:=ap;have a4:(0:Int)<=(lo:Int)+b:=ap;have aR:(lo:Int)<=(lo:Int)+b:=ap;have a3:lo+b-lo=b:=ap;have a6:¬(lo+b=lo):=ap
 go_quiet (fail)
 go_wp2_with fail;go_ret;refine ⟨_,_,rfl,Qx _,?_,QH (L.o.alloc (by have:=Z.o;omega) _) _⟩;have:=((((K3.o.below L.o).alloc (.cells #[RI (lo:Int),RI ((lo:Int)+b)] 69)).drewN nq).drop lo).take b
 rwa [dL,dE] at this
def cQ (l:Q_) (k i:Nat):Q_:=(l.drop (bdN l.length k i)).take (bdN l.length k (i+1)-bdN l.length k i)
theorem kg (l:Q_) {k i:Nat} (hk:1<=k) (h:i<k):(cQ l k i).length=bdN l.length k (i+1)-bdN l.length k i:=by
 have h1:=fY l.length k (i+1) hk h;simp only [cQ,Rn,Rq];omega
def iV (l:Q_) (W x mi a:Nat):Q_:=cQ (cQ l W x) mi a
def Cc (L:Q_) (m:Nat) (w:R8) (e:Ending) (h:R8):Prop:=∃i o,e=.returned (.slice i m o)/\m<=o/\Rd h i (aA .i64 L)/\aq w h
theorem xx (A:N_) (l:Q_) (c k i:Nat) (w:R8) (hA:Rd w A (aA .i64 l)) (hc:l.length<=c) (hl:l.length<=1048576) (hn:0<l.length) (hk:1<=k) (I:k<=1048576) (H:i<k):Calls prog 235 #[.slice A l.length c,RI i,RI k] w (Cc (cQ l k i) (cQ l k i).length w):=by
 have p:=vx l.length k w hk I hl;obtain ⟨b,o,rfl,_⟩:=hA.num hn;have u:=kg l hk H;have D:cQ l k i=(l.drop (bdN l.length k i)).take (bdN l.length k (i+1)-bdN l.length k i):=rfl;have h1:=ky l.length k (Nat.le_succ i);have N:=fY l.length k (i+1) hk H;have hg:=eA (l:=fz l.length k) (j:=i) (by rw [eH];exact H)
 have hr:aK (fz l.length k) i=(bdN l.length k i,bdN l.length k (i+1)):=by
  rw [cX _ _ (by rw [eH];exact H)];simp [fz]
 rw [hr] at hg;rw [u];obtain ⟨P,hP⟩:∃P,cQ l k i=P:=⟨_,rfl⟩;obtain ⟨lo,C⟩:∃lo,bdN l.length k i=lo:=⟨_,rfl⟩;obtain ⟨h,x⟩:∃h,bdN l.length k (i+1)=h:=⟨_,rfl⟩;simp only [Nat.succ_eq_add_one] at h1;rw [hP] at D |-;rw [C,x] at D h1 hg |-;rw [x] at N;obtain ⟨V,Q⟩:∃V,aS (fz l.length k)=V:=⟨_,rfl⟩;rw [Q] at p hg;obtain ⟨n,B⟩:∃n,l.length=n:=⟨_,rfl⟩;rw [B] at p hc hl hn N |-;have Z:(i:Int)<k:=ap;have a0:¬(i:Int)<0:=ap;obtain ⟨J,HA,O,R⟩:=ag p hA hg D;clear p hA hg D hr u hP C x B Q;go_enter func235,ntmps235;go_wp2_with fail;refine J.o.mono ?_;rintro e w1 ⟨v,rfl,ov,L⟩;obtain ⟨g,cv,rfl,_⟩:=ov.form ap;have c0:=ov.cellAt (i*2) ap;have c1:=ov.cellAt (i*2+1) ap;rw [O.o.1] at c0;rw [O.o.2] at c1;have lg:=(ov.lt g rfl).2;have y:=aa L;clear ov L;by_cases U:h=lo
 .subst U;go_wp2_with fail;go_ret;refine ⟨_,0,by rw [Nat.sub_self];rfl,by omega,?_,y.o.alloc y.o.size _⟩;rw [R.o,Nat.sub_self,List.take_zero];exact Rd.nil _ _
 .have T:¬(h:Int)=lo:=ap;have Y:¬h-lo=0:=ap;go_wp2_with fail;go_ret;refine ⟨_,_,rfl,Qx _,?_,y.o.alloc y.o.size _⟩;have:=(((HA.o.below y.o).alloc (.cells #[RI (lo:Int),RI (h:Int)] 69)).drop lo).take (h-lo)
  rwa [dL,dE,<-R.o] at this
theorem Ik (S n b steps t W x mi a:Nat) (l:Q_) (w:R8) (h:gH w S n b steps l) (hb:1<=b) (a5:b<=n) (hn:n<=1048576) (a1:steps<=1048576) (ht:t<steps) (hW:1<=W) (a7:W<=b) (hx:x<W) (hm:1<=mi) (a2:mi<=1048576) (ha:a<mi):Calls prog 220 #[(au S),RI t,RI x,RI W,RI a,RI mi] w (Cc (iV (de l n b t) W x mi a) (iV (de l n b t) W x mi a).length w):=by
 have T:1<=n/b:=Nat.div_pos a5 hb;have y:=iY l (t:=t) T;have hv:=λi (q:aq w i)=>Cp S n b steps t l i (h.below q) hb hn T a1 ht;obtain ⟨B,hB⟩:∃B,de l n b t=B:=⟨_,rfl⟩;rw [hB] at y hv |-;have hP:=kg B hW hx
 have V:bdN B.length W x+1<=bdN B.length W (x+1):=by
  rw [rC];have:1<=B.length/W:=Nat.div_pos ap ap;unfold szE;omega
 have p:=λA c i (hA:Rd i A (aA .i64 B)) (hc:B.length<=c)=>xx A B c W x i hA hc ap ap hW ap hx;obtain ⟨Q,Z⟩:∃Q,cQ B W x=Q:=⟨_,rfl⟩;have J:iV B W x mi a=cQ Q mi a:=by unfold iV;rw [Z]
 rw [Z] at hP p;have H:Q.length<=1048576:=by have:=fY B.length W (x+1) hW hx;omega
 have u:=λA c i (hA:Rd i A (aA .i64 Q)) (hc:Q.length<=c)=>xx A Q c mi a i hA hc H ap hm a2 ha;have R:=kg Q hm ha;have Y:=fY Q.length mi (a+1) hm ha;rw [J];obtain ⟨M,hM⟩:∃M,cQ Q mi a=M:=⟨_,rfl⟩;rw [hM] at u R |-;have C:=λA c i (hA:Rd i A (aA .i64 M))=>m7 A M c i hA ap;rw [y] at p;obtain ⟨qn,D⟩:∃qn,Q.length=qn:=⟨_,rfl⟩;rw [D] at p u;obtain ⟨U,O⟩:∃U,M.length=U:=⟨_,rfl⟩;rw [O] at u C |-;obtain ⟨Hv,a0,a3,a4⟩:=ag hv p u C;clear hv p u C h R Y hP V y H O D hM J Z hB;go_enter func220,ntmps220;go_wp2_with fail;refine (Hv.o w (br w)).mono ?_;rintro e w1 ⟨A1,c1,rfl,I,r1,k1⟩;obtain ⟨H1,K1⟩:=ae (a0.o A1 c1 w1 r1 I) k1;clear I r1 k1;go_wp2_with fail;refine H1.o.mono ?_;rintro e w2 ⟨A2,c2,rfl,N,r2,k2⟩;obtain ⟨H2,K2⟩:=ae (a3.o A2 c2 w2 r2 N) (bt K1.o k2);clear N r2 k2;go_wp2_with fail;refine H2.o.mono ?_;rintro e w3 ⟨A3,c3,rfl,a6,r3,k3⟩;obtain ⟨H3,K3⟩:=ae (a4.o A3 c3 w3 r3) (bt K2.o k3);clear a6 r3 k3;go_wp2_with fail;refine H3.o.mono ?_;rintro e w4 ⟨v,rfl,o4,k4⟩;obtain ⟨A4,c4,rfl,L⟩:=aD o4;have HP:=aa (⟨A4,c4,rfl,L,Rd.own o4,bt K3.o k4⟩:Cc M U w (.returned (.slice A4 U c4)) w4);clear o4 k4 L;go_wp2_with fail;go_ret;exact HP.o
theorem qd (n:Nat) (w:R8) (hn:1<=n) (i:n<=1048576):Calls prog 90 #[RI n] w λe h=>e=.returned (RI ((n-1:Nat):Int))/\w=h:=by
 have h1:(0:Int)<=(n:Int)-1:=ap;go_enter func90,ntmps90;go_wp2
 all_goals
  go_ret;exact ⟨bj ap,rfl⟩
theorem Fa {sn i t:Nat} (o:1<=i) (h:t*i<sn):t<(sn+i-1)/i:=by
 rw [Nat.lt_iff_add_one_le,Nat.le_div_iff_mul_le o,Ry];omega
theorem E0 {sn i t:Nat} (o:1<=i) (h:t<(sn+i-1)/i):t*i<sn:=by
 rw [Nat.lt_iff_add_one_le,Nat.le_div_iff_mul_le o,Ry] at h;omega
theorem An (A:N_) (c n:Nat) (k:Cfg) (w:R8) (h:kF w A c k) (hg:jK k) (hn:k.batch<=n/\(n:Int)<=1048576):Calls prog 89 #[.agg (dH A c k),RI n] w λe H=>e=.returned (RI (epN n k.batch.toNat k.steps.toNat:Int))/\aq w H:=by
 have x:=λH (q:aq w H)=>qT A c k H (h.below q);rw [fl.2 hg] at x;have g1:=hg.w;have g2:=hg.ba;have g3:=hg.st;clear h hg;obtain ⟨sz,sh,ra,mo,wk,ba,mi,st,bu,ch,wi,ca⟩:=k;dsimp only [dH] at *;obtain ⟨bt,rfl⟩:∃bt:Nat,ba=bt:=⟨ba.toNat,by omega⟩;obtain ⟨sn,rfl⟩:∃sn:Nat,st=sn:=⟨st.toNat,by omega⟩;rw [Int.toNat_natCast,Int.toNat_natCast];obtain ⟨L,hL⟩:∃L,sz.length=L:=⟨_,rfl⟩;rw [hL] at x |-;obtain ⟨p,u⟩:∃p,n/bt=p:=⟨_,rfl⟩;have v:1<=p:=by rw [<-u];exact Nat.div_pos ap ap
 have R:p<=n:=by rw [<-u];exact Nat.div_le_self _ _
 have hE:epN n bt sn=(sn+p-1)/p:=by unfold epN;rw [u,tM _ _ v]
 rw [hE];have Q:(sn+p-1)/p<=sn+p-1:=Nat.div_le_self _ _;have C:=λt=>Fa (sn:=sn) (t:=t) v;have y:=λt=>E0 (sn:=sn) (t:=t) v;obtain ⟨E,N⟩:∃E,(sn+p-1)/p=E:=⟨_,rfl⟩;rw [N] at Q C y |-;have a2:(n:Int).tdiv (bt:Int)=(p:Int):=by rw [<-u];rfl
 have a0:(n:Int)/(bt:Int)=(p:Int):=by rw [<-u];rfl
 have a4:¬(bt=0):=ap;obtain ⟨O,Y,V⟩:=af x C y;have J:btB (n:Int) (bt:Int) 1048576=true:=by unfold btB;rw [RC];omega
 have U:=aa J;clear x hL u hE N C y J;go_enter func89,ntmps89;go_wp2_with fail;have T:=Qy w (.cells #[.slice A L c,RI sh,RI ra,RI mo,RI wk,RI bt,RI mi,RI sn,RI bu,RI ch,RI wi,RI ca] 24);have hB:=(QA _ w).alloc (Qx _) (.cells #[.slice A L c,RI sh,RI ra,RI mo,RI wk,RI bt,RI mi,RI sn,RI bu,RI ch,RI wi,RI ca] 24);refine (O.o _ hB).mono ?_;rintro e w1 ⟨rfl,B⟩;have I:=(B.block _ (Qw T)).trans T;have HB:=aa (hB.trans (B.mono hB.size));obtain ⟨⟨z0,z1,z2,z3,z4,z5,z6,z7,z8,z9,a3,a5⟩,zf⟩:=kw I;clear T hB B I;go_wp2_with fail;refine (pG n bt 1048576 _).mono ?_;rintro e H ⟨rfl,rfl⟩;rw [U.o];go_wp2_with fail
 go_loopw [5,6] (λt i wr=>∃k m:Nat,k<=E/\t=RI k/\i=RI m/\an (m=k*p)/\m<sn+p/\wr=w1) (λ_ i _=>sn-(intOf i).toNat)
 .exact ⟨0,0,QB _,rfl,rfl,aa ap,by omega,rfl⟩
 case round=>
  obtain ⟨k,m,hk,rfl,rfl,Z,hm,rfl⟩:=hrel;by_cases D:m<sn
  .have a1:(m:Int)<sn:=ap;go_wp2_with fail;go_roundw
   .exact ⟨k+1,m+p,Y.o k (by rw [<-Z.out];exact D),by go_num,by go_num,aa (by rw [Z.out,Ry]),by omega,trivial⟩
   .simp [intOf];omega
  .obtain rfl:k=E:=by
    rcases QO k E with h | h
    .exact absurd (V.o k h) (by rw [<-Z.out];exact D)
    .omega
   go_wp2_with fail;go_ret;exact ⟨rfl,HB.o⟩
theorem Gg (A:N_) (c n:Nat) (k:Cfg) (w:R8) (h:kF w A c k) (hg:jK k) (hn:k.batch<=n/\(n:Int)<=1048576):Calls prog 60 #[.agg (dH A c k),RI n] w λe v=>e=.returned (RI (nS n k.batch.toNat k.steps.toNat:Int))/\aq w v:=by
 have i:=λv (q:aq w v)=>An A c n k v (h.below q) hg hn;have g1:=hg.w;have U:=hg.ba;have Y:=hg.st;have u:=λv=>qd n v ap ap;have p:=AV (n:=n) (b:=k.batch.toNat) (st:=k.steps.toNat) ap ap;unfold nS at p |-;clear h hg;obtain ⟨sz,sh,ra,H,I,ba,mi,st,bu,ch,wi,ca⟩:=k;dsimp only [dH] at *;obtain ⟨L,J⟩:∃L,sz.length=L:=⟨_,rfl⟩;rw [J] at i |-;obtain ⟨E,N⟩:∃E,epN n ba.toNat st.toNat=E:=⟨_,rfl⟩;obtain ⟨m,hm⟩:∃m,n-1=m:=⟨_,rfl⟩;rw [N] at i p |-;rw [hm] at u p |-;obtain ⟨y,D⟩:∃y,E*m=y:=⟨_,rfl⟩;rw [D] at p |-;have O:(E:Int)*(m:Int)=(y:Int):=by rw [<-D];push_cast;rfl
 obtain ⟨B,C⟩:=ae i u;clear i u J N hm D;go_enter func60,ntmps60;go_wp2_with fail;have R:=Qy w (.cells #[.slice A L c,RI sh,RI ra,RI H,RI I,RI ba,RI mi,RI st,RI bu,RI ch,RI wi,RI ca] 24);have hB:=(QA _ w).alloc (Qx _) (.cells #[.slice A L c,RI sh,RI ra,RI H,RI I,RI ba,RI mi,RI st,RI bu,RI ch,RI wi,RI ca] 24);refine (B.o _ hB).mono ?_;rintro e T ⟨rfl,x⟩;have Q:=aa (hB.trans (x.mono hB.size));clear R hB x;go_wp2_with fail;refine (C.o _).mono ?_;rintro e V ⟨rfl,rfl⟩;go_wp2_with fail;go_ret;exact ⟨rfl,Q.o⟩
theorem At (a b c:Nat) (A:N_) (l:R_) (w:R8) (h:dR rEx 2 w A l) (hl:l.length<=1048576):Calls prog 58 #[.slice A l.length c,RI a,RI b] w (sH l a b w):=by
 unfold sH;obtain ⟨n,hn⟩:∃n,l.length=n:=⟨_,rfl⟩;rw [hn] at hl |-;obtain ⟨H,V⟩:=ae h hn;clear h hn;go_enter func58,ntmps58;go_wp2_with fail
 go_loopw [8] (λi wr=>∃k:Nat,k<=n/\i=RI k/\an (∀j x,j<k->l[j]?=some x->fJ a b x)/\wr=w) (λi _=>n-(intOf i).toNat)
 .exact ⟨0,QB _,rfl,aa λj x L=>ap,rfl⟩
 case round=>
  obtain ⟨k,hk,rfl,u,rfl⟩:=hrel;by_cases N:k<n
  .obtain ⟨x,I⟩:∃x,l[k]?=some x:=⟨_,Rj (by rw [V.o];exact N)⟩;obtain ⟨b',o,A1,c1,A2,c2,rfl,a0,p1,p2,r1,r2⟩:=iG H.o I;have O:=aa I;obtain ⟨C,v⟩:∃C,x.1.length=C:=⟨_,rfl⟩;obtain ⟨D,B⟩:∃D,x.2.length=D:=⟨_,rfl⟩;rw [v] at p1;rw [B] at p2;have J:fJ a b x↔C=a/\D=b:=by unfold fJ;rw [v,B]
   have R:=aa J;have Y:(k:Int)<n:=ap;clear r1 r2 I v B J;by_cases T:C≠a
   .have hq:((C:Int) != (a:Int))=true:=by rw [bne_iff_ne];omega
    go_wp2_with fail;go_ret2;exact ⟨QA _ _,k,.inr ⟨λh=>T (R.o.1 (h x (List.mem_of_getElem? O.o))).1,rfl⟩⟩
   have Z:((C:Int) != (a:Int))=false:=by rw [bne_eq_false_iff_eq];omega
   by_cases Q:D≠b
   .have hq:((D:Int) != (b:Int))=true:=by rw [bne_iff_ne];omega
    have E2:=aa Q;clear T Q;go_wp2_with fail;go_ret2;exact ⟨QA _ _,k,.inr ⟨λh=>E2.o (R.o.1 (h x (List.mem_of_getElem? O.o))).2,rfl⟩⟩
   have a1:((D:Int) != (b:Int))=false:=by rw [bne_eq_false_iff_eq];omega
   have He:=aa (R.o.2 ⟨by omega,by omega⟩);clear T Q;go_wp2_with fail;go_roundw
   case rel=>exact ⟨k+1,by omega,by go_num,aa (p:=∀j x,j<k+1->l[j]?=some x->fJ a b x) λj y L U=>by
    rcases QO j k with h | h
    .exact u.out j y h U
    .obtain rfl:j=k:=ap
     have:=O.o;rw [U] at this;injection this with this;rw [this];exact He.o,trivial⟩
   case measure=>simp [intOf];omega
  .obtain rfl:n=k:=ap;go_wp2_with fail;go_ret2
   exact ⟨QA _ _,0,.inl ⟨λx I=>by
    obtain ⟨j,L,e⟩:=List.mem_iff_getElem.1 I
    exact u.out j x (by rw [<-V.o];exact L) (by rw [Rj L,e]),rfl⟩⟩
def Oa (q:Prop) (w:R8) (e:Ending) (h:R8):Prop:=(∃b:Bool,e=.returned (.bool b)/\(b=true->q))/\∃n,h=w.drewN n
theorem LO {q:Prop} (h:q) (b:Bool) (w:R8) (d:Nat):Oa q w (.returned (.bool b)) (w.drewN d):=⟨⟨b,rfl,λ_=>h⟩,d,rfl⟩
theorem EU (q:Prop) (w:R8) (d:Nat):Oa q w (.returned (.bool false)) (w.drewN d):=⟨⟨false,rfl,λh=>by cases h⟩,d,rfl⟩
theorem Kc (c:Nat) (A:N_) (l:R_) (w:R8) (h:dR rEx 2 w A l) (hl:l.length<=17592186043904):Calls prog 150 #[.slice A l.length c] w (Oa (l.length<=60) w):=by
 obtain ⟨n,hn⟩:∃n,l.length=n:=⟨_,rfl⟩;rw [hn] at hl |-;obtain ⟨H,Hn⟩:=ae h hn;clear h hn;go_enter func150,ntmps150;go_wp2_with fail
 go_loopw [3,4] (λv i wr=>∃k:Nat,∃x:Int,k<=n/\i=RI k/\v=RI x/\∃d,wr=w.drewN d) (λ_ i _=>n-(intOf i).toNat)
 .exact ⟨0,0,QB _,rfl,rfl,0,rfl⟩
 case round=>
  obtain ⟨k,x,hk,rfl,rfl,d,rfl⟩:=hrel;by_cases I:k<n
  .have V:(k:Int)<n:=ap;by_cases R:k<100
   .have p:(k:Int)<100:=ap;obtain ⟨y,U⟩:∃y,l[k]?=some y:=⟨_,Rj (by rw [Hn.o];exact I)⟩;obtain ⟨Q,o,A1,c1,A2,c2,rfl,Y,T,O,Z,r2⟩:=iG H.o U;obtain ⟨J,C⟩:∃J,y.1.length=J:=⟨_,rfl⟩;obtain ⟨L,D⟩:∃L,y.2.length=L:=⟨_,rfl⟩;rw [C] at T;rw [D] at O;clear Z r2 U C D;have q1:(w.drewN d).cell? (ar Q (o+k*2))=some (.slice A1 J c1):=T;have q2:(w.drewN d).cell? (ar Q (o+k*2+1))=some (.slice A2 L c2):=O;generalize hW:w.drewN d=W at q1 q2 |-;have HW:=aa hW;clear hW;go_wp2_with fail
    go_region
    all_goals
     go_wp2_with fail;go_roundw
     .exact ⟨k+1,_,by omega,by go_num,rfl,d+1,by rw [<-HW.o];rfl⟩
     .simp [intOf];omega
   .have p:¬((k:Int)<100):=ap;have u:¬((n:Int)<=60):=ap;have N:¬(n<=60):=ap;go_wp2_with fail
    all_goals
     go_ret;exact EU _ _ _
  .obtain rfl:n=k:=ap;by_cases B:n<=60
   .have u:(n:Int)<=60:=ap;have G:=aa B;go_wp2_with fail
    all_goals
     go_ret;exact LO G.o _ _ _
   .have u:¬((n:Int)<=60):=ap;go_wp2_with fail
    all_goals
     go_ret;exact EU _ _ _
theorem j9 (A:N_) (c:Nat) (D:N_) (cd:Nat) (T:N_) (ct:Nat) (R:N_) (cr:Nat) (i:Inp) (w:R8) (h:gW w A c D T ct R i):Calls prog 30 #[.agg (aL A c D cd T ct R cr i)] w λe v=>e=.returned (RI (dQ i))/\aq w v:=by
 have aG:=λv (q:aq w v)=>qT A c i.cfg v (h.c.below q);have aP:=λ(hR:dm i.cfg.sizes) v (q:aq w v)=>ke A i.cfg.sizes i.cfg.sizes.length c v (h.c.hr.below q) hR (by have:=hR.1;omega) (Qx _);have av:=λa b v (q:aq w v)=>At a b cd D i.data v (h.d.below fH q) h.dl;have H:=λ(hg:jK i.cfg) (hb:i.cfg.batch<=i.data.length/\(i.data.length:Int)<=1048576) v (q:aq w v)=>Gg A c i.data.length i.cfg v (h.c.below q) hg hb;have fc:=@OT i;have f7:=@OV i;have Z:=@OX i;have B:=@OU i;have C:=@OY i;have b5:=@fl i.cfg;have bf:=h.c.hr;have c7:=h.dl;have cf:=h.tl;have hrl:=h.rl;unfold sH at av;unfold oq at f7 Z B C;unfold mK OZ inN yO cnt at Z B C;unfold su at B C;obtain ⟨b2,a9⟩:∃b2,dQ i=b2:=⟨_,rfl⟩;rw [a9] at fc f7 Z B C |-;clear a9 h;obtain ⟨⟨sz,sh,ra,O,U,ba,mi,st,bu,ch,wi,ca⟩,data,start,draws⟩:=i;dsimp only [aL,dH] at *;obtain ⟨L,hL⟩:∃L,sz.length=L:=⟨_,rfl⟩;obtain ⟨N,hN⟩:∃N,data.length=N:=⟨_,rfl⟩;obtain ⟨M,hM⟩:∃M,start.length=M:=⟨_,rfl⟩;obtain ⟨Q,hQ⟩:∃Q,draws.length=Q:=⟨_,rfl⟩;obtain ⟨cc,bA⟩:∃cc,cK ⟨sz,sh,ra,O,U,ba,mi,st,bu,ch,wi,ca⟩=cc:=⟨_,rfl⟩;rw [hL] at aG aP H Z B C |-;rw [hN] at av H f7 Z B C c7 |-;rw [hM] at Z B C cf |-;rw [hQ] at B C hrl |-;rw [bA] at aG fc f7 Z B C b5;obtain ⟨CN,b7⟩:∃CN,bS sz (L-1)=CN:=⟨_,rfl⟩;rw [b7] at aP Z B C;obtain ⟨ND,bh⟩:∃ND,nS N ba.toNat st.toNat=ND:=⟨_,rfl⟩;rw [bh] at H B C;obtain ⟨cb,c9,cn,ci,Fc,F7,F5,F8⟩:=ak aG aP av H fc f7 Z B;obtain ⟨F0,c6,bl,HL,cv⟩:=ah C b5 bf hL b7;clear aG aP av H fc f7 Z B C b5 bf hL hN hM hQ bA b7 bh;go_enter func30,ntmps30;go_wp2_with fail;have hz:=(QL (w.alloc (.cells #[.slice A L c,RI sh,RI ra,RI O,RI U,RI ba,RI mi,RI st,RI bu,RI ch,RI wi,RI ca,.slice D N cd,.slice T M ct,.slice R Q cr] 29)) (.cells #[.slice A L c,RI sh,RI ra,RI O,RI U,RI ba,RI mi,RI st,RI bu,RI ch,RI wi,RI ca] 24) w.heap.size (by simp)).trans (Qy w _);have hy:=Qy (w.alloc (.cells #[.slice A L c,RI sh,RI ra,RI O,RI U,RI ba,RI mi,RI st,RI bu,RI ch,RI wi,RI ca,.slice D N cd,.slice T M ct,.slice R Q cr] 29)) (.cells #[.slice A L c,RI sh,RI ra,RI O,RI U,RI ba,RI mi,RI st,RI bu,RI ch,RI wi,RI ca] 24);rw [show (w.alloc (.cells #[.slice A L c,RI sh,RI ra,RI O,RI U,RI ba,RI mi,RI st,RI bu,RI ch,RI wi,RI ca,.slice D N cd,.slice T M ct,.slice R Q cr] 29)).heap.size=w.heap.size+1 by simp] at hy;have hB:aq w ((w.alloc (.cells #[.slice A L c,RI sh,RI ra,RI O,RI U,RI ba,RI mi,RI st,RI bu,RI ch,RI wi,RI ca,.slice D N cd,.slice T M ct,.slice R Q cr] 29)).alloc (.cells #[.slice A L c,RI sh,RI ra,RI O,RI U,RI ba,RI mi,RI st,RI bu,RI ch,RI wi,RI ca] 24)):=((QA _ w).alloc (Qx _) _).alloc (by simp) _;obtain ⟨W0,bn⟩:∃W0,W0=(w.alloc (.cells #[.slice A L c,RI sh,RI ra,RI O,RI U,RI ba,RI mi,RI st,RI bu,RI ch,RI wi,RI ca,.slice D N cd,.slice T M ct,.slice R Q cr] 29)).alloc (.cells #[.slice A L c,RI sh,RI ra,RI O,RI U,RI ba,RI mi,RI st,RI bu,RI ch,RI wi,RI ca] 24):=⟨_,rfl⟩;rw [<-bn] at hz hy hB |-;clear bn;refine (cb.o _ hB).mono ?_;rintro e w1 ⟨rfl,I⟩;have aR:=(I.block _ (Qw hz)).trans hz;have ao:=(I.block _ (Qw hy)).trans hy;have HB:=aa (hB.trans (I.mono hB.size));obtain ⟨⟨z0,z1,z2,z3,z4,z5,z6,z7,z8,z9,a6,ad,J,a7,a3⟩,zf⟩:=kH aR;obtain ⟨⟨y0,y1,y2,y3,y4,y5,y6,y7,y8,y9,a0,a2⟩,yf⟩:=kw ao;have lz:=Qw aR;have ly:=Qw ao;obtain ⟨HZ,HY⟩:=ae aR ao;clear hz hy hB I aR ao;by_cases h3:cc≠0
 .have hq:(cc != 0)=true:=by rw [bne_iff_ne];exact h3
  have H3:=aa h3;clear h3;go_wp2_with fail;go_ret;exact ⟨bj (Fc.o H3.o).symm,HB.o⟩
 obtain rfl:cc=0:=ap;clear h3;have hg:=c6.o.1 rfl;have g1:=hg.w;have g2:=hg.ba;have g3:=hg.st;have gz:=hg.z;have HG:=aa hg;dsimp only at g1 g2 g3 gz;clear hg;have bs:=gz.1.1;rw [HL.o] at bs;have s0:=gz.1.at (k:=0) (by have:=HL.o;omega);have s1:=gz.1.at (k:=L-1) (by have:=HL.o;omega);obtain ⟨bz,oz,rfl,p0⟩:=bl.o.num (show 0<sz.length by have:=HL.o;omega);obtain ⟨_,_,e',p1⟩:=bl.o.num (show L-1<sz.length by have:=HL.o;omega);injection e' with e';injection e' with e1 e2 _;subst e1;subst e2
 rw [s0.2.2,Nat.add_zero] at p0;rw [s1.2.2] at p1;obtain ⟨n0,b8⟩:∃n0,szN sz 0=n0:=⟨_,rfl⟩;obtain ⟨n1,b6⟩:∃n1,szN sz (L-1)=n1:=⟨_,rfl⟩;have Z:=F5.o;have B:=F8.o;have C:=F0.o;rw [b8,b6] at Z B C;rw [b8] at p0 s0;rw [b6] at p1 s1;obtain ⟨F5,F8,F0,cj⟩:=ag Z B C gz;have bN:bz<w.heap.size:=aB p0;obtain ⟨P0,P1⟩:=ae p0 p1;clear Z B C gz b8 b6 p0 p1 s0 s1;obtain ⟨bt,rfl⟩:∃bt:Nat,ba=bt:=⟨ba.toNat,by omega⟩;go_wp2_with fail;refine (pG N bt 1048576 _).mono ?_;rintro e v ⟨rfl,rfl⟩;obtain ⟨b1,I⟩:∃b1,btB (N:Int) bt 1048576=b1:=⟨_,rfl⟩;have G0:=aa (show decide ((bt:Int)<=N/\(N:Int)<=1048576)=b1 from I);rw [I];clear I;rcases dW b1 with rfl | rfl
 .have cl:=of_decide_eq_false G0.o;go_wp2_with fail;go_ret;exact ⟨bj (F7.o trivial (by rw [RE];omega)).symm,HB.o⟩
 have cl:=of_decide_eq_true G0.o;have G1:=aa (show decide ((bt:Int)<=N/\N<=1048576)=true by rw [RF];omega);have p0:=(HB.o.cell (p:=(ar bz oz)) bN).trans P0.o;have p1:=(HB.o.cell (p:=⟨bz,oz+(L-1),none⟩) bN).trans P1.o;have bO:IntKind.i64.wrap ((L:Int)-1)=((L-1:Nat):Int):=by rw [QC _ ap];omega
 have cx:((L-1:Nat):Int)<L:=ap;have cw:L-1<L:=ap;have cs:0<L:=ap;have co:(0:Int)<L:=ap;go_wp2_with fail;have u:(λv:R8=>v.cell? (ar w.heap.size 12)=some (.slice D N cd)/\v.cell? (ar (w.heap.size+1) 0)=some (.slice (some (ar bz oz)) L c)/\v.cell? (ar bz oz)=some (RI n0)/\v.cell? ⟨bz,oz+(L-1),none⟩=some (RI n1)) w1.drew:=⟨J,y0,p0,p1⟩;refine HA.g (λv:R8=>v.cell? (ar w.heap.size 12)=some (.slice D N cd)/\v.cell? (ar (w.heap.size+1) 0)=some (.slice (some (ar bz oz)) L c)/\v.cell? (ar bz oz)=some (RI n0)/\v.cell? ⟨bz,oz+(L-1),none⟩=some (RI n1)) ?_;refine HA.t ?_ [0,1,2,3,4,5,6,7,8,9,10,11,12,13] u ?_;refine HA.o 14 (λK hK=>?_);go_simp;refine (cn.o n0 n1 _ HB.o.drew).mono ?_;rintro e w3 ⟨a4,d,hd⟩;have be:=QF (aw a4 u.1) (QF (aw a4 u.2.1) (QF (aw a4 u.2.2.1) (aw a4 u.2.2.2)));have Y:aq w1 w3:=(QA w1.heap.size w1).drew.trans a4;have a1:=(Y.block _ lz).trans HZ.o;have a5:=(Y.block _ ly).trans HY.o;obtain ⟨ab,bG,bi⟩:=af (HB.o.trans (Y.mono HB.o.size)) a1 a5
 obtain ⟨aM,rfl,b4⟩:∃aM,e=.returned (.tuple #[RI d,.bool aM])/\decide (∀x∈data,fJ n0 n1 x)=aM:=by
  rcases hd with ⟨ha,rfl⟩ | ⟨ha,rfl⟩
  .exact ⟨true,rfl,RC ha⟩
  .exact ⟨false,rfl,RD ha⟩
 have a8:=aa b4;clear a4 Y a1 a5 hd b4 u;dsimp only;refine hK.out _ _ be (λu=>?_);clear hK K be;refine HA.t ?_ [15,16,17,18,19] u ?_;refine HA.d ?_;clear u z0 z1 z2 z3 z4 z5 z6 z7 z8 z9 a6 ad J a7 a3 zf y0 y1 y2 y3 y4 y5 y6 y7 y8 y9 a0 a2 yf lz ly bO p0 p1;have a1:=bG.o;have a5:=bi.o;obtain ⟨⟨z0,z1,z2,z3,z4,z5,z6,z7,z8,z9,a6,ad,J,a7,a3⟩,zf⟩:=kH a1;obtain ⟨⟨y0,y1,y2,y3,y4,y5,y6,y7,y8,y9,a0,a2⟩,yf⟩:=kw a5;have lz:=Qw a1;have ly:=Qw a5;clear a1 a5;rcases dW aM with rfl | rfl
 .go_wp2_with fail
  go_quiet (fail)
  go_wp2_with fail;go_ret;exact ⟨bj (F5.o trivial G1.o (by rw [a8.o];rfl)).symm,QH ab.o _⟩
 have b0:=λv (q:aq w3 v)=>c9.o cj.o.1 v (ab.o.trans (q.mono ab.o.size));have b3:=aa b0;clear b0;by_cases h5:M≠CN
 .have hq:((M:Int) != (CN:Int))=true:=by rw [bne_iff_ne];omega
  have H5:=aa h5;clear h5;go_wp2_with fail
  go_quiet ((go_at_call 59;refine Calls.quiet_of (b3.o _ ?_);exact am))
  go_wp2_with fail;go_ret;exact ⟨bj (F5.o trivial G1.o (by rw [a8.o,RD H5.o];rfl)).symm,QH ab.o _⟩
 have hq:((M:Int) != (CN:Int))=false:=by rw [bne_eq_false_iff_eq];omega
 have G2:=aa (show (decide (∀x∈data,fJ n0 n1 x)&&decide (M=CN))=true by rw [a8.o,RC (show M=CN by omega)];rfl);clear h5;go_wp2_with fail
 go_quiet ((go_at_call 59;refine Calls.quiet_of (b3.o _ ?_);exact am))
 go_wp2_with fail;obtain ⟨V,hV⟩:∃V,V=w3.drewN nq:=⟨_,rfl⟩;have bM:aq w V:=by rw [hV];exact QH ab.o _
 have bb:V.heap[w.heap.size]?=some (.cells #[.slice (some (ar bz oz)) L c,RI sh,RI ra,RI O,RI U,RI bt,RI mi,RI st,RI bu,RI ch,RI wi,RI ca,.slice D N cd,.slice T M ct,.slice R Q cr] 29 (0,0)):=by rw [hV];exact bG.o
 have bI:V.heap[w.heap.size+1]?=some (.cells #[.slice (some (ar bz oz)) L c,RI sh,RI ra,RI O,RI U,RI bt,RI mi,RI st,RI bu,RI ch,RI wi,RI ca] 24 (0,0)):=by rw [hV];exact bi.o
 clear z0 z1 z2 z3 z4 z5 z6 z7 z8 z9 a6 ad J a7 a3 zf y0 y1 y2 y3 y4 y5 y6 y7 y8 y9 a0 a2 yf;rw [<-hV];clear hV;obtain ⟨⟨z0,z1,z2,z3,z4,z5,z6,z7,z8,z9,a6,ad,J,a7,a3⟩,zf⟩:=kH bb;obtain ⟨⟨y0,y1,y2,y3,y4,y5,y6,y7,y8,y9,a0,a2⟩,yf⟩:=kw bI;have b9:=aa bM;clear bM bb bI;have H:=ci.o HG.o ap V.drew b9.o.drew;have bo:=aa H;clear H;have u:(λv:R8=>v.cell? (ar w.heap.size 14)=some (.slice R Q cr)/\v.cell? (ar w.heap.size 12)=some (.slice D N cd)/\v.cell? (ar (w.heap.size+1) 0)=some (.slice (some (ar bz oz)) L c)/\v.cell? (ar (w.heap.size+1) 1)=some (RI sh)/\v.cell? (ar (w.heap.size+1) 2)=some (RI ra)/\v.cell? (ar (w.heap.size+1) 3)=some (RI O)/\v.cell? (ar (w.heap.size+1) 4)=some (RI U)/\v.cell? (ar (w.heap.size+1) 5)=some (RI bt)/\v.cell? (ar (w.heap.size+1) 6)=some (RI mi)/\v.cell? (ar (w.heap.size+1) 7)=some (RI st)/\v.cell? (ar (w.heap.size+1) 8)=some (RI bu)/\v.cell? (ar (w.heap.size+1) 9)=some (RI ch)/\v.cell? (ar (w.heap.size+1) 10)=some (RI wi)/\v.cell? (ar (w.heap.size+1) 11)=some (RI ca)) V.drew:=⟨a3,J,y0,y1,y2,y3,y4,y5,y6,y7,y8,y9,a0,a2⟩;refine HA.g (λv:R8=>v.cell? (ar w.heap.size 14)=some (.slice R Q cr)/\v.cell? (ar w.heap.size 12)=some (.slice D N cd)/\v.cell? (ar (w.heap.size+1) 0)=some (.slice (some (ar bz oz)) L c)/\v.cell? (ar (w.heap.size+1) 1)=some (RI sh)/\v.cell? (ar (w.heap.size+1) 2)=some (RI ra)/\v.cell? (ar (w.heap.size+1) 3)=some (RI O)/\v.cell? (ar (w.heap.size+1) 4)=some (RI U)/\v.cell? (ar (w.heap.size+1) 5)=some (RI bt)/\v.cell? (ar (w.heap.size+1) 6)=some (RI mi)/\v.cell? (ar (w.heap.size+1) 7)=some (RI st)/\v.cell? (ar (w.heap.size+1) 8)=some (RI bu)/\v.cell? (ar (w.heap.size+1) 9)=some (RI ch)/\v.cell? (ar (w.heap.size+1) 10)=some (RI wi)/\v.cell? (ar (w.heap.size+1) 11)=some (RI ca)) ?_;refine HA.t ?_ [0,1,2,3,4,5,6] u ?_;refine HA.o 7 (λK hK=>?_);go_simp;refine bo.o.mono ?_;rintro e w4 ⟨rfl,y⟩;have bv:=aa (b9.o.trans ((QA V.heap.size V).drew.trans y |>.mono b9.o.size));have bw:=QF (aw y u.1) (QF (aw y u.2.1) (QF (aw y u.2.2.1) (QF (aw y u.2.2.2.1) (QF (aw y u.2.2.2.2.1) (QF (aw y u.2.2.2.2.2.1) (QF (aw y u.2.2.2.2.2.2.1) (QF (aw y u.2.2.2.2.2.2.2.1) (QF (aw y u.2.2.2.2.2.2.2.2.1) (QF (aw y u.2.2.2.2.2.2.2.2.2.1) (QF (aw y u.2.2.2.2.2.2.2.2.2.2.1) (QF (aw y u.2.2.2.2.2.2.2.2.2.2.2.1) (QF (aw y u.2.2.2.2.2.2.2.2.2.2.2.2.1) (aw y u.2.2.2.2.2.2.2.2.2.2.2.2.2)))))))))))));clear y u;dsimp only;refine hK.out _ _ bw (λu=>?_);clear hK K bw;refine HA.t ?_ [8] u ?_;refine HA.d ?_;clear u z0 z1 z2 z3 z4 z5 z6 z7 z8 z9 a6 ad J a7 a3 zf y0 y1 y2 y3 y4 y5 y6 y7 y8 y9 a0 a2 yf;by_cases h8:ND<=Q
 .have bV:¬((Q:Int)<ND):=ap;have c8:decide ((Q:Int)<ND)=false:=by simp;omega
  have bX:decide (Q<ND)=false:=by simp;omega
  have G8:=aa (RC h8);go_wp2_with fail;go_ret;exact ⟨bj (F0.o trivial G1.o G2.o G8.o).symm,bv.o⟩
 .have bV:(Q:Int)<ND:=ap;have c8:decide ((Q:Int)<ND)=true:=by simp;omega
  have bX:decide (Q<ND)=true:=by simp;omega
  have G8:=aa (RD h8);go_wp2_with fail;go_ret;exact ⟨bj (F8.o trivial G1.o G2.o G8.o).symm,bv.o⟩
structure jB (w:R8) (A:N_) (c:Nat) (D:N_) (T:N_) (ct:Nat) (R:N_) (i:Inp):Prop where
 c:kF w A c i.cfg
 d:dR rEx 2 w D i.data
 dl:i.data.length<=17592186043904
 t:cU w T i.start ct
 r:Rd w R (aA .u64 i.draws)
 rl:i.draws.length<=17592186043904
 ru:U64 i.draws
 ra: -9223372036854775808<=i.cfg.rate/\i.cfg.rate<=9223372036854775807
 rm: -9223372036854775808<=i.cfg.mom/\i.cfg.mom<=9223372036854775807
theorem jB.below {w o:R8} {A:N_} {c:Nat} {D T R:N_} {ct:Nat} {i:Inp} (h:jB w A c D T ct R i) (hb:aq w o):jB o A c D T ct R i:=
 ⟨h.c.below hb,h.d.below fH hb,h.dl,h.t.below hb,h.r.below hb,h.rl,h.ru,h.ra,h.rm⟩
def iZ (i:Inp):Prop:=i.data.length<=60/\i.start.length<=600/\i.draws.length<=2000/\i.cfg.sizes.length<=40
theorem jB.rd {w:R8} {A:N_} {c:Nat} {D T R:N_} {ct:Nat} {i:Inp} (h:jB w A c D T ct R i) (hs:iZ i):gW w A c D T ct R i:=
 ⟨h.c,h.d,by have:=hs.1;omega,h.t,by have:=hs.2.1;omega,h.r,by have:=hs.2.2.1;omega,h.ru,h.ra,h.rm⟩
def vW (q:Prop) (w:R8) (e:Ending) (h:R8):Prop:=(∃b:Bool,e=.returned (.bool b)/\(b=true->q))/\aq w h
theorem vr {q:Prop} {w h:R8} (b:Bool) (i:q) (hb:aq w h):vW q w (.returned (.bool b)) h:=⟨⟨b,rfl,λ_=>i⟩,hb⟩
theorem zd {q:Prop} {w i:R8} (hb:aq w i):vW q w (.returned (.bool false)) i:=⟨⟨false,rfl,λh=>by cases h⟩,hb⟩
theorem LN {p:Prop} [Decidable p] {q:Prop} {w i:R8} (o:p->q) (hb:aq w i):vW q w (.returned (.bool (decide p))) i:=⟨⟨_,rfl,λh=>o (of_decide_eq_true h)⟩,hb⟩
theorem LD (A:N_) (c:Nat) (D:N_) (x:Nat) (T:N_) (ct:Nat) (R:N_) (B:Nat) (i:Inp) (w:R8) (h:jB w A c D T ct R i):Calls prog 125 #[.agg (aL A c D x T ct R B i)] w (vW (iZ i) w):=by
 have hf:=λw' (q:aq w w')=>Kc x D i.data w' (h.d.below fH q) h.dl;have Z:i.data.length<=60->i.start.length<=600->i.draws.length<=2000->i.cfg.sizes.length<=40->iZ i:=λa b c d=>⟨a,b,c,d⟩;generalize iZ i=Q at Z |-;clear h;unfold Oa at hf;obtain ⟨⟨sz,sh,ra,C,U,ba,mi,st,bu,ch,wi,ca⟩,data,start,draws⟩:=i;dsimp only [aL,dH] at *;obtain ⟨L,hL⟩:∃L,sz.length=L:=⟨_,rfl⟩;obtain ⟨N,hN⟩:∃N,data.length=N:=⟨_,rfl⟩;obtain ⟨M,hM⟩:∃M,start.length=M:=⟨_,rfl⟩;obtain ⟨P,hP⟩:∃P,draws.length=P:=⟨_,rfl⟩;rw [hL,hN,hM,hP] at Z;rw [hN] at hf;rw [hL,hN,hM,hP];obtain ⟨Hf,Hq⟩:=ae hf Z;clear hf Z hL hN hM hP;have O:¬(L<=40)->¬((L:Int)<=40):=ap;have I:L<=40->(L:Int)<=40:=ap;have Y:¬(M<=600)->¬((M:Int)<=600):=ap;have J:M<=600->(M:Int)<=600:=ap;have V:¬(P<=2000)->¬((P:Int)<=2000):=ap;have H:P<=2000->(P:Int)<=2000:=ap;obtain ⟨NL,YL,NM,YM,NP,YP⟩:=ai O I Y J V H;clear O I Y J V H;by_cases h1:¬(L<=40)
 .have k1:=NL.o h1;go_enter func125,ntmps125;go_wp2_with fail
  all_goals
   go_ret;exact zd ((QA _ w).alloc (Qx _) _)
 have y:L<=40:=ap;have k1:=YL.o y;have G1:=aa y;clear h1 y;go_enter func125,ntmps125;go_wp2_with fail;have hz:=Qy w (.cells #[.slice A L c,RI sh,RI ra,RI C,RI U,RI ba,RI mi,RI st,RI bu,RI ch,RI wi,RI ca,.slice D N x,.slice T M ct,.slice R P B] 29);have hB:=(QA _ w).alloc (Qx _) (.cells #[.slice A L c,RI sh,RI ra,RI C,RI U,RI ba,RI mi,RI st,RI bu,RI ch,RI wi,RI ca,.slice D N x,.slice T M ct,.slice R P B] 29);refine (Hf.o _ hB).mono ?_;rintro e w' ⟨⟨b,rfl,hb⟩,d,rfl⟩;have u:((w.alloc (.cells #[.slice A L c,RI sh,RI ra,RI C,RI U,RI ba,RI mi,RI st,RI bu,RI ch,RI wi,RI ca,.slice D N x,.slice T M ct,.slice R P B] 29)).drewN d).heap[w.heap.size]?=some (.cells #[.slice A L c,RI sh,RI ra,RI C,RI U,RI ba,RI mi,RI st,RI bu,RI ch,RI wi,RI ca,.slice D N x,.slice T M ct,.slice R P B] 29 (0,0)):=hz;have p:=QH hB d;have Hb:=aa hb;clear hz hB hb;generalize (w.alloc (.cells #[.slice A L c,RI sh,RI ra,RI C,RI U,RI ba,RI mi,RI st,RI bu,RI ch,RI wi,RI ca,.slice D N x,.slice T M ct,.slice R P B] 29)).drewN d=W1 at u p |-;have HB:=aa p;obtain ⟨⟨z0,z1,z2,z3,z4,z5,z6,z7,z8,z9,a0,a4,a3,a1,a2⟩,zf⟩:=kH u;clear u p;rcases dW b with rfl | rfl
 .go_wp2_with fail
  all_goals
   go_ret;exact zd HB.o
 by_cases h2:¬(M<=600)
 .have k2:=NM.o h2;go_wp2_with fail
  all_goals
   go_ret;exact zd HB.o
 have v:M<=600:=ap;have k2:=YM.o v;have G2:=aa v;clear h2 v;clear NL YL NM YM YP;go_wp2_with fail
 all_goals
  go_ret;exact LN (λh=>Hq.o (Hb.o trivial) G2.o ap G1.o) HB.o
theorem DJ (A:N_) (c:Nat) (D:N_) (Z:Nat) (T:N_) (ct:Nat) (R:N_) (Y:Nat) (i:Inp) (w:R8) (h:jB w A c D T ct R i):Calls prog 86 #[.agg (aL A c D Z T ct R Y i)] w (vW (iZ i) w):=by
 have p:=λu (q:aq w u)=>LD A c D Z T ct R Y i u (h.below q);have J:=λu (q:aq w u)=>qT A c i.cfg u (h.c.below q);have U:=λ(hR:dm i.cfg.sizes) u (q:aq w u)=>ke A i.cfg.sizes i.cfg.sizes.length c u (h.c.hr.below q) hR (by have:=hR.1;omega) (Qx _);have a0:=@fl i.cfg;generalize iZ i=QQ at p |-;clear h;have p:∀u,aq w u->Calls prog 125 #[.agg (aL A c D Z T ct R Y i)] u (λe aR=>∃b:Bool,e=.returned (.bool b)/\(b=true->QQ)/\aq u aR):=λu q=>(p u q).mono λe aR ⟨⟨b,h1,h2⟩,h3⟩=>⟨b,h1,h2,h3⟩;obtain ⟨⟨sz,sh,ra,H,I,ba,mi,st,bu,ch,wi,ca⟩,data,start,draws⟩:=i;dsimp only [aL,dH] at *;obtain ⟨cc,b0⟩:∃cc,cK ⟨sz,sh,ra,H,I,ba,mi,st,bu,ch,wi,ca⟩=cc:=⟨_,rfl⟩;rw [b0] at J a0;have av:cc=0->dm sz:=λe=>(a0.1 e).z.1;obtain ⟨L,hL⟩:∃L,sz.length=L:=⟨_,rfl⟩;obtain ⟨N,hN⟩:∃N,data.length=N:=⟨_,rfl⟩;obtain ⟨M,hM⟩:∃M,start.length=M:=⟨_,rfl⟩;obtain ⟨Q,hQ⟩:∃Q,draws.length=Q:=⟨_,rfl⟩;rw [hL] at J U p |-;rw [hN,hM,hQ] at p |-;obtain ⟨CN,aM⟩:∃CN,bS sz (L-1)=CN:=⟨_,rfl⟩;rw [aM] at U;obtain ⟨b4,b3,ad,b2⟩:=ag J U p av;clear J U p a0 hL hN hM hQ b0 aM av;go_enter func86,ntmps86;go_wp2_with fail;have hz:=(QL (w.alloc (.cells #[.slice A L c,RI sh,RI ra,RI H,RI I,RI ba,RI mi,RI st,RI bu,RI ch,RI wi,RI ca,.slice D N Z,.slice T M ct,.slice R Q Y] 29)) (.cells #[.slice A L c,RI sh,RI ra,RI H,RI I,RI ba,RI mi,RI st,RI bu,RI ch,RI wi,RI ca] 24) w.heap.size (by simp)).trans (Qy w _);have hy:=Qy (w.alloc (.cells #[.slice A L c,RI sh,RI ra,RI H,RI I,RI ba,RI mi,RI st,RI bu,RI ch,RI wi,RI ca,.slice D N Z,.slice T M ct,.slice R Q Y] 29)) (.cells #[.slice A L c,RI sh,RI ra,RI H,RI I,RI ba,RI mi,RI st,RI bu,RI ch,RI wi,RI ca] 24);rw [show (w.alloc (.cells #[.slice A L c,RI sh,RI ra,RI H,RI I,RI ba,RI mi,RI st,RI bu,RI ch,RI wi,RI ca,.slice D N Z,.slice T M ct,.slice R Q Y] 29)).heap.size=w.heap.size+1 by simp] at hy;have hB:aq w ((w.alloc (.cells #[.slice A L c,RI sh,RI ra,RI H,RI I,RI ba,RI mi,RI st,RI bu,RI ch,RI wi,RI ca,.slice D N Z,.slice T M ct,.slice R Q Y] 29)).alloc (.cells #[.slice A L c,RI sh,RI ra,RI H,RI I,RI ba,RI mi,RI st,RI bu,RI ch,RI wi,RI ca] 24)):=((QA _ w).alloc (Qx _) _).alloc (by simp) _;obtain ⟨W0,aP⟩:∃W0,W0=(w.alloc (.cells #[.slice A L c,RI sh,RI ra,RI H,RI I,RI ba,RI mi,RI st,RI bu,RI ch,RI wi,RI ca,.slice D N Z,.slice T M ct,.slice R Q Y] 29)).alloc (.cells #[.slice A L c,RI sh,RI ra,RI H,RI I,RI ba,RI mi,RI st,RI bu,RI ch,RI wi,RI ca] 24):=⟨_,rfl⟩;rw [<-aP] at hz hy hB |-;clear aP;refine (ad.o _ hB).mono ?_;rintro e w1 ⟨b,rfl,hb,V⟩;have y:=(V.block _ (Qw hz)).trans hz;have v:=(V.block _ (Qw hy)).trans hy;obtain ⟨HB,Hb⟩:=ae (hB.trans (V.mono hB.size)) hb;obtain ⟨⟨z0,z1,z2,z3,z4,z5,z6,z7,z8,z9,a1,ao,ab,a3,a6⟩,zf⟩:=kH y;obtain ⟨⟨y0,y1,y2,y3,y4,y5,y6,y7,y8,y9,a2,a4⟩,yf⟩:=kw v;obtain ⟨HZ,HY⟩:=ae y v;clear hz hy hB V hb;rcases dW b with rfl | rfl
 .clear y v;go_wp2_with fail;refine (ad.o _ HB.o).mono ?_;rintro e w2 ⟨b',rfl,C,B⟩;obtain ⟨a7,a8⟩:=ae (HB.o.trans (B.mono HB.o.size)) C;clear B C;go_wp2_with fail;go_ret;exact ⟨⟨b',rfl,a8.o⟩,a7.o⟩
 have HQ:=aa (Hb.o rfl);go_wp2_with fail;refine (b4.o _ HB.o).mono ?_;rintro e w3 ⟨rfl,O⟩;have aG:=(O.block _ (Qw y)).trans y;have b1:=(O.block _ (Qw v)).trans v;have x:=aa (HB.o.trans (O.mono HB.o.size));clear z0 z1 z2 z3 z4 z5 z6 z7 z8 z9 a1 ao ab a3 a6 zf y0 y1 y2 y3 y4 y5 y6 y7 y8 y9 a2 a4 yf y v O HZ HY;obtain ⟨⟨z0,z1,z2,z3,z4,z5,z6,z7,z8,z9,a1,ao,ab,a3,a6⟩,zf⟩:=kH aG;obtain ⟨⟨y0,y1,y2,y3,y4,y5,y6,y7,y8,y9,a2,a4⟩,yf⟩:=kw b1;clear aG b1;by_cases h3:cc≠0
 .have hq:(cc != 0)=true:=by rw [bne_iff_ne];exact h3
  go_wp2_with fail;refine (ad.o _ x.o).mono ?_;rintro e w2 ⟨b',rfl,C,B⟩;obtain ⟨a7,a8⟩:=ae (x.o.trans (B.mono x.o.size)) C;clear B C;go_wp2_with fail;go_ret;exact ⟨⟨b',rfl,a8.o⟩,a7.o⟩
 obtain rfl:cc=0:=ap;clear h3;have HR:=aa (b2.o rfl);by_cases h4:12<st
 .have hq:¬(st<=12):=ap;go_wp2_with fail
  all_goals
   go_ret;exact vr _ HQ.o x.o
 have hq:st<=12:=ap;go_wp2_with fail;refine (b3.o HR.o _ x.o).mono ?_;rintro e w4 ⟨rfl,d,rfl⟩;have a9:=aa (QH x.o d);obtain ⟨W4,a5⟩:∃W4,W4=w3.drewN d:=⟨_,rfl⟩;have b5:W4.cell? (ar (w.heap.size+1) 5)=some (RI ba):=by rw [a5];exact y5
 rw [<-a5] at a9 |-;clear a5 z0 z1 z2 z3 z4 z5 z6 z7 z8 z9 a1 ao ab a3 a6 zf y0 y1 y2 y3 y4 y5 y6 y7 y8 y9 a2 a4 yf;by_cases h5:CN<=150
 .have k5:(CN:Int)<=150:=ap;go_wp2_with fail
  all_goals
   go_ret;exact vr _ HQ.o a9.o
 .have k5:¬((CN:Int)<=150):=ap;go_wp2_with fail
  all_goals
   go_ret;exact vr _ HQ.o a9.o
def wB (i:Inp):Prop:=iZ i/\(dQ i=0->vT i.cfg i.start.length (iz i.cfg i.start.length)/\i.cfg.steps<=6/\i.data.length<=40)
theorem wB.sm {i:Inp} (h:wB i) (o:dQ i=0):bD i:=by
 have hg:=rt.1 o;obtain ⟨hs,hr⟩:=h;obtain ⟨h1,x,y⟩:=hr o;have hc:=fl.2 hg.c;have p:=pE hg.c.z;have he:=hg.s;have hn:1<=i.start.length:=by rw [he];exact p
 have hm:=hs.2.1;obtain ⟨A,u,v,_⟩:=h1 (by simp only [iz,hc,Bool.and_eq_true,RF];exact ⟨trivial,by omega,by omega⟩);exact ⟨hg,by omega,u,v,x,y⟩
theorem CW (A:N_) (c:Nat) (D:N_) (J:Nat) (T:N_) (ct:Nat) (R:N_) (I:Nat) (i:Inp) (w:R8) (h:jB w A c D T ct R i):Calls prog 55 #[.agg (aL A c D J T ct R I i)] w (vW (wB i) w):=by
 obtain ⟨v,u⟩:∃v,w.alloc (.cells (aL A c D J T ct R I i) 29)=v:=⟨_,rfl⟩;have g0:v.heap[w.heap.size]?=some (.cells (aL A c D J T ct R I i) 29 (0,0)):=by rw [<-u];exact Qy w _
 have p:aq w v:=by rw [<-u];exact (br w).alloc (Qx _) _
 have hf:=DJ A c D J T ct R I i v (h.below p);have U:=λ(hs:iZ i) x (q:aq v x)=>j9 A c D J T ct R I i x (((h.rd hs).below p).below q);have N:=lj A i.cfg.sizes.length c i.cfg.shift i.cfg.rate i.cfg.mom i.cfg.workers i.cfg.batch i.cfg.micros i.cfg.steps i.cfg.bucket i.cfg.chunk i.cfg.window i.cfg.cap D i.data.length J T i.start.length ct R i.draws.length I;have Q:=λx (q:aq v x)=>CY A c i.cfg i.start.length x ((h.c.below p).below q);unfold vW wB;dsimp only [aL] at *;have t0:=λx q=>kH (sb g0 x q);obtain ⟨a1,L,Hf,a4,a3,a0⟩:=ai u p hf U N Q;have q0:=br v;clear u g0 p hf U N Q h;go_enter func55,ntmps55;go_wp2_with fail;rw [a1.o];refine Hf.o.mono ?_;rintro e w1 ⟨⟨b,rfl,hb⟩,Y⟩;have q1:=bt q0 Y;obtain ⟨y,Hb⟩:=ae (L.o.trans (Y.mono L.o.size)) hb;clear hb Y q0
 cases b with
 | false=>
  go_wp2_with fail;go_ret;exact ⟨⟨false,rfl,λh=>by cases h⟩,y.o⟩
 | true=>
  go_wp2_with fail;refine (a4.o (Hb.o (by trivial)) w1 q1).mono ?_;rintro e w2 ⟨rfl,k2⟩;have q2:=bt q1 k2;have B:=aa (y.o.trans (k2.mono y.o.size));clear k2 q1;obtain ⟨C,Z⟩:∃C,dQ i=C:=⟨_,rfl⟩;rw [Z];have HC:=aa Z;clear Z;by_cases h0:C=0
  .subst h0;go_wp2_with fail;refine (a3.o w2).mono ?_;rintro e w3 ⟨rfl,k3⟩;have q3:=bt q2 k3;have O:=aa (B.o.trans (k3.mono B.o.size));clear k3 q2;go_wp2_with fail;refine (a0.o w3 q3).mono ?_;rintro e w4 ⟨⟨b2,rfl,V⟩,k4⟩;have q4:=bt q3 k4;obtain ⟨H,a2⟩:=ae (O.o.trans (k4.mono O.o.size)) V;clear V k4 q3
   cases b2 with
   | false=>
    go_wp2_with fail;go_ret;exact ⟨⟨false,rfl,λh=>by cases h⟩,H.o⟩
   | true=>
    by_cases h6:i.cfg.steps<=6
    .go_wp2_with fail;go_ret;exact ⟨⟨_,rfl,λh=>⟨Hb.o (by trivial),λ_=>⟨a2.o (by trivial),h6,by simp at h;omega⟩⟩⟩,H.o⟩
    .go_wp2_with fail;go_ret;exact ⟨.inl rfl,H.o⟩
  .go_wp2_with fail;go_ret;exact ⟨⟨true,rfl,λ_=>⟨Hb.o (by trivial),λh=>absurd (HC.o.symm.trans h) h0⟩⟩,B.o⟩
theorem ez:dg prog 29 15:=⟨⟨_,underlying29,rfl⟩,by kernel_rfl⟩
theorem gM (w:R8) (X Z:R6) (t u:R9):∃h W1,w.alloc (.cells X t)=h/\h.alloc (.cells Z u)=W1/\W1.heap[w.heap.size]?=some (.cells X t (0,0))/\W1.heap[w.heap.size+1]?=some (.cells Z u (0,0))/\aq w W1/\W1.heap.size=w.heap.size+1+1:=by
 refine ⟨_,_,rfl,rfl,?_,?_,?_,?_⟩
 .exact sb (Qy w _) _ ((br _).alloc (Qx _) _)
 .have:=Qy (w.alloc (.cells X t)) (.cells Z u)
  rwa [show (w.alloc (.cells X t)).heap.size=w.heap.size+1 from Array.size_push _] at this
 .exact ((br w).alloc (Qx _) _).alloc (by simp) _
 .simp
theorem tB (n:Nat):W64 (List.replicate n 0):=by
 intro k hk;rw [dB _ _ hk];simp
theorem LB (l:List Itm):∀u∈cD l,u.oneCell'=true:=by
 intro u i;unfold cD at i;obtain ⟨x,_,h⟩:=List.mem_flatMap.1 i;obtain ⟨k,s,n,a⟩:=x
 cases a<;>simp only [bC,MM,aZ,List.mem_cons,List.not_mem_nil,or_false] at h<;>(repeat (first | (rcases h with rfl | h; · rfl) | (subst h;rfl)))
theorem EQ (y:Itm):∀u∈bC y,u.oneCell'=true:=λu h=>LB [y] u (by simpa [cD] using h)
def zo (w:R8):List Obj->R8
 | []=>w
 | o::l=>zo (w.alloc o) l
theorem fF:∀(l:List Obj) (w:R8),aq w (zo w l)
 | [],w=>br w
 | o::l,w=>bt ((br w).alloc (Qx _) o) (fF l _)
theorem bY:∀(l:List Obj) (w:R8) (k:Nat) {o:Obj},l[k]?=some o->(zo w l).heap[w.heap.size+k]?=some o
 | [],_,_,_,h=>by simp at h
 | o::l,w,0,_,h=>by
  simp only [Rc,Option.some.injEq] at h;subst h;exact sb (Qy w o) _ (fF l _)
 | o::l,w,k+1,_,h=>by
  have:=bY l (w.alloc o) k (by simpa using h)
  rwa [show (w.alloc o).heap.size+k=w.heap.size+(k+1) by rw [QP];omega] at this
theorem tF (y:Itm):∃(C h p:Int) (v u:Bool) (o i D x B A H:Int),bC y=[RI C,RI h,RI p,.bool v,.bool u,RI o,RI i,RI D,RI x,RI B,RI A,RI H]:=by
 obtain ⟨k,s,n,a⟩:=y
 cases a with
 | none=>exact ⟨_,_,_,_,_,_,_,_,_,_,_,_,rfl⟩
 | some a=>exact ⟨_,_,_,_,_,_,_,_,_,_,_,_,rfl⟩
theorem mN:dg prog 135 12:=⟨⟨_,underlying135,rfl⟩,by kernel_rfl⟩
theorem EL {H:Nat->Prop} {w:R8} {b x:Nat} {i:Inp} {a:MAd} {m:Mst} (h:aU H w b i x a m) (hn:(cz i x m.st).length<=m.nx) (u v:Value):Calls prog 204 #[(au b),u,v] w λe B=>e=.returned (RI 13)/\aq w B:=by
 have A:=aa (yS h hn);clear h hn;go_enter func204,ntmps204;go_wp2_with fail;refine A.o.mono ?_;rintro e C ⟨rfl,p⟩;have y:=aa (p.alloc p.size (.cells RO 135));clear p;go_wp2_with fail;go_ret;exact ⟨rfl,y.o⟩
theorem sW {w:R8} {b:Nat} {xs:R7} {e:R9} (h:w.heap[b]?=some (.cells xs.toArray e (0,0))):Rd w (some (ar b 0)) xs:=λk u i=>⟨b,0,rfl,by
 rw [RB,Qz w b k _ _ _ h];simpa using i⟩
theorem qG {l:Q_} (h:∀z∈l,0<=z/\z<=1048576):W64 l:=λk hk=>by
 have:=h _ (yR hk);omega
theorem vO {w:R8} {b:Nat} {u x y:Value} {t:R9} (i p o:Value) (h:w.heap[b]?=some (.cells #[u,x,y] t (0,0))): (((w.setCell (ar b 0) i).setCell (ar b 1) p).setCell (ar b 2) o).heap[b]?=some (.cells #[i,p,o] t (0,0)):=by
 have h1:=RG w b 0 _ _ i h;have v:=RG _ b 1 _ _ p h1;exact RG _ b 2 _ _ o v
theorem sx {w:R8} {b:Nat} (h o p:Value):Keep (λi=>i=b) w (((w.setCell (ar b 0) h).setCell (ar b 1) o).setCell (ar b 2) p):=
 Keep.setCell (S:=λi=>i=b) (Keep.setCell (S:=λi=>i=b) (Keep.setCell (S:=λi=>i=b) (Keep.refl _ w) (ar b 0) (.inr rfl) h) (ar b 1) (.inr rfl) o) (ar b 2) (.inr rfl) p
theorem Lg (r c:Nat) (w:R8) (hr:1<=r/\r<=1048576) (hc:1<=c/\c<=1048576) (hm:r*c<=1048576):Calls prog 245 #[RI r,RI c] w λe y=>∃A,e=.returned (.agg #[RI r,RI c,.slice A (r*c) (r*c)])/\y.ownsRow w.heap.size 2 1 (.slice A (r*c) (r*c)) (r*c) (aA .i64 (List.replicate (r*c) 0))/\aq w y:=by
 have e1:(r:Int)*(c:Int)=((r*c:Nat):Int):=(Int.natCast_mul r c).symm;have hs:=λy=>wT r c y ⟨by omega,by omega⟩ ⟨by omega,by omega⟩;obtain ⟨p,J⟩:∃p,r*c=p:=⟨_,rfl⟩;rw [J] at e1 hm |-;clear J;have x:(8:Nat)*p<=281474976710656:=ap;obtain ⟨D,Q⟩:=ae x hs;clear x hs;go_enter func245,ntmps245;go_wp2_with fail;refine (Q.o _).mono ?_;rintro e w1 ⟨rfl,C⟩;subst C;go_wp2_with (at_make;refine wH nc _ rfl (.tmp 20) (.tmp 20) rfl rfl p rfl rfl D.o (by unfold maxLen;omega) ?_);intro H i hb;rw [fI] at i;have h:=(hb.block w.heap.size (by simp)).trans (Qy w _);obtain ⟨⟨T,O,r2⟩,V⟩:=bx3 h;have Z:w.heap.size<H.heap.size:=Qw h;obtain ⟨HO,R,Y⟩:=af i hb h;clear i hb h;go_wp2_with fail;have L:=vO (RI r) (RI c) (.slice (some (ar (w.heap.size+1) 0)) p p) Y.o;have B:=sx (w:=H) (b:=w.heap.size) (RI r) (RI c) (.slice (some (ar (w.heap.size+1) 0)) p p);obtain ⟨I,u⟩:∃I,I=(((H.setCell (ar w.heap.size 0) (RI r)).setCell (ar w.heap.size 1) (RI c)).setCell (ar w.heap.size 2) (.slice (some (ar (w.heap.size+1) 0)) p p)):=⟨_,rfl⟩;rw [<-u] at L B |-;clear u T O r2 V;obtain ⟨⟨N,U,q2⟩,qf⟩:=bx3 L;refine QM (v:=.agg #[RI r,RI c,.slice (some (ar (w.heap.size+1) 0)) p p]) (by simp [results,results245,go_sem,N,U,q2]) rfl ⟨_,rfl,?_,?_⟩
 .refine aF (base:=w.heap.size+1) (B.own HO.o (λk hk e=>?_)) ap;simp [Value.ownBlock] at hk;omega
 .exact (Below.trans ((QA _ w).alloc (Qx _) _) (R.o.mono (by simp))).trans (B.toBelow ap (λk hk=>ap))
end Go.Proofs.YtindmkcnjlgomaaGreat
namespace Go.Proofs.YtindmkcnjlgomaaGreat
open Go.RowKit Go.Shelf
open Tryz
attribute [local go_sem] Oper.semAt_some
def Pv (r c:Nat) (ys xs:Q_) (A B:N_) (h d e:Nat) (q:Int) (w:R8) (G N M:Nat) (i:List (Fin r)) (W:R8):Prop:= (W.ownsRow w.heap.size 2 1 (.slice (some (ar G 0)) h h) h (aA .i64 (pK r c ys xs q (i.map (·.1)) 0 0))/\Boxed W w.heap.size 73 (.slice A r d)/\Boxed W (w.heap.size+1) 73 (.slice B c e)/\Boxed W (w.heap.size+1+1) 3 (RI q)/\
  W.heap[w.heap.size+1+1+1]?=some (.cells #[RI 0,RI 0,RJ] 344 (0,0))/\W.heap[N]?=some (.cells #[RI r,RI c,.slice (some (ar G 0)) h h] 344 (0,0))/\
  W.heap[M]?=some (.cells #[RI r,RI c,.slice (some (ar G 0)) h h] 344 (0,0)))/\aq w W
theorem KF (r c:Nat) (ys xs:Q_) (A B:N_) (C d e:Nat) (q:Int) (w:R8) (G N M K:Nat) (v:w.heap.size<=K):OwnFrom K (Pv r c ys xs A B C d e q w G N M):=by
 intro s W H row hs hg hr;obtain ⟨⟨h1,o,D,p,x,u,i⟩,h⟩:=hs;have y:=ownFrom_below (β:=Unit) (Qx _) v () W H row h hg hr;exact ⟨⟨AF h1 hg hr,eT rfl o hg hr,eT rfl D hg hr,eT rfl p hg hr,eT rfl x hg hr,eT rfl u hg hr,eT rfl i hg hr⟩,y⟩
theorem GK (r c:Nat) (A B:N_) (ys xs:Q_) (d e:Nat) (q:Int) (w:R8) (hr:1<=r/\r<=1048576) (hc:1<=c/\c<=1048576) (hm:r*c<=1048576) (hA:Rd w A (aA .i64 ys)) (wy:W64 ys) (cc:ys.length=r) (hB:Rd w B (aA .i64 xs)) (bA:xs.length=c) (wx:W64 xs):Calls prog 237 #[.slice A r d,.slice B c e,RI q] w λe J=>∃A',e=.returned (.agg #[RI r,RI c,.slice A' (r*c) (r*c)])/\J.ownsRow w.heap.size 2 1 (.slice A' (r*c) (r*c)) (r*c) (aA .i64 (mX r c ys xs q))/\aq w J:=by
 obtain ⟨C,a8⟩:∃C,r*c=C:=⟨_,rfl⟩;have cY:1<=C:=by rw [<-a8];exact Nat.mul_pos hr.1 hc.1
 have b4:=λJ=>Lg r c J hr hc hm;have bz:=λA' J=>oY r c A' C C J hr hc a8.symm ap;have c7:=λcs J=>uo cs J;rw [a8] at b4 hm |-;obtain ⟨co,cw,cy,a9,cr,cA,HA,HB⟩:=ak b4 bz c7 a8 bA cc hA hB;obtain ⟨WX,WY⟩:=ae wx wy;clear b4 bz c7 a8 bA cc hA hB wx wy;refine (callsIn_wide (n:=3)).1 ?_;refine callsIn_of_wp_marks func237 rfl trivial ?_ rfl;simp only [ntmps237,List.size_toArray,List.length_cons,List.length_nil,Nat.reduceAdd,Nat.reduceSub,Array.replicate_succ,Array.replicate_zero,List.push_toArray,List.append_toArray,List.nil_append,List.cons_append]
 gi_wp2_with fail
 refine ⟨trivial,?_⟩;refine (callsIn_wide.2 (co.o _)).mono ?_;rintro e w1 ⟨A',rfl,L,a0⟩;have aP:aq w w1:=Below.trans (((((QA _ w).alloc (Qx _) _).alloc (by simp) _).alloc (by simp;omega) _).alloc (by simp;omega) _) (a0.mono (by first | (simp;done) | (simp;omega)))
 have h2:Boxed w1 w.heap.size 73 (.slice A r d):=by
  refine (a0.block w.heap.size (by first | (simp;done) | (simp;omega))).trans ?_;refine (QL _ _ _ (by first | (simp;done) | (simp;omega))).trans ((QL _ _ _ (by first | (simp;done) | (simp;omega))).trans ((QL _ _ _ (by simp)).trans (Qy w _)))
 have h3:Boxed w1 (w.heap.size+1) 73 (.slice B c e):=by
  refine (a0.block (w.heap.size+1) (by first | (simp;done) | (simp;omega))).trans ?_;refine (QL _ _ _ (by first | (simp;done) | (simp;omega))).trans ((QL _ _ _ (by simp)).trans ?_);have:=Qy (w.alloc (.cells #[.slice A r d] 73)) (.cells #[.slice B c e] 73);simpa using this
 have h4:Boxed w1 (w.heap.size+1+1) 3 (RI q):=by
  refine (a0.block (w.heap.size+1+1) (by first | (simp;done) | (simp;omega))).trans ?_;refine (QL _ _ _ (by simp)).trans ?_;have:=Qy ((w.alloc (.cells #[.slice A r d] 73)).alloc (.cells #[.slice B c e] 73)) (.cells #[RI q] 3);simpa using this
 have h5:w1.heap[w.heap.size+1+1+1]?=some (.cells #[RI 0,RI 0,RJ] 344 (0,0)):=by
  refine (a0.block (w.heap.size+1+1+1) (by simp)).trans ?_;have:=Qy (((w.alloc (.cells #[.slice A r d] 73)).alloc (.cells #[.slice B c e] 73)).alloc (.cells #[RI q] 3)) (.cells #[RI 0,RI 0,RJ] 344);simpa using this
 obtain ⟨G,dG,bG,hG,bs⟩:=L.form ap;simp only [Rv] at bG;obtain ⟨rfl,_,rfl⟩:=bG;have c8:w.heap.size+1+1+1+1<=G:=by simpa using hG
 have L:=aF L (base':=w.heap.size) (by first | (simp;done) | (simp;omega));obtain ⟨bl,a6,H2,H3,H4,H5,bh,cf⟩:=ak L aP h2 h3 h4 h5 c8 bs;clear L aP h2 h3 h4 h5 c8 bs hG a0
 gi_wp2_with fail
 refine ⟨trivial,?_⟩;refine (callsIn_wide.2 (cw.o _ _)).mono ?_;rintro e w2 ⟨rfl,rfl⟩
 gi_wp2_with fail
 refine ⟨trivial,?_⟩;refine (callsIn_wide.2 (cy.o _ _)).mono ?_;rintro e w3 ⟨rfl,rfl⟩
 gi_wp2_with fail
 obtain ⟨U,V⟩:∃U,U=(w1.alloc (.cells #[RI r,RI c,.slice (some (ar G 0)) C C] 344)).alloc (.cells #[RI r,RI c,.slice (some (ar G 0)) C C] 344):=⟨_,rfl⟩;rw [<-V];have ab:U.heap.size=w1.heap.size+1+1:=by rw [V];simp
 have bN:U.heap[w1.heap.size]?=some (.cells #[RI r,RI c,.slice (some (ar G 0)) C C] 344 (0,0)):=by
  rw [V];exact (QL _ _ _ (by simp)).trans (Qy w1 _)
 have bM:(U.alloc (.cells #[RI r,RI c,.slice (some (ar G 0)) C C] 344)).heap[U.heap.size]?=some (.cells #[RI r,RI c,.slice (some (ar G 0)) C C] 344 (0,0)):=Qy U _
 have hl:∀b o,w1.heap[b]?=some o->(U.alloc (.cells #[RI r,RI c,.slice (some (ar G 0)) C C] 344)).heap[b]?=some o:=λb o h=>by
  have hb:=Qw h;rw [V];exact (QL _ _ _ (by simp;omega)).trans ((QL _ _ _ (by simp;omega)).trans ((QL _ _ _ hb).trans h))
 have R:aq w U:=by rw [V];exact (a6.o.alloc a6.o.size _).alloc (by have:=a6.o.size;simp;omega) _
 have r0:U.ownsRow w.heap.size 2 1 (.slice (some (ar G 0)) C C) C (aA .i64 (List.replicate C 0)):=by rw [V];exact (bl.o.alloc _).alloc _
 rw [<-a9.o,GL r c ys xs q 0,a9.o] at r0;obtain ⟨N,hN⟩:∃N,N=w1.heap.size:=⟨_,rfl⟩;rw [<-hN] at bN ab |-;rw [<-ab];have bV:Pv r c ys xs A B C d e q w G N U.heap.size [] (U.alloc (.cells #[RI r,RI c,.slice (some (ar G 0)) C C] 344)):=⟨⟨r0.alloc _,hl _ _ H2.o,hl _ _ H3.o,hl _ _ H4.o,hl _ _ H5.o,(QL U _ _ (Qw bN)).trans bN,bM⟩,R.alloc R.size _⟩;obtain ⟨bw,aM,cM,HN,cO⟩:=ah ab R bM hN bV;clear ab R bM bN r0 hN V hl bV
 refine' wpIn_rangeFunc_ownG (F:=Fence.wide) (n:=3) rfl ap (gf:=255) (lb:=#[(au U.heap.size)]) rfl trivial (enters_of func255 (by kernel_rfl) rfl)
  (qe _ U.heap.size w.heap.size G 0 r c C C hr.2 hc a9.o.symm (Qx _) _ cM.o) mO (mQ (by have:=aM.o.size;simp;omega) (by simp)) (QA _ _) (λ_=>rfl)
  (Pv r c ys xs A B C d e q w G N U.heap.size)
  (λ_ _ _=>False)
  (KF r c ys xs A B C d e q w G N U.heap.size _ (by have:=aM.o.size;simp;omega))
  (λ_ _ _ _ _ hs _ _=>hs)
  cO.o
  _ ?assign ?body ?done ?stop
 case assign=>
  intro l x W K Q;unfold rP
  gi_wp2
  exact Q
 case body=>
  rintro l b9 x W ⟨⟨O,aR,b8,b3,a1,ad,b6⟩,a2⟩ a3;have O:W.ownsRow w.heap.size 2 1 (.slice (some (ar G 0)) C C) C (aA .i64 (pK r c ys xs q (b9.map (·.1)) x.1 0)):=by rw [Dh x.1 0];exact O
  obtain ⟨av,H2,H3,H4,H5,cl,bf,ao⟩:=ak O aR b8 b3 a1 ad b6 a2;have d2:=aa a3;clear O aR b8 b3 a1 ad b6 a2 a3
  gi_wp2_with fail
  gi_loopw [26] (λi wr=>∃j:Nat,j<=c/\i=RI j/\wr.ownsRow w.heap.size 2 1 (.slice (some (ar G 0)) C C) C (aA .i64 (pK r c ys xs q (b9.map (·.1)) x.1 j))/\Keep (λi=>i=G) W wr) (λi _=>c-(intOf i).toNat)
  .exact ⟨0,QB _,rfl,av.o,Keep.refl _ _⟩
  case round=>
   obtain ⟨j,hj,rfl,a7,Q⟩:=hrel;by_cases a3:j<c
   .have b0:x.1<ys.length:=by rw [cA.o];exact x.2
    have bo:j<xs.length:=by rw [cr.o];exact a3
    have d1:=bh.o;obtain ⟨b1,o1,cL,bb⟩:=HA.o.num b0;obtain ⟨b2,o2,cn,b7⟩:=HB.o.num bo;have l1:b1<w.heap.size:=aB bb;have l2:b2<w.heap.size:=aB b7;subst cL;subst cn;have hk:∀b v,b≠G->∀o,W.cell? (ar b o)=some v->wr.cell? (ar b o)=some v:=λb v hb o h=>Q.cell h hb;have H:(λJ:R8=>J.cell? (ar w.heap.size 0)=some (.slice (some (ar b1 o1)) r d)/\J.cell? (ar (w.heap.size+1) 0)=some (.slice (some (ar b2 o2)) c e)/\J.cell? (ar (w.heap.size+1+1) 0)=some (RI q)/\J.cell? (ar b1 (o1+x.1))=some (RI (nth ys x.1))/\J.cell? (ar b2 (o2+j))=some (RI (nth xs j))) wr.drew:=⟨hk _ _ ap _ (Boxed.cell H2.o),hk _ _ ap _ (Boxed.cell H3.o),hk _ _ ap _ (Boxed.cell H4.o),hk _ _ ap _ ((ao.o.cell (p:=(ar b1 (o1+x.1))) l1).trans bb),hk _ _ ap _ ((ao.o.cell (p:=(ar b2 (o2+j))) l2).trans b7)⟩;have d0:(x.1:Int)<r:=by have:=x.2;omega
    have a4:x.1*c+j<C:=by rw [<-a9.o];have:=rY (c:=c) x.2;omega
    have cb:=λJ=>vq (nth ys x.1) (nth xs j) q J (WY.o _ b0) (WX.o _ bo);obtain ⟨cv,ci,HK,bn⟩:=ag cb a7 Q a4;clear cb a7 Q hk a4 b0 bo bb b7
    gi_wp2_with fail
    refine nG (λJ:R8=>J.cell? (ar w.heap.size 0)=some (.slice (some (ar b1 o1)) r d)/\J.cell? (ar (w.heap.size+1) 0)=some (.slice (some (ar b2 o2)) c e)/\J.cell? (ar (w.heap.size+1+1) 0)=some (RI q)/\J.cell? (ar b1 (o1+x.1))=some (RI (nth ys x.1))/\J.cell? (ar b2 (o2+j))=some (RI (nth xs j))) (by kernel_rfl) (by kernel_rfl) (by rintro ⟨_,_,h⟩;exact h) ?_;refine wpAnyH_take (i:=0) (v:=?_) rfl (by kernel_rfl) (by kernel_rfl) (by kernel_rfl) (λ_ _ _ h=>h) (Or.inl ⟨by rfl,?_⟩) H ?_;rotate_left
    .intro w9 y;(try dsimp only at y);obtain ⟨s1,s2,Z,Y,s5⟩:=y;go_simp;(try with_reducible rfl)
    simp only [QS,QT,QU,Act.put,QV,QX,QY];refine wpAnyH_take (i:=1) (v:=?_) rfl (by kernel_rfl) (by kernel_rfl) (by kernel_rfl) (λ_ _ _ h=>h) (Or.inl ⟨by rfl,?_⟩) H ?_;rotate_left
    .intro w9 y;(try dsimp only at y);obtain ⟨s1,s2,Z,Y,s5⟩:=y;go_simp;(try with_reducible rfl)
    simp only [QS,QT,QU,Act.put,QV,QX,QY];refine wpAnyH_take (i:=2) (v:=?_) rfl (by kernel_rfl) (by kernel_rfl) (by kernel_rfl) (λ_ _ _ h=>h) (Or.inl ⟨by rfl,?_⟩) H ?_;rotate_left
    .intro w9 y;(try dsimp only at y);obtain ⟨s1,s2,Z,Y,s5⟩:=y;go_simp;(try with_reducible rfl)
    simp only [QS,QT,QU,Act.put,QV,QX,QY];refine wpAnyH_take (i:=3) (v:=?_) rfl (by kernel_rfl) (by kernel_rfl) (by kernel_rfl) (λ_ _ _ h=>h) (Or.inl ⟨by rfl,?_⟩) H ?_;rotate_left
    .intro w9 y;(try dsimp only at y);obtain ⟨s1,s2,Z,Y,s5⟩:=y;go_simp;(try with_reducible rfl)
    simp only [QS,QT,QU,Act.put,QV,QX,QY];refine wpAnyH_take (i:=4) (v:=?_) rfl (by kernel_rfl) (by kernel_rfl) (by kernel_rfl) (λ_ _ _ h=>h) (Or.inl ⟨by rfl,?_⟩) H ?_;rotate_left
    .intro w9 y;(try dsimp only at y);obtain ⟨s1,s2,Z,Y,s5⟩:=y;go_simp;(try with_reducible rfl)
    simp only [QS,QT,QU,Act.put,QV,QX,QY];refine wpAnyH_take (i:=5) (v:=?_) rfl (by kernel_rfl) (by kernel_rfl) (by kernel_rfl) (λ_ _ _ h=>h) (Or.inl ⟨by rfl,?_⟩) H ?_;rotate_left
    .intro w9 y;(try dsimp only at y);obtain ⟨s1,s2,Z,Y,s5⟩:=y;go_simp;(try with_reducible rfl)
    simp only [QS,QT,QU,Act.put,QV,QX,QY];refine wpAnyH_take (i:=6) (v:=?_) rfl (by kernel_rfl) (by kernel_rfl) (by kernel_rfl) (λ_ _ _ h=>h) (Or.inl ⟨by rfl,?_⟩) H ?_;rotate_left
    .intro w9 y;(try dsimp only at y);obtain ⟨s1,s2,Z,Y,s5⟩:=y;go_simp;(try with_reducible rfl)
    simp only [QS,QT,QU,Act.put,QV,QX,QY];refine wpAnyH_take (i:=7) (v:=?_) rfl (by kernel_rfl) (by kernel_rfl) (by kernel_rfl) (λ_ _ _ h=>h) (Or.inl ⟨by rfl,?_⟩) H ?_;rotate_left
    .intro w9 y;(try dsimp only at y);obtain ⟨s1,s2,Z,Y,s5⟩:=y;go_simp;(try with_reducible rfl)
    simp only [QS,QT,QU,Act.put,QV,QX,QY];refine wpAnyH_take (i:=8) (v:=?_) rfl (by kernel_rfl) (by kernel_rfl) (by kernel_rfl) (λ_ _ _ h=>h) (Or.inl ⟨by rfl,?_⟩) H ?_;rotate_left
    .intro w9 y;(try dsimp only at y);obtain ⟨s1,s2,Z,Y,s5⟩:=y;go_simp;(try with_reducible rfl)
    simp only [QS,QT,QU,Act.put,QV,QX,QY];refine wpAnyH_take (i:=9) (v:=?_) rfl (by kernel_rfl) (by kernel_rfl) (by kernel_rfl) (λ_ _ _ h=>h) (Or.inl ⟨by rfl,?_⟩) H ?_;rotate_left
    .intro w9 y;(try dsimp only at y);obtain ⟨s1,s2,Z,Y,s5⟩:=y;go_simp;(try with_reducible rfl)
    simp only [QS,QT,QU,Act.put,QV,QX,QY];refine wpAnyH_take (i:=10) (v:=?_) rfl (by kernel_rfl) (by kernel_rfl) (by kernel_rfl) (λ_ _ _ h=>h) (Or.inl ⟨by rfl,?_⟩) H ?_;rotate_left
    .intro w9 y;(try dsimp only at y);obtain ⟨s1,s2,Z,Y,s5⟩:=y;go_simp;(try with_reducible rfl)
    simp only [QS,QT,QU,Act.put,QV,QX,QY];refine wpAnyH_ready (rs:=[11]) (by kernel_rfl) (by simp) ?_;refine AllReadyH.cons rfl (λK Q=>?_) AllReadyH.nil;simp only [QS,QT,QU];go_simp;refine (cv.o _).mono ?_;rintro e w3 ⟨rfl,T⟩;dsimp only;have b5:(λJ:R8=>J.cell? (ar w.heap.size 0)=some (.slice (some (ar b1 o1)) r d)/\J.cell? (ar (w.heap.size+1) 0)=some (.slice (some (ar b2 o2)) c e)/\J.cell? (ar (w.heap.size+1+1) 0)=some (RI q)/\J.cell? (ar b1 (o1+x.1))=some (RI (nth ys x.1))/\J.cell? (ar b2 (o2+j))=some (RI (nth xs j))) w3:=⟨aw T H.1,aw T H.2.1,aw T H.2.2.1,aw T H.2.2.2.1,aw T H.2.2.2.2⟩;refine Q.out _ _ b5 (λ_=>?_);clear Q K H;have H:=b5;clear b5;have I:=az (w:=wr.drew) ci.o T;have cI:∃u,w3.cell? (ar G (x.1*c+j))=some u:=⟨_,cG I bn.o⟩;obtain ⟨u3,p3⟩:=cI;have f3:=I.frozenAt (x.1*c+j);obtain ⟨be,cx⟩:=ae I T;clear I T;refine wpAnyH_take (i:=12) (v:=?_) rfl (by kernel_rfl) (by kernel_rfl) (by kernel_rfl) (λ_ _ _ h=>h) (Or.inl ⟨by rfl,?_⟩) H ?_;rotate_left
    .intro w9 y;(try dsimp only at y);obtain ⟨s1,s2,Z,Y,s5⟩:=y;go_simp;(try with_reducible rfl)
    simp only [QS,QT,QU,Act.put,QV,QX,QY];refine wpAnyH_ready (rs:=[13]) (by kernel_rfl) (by simp) ?_;refine AllReadyH.cons rfl (λK Q=>?_) AllReadyH.nil;simp only [QS,QT,QU];go_simp;refine Q.out _ _ ?_ (λ_=>?_)
    .obtain ⟨s1,s2,Z,Y,s5⟩:=H;exact ⟨(World.cell?_setCell_far _ _ _ _ (show G≠w.heap.size by omega)).trans s1,(World.cell?_setCell_far _ _ _ _ (show G≠w.heap.size+1 by omega)).trans s2,(World.cell?_setCell_far _ _ _ _ (show G≠w.heap.size+1+1 by omega)).trans Z,(World.cell?_setCell_far _ _ _ _ (show G≠b1 by omega)).trans Y,(World.cell?_setCell_far _ _ _ _ (show G≠b2 by omega)).trans s5⟩
    refine wpAnyH_done (by kernel_rfl) ?_ _;clear H p3 f3 Q K
    gi_wp2_with fail
    refine ⟨⟨j+1,by omega,by go_num,?_,?_⟩,by simp [intOf];omega⟩
    .rw [<-KD x.2 a3];exact dF be.o _ _
    .exact Keep.setCell (HK.o.drew.trans (Keep.below cx.o)) (ar G _) (.inr rfl) _
   .obtain rfl:j=c:=ap
    gi_wp2_with fail
    have cj:=bh.o;have c6:=cf.o;have bI:=bw.o;have bX:=HN.o;have cd:Below w.heap.size W wr:=Q.toBelow ao.o.size (λk hk=>ap);have bv:=(Q.block _ (Qw bf.o) ap).trans bf.o;refine ⟨(lA Q λk o hk ho=>?_).from _,⟨cd,λ_=>bv.trans bf.o.symm⟩,⟨⟨?_,?_,?_,?_,?_,?_,bv⟩,ao.o.trans cd⟩⟩
    .subst hk;exact xA av.o ho
    .rw [List.map_append,List.map_singleton,<-KE hc.1];exact a7
    .exact (Q.block _ (Qw H2.o) ap).trans H2.o
    .exact (Q.block _ (Qw H3.o) ap).trans H3.o
    .exact (Q.block _ (Qw H4.o) ap).trans H4.o
    .exact (Q.block _ (Qw H5.o) ap).trans H5.o
    .exact (Q.block _ (Qw cl.o) ap).trans cl.o
 case done=>
  rintro D zs W hD rfl ⟨⟨O,aR,b8,b3,a1,ad,b6⟩,a2⟩ Q;obtain ⟨⟨n0,n1,n2⟩,nf⟩:=bx3 ad;obtain ⟨⟨m0,m1,m2⟩,mf⟩:=bx3 a1
  gi_wp2
  have aG:(List.finRange r).map (·.1)=List.range r:=List.ext_getElem (by simp) (by simp);rw [aG,GM hc.1] at O;have h3:=vO (RI r) (RI c) (.slice (some (ar G 0)) C C) a1;have k3:=sx (w:=W) (b:=w.heap.size+1+1+1) (RI r) (RI c) (.slice (some (ar G 0)) C C);have cj:=bh.o;have c6:=cf.o;have bI:=bw.o;have bX:=HN.o;simp only [QP] at hD;obtain ⟨W3,c9⟩:∃W3,W3=(((W.setCell (ar (w.heap.size+1+1+1) 0) (RI r)).setCell (ar (w.heap.size+1+1+1) 1) (RI c)).setCell (ar (w.heap.size+1+1+1) 2) (.slice (some (ar G 0)) C C)):=⟨_,rfl⟩;rw [<-c9] at h3 k3 |-;clear c9;have bi:W3.heap[D]?=some (.deferred (some [])):=(k3.block D (Qw Q) ap).trans Q;refine ⟨by simp,.inl ⟨_,_,rfl,run_takeDeferred bi,?_⟩⟩;have h4:(W3.putObj D (.deferred none)).heap[w.heap.size+1+1+1]?=some (.cells #[RI r,RI c,.slice (some (ar G 0)) C C] 344 (0,0)):=(World.putObj_heap_other ap).trans h3;have I:=ownsRow_putObj (k3.own O (λk hk e=>by simp [Value.ownBlock] at hk;omega)) (.deferred none) bi rfl;have a5:aq w (W3.putObj D (.deferred none)):=(a2.trans (k3.toBelow a2.size (λk hk=>ap))).trans (belowK_b (w:=w) (Qx _) W3 D _ _ ap bi rfl rfl);obtain ⟨W4,bO⟩:∃W4,W4=W3.putObj D (.deferred none):=⟨_,rfl⟩;rw [<-bO] at h4 I a5 |-;clear bO cj c6 bI bX aG;obtain ⟨⟨q0,q1,q2⟩,qf⟩:=bx3 h4;refine ⟨.agg #[RI r,RI c,.slice (some (ar G 0)) C C],by simp [results,results237,go_sem,q0,q1,q2],_,rfl,I,a5⟩
 case stop=>
  rintro D c b9 W _ _ h _;exact h.elim
end Go.Proofs.YtindmkcnjlgomaaGreat
namespace Go.Proofs.YtindmkcnjlgomaaGreat
open Go.RowKit
open Tryz
theorem qC {P:Program} {w:R8} {ops:T0} {rest:List Oper} {o:Oper} {a:T1} {Q:Exit->T1->R8->Prop} (p:o.guard=none) (d s:Operand) (y C:R9) (D:o.op=.call {callee:=.builtin .copy,args:=#[d,s],argTypes:=#[y,C]}) (elem:R9) (hu:P.underlying y=some (.slice elem)) (hsz:(P.info? elem).map (·.size)=some 1) (dp sp:N_) (n dCap sCap:Nat) (hd:a.eval d=.slice dp n dCap) (hs:a.eval s=.slice sp n sCap) (g off:Nat) (cur:R7) (t:R9) (hg:w.heap[g]?=some (.cells cur.toArray t (0,0))) (cs:R7) (hn:cs.length=n) (hdp:0<n->dp=some (ar g off)) (hr:Rd w sp cs) (hfit:off+cs.length<=cur.length) (h1:∀v∈cs,v.oneCell'=true) (h:∀B,an (B.heap[g]?=some (.cells (splice cur off cs).toArray t (0,0)))->Keep (λi=>i=g) w B->wpList P ops Q rest (a.put o.dst (goInt cs.length)) B):
  wpList P ops Q (o::rest) a w:=by
 by_cases I:cs.length=0
 .obtain rfl:cs=[]:=List.eq_nil_of_length_eq_zero I;refine wpList_copy_nothing p d s y C D elem hu hsz dp sp n dCap n sCap hd hs (by simp at hn;subst hn;rfl) ?_;exact h w (show _=_ by simpa [splice] using hg) (Keep.refl _ _)
 .obtain rfl:=hdp ap
  have J:∃A,sp=some A/\∀j v,cs[j]?=some v->w.cell? (A.add j)=some v:=by
   obtain ⟨b,O,u,_⟩:=hr 0 cs[0] (Rj ap);refine ⟨_,u,λj v H=>?_⟩;obtain ⟨L,N,e,hc⟩:=hr j v H;rw [u] at e;injection e with e
   injection e with e1 e2 _
   subst e1;subst e2;rw [Addr.add_lit];exact hc
  obtain ⟨A,rfl,x⟩:=J;refine wpList_copy_own p d s y C D elem hu hsz g off n dCap A n sCap hd hs cur.toArray t hg cs (by rw [hn];exact (Nat.min_self n).symm) x (by simpa using hfit) h1 ?_;exact h _ (show _=_ by simpa [splice] using setRow_heap w g _ _ t _ hg) ⟨rfl,rfl,rfl,by simp [World.setRow],λk hk hn=>setRow_other w g k _ hn⟩
theorem Cq {P:Program} {w:R8} {ops:T0} {I:R6} {o:Oper} {a:T1} {K:T1->R8->Prop} {Q:Exit->T1->R8->Prop} {E:Prop} (d s:Operand) (y D:R9) (B:o.guard=none) (H:o.op=.call {callee:=.builtin .copy,args:=#[d,s],argTypes:=#[y,D]}) (elem:R9) (hu:P.underlying y=some (.slice elem)) (hsz:(P.info? elem).map (·.size)=some 1) (dp sp:N_) (n dCap sCap:Nat) (hd:a.eval d=.slice dp n dCap) (hs:a.eval s=.slice sp n sCap) (g off:Nat) (cur:R7) (t:R9) (hg:w.heap[g]?=some (.cells cur.toArray t (0,0))) (cs:R7) (hn:cs.length=n) (hdp:0<n->dp=some (ar g off)) (hr:Rd w sp cs) (hfit:off+cs.length<=cur.length) (h1:∀v∈cs,v.oneCell'=true) (h:∀C,an (C.heap[g]?=some (.cells (splice cur off cs).toArray t (0,0)))->Keep (λi=>i=g) w C->K (a.put o.dst (goInt cs.length)) C):
  if Region.wanted o (yielded ops I)=true then Oper.wp P o a w K Q else E:=by
 rw [if_pos (by simp [Region.wanted,B])];by_cases L:cs.length=0
 .obtain rfl:cs=[]:=List.eq_nil_of_length_eq_zero L;have p:=run_copy_none (P:=P) w y D o.type elem dp sp n dCap n sCap hu hsz (by simp at hn;subst hn;rfl);unfold Oper.wp;simp [execOp,H,resolve,invoke,builtin,hd,hs,p,Result.andThen];exact h w (show _=_ by simpa [splice] using hg) (Keep.refl _ _)
 .obtain rfl:=hdp ap
  have N:∃A,sp=some A/\∀j v,cs[j]?=some v->w.cell? (A.add j)=some v:=by
   obtain ⟨b,T,u,_⟩:=hr 0 cs[0] (Rj ap);refine ⟨_,u,λj v J=>?_⟩;obtain ⟨O,R,e,hc⟩:=hr j v J;rw [u] at e;injection e with e
   injection e with e1 e2 _
   subst e1;subst e2;rw [Addr.add_lit];exact hc
  obtain ⟨A,rfl,x⟩:=N;have p:=run_copy_row (P:=P) w y D o.type elem g off n dCap A n sCap cur.toArray t cs hu hsz hg (by rw [hn];exact (Nat.min_self n).symm) x (by simpa using hfit) h1;unfold Oper.wp;simp [execOp,H,resolve,invoke,builtin,hd,hs,p,Result.andThen];exact h _ (show _=_ by simpa [splice] using setRow_heap w g _ _ t _ hg) ⟨rfl,rfl,rfl,by simp [World.setRow],λk hk hn=>setRow_other w g k _ hn⟩
theorem KA {w:R8} {base:Nat} {e:R9} {g n:Nat} {xs:R7} (h:w.ownsRow base e 1 (.slice (some (ar g 0)) n n) n xs):w.heap[g]?=some (.cells xs.toArray e (0,0)):=by
 rcases h.2 with ⟨u,_⟩ | ⟨v,cap,i,o,_,hg,_,_,hs,p⟩
 .cases u
 .simp only [Rv,Option.some.injEq,Addr.mk.injEq,and_true,true_and] at o;obtain ⟨rfl,rfl⟩:=o;rw [Nat.mul_one] at hs p
  have:i=xs.toArray:=by
   rw [<-p,List.take_of_length_le (by simp [hs])]
  rw [<-this];exact hg
theorem nJ (q:IntKind) (a b:Q_) (h:Nat):splice (aA q a) h (aA q b)=aA q (splice a h b):=by
 unfold splice;rw [dE,bU,dL,<-db,<-db]
theorem LJ {w:R8} {base:Nat} {e:R9} {g:Nat} {xs:R7} (h:w.heap[g]?=some (.cells xs.toArray e (0,0))) (hb:base<=g) (hm:xs.length<=maxLen):w.ownsRow base e 1 (.slice (some (ar g 0)) xs.length xs.length) xs.length xs:=
 ⟨by simp,.inr ⟨g,xs.length,xs.toArray,rfl,hb,h,Qx _,hm,by simp,by simp⟩⟩
theorem yu {o W D:Q_} {lo:Nat} (h:lo+W.length+D.length<=o.length):(splice (splice o lo W) (lo+W.length) D).drop lo=W++(D++o.drop (lo+W.length+D.length)):=by
 have p:splice o lo W=(o.take lo++W)++o.drop (lo+W.length):=by unfold splice;rw [Ro]
 have l1:(o.take lo++W).length=lo+W.length:=by rw [Rh,Rn];omega
 have u:(splice o lo W).take (lo+W.length)=o.take lo++W:=by rw [p,<-l1,List.take_left]
 have x:(splice o lo W).drop (lo+W.length+D.length)=o.drop (lo+W.length+D.length):=by
  rw [p,List.drop_append,l1,List.drop_of_length_le (by rw [l1];omega),List.nil_append,List.drop_drop]
  congr 1
  omega
 have v:splice (splice o lo W) (lo+W.length) D=o.take lo++(W++(D++o.drop (lo+W.length+D.length))):=by
  show (splice o lo W).take (lo+W.length)++(D++(splice o lo W).drop (lo+W.length+D.length))=_
  rw [u,x,Ro]
 have i:(o.take lo).length=lo:=by rw [Rn];omega
 rw [v]
 conv=>lhs;rw [<-i]
 rw [i,List.drop_append_of_le_length (by rw [i];exact Qx _),List.drop_of_length_le (by rw [i];exact Qx _),List.nil_append]
def P8 (sz ps:Q_) (q:Int) (x y:Q_) (G:Nat) (k:Nat) (D:Value) (h i w:R8):Prop:=
 ∃A c o,D=.slice A (szN sz (k+1)) c/\w.ownsRow h.heap.size 2 1 (.slice A (szN sz (k+1)) c) (szN sz (k+1)) (aA .i64 (gF sz ps q x y (sz.length-2-k)))/\
  w.heap[G]?=some (.cells (aA .i64 o).toArray 2 (0,0))/\o.length=bS sz (sz.length-1)/\o.drop (bS sz (k+1))=rx sz ps q x y (sz.length-2-k)/\(∀a,A=some a->a.block≠G)/\aq i w
theorem JS:dg prog 69 2:=⟨⟨_,underlying69,rfl⟩,by kernel_rfl⟩
theorem NN (b:Nat) (sz ps:Q_) (q:Int) (A B:N_) (x y:Q_) (c d:Nat) (w:R8) (h:mG 199 342 w b sz ps q) (hg:dY sz) (wp:W64 ps) (hA:Rd w A (aA .i64 x)) (hx:x.length=szN sz 0) (wx:W64 x) (hB:Rd w B (aA .i64 y)) (hy:y.length=szN sz (sz.length-1)):Calls prog 221 #[.pointer (some ⟨b,0,none⟩),.slice A x.length c,.slice B y.length d] w λe u=>∃A' c',e=.returned (.tuple #[.slice A' (bS sz (sz.length-1)) c',.bool true])/\u.ownsRow w.heap.size 2 1 (.slice A' (bS sz (sz.length-1)) c') (bS sz (sz.length-1)) (aA .i64 (fX sz ps q x y))/\aq w u:=by
 have hm:=Nx b sz ps q A B x y c d w h hg wp hA hx wx hB hy;have e7:=h.lt;obtain ⟨S,Ap,cp,Al,cl,rows,h0,h1,h2,h3,h4,h5,h6⟩:=h;have cc:=λu (k:aq w u)=>lh S sz u (h1.below k);have cI:=λu (k:aq w u)=>kZ S sz u (h1.below k);have d5:=λj u (k:aq w u)=>pN S sz j u (h1.below k) (by have:=hg.1.1.2;omega);have d2:=λj u (k:aq w u)=>qN S sz j u (h1.below k) (by have:=hg.1.1.2;omega);have er:=hg.2;have da:fX sz ps q x y=rx sz ps q x y (sz.length-1):=rfl;obtain ⟨n,hn⟩:∃n,sz.length-1=n:=⟨_,rfl⟩;obtain ⟨N,hN⟩:∃N,bS sz n=N:=⟨_,rfl⟩;have f6:pO (dI sz ps q x n) y=gF sz ps q x y 0:=by show _=pO _ _;rw [hn]
 rw [hn] at h0 cI d5 d2 h4 h6 cc er da hm hy |-;rw [hN] at cc er |-;rw [f6] at hm;have i3:1<=n/\n<=15:=by have:=hg.1.1;omega
 obtain ⟨Hm,h8,gk,gO,hp,H0,H3,H4⟩:=ak hm cc cI d5 d2 h0 h3 h4;obtain ⟨H5,H6,HG,WP,Hx,WX,Hy,Hn⟩:=ak h5 h6 hg wp hx wx hy hn;obtain ⟨HN,gp⟩:=ae hN da;clear hm cc cI d5 d2 h0 h1 h2 h3 h4 h5 h6 hg wp hA hx wx hB hy hn hN da f6;go_enter func221,ntmps221;go_wp2_with fail;go_step3;go_wp2_with fail;refine Hm.o.mono ?_;rintro e R ⟨A',c',D,dc,vals,rfl,hr,eb,hc,ho,hb⟩;have bN:=(hb.block b e7).trans H0.o;obtain ⟨⟨r0,r1,r2,r3⟩,rf⟩:=bx4 bN;have fs:b<R.heap.size:=Qw bN;have aP:=hb.size;obtain ⟨Hr,gc,Hc,Ho,Hb,f3⟩:=ai hr eb hc ho hb bN;clear hr eb hc ho hb bN;go_wp2_with fail;refine (h8.o _ Hb.o).mono ?_;rintro e u ⟨rfl,rfl⟩;have e6:(8:Nat)*N<=281474976710656:=ap;have hJ:=aa e6;clear e6;go_wp2_with (at_make;refine wH nc _ rfl (.tmp 31) (.tmp 31) rfl rfl N rfl rfl hJ.o (by unfold maxLen;omega) ?_);intro w2 fr d9;have c7:=KA fr;rw [fI] at c7;have bO:=(d9.block b fs).trans f3.o;clear r0 r1 r2 r3 rf;obtain ⟨⟨r0,r1,r2,r3⟩,rf⟩:=bx4 bO;have hS:=Qw bO;have i6:=Qw c7;obtain ⟨df,hF,i0⟩:=af d9 c7 bO;clear fr d9 c7 bO;have cw:(n:Int)-1=((n-1:Nat):Int):=ap;have fe:IntKind.i64.wrap ((n:Int)-1)=((n-1:Nat):Int):=by rw [QC _ ap];omega
 rw [cw] at fe;go_wp2_with fail;go_step3;go_wp2_with fail;refine (gk.o _ (Hb.o.trans (df.o.mono aP))).mono ?_;rintro e u ⟨rfl,rfl⟩;go_wp2_with fail;clear fe cw r0 r1 r2 r3 rf
 go_loopw [9,12] (λv i wr=>∃k:Nat,k<=n-1/\i=RI k/\P8 sz ps q x y R.heap.size k v w R wr) (λ_ i _=>(intOf i).toNat)
 case atStart=>
  have ec:sz.length-2-(n-1)=0:=by have:=Hn.o;omega
  have dk:n-1+1=n:=ap;refine ⟨n-1,Qx _,rfl,D,dc,List.replicate N 0,?_,?_,hF.o,?_,?_,?_,df.o⟩
  .rw [dk,<-Hy.o]
  .rw [ec,dk,<-Hy.o];exact az Ho.o df.o
  .rw [Hn.o,HN.o];simp
  .rw [ec,dk,HN.o];simp [rx]
  .intro a ha e;have:=(Ho.o.lt a.block (by rw [ha];rfl)).2;omega
 case round=>
  obtain ⟨k,hk,rfl,A9,c9,o,rfl,ho,dT,b6,f4,eX,hW⟩:=hrel;have ci:=(hW.block b fs).trans f3.o;obtain ⟨⟨r0,r1,r2,r3⟩,rf⟩:=bx4 ci;have f5:aq w wr:=Hb.o.trans (hW.mono aP);have gx:b<wr.heap.size:=Qw ci;obtain ⟨cM,hf,bz,hG,g7,eu,HW,bb⟩:=ak ci ho dT b6 f4 eX hW f5;clear ci ho dT b6 f4 eX hW f5;have fd:=gO.o k;have b3:=hp.o k;obtain ⟨hz,hI⟩:=ae fd b3;clear fd b3;go_wp2_with fail
  go_cut [13,14] (λv1 v2 wx=>∃M1 M2,v1=.pointer (some ⟨M1,0,none⟩)/\v2=.pointer (some ⟨M2,0,none⟩)/\wx.heap[M1]?=some (.cells #[RI (bS sz k:Int),RI (dM sz k:Int)] 69 (0,0))/\wx.heap[M2]?=some (.cells #[RI (dM sz k:Int),RI (bS sz (k+1):Int)] 69 (0,0))/\wr.heap.size<=M1/\wr.heap.size<=M2/\aq wr wx)
  case first=>
   have t0:∀u,aq wr u->u.cell? ⟨b,0,none⟩=some (.pointer (some ⟨S,0,none⟩)):=λu k=>Qz u b 0 _ _ _ (sb cM.o u k);have tl:=sl cM.o;have q:aq wr wr.drew:=(br wr).drew;clear r0 r1 r2 r3 rf;refine HA.g (λu:R8=>aq wr u) ?_;refine HA.t ?_ [0,1,2,3,4,6,7,8,9,10] q ?_;obtain ⟨U,hU⟩:∃U,wr.drew=U:=⟨_,rfl⟩;rw [hU] at q |-;clear hU
   repeat' first
    | (refine HA.three 5 12 13 ?_ ?_ ?_)
    | (refine HA.three 11 12 13 ?_ ?_ ?_)
    | (refine HA.two 5 12 ?_ ?_)
    | (refine HA.two 5 13 ?_ ?_)
    | (refine HA.two 11 12 ?_ ?_)
    | (refine HA.two 11 13 ?_ ?_)
    | (refine HA.two 12 13 ?_ ?_)
    | (refine HA.sole 5 ?_)
    | (refine HA.sole 11 ?_)
    | (refine HA.sole 12 ?_)
    | (refine HA.sole 13 ?_)
    | (refine HAS.c (i:=5) (hz.o U (bb.o.trans (q.mono bb.o.size)) ap) ?_;rintro e V ⟨rfl,kV⟩;(try replace gA:=sb gA _ kV);(try replace gB:=sb gB _ kV);replace q:=q.trans (kV.mono q.size);refine ⟨_,rfl,q,λ_=>?_⟩;clear kV;obtain ⟨U,rfl⟩:∃U,U=V:=⟨_,rfl⟩)
    | (refine HAS.c (i:=11) (hI.o U (bb.o.trans (q.mono bb.o.size)) ap) ?_;rintro e V ⟨rfl,kV⟩;(try replace gA:=sb gA _ kV);(try replace gB:=sb gB _ kV);replace q:=q.trans (kV.mono q.size);refine ⟨_,rfl,q,λ_=>?_⟩;clear kV;obtain ⟨U,rfl⟩:∃U,U=V:=⟨_,rfl⟩)
    | (have hA:=q.size;have bV:=(br U).alloc (Qx _) (.cells #[RI 0,RI 0] 69);have gA:=Qy U (.cells #[RI 0,RI 0] 69);(try have nB:=Qw gB);(try replace gB:=sb gB _ bV);replace q:=q.alloc q.size (.cells #[RI 0,RI 0] 69);refine HAS.v (i:=12) (U.alloc (.cells #[RI 0,RI 0] 69)) (.pointer (some ⟨U.heap.size,0,none⟩)) q ?_;obtain ⟨V,hv⟩:∃V,U.alloc (.cells #[RI 0,RI 0] 69)=V:=⟨_,rfl⟩;rw [hv] at gA q |-;(try rw [hv] at gB);clear hv bV;obtain ⟨mm,hm⟩:∃mm,U.heap.size=mm:=⟨_,rfl⟩;rw [hm] at gA hA |-;(try rw [hm] at nB);clear hm;obtain ⟨U,rfl⟩:∃U,U=V:=⟨_,rfl⟩)
    | (have hB:=q.size;have bV:=(br U).alloc (Qx _) (.cells #[RI 0,RI 0] 69);have gB:=Qy U (.cells #[RI 0,RI 0] 69);(try have nA:=Qw gA);(try replace gA:=sb gA _ bV);replace q:=q.alloc q.size (.cells #[RI 0,RI 0] 69);refine HAS.v (i:=13) (U.alloc (.cells #[RI 0,RI 0] 69)) (.pointer (some ⟨U.heap.size,0,none⟩)) q ?_;obtain ⟨V,hv⟩:∃V,U.alloc (.cells #[RI 0,RI 0] 69)=V:=⟨_,rfl⟩;rw [hv] at gB q |-;(try rw [hv] at gA);clear hv bV;obtain ⟨mm,hm⟩:∃mm,U.heap.size=mm:=⟨_,rfl⟩;rw [hm] at gB hB |-;(try rw [hm] at nA);clear hm;obtain ⟨U,rfl⟩:∃U,U=V:=⟨_,rfl⟩)
    | (refine HA.st 14 gA JS (λw8 e8 k8=>?_);refine ⟨Mz q k8 q.size hA,?_⟩;refine HA.st 15 ((k8.block _ (Qw gB) ap).trans gB) JS (λw9 e9 k9=>?_);have F:=Nn (w:=wr) ap hA hB q e8 k8 e9 k9;refine ⟨F.2.2.2.2.2,HA.d ?_⟩;have HF:=aa F;clear F e8 k8 e9 k9 t0 tl gA gB q;go_wp2_with fail;go_meet;exact ⟨_,_,rfl,rfl,HF.o.1,HF.o.2.1,HF.o.2.2.2⟩)
  case rest=>
   obtain ⟨M1,M2,rfl,rfl,ao,bn,j0,ia,hB⟩:=hcut;have hR:=HG.o.1;have fa:=Hn.o;have f9:k+1<sz.length:=ap;have z0:=hR.at (k:=k) ap;have z1:=hR.at f9;have cv:=HG.o.mul f9;have e5:1<=szN sz (k+1)*szN sz k:=Nat.mul_pos z1.1 z0.1;have a2:dM sz k=bS sz k+szN sz (k+1)*szN sz k:=rfl;have Z:=fR sz k;have a0:=gr sz (show k+1<=n by omega);have fn:=HN.o;have d1:sz.length-2-k=n-1-k:=ap;have a8:=mw (sz:=sz) (ps:=ps) (q:=q) (x:=x) (y:=y) Hx.o (n-1-k);rw [show sz.length-1-(n-1-k)=k+1 by omega] at a8;have bw:=vC sz ps q x y (n-1-k);have a7:=fG (sz:=sz) (ps:=ps) (q:=q) Hx.o k;have cj:=qH (sz:=sz) (ps:=ps) (q:=q) WX.o k;obtain ⟨Ak,ck,bX,gf,cb⟩:=gc.o.2 k ap;rw [a7] at bX;obtain ⟨bo,oo,rfl,pv⟩:=Hr.o _ _ bX;have hu:bo<R.heap.size:=aB pv;have bA:aq R wc:=HW.o.trans (hB.mono HW.o.size);have cY:=(bA.cell (p:=⟨bo,oo+k,none⟩) hu).trans pv;have bs:=(hB.block b gx).trans cM.o;have dd:=(hB.block R.heap.size (Qw bz.o)).trans bz.o;have ab:=az hf.o hB;rw [d1] at ab;have bh:=cb.below bA;obtain ⟨lo,cL⟩:∃lo,bS sz k=lo:=⟨_,rfl⟩;obtain ⟨r,hr⟩:∃r,szN sz (k+1)=r:=⟨_,rfl⟩;obtain ⟨c0,b0⟩:∃c0,szN sz k=c0:=⟨_,rfl⟩;obtain ⟨H,Y⟩:∃H,r*c0=H:=⟨_,rfl⟩;rw [<-Z,a2] at bn;rw [a2] at ao;rw [<-Z,a2] at a0;rw [cL,hr,b0,Y] at ao bn a0;rw [hr] at a8 z1 ab;rw [b0] at a7 z0 cY;rw [hr,b0,Y] at e5 cv;rw [hr];obtain ⟨ev,dv⟩:∃ev,gF sz ps q x y (n-1-k)=ev:=⟨_,rfl⟩;obtain ⟨vv,d0⟩:∃vv,dI sz ps q x k=vv:=⟨_,rfl⟩;rw [dv] at a8 bw ab;rw [d0] at a7 cj bh cb;have gN:=aa cb;have bI:=λW (h:aq wc W)=>GK r c0 A9 Ak ev vv c9 ck q W ⟨z1.1,z1.2.1⟩ ⟨z0.1,z0.2.1⟩ (by rw [Y];exact cv) ((Rd.own ab).below h) bw a8 (bh.below h) a7 cj;rw [Y] at bI;have cO:(mX r c0 ev vv q).length=H:=by rw [Dg,Y]
   obtain ⟨ow,d7⟩:∃ow,mX r c0 ev vv q=ow:=⟨_,rfl⟩;rw [d7] at bI cO;obtain ⟨⟨m0,m1⟩,mf⟩:=bx2 ao;obtain ⟨⟨n0,n1,n2,n3⟩,nf⟩:=bx4 bs;have ih:=Qw ao;have hE:R.heap.size<wc.heap.size:=Qw dd;have hX:b<wc.heap.size:=Qw bs;have hO:bo<wc.heap.size:=ap;have cs:M1≠R.heap.size:=by have:=HW.o.size;have:=Qw bz.o;omega
   have f8:M2≠R.heap.size:=by have:=HW.o.size;have:=Qw bz.o;omega
   have b6:o.length=N:=by rw [hG.o,fa,fn]
   have gU:lo+H+r<=N:=ap;have hT:k<sz.length:=ap;have j1:¬(N=lo):=ap;have j7:lo+H<=N:=ap;have il:(lo:Int)+H<=N:=ap;have io:((lo:Int)+H).toNat=lo+H:=ap;have k0:(0:Int)<=(lo:Int)+H:=ap;have j2:(lo:Int)<=(lo:Int)+H:=ap;obtain ⟨k1,bi,jj,gd,h9,hC,av,gy⟩:=ak ao bn bs dd ab bI cO d7;obtain ⟨em,ey,eL,a6,Q,bG,h7,HB⟩:=ak dv d0 cL hr b0 Y bA hB;obtain ⟨O,i5,gs,WV,a5,gJ,gZ,hV⟩:=ak b6 bh a7 cj a8 bw d1 bX;clear ao bn bs dd ab bI cO d7 dv d0 cL hr b0 Y bA hB b6 bh a7 cj a8 bw d1 bX gf cb pv a2 Z a0 fn fa n0 n1 n3 nf mf;go_wp2_with fail;have C:(λu:R8=>u.cell? ⟨M1,0,none⟩=some (RI lo)/\u.cell? ⟨M1,1,none⟩=some (RI ((lo:Int)+H))/\u.cell? ⟨bo,oo+k,none⟩=some (.slice Ak c0 ck)/\u.cell? ⟨b,2,none⟩=some (RI q)) wc.drew:=⟨m0,m1,cY,n2⟩;refine HA.g (λu:R8=>u.cell? ⟨M1,0,none⟩=some (RI lo)/\u.cell? ⟨M1,1,none⟩=some (RI ((lo:Int)+H))/\u.cell? ⟨bo,oo+k,none⟩=some (.slice Ak c0 ck)/\u.cell? ⟨b,2,none⟩=some (RI q)) ?_;refine HA.t ?_ [0,1,2,3,4,5,6,7,8,9,10,11,12,13,14] C ?_;refine HA.o 15 (λK hK=>?_);go_simp;refine (hC.o _ ((QA wc.heap.size wc).drew)).mono ?_;rintro e w5 ⟨A5,rfl,b9,a9⟩;have eo:=QF (aw a9 C.1) (QF (aw a9 C.2.1) (QF (aw a9 C.2.2.1) (aw a9 C.2.2.2)));have aG:aq wc w5:=(QA wc.heap.size wc).drew.trans a9;have eY:=(aG.block _ hE).trans gd.o;have b9:=Rd.own b9;obtain ⟨g6,gV,ad⟩:=af eY b9 aG;clear eY b9 a9 aG C;dsimp only;refine hK.out _ _ eo (λC=>?_);clear hK K eo;refine HA.o 16 (λK hK=>?_);go_simp;refine hK.out _ _ C (λC=>?_);clear hK K;refine HA.o 17 (λK hK=>?_);refine Cq (.tmp 58) (.tmp 69) 73 73 rfl rfl 2 underlying73 (by kernel_rfl) (some ⟨R.heap.size,lo,none⟩) A5 H (N-lo) H rfl rfl R.heap.size lo (aA .i64 o) 2 g6.o (aA .i64 ow) (by rw [bU,av.o]) (λ_=>rfl) gV.o (by rw [bU,bU,av.o,O.o];omega) (cH _ _) ?_;intro w6 dw T;rw [nJ] at dw;have eS:=QF (T.cell C.1 (by exact cs)) (QF (T.cell C.2.1 (by exact cs)) (QF (T.cell C.2.2.1 (show bo≠_ by omega)) (T.cell C.2.2.2 (show b≠_ by omega))));have a3:=(T.block M2 (Qw ((ad.o.block _ (Qw bi.o)).trans bi.o)) f8).trans ((ad.o.block _ (Qw bi.o)).trans bi.o);obtain ⟨gI,d4⟩:=ae dw T;clear dw T C;dsimp only;refine hK.out _ _ eS (λC=>?_);clear hK K eS;refine HA.d ?_
   have eG:w6.ownsRow w.heap.size 2 1 (.slice A9 r c9) r (aA .i64 ev):=d4.o.own (az h9.o ad.o) (λi hi e=>by
    cases A9 with
    | none=>cases hi
    | some a=>simp [Value.ownBlock] at hi;exact eu.o a rfl (hi.trans e))
   have dG:=C.2.2.2;have ef:=C.2.2.1;obtain ⟨⟨hq,g9⟩,hD⟩:=bx2 a3;have hQ:=Qw a3;obtain ⟨fi,hM⟩:=ae eG a3;clear eG a3 C m0 m1 cY n2;have i4:¬(N=lo+H):=ap;have hY:lo+H+r<=N:=ap;have id:(lo:Int)+H+r<=N:=ap;have i8:((lo:Int)+H+r).toNat=lo+H+r:=ap;have jA:(0:Int)<=(lo:Int)+H+r:=ap;have j5:(lo:Int)+H<=(lo:Int)+H+r:=ap;have gm:=aa (show (aA .i64 ev).length=r by rw [bU,a5.o]);obtain ⟨ga,gv⟩:=ae (show lo+H+(aA .i64 ev).length<=(aA .i64 (splice o lo ow)).length by rw [bU,bU,a5.o,length_splice _ _ _ (by rw [av.o,O.o];omega),O.o];omega) (show (prog.info? 2).map (·.size)=some 1 by kernel_rfl);go_wp2_with (refine qC rfl (.tmp 76) (.tmp 77) 73 73 rfl 2 underlying73 gv.o (some ⟨R.heap.size,lo+H,none⟩) A9 r (N-(lo+H)) c9 rfl rfl R.heap.size (lo+H) (aA .i64 (splice o lo ow)) 2 gI.o (aA .i64 ev) gm.o (λ_=>rfl) (Rd.own fi.o) ga.o (cH _ _) ?_);intro w7 bM b8;rw [nJ] at bM;obtain ⟨o7,c6⟩:∃o7,splice (splice o lo ow) (lo+H) ev=o7:=⟨_,rfl⟩
   have f7:o7.length=N:=by
    have h1:(splice o lo ow).length=N:=by rw [length_splice _ _ _ (by rw [av.o,O.o];omega),O.o]
    rw [<-c6,length_splice _ _ _ (by rw [h1,a5.o];omega),h1]
   have ej:o7.drop (bS sz k)=rx sz ps q x y (n-k):=by
    have e1:=Hn.o;have e2:=yu (o:=o) (W:=ow) (D:=ev) (lo:=lo) (by rw [av.o,a5.o,O.o];exact gU);rw [av.o,a5.o,c6] at e2;rw [eL.o,e2,show n-k=(n-1-k)+1 by omega]
    have e3:bS sz (k+1)=lo+H+r:=by
     rw [<-fR sz k,show dM sz k=bS sz k+szN sz (k+1)*szN sz k from rfl,eL.o,a6.o,Q.o,bG.o]
    have e4:=g7.o;rw [e3,gZ.o] at e4;rw [rx,show sz.length-1-(n-1-k)=k+1 by omega,show sz.length-2-(n-1-k)=k by omega,a6.o,Q.o,em.o,ey.o,gy.o,<-e4]
   have cr:aq R w7:=h7.o.trans (((ad.o.mono ap).trans (d4.o.toBelow (by have:=ad.o.size;omega) (λi hi=>ap))).trans (b8.toBelow (by have:=d4.o.size;have:=ad.o.size;omega) (λi hi=>ap)));rw [c6] at bM
   have fc:=b8.own fi.o (λi hi e=>by
    cases A9 with
    | none=>cases hi
    | some a=>simp [Value.ownBlock] at hi;exact eu.o a rfl (hi.trans e))
   have gR:=b8.cell dG (show b≠_ by omega);have f2:=b8.cell ef (show bo≠_ by omega);obtain ⟨cA,ds,es,a1,gz⟩:=ah bM f7 ej cr fc;clear bM f7 ej cr fc c6 b8 dG ef hq g9 hD;by_cases dp:k=0
   .have cy:((k:Int)==0)=true:=by simp [dp]
    have co:w7.ownsRow w.heap.size 2 1 (.slice (some ⟨R.heap.size,0,none⟩) N N) N (aA .i64 (fX sz ps q x y)):=by
     have e1:=es.o;rw [dp] at e1;have e2:o7=fX sz ps q x y:=by rw [gp.o,<-Nat.sub_zero n,<-e1];rfl
     have e3:=LJ (base:=w.heap.size) (xs:=aA .i64 o7) (by exact cA.o) aP (by rw [bU,ds.o];unfold maxLen;omega);rw [bU,ds.o] at e3;rw [<-e2];exact e3
    have eM:=aa co;clear co dp;have L:=Hb.o.trans (a1.o.mono aP);have ew:=aa L;clear L;go_wp2_with fail
    try rw [Exit.noGoto_ret]
    go_ret2;exact ⟨_,_,rfl,eM.o,ew.o⟩
   .have cy:((k:Int)==0)=false:=by simp;omega
    obtain ⟨gl,ol,dl,Bl,el,hcs,hd,eB,hrb⟩:=H6.o k ap;have b5:k<rows.length:=by rw [H4.o];omega
    have cf:∀t,t<4->(List.flatten rows)[k*4+t]?=(cF rows k)[t]?:=λt ht=>nZ H5.o k t b5 ht;have e0:=cf 0 ap;have e1:=cf 1 ap;have e2:=cf 2 ap;rw [hcs] at e0 e1 e2;simp only [Nat.add_zero,Rc,Ra] at e0 e1 e2;obtain ⟨bl,ob,gb,q0⟩:=H3.o _ _ e0;obtain ⟨_,_,b2,q1⟩:=H3.o _ _ e1;obtain ⟨_,_,b4,q2⟩:=H3.o _ _ e2;subst gb;injection b2 with b2;injection b2 with i1 i2 _;subst i1;subst i2
    injection b4 with b4;injection b4 with i1 i2 _;subst i1;subst i2
    have d3:bl<w.heap.size:=aB q0;have L:=Hb.o.trans (a1.o.mono aP);have dn:=(L.cell (p:=⟨bl,ob+k*4,none⟩) d3).trans q0;have be:=(L.cell (p:=⟨bl,ob+(k*4+1),none⟩) d3).trans q1;have cd:=(L.cell (p:=⟨bl,ob+(k*4+2),none⟩) d3).trans q2;rw [<-Rz] at be cd;rw [a6.o] at dn;rw [Q.o] at be;rw [a6.o,Q.o,bG.o] at cd hd;have ee:=(L.block b e7).trans H0.o;obtain ⟨⟨n0,n1,n2,n3⟩,nf⟩:=bx4 ee;have aR:=Cg sz ps k;rw [a6.o,Q.o,bG.o] at aR;have b3:=Io r c0 gl ol H dl (wL sz ps k) A9 ev c9 q w7.drew ⟨z1.1,z1.2.1⟩ ⟨z0.1,z0.2.1⟩ bG.o.symm hd ap aR ((eB.below L).drewN 1) (I8 WP.o sz k) ((Rd.own gz.o).drewN 1) a5.o gJ.o;have i7:k<n:=ap;obtain ⟨hs,ew⟩:=ae b3 L;clear b3 L ee aR eB hrb hcs e0 e1 e2 q0 q1 q2 cf b5 hd;go_wp2_with fail
    go_region_held3 (λu=>u.cell? ⟨b,3,none⟩=some (.slice (some ⟨bl,ob,none⟩) n cl)/\u.cell? ⟨bl,ob+k*4,none⟩=some (RI r)/\u.cell? ⟨bl,ob+k*4+1,none⟩=some (RI c0)/\u.cell? ⟨bl,ob+k*4+2,none⟩=some (.slice (some ⟨gl,ol,none⟩) H dl)/\u.cell? ⟨b,2,none⟩=some (RI q)) (simp [go_sem, *])
     ((go_at_call 238;refine hs.o.mono ?_;rintro e w8 ⟨A8,c8,rfl,a4,J⟩;have g0:=aw J n3;have g1:=aw J dn;have g2:=aw J be;have g3:=aw J cd;have g4:=aw J n2;have g5:=aw J f2;obtain ⟨hh,gT⟩:=ae a4 J;clear a4 J))
    go_wp2_with fail;have aM:=sB (wL sz ps k) r c0 ev q;obtain ⟨bk,b1⟩:∃bk,pT (wL sz ps k) r c0 ev q=bk:=⟨_,rfl⟩;have a4:=aF (base':=w7.heap.size) hh.o (by simp);rw [b1] at aM a4;obtain ⟨cx,fb,eV⟩:=af aM a4 b1;have J:=(QA w7.heap.size w7).drew.trans gT.o;have gX:=aa J;clear aM a4 b1 J g0 g1 g2 g3 g4 g5 n0 n1 n2 n3 nf f2 dn be cd gR cy
    go_loopw [103] (λi wx=>∃j:Nat,j<=c0/\i=RI j/\wx.ownsRow w7.heap.size 2 1 (.slice A8 c0 c8) c0 (aA .i64 (lD bk j (λi=>if 0<nth vv i then nth bk i else 0)))/\aq w7 wx) (λi _=>c0-(intOf i).toNat)
    .exact ⟨0,QB _,rfl,by rw [iU];exact fb.o,gX.o⟩
    case round=>
     obtain ⟨j,hj,rfl,I,b7⟩:=hrel;by_cases d6:j<c0
     .obtain ⟨g8,d8,ea,gG,_⟩:=I.form ap;simp only [Rv] at ea;obtain ⟨rfl,gg,rfl⟩:=ea;clear gg;have dr:j<bk.length:=by rw [cx.o];exact d6
      have p1:=cG I d6;rw [ij _ dr,if_neg ap] at p1;have f1:=I.frozenAt j;have f0:=jR (l:=bk) (k:=j) (λi=>if 0<nth vv i then nth bk i else 0) dr;obtain ⟨bv,ov,rfl,i9⟩:=((gN.o.below a1.o).below b7).num (show j<vv.length by rw [gs.o];exact d6);obtain ⟨HO,bf,go⟩:=af I b7 f0;clear I b7 f0 dr;go_wp2_with fail;refine (LH _ _ _).mono ?_;rintro e w9 ⟨rfl,rfl⟩;go_wp2_with fail;go_roundw
      .exact ⟨j+1,by omega,by go_num,by rw [<-go.o];exact dF HO.o j _,bf.o.setCell (p:=⟨g8,j,none⟩) gG _⟩
      .simp [intOf];omega
     .obtain rfl:j=c0:=ap;obtain ⟨HO,bf⟩:=ae I b7;clear I b7;have ei:IntKind.i64.wrap ((k:Int)-1)=((k-1:Nat):Int):=by rw [QC _ ap];omega
      have cn:(k:Int)-1=((k-1:Nat):Int):=ap;rw [cn] at ei;go_wp2_with fail;clear ei cn;go_roundw
      case rel=>
       have ek:k-1+1=k:=ap;have en:=Hn.o;have he:R.heap.size<w7.heap.size:=Qw cA.o
       have hL:gF sz ps q x y (sz.length-2-(k-1))=lD bk j (λi=>if 0<nth vv i then nth bk i else 0):=by
        rw [show sz.length-2-(k-1)=(n-1-k)+1 by omega,gF,show sz.length-2-(n-1-k)=k by omega,show sz.length-1-(n-1-k)=k+1 by omega,em.o,ey.o,a6.o,Q.o,eV.o];rw [<-cx.o,jS];rfl
       refine ⟨k-1,by omega,rfl,A8,c8,o7,?_,?_,?_,?_,?_,?_,?_⟩
       .rw [ek,Q.o]
       .rw [ek,Q.o,hL];exact aF HO.o ap
       .exact (bf.o.block _ he).trans cA.o
       .rw [ds.o,en,HN.o]
       .rw [ek,es.o,show sz.length-2-(k-1)=n-k by omega]
       .intro a ha e9;have:=(HO.o.lt a.block (by rw [ha];rfl)).1;omega
       .exact a1.o.trans (bf.o.mono ap)
      case measure=>simp [intOf];omega
end Go.Proofs.YtindmkcnjlgomaaGreat
