/- No condition. -/
import Derived.Test.YthamijnggdjaoaaGreatQ07
import Derived.Laws.ComplexArith
set_option linter.unusedSimpArgs false
set_option linter.unusedVariables false
set_option maxRecDepth 100000
set_option maxHeartbeats 4000000
namespace Go.Proofs.YthamijnggdjaoaaGreat
open Ieee
open Tryz
abbrev DB:Format:=double
def wd (z:Int):Nat:=DB.nearest (decide (z<0)) z.natAbs 0
theorem uy (a:Bool) (n:Nat):Toward.even.cut a n 0=n:=by
 unfold Toward.cut;simp [Nat.mod_one]
theorem rR (e:Bool) {n d q:Nat} (h:n=q*2^d) (i:q≠0):Toward.even.cut e n d=q:=by
 have a:d<=n.log2+2:=by
  have j:2^d<=n:=by rw [h];exact Nat.le_mul_of_pos_left _ (Nat.pos_of_ne_zero i)
  have k:d<=n.log2:=(Nat.le_log2 (by have:=Nat.two_pow_pos d;omega)).2 j;omega
 unfold Toward.cut;simp only [Nat.min_eq_left a,Nat.one_shiftLeft];have g:=Nat.two_pow_pos d;rw [h,Nat.mul_div_cancel _ g,Nat.mul_mod_left];simp
def sig (m:Nat):Nat:=m*2^(52-m.log2)
theorem o4 {m:Nat} (a:m≠0) (h:m<2^53):m.log2<=52:=by
 have:=(Nat.log2_lt a).2 h;omega
theorem sR {m:Nat} (a:m≠0) (h:m<2^53):2^52<=sig m/\sig m<2^53:=by
 have hl:=o4 a h;have e:=Nat.log2_self_le a;have g:=Nat.lt_log2_self (n:=m);unfold sig;constructor
 ·calc 2^52=2^m.log2*2^(52-m.log2):=by rw [<-Nat.pow_add];congr 1;omega
   _<=m*2^(52-m.log2):=yX _ e
 ·calc m*2^(52-m.log2)<2^(m.log2+1)*2^(52-m.log2):=Nat.mul_lt_mul_of_pos_right g (Nat.two_pow_pos _)
   _=2^53:=by rw [<-Nat.pow_add];congr 1;omega
theorem rI {m:Nat} (g:m≠0) (k:Nat):(m*2^k).log2=m.log2+k:=by
 have h:=Nat.two_pow_pos k;have e:m*2^k≠0:=Nat.mul_ne_zero g am;have j:=Nat.log2_self_le g;have i:=Nat.lt_log2_self (n:=m);have a:m.log2+k<=(m*2^k).log2:=(Nat.le_log2 e).2 (by rw [Nat.pow_add];exact yX _ j)
 have b:(m*2^k).log2<m.log2+k+1:=(Nat.log2_lt e).2 (by
  rw [show m.log2+k+1=(m.log2+1)+k by omega,Nat.pow_add]
  exact Nat.mul_lt_mul_of_pos_right i h)
 omega
theorem tW:DB.leastPlace= -1074:=by decide
theorem ua:DB.infRung=2047*2^52:=by decide
theorem qc (a:Bool) {m:Nat} (i:m≠0) (h:m<2^53) (k:Nat):DB.nearest a (m*2^k) (-(k:Int))=DB.word a ((m.log2+1022)*2^52+sig m):=by
 have hl:=o4 i h;have n:=sR i h;have j:m*2^k≠0:=Nat.mul_ne_zero i (by have:=Nat.two_pow_pos k;omega);unfold Format.nearest;rw [if_neg j,rI i k]
 have e:max (-(k:Int)+((m.log2+k:Nat):Int)-(DB.fractionBits:Int)) DB.leastPlace=(m.log2:Int)-52:=by
  rw [tW]
  show max (-(k:Int)+((m.log2+k:Nat):Int)-((52:Nat):Int)) (-1074)=_
  omega
 simp only [e]
 have g:Toward.even.cut a ((m*2^k)<<<(-(k:Int)-((m.log2:Int)-52)).toNat) ((m.log2:Int)-52- -(k:Int)).toNat=sig m:=by
  rw [Nat.shiftLeft_eq];by_cases l:k<=52-m.log2
  ·rw [show ((m.log2:Int)-52- -(k:Int)).toNat=0 by omega,uy,show (-(k:Int)-((m.log2:Int)-52)).toNat=52-m.log2-k by omega,Nat.mul_assoc,<-Nat.pow_add];unfold sig
   congr 2
   omega
  ·rw [show (-(k:Int)-((m.log2:Int)-52)).toNat=0 by omega,Nat.pow_zero,Nat.mul_one];refine rR a ?_ am;unfold sig;rw [Nat.mul_assoc,<-Nat.pow_add]
   congr 2
   omega
 rw [g,tW,ua,show ((m.log2:Int)-52- -1074).toNat=m.log2+1022 by omega]
 show DB.word a (min ((m.log2+1022)*2^52+sig m) _)=_
 rw [Nat.min_eq_left am]
theorem vZ {z:Int} (a:z≠0) (h:z.natAbs<2^53):wd z=DB.word (decide (z<0)) ((z.natAbs.log2+1022)*2^52+sig z.natAbs):=by
 have:=qc (decide (z<0)) (m:=z.natAbs) am h 0;rw [Nat.pow_zero,Nat.mul_one] at this;exact this
theorem js:wd 0=0:=by decide
theorem rh (a:Bool) {r:Nat} (hr:r<2^63) (k:2^52<=r) (j:r<2047*2^52):DB.read (DB.word a r)=.number a (2^52+r%2^52) (-1074+(r/2^52-1:Nat)):=by
 have e:DB.signWeight=2^63:=by decide
 have i:DB.binade=2^52:=by decide
 have h:(DB.word a r/DB.signWeight%2==1)=a:=by
  rw [e];unfold Format.word;rw [e]
  cases a
  ·simp only [Bool.false_eq_true,if_false];rw [Nat.div_eq_of_lt hr];rfl
  ·simp only [if_true];rw [show (2^63+r)/2^63=1 by omega];rfl
 have g:DB.word a r%DB.signWeight=r:=by
  rw [e];unfold Format.word;rw [e]
  cases a
  ·simp only [Bool.false_eq_true,if_false];exact Nat.mod_eq_of_lt hr
  ·simp only [if_true];omega
 unfold Format.read;simp only [h,g,i,ua,tW];rw [if_neg am,if_pos j]
theorem kN (a:Bool):DB.read (DB.word a 0)=.number a 0 (-1074):=by cases a<;>decide
def IsZ (d:Datum) (z:Int):Prop:=∃s m p,d=.number s m p/\p<=0/\signed s m 0=z*2^(-p).toNat/\(z≠0->s=decide (z<0))
def IsW (w:Nat) (z:Int):Prop:=w=wd z\/(z=0/\w=DB.word true 0)
theorem oh (z:Int) (k:Nat):signed (decide (z<0)) (z.natAbs*k) 0=z*k:=by
 unfold signed;rw [Nat.shiftLeft_zero]
 split
 ·next h=>
  have h:z<0:=by simpa using h
  rw [Int.natCast_mul,show (z.natAbs:Int)= -z by omega,Int.neg_mul,Int.neg_neg]
 ·next h=>
  have h:¬z<0:=by simpa using h
  rw [Int.natCast_mul,show (z.natAbs:Int)=z by omega]
theorem IsW.read {w:Nat} {z:Int} (h:IsW w z) (e:z.natAbs<2^53):IsZ (DB.read w) z:=by
 by_cases a:z=0
 ·subst a;rcases h with h | ⟨_,h⟩
  ·have:w=DB.word false 0:=by rw [h,js];decide
   rw [this,kN];exact ⟨_,_,_,rfl,by decide,by rw [Int.zero_mul];rfl,fun h=>absurd rfl h⟩
  ·rw [h,kN];exact ⟨_,_,_,rfl,by decide,by rw [Int.zero_mul];rfl,fun h=>absurd rfl h⟩
 ·rcases h with h | ⟨h,_⟩
  ·have g:=sR (m:=z.natAbs) am e;have hl:=o4 (m:=z.natAbs) am e;rw [h,vZ a e,rh _ am am am];refine ⟨_,_,_,rfl,by omega,?_,fun _=>rfl⟩;rw [show 2^52+((z.natAbs.log2+1022)*2^52+sig z.natAbs)%2^52=sig z.natAbs by omega];rw [show (-(-1074+(((z.natAbs.log2+1022)*2^52+sig z.natAbs)/2^52-1:Nat):Int)).toNat=52-z.natAbs.log2 by omega];unfold sig;rw [oh];push_cast;rfl
  ·exact absurd h a
theorem gn (s:Bool) (m u:Nat):signed s m u=signed s m 0*2^u:=by
 unfold signed
 cases s
 ·simp [Nat.shiftLeft_eq]
 ·simp [Nat.shiftLeft_eq,Int.neg_mul]
theorem pI {s:Bool} {z:Int} {k:Nat} {p:Int} (i:p= -(k:Int)) (g:z.natAbs<2^53) (j:z≠0->s=decide (z<0)):IsW (DB.write (.number s (z.natAbs*2^k) p)) z/\(z=0->s=false->DB.write (.number s (z.natAbs*2^k) p)=wd z)/\(z≠0->DB.write (.number s (z.natAbs*2^k) p)=wd z):=by
 by_cases a:z=0
 ·subst a
  have e:DB.write (.number s ((0:Int).natAbs*2^k) p)=DB.word s 0:=by
   show DB.nearest s ((0:Int).natAbs*2^k) p=_
   unfold Format.nearest;simp
  rw [e];refine ⟨?_,fun _ h=>by rw [h,js];decide,fun h=>absurd rfl h⟩
  cases s
  ·exact .inl (by rw [js];decide)
  ·exact .inr ⟨rfl,rfl⟩
 ·have e:DB.write (.number s (z.natAbs*2^k) p)=wd z:=by
   show DB.nearest s (z.natAbs*2^k) p=_
   rw [i,qc s am g k,vZ a g,j a]
  rw [e];exact ⟨.inl rfl,fun h=>absurd h a,fun _=>rfl⟩
theorem wg {x A:Datum} {e g:Int} (u:IsZ x e) (o:IsZ A g) (I:(e+g).natAbs<2^53):∃d,x.sum A=some d/\IsW (DB.write d) (e+g)/\((e=0->x.neg=false)->DB.write d=wd (e+g)):=by
 obtain ⟨s,m,i,rfl,Q,O,K⟩:=u;obtain ⟨t,n,j,rfl,R,H,E⟩:=o;have P:min i j<=0:=am;obtain ⟨k,F⟩:∃k:Nat,min i j= -(k:Int):=⟨(-(min i j)).toNat,by omega⟩;have p:∀(a b:Nat),(2:Int)^a*2^b=2^(a+b):=fun a b=>(Int.pow_add 2 a b).symm
 have J:signed s m (i-min i j).toNat=e*2^k:=by
  rw [gn,O,Int.mul_assoc,p]
  congr 2
  omega
 have D:signed t n (j-min i j).toNat=g*2^k:=by
  rw [gn,H,Int.mul_assoc,p]
  congr 2
  omega
 have q:(0:Int)<2^k:=Int.pow_pos (by decide);have M:signed s m (i-min i j).toNat+signed t n (j-min i j).toNat=(e+g)*2^k:=by rw [J,D,Int.add_mul]
 have G:((e+g)*2^k).natAbs=(e+g).natAbs*2^k:=by rw [Int.natAbs_mul];congr 1
 have B:((e+g)*2^k=0)↔e+g=0:=⟨fun h=>by rcases Int.mul_eq_zero.1 h with h | h<;>omega,fun h=>by rw [h,Int.zero_mul]⟩
 have N:((e+g)*2^k<0)↔e+g<0:=by
  constructor
  ·intro h;apply Classical.byContradiction;intro C;have:=Int.mul_nonneg (show 0<=e+g by omega) (Int.le_of_lt q);omega
  ·intro h;exact Int.mul_neg_of_neg_of_pos h q
 refine ⟨_,rfl,?_⟩
 show IsW (DB.write (.number (if signed s m (i-min i j).toNat+signed t n (j-min i j).toNat=0 then s&&t else decide (signed s m (i-min i j).toNat+signed t n (j-min i j).toNat<0)) (signed s m (i-min i j).toNat+signed t n (j-min i j).toNat).natAbs (min i j))) (e+g)/\(_->DB.write (.number (if signed s m (i-min i j).toNat+signed t n (j-min i j).toNat=0 then s&&t else decide (signed s m (i-min i j).toNat+signed t n (j-min i j).toNat<0)) (signed s m (i-min i j).toNat+signed t n (j-min i j).toNat).natAbs (min i j))=_)
 rw [M,G];obtain ⟨y,l⟩:∃y,(if (e+g)*2^k=0 then s&&t else decide ((e+g)*2^k<0))=y:=⟨_,rfl⟩;rw [l];have hw:=pI (s:=y) (z:=e+g) (k:=k) F I (fun h=>by rw [<-l,if_neg (fun o=>h (B.1 o))];exact decide_eq_decide.2 N);refine ⟨hw.1,fun C=>?_⟩;by_cases v:e+g=0
 ·refine hw.2.1 v ?_;rw [<-l,if_pos (B.2 v)];by_cases u:e=0
  ·have:s=false:=C u;rw [this];rfl
  ·have a:=K u;have b:=E am;rw [a,b];by_cases o:e<0
   ·have L:¬g<0:=am;simp [L]
   ·simp [o]
 ·exact hw.2.2 v
theorem xA {d:Datum} {z:Int} (h:IsZ d z):IsZ d.opposite (-z):=by
 obtain ⟨s,m,p,rfl,g,e,i⟩:=h;refine ⟨_,_,_,rfl,g,?_,fun j=>?_⟩
 ·rw [Int.neg_mul,<-e];unfold signed
  cases s<;>simp
 ·rw [i am];by_cases a:z<0
  ·have:¬-z<0:=am;simp [a];omega
  ·have: -z<0:=am;simp [a];omega
theorem wK {q p:Datum} {g a:Int} (A:IsZ q g) (x:IsZ p a) (C:(g*a).natAbs<2^53):∃d,q.product p=some d/\IsW (DB.write d) (g*a):=by
 obtain ⟨s,m,i,rfl,H,E,D⟩:=A;obtain ⟨t,n,j,rfl,I,B,y⟩:=x;refine ⟨_,rfl,?_⟩;have k:∀(s:Bool) (m:Nat),(signed s m 0).natAbs=m:=fun s m=>by unfold signed;cases s<;>simp
 have F:m=g.natAbs*2^(-i).toNat:=by rw [<-k s m,E,Int.natAbs_mul];congr 1
 have G:n=a.natAbs*2^(-j).toNat:=by rw [<-k t n,B,Int.natAbs_mul];congr 1
 have hm:m*n=(g*a).natAbs*2^((-i).toNat+(-j).toNat):=by
  rw [F,G,Int.natAbs_mul,Nat.pow_add];simp only [Nat.mul_assoc,Nat.mul_left_comm]
 show IsW (DB.write (.number (s^^t) (m*n) (i+j))) (g*a)
 rw [hm];refine (pI am C fun h=>?_).1;have u:g≠0:=fun e=>h (by rw [e,Int.zero_mul]);have v:a≠0:=fun e=>h (by rw [e,Int.mul_zero]);rw [D u,y v];rcases Int.lt_or_gt_of_ne u with o | o<;>rcases Int.lt_or_gt_of_ne v with l | l
 ·have:=Int.mul_pos_of_neg_of_neg o l;simp [o,l,show ¬g*a<0 by omega]
 ·have:=Int.mul_neg_of_neg_of_pos o l;simp [o,show ¬a<0 by omega,this]
 ·have:=Int.mul_neg_of_pos_of_neg o l;simp [show ¬g<0 by omega,l,this]
 ·have:=Int.mul_pos o l;simp [show ¬g<0 by omega,show ¬a<0 by omega,show ¬g*a<0 by omega]
theorem xe {x y:Nat} {a e:Int} (k:IsW x a) (j:IsW y e) (g:a.natAbs<2^53) (m:e.natAbs<2^53) (p:(a+e).natAbs<2^53):∃r,floatBits .add .f64 x y=some r/\IsW r (a+e)/\(x=wd a->r=wd (a+e)):=by
 obtain ⟨d,i,n,h⟩:=wg (k.read g) (j.read m) p;refine ⟨DB.write d,?_,n,fun o=>h fun l=>?_⟩
 ·show DB.add x y=_
  unfold Format.add;rw [i];rfl
 ·rw [o,l,js];decide
theorem xS {x y:Nat} {e a:Int} (j:IsW x e) (i:IsW y a) (g:e.natAbs<2^53) (k:a.natAbs<2^53) (m:(e-a).natAbs<2^53):∃r,floatBits .sub .f64 x y=some r/\IsW r (e-a):=by
 obtain ⟨d,h,l, -⟩:=wg (j.read g) (xA (i.read k)) (by rw [<-Int.sub_eq_add_neg];exact m);refine ⟨DB.write d,?_,by rw [Int.sub_eq_add_neg];exact l⟩
 show DB.sub x y=_
 unfold Format.sub;rw [h];rfl
theorem vG {x y:Nat} {e a:Int} (j:IsW x e) (i:IsW y a) (g:e.natAbs<2^53) (k:a.natAbs<2^53) (m:(e*a).natAbs<2^53):∃r,floatBits .mul .f64 x y=some r/\IsW r (e*a):=by
 obtain ⟨d,h,l⟩:=wK (j.read g) (i.read k) m;refine ⟨DB.write d,?_,l⟩
 show DB.mul x y=_
 unfold Format.mul;rw [h];rfl
theorem l4 {x y:Nat} {i g:Int} (B:IsW x i) (v:IsW y g) (l:i.natAbs<2^53) (C:g.natAbs<2^53):(DB.order x y==some .eq)=decide (i=g):=by
 obtain ⟨s,m,p,u,F,o, -⟩:=B.read l;obtain ⟨t,n,q,E,G,j, -⟩:=v.read C;unfold Format.order;rw [u,E]
 show (some (compare (signed s m (p-min p q).toNat) (signed t n (q-min p q).toNat))==some .eq)=_
 have a:signed s m (p-min p q).toNat=i*2^(-(min p q)).toNat:=by
  rw [gn,o,Int.mul_assoc,<-Int.pow_add]
  congr 2
  omega
 have b:signed t n (q-min p q).toNat=g*2^(-(min p q)).toNat:=by
  rw [gn,j,Int.mul_assoc,<-Int.pow_add]
  congr 2
  omega
 rw [a,b];have k:(2:Int)^(-(min p q)).toNat≠0:=Int.ne_of_gt (Int.pow_pos (by decide));by_cases h:i=g
 ·subst h;simp [compare,compareOfLessAndEq,Int.lt_irrefl]
 ·have D:i*2^(-(min p q)).toNat≠g*2^(-(min p q)).toNat:=fun e=>h (Int.eq_of_mul_eq_mul_right k e);have A:compare (i*2^(-(min p q)).toNat) (g*2^(-(min p q)).toNat)≠.eq:=fun e=>D (Std.LawfulEqOrd.eq_of_compare e);simp [h,A]
theorem cV {x u:Int} {B:Nat} (e:x.natAbs<=B) (a:u.natAbs<=1):(x*u).natAbs<=B:=by
 rw [Int.natAbs_mul]
 calc x.natAbs*u.natAbs<=B*1:=Nat.mul_le_mul e a
  _=B:=Nat.mul_one _
theorem xj {a b c d:Nat} {x y u t:Int} (k:IsW a x) (h:IsW b y) (hc:IsW c u) (g:IsW d t) (bx:x.natAbs<=2^50) (e:y.natAbs<=2^50) (bu:u.natAbs<=1) (bt:t.natAbs<=1):
  ∃i j,cMulBits a b c d=some (i,j)/\IsW i (x*u-y*t)/\IsW j (x*t+y*u):=by
 have N:=cV bx bu;have O:=cV e bt;have I:=cV bx bt;have J:=cV e bu;obtain ⟨H,D,m⟩:=vG k hc am am am;obtain ⟨M,C,G⟩:=vG h g am am am;obtain ⟨o,E,p⟩:=xS m G am am am;obtain ⟨K,F,l⟩:=vG k g am am am;obtain ⟨L,n,B⟩:=vG h hc am am am;obtain ⟨v,A,q, -⟩:=xe l B am am am;exact ⟨o,v,by unfold cMulBits;simp [D,C,E,F,n,A],p,q⟩
theorem xi {a b c d:Nat} {x y u t:Int} (l:IsW a x) (o:IsW b y) (hc:IsW c u) (h:IsW d t) (bx:x.natAbs<=2^50) (q:y.natAbs<=2^50) (bu:u.natAbs<=2^50) (bt:t.natAbs<=2^50):
  ∃g e,cSumBits .add .f64 a b c d=some (g,e)/\IsW g (x+u)/\IsW e (y+t):=by
 obtain ⟨m,k,j, -⟩:=xe l hc am am am;obtain ⟨i,p,n, -⟩:=xe o h am am am;exact ⟨m,i,by unfold cSumBits;simp [k,p],j,n⟩
def IsC (v:Value) (z:Int×Int):Prop:=∃a b,v=.complex .f64 a b/\IsW a z.1/\IsW b z.2
def bY (x:Int):Int:=IntKind.i16.wrap x
def ci:Nat->Int×Int->Int×Int
 | 0,z=>z
 | k+1,z=>ci k (-z.2,z.1)
def gP:Nat->Int×Int->N3->Int×Int
 | _,z,[]=>z
 | k,z,x::l=>gP (k+1) (z.1+(ci (k%4) (bY x,0)).1,z.2+(ci (k%4) (bY x,0)).2) l
theorem fw (x:Int):(bY x).natAbs<=32768:=by
 unfold bY IntKind.wrap;simp [IntKind.bits,IntKind.signed];omega
theorem iu (k:Nat):∀(z:Int×Int) (B:Nat),z.1.natAbs<=B->z.2.natAbs<=B->(ci k z).1.natAbs<=B/\(ci k z).2.natAbs<=B:=by
 induction k with
 | zero=>intro z B a e;exact ⟨a,e⟩
 | succ k ih=>intro z B a e;exact ih _ B (by show (-z.2).natAbs<=B;omega) a
theorem nC:∀(l:N3) (k:Nat) (z:Int×Int) (B:Nat),z.1.natAbs<=B->z.2.natAbs<=B->(gP k z l).1.natAbs<=B+32768*l.length/\(gP k z l).2.natAbs<=B+32768*l.length
 | [],_,_,_,h1,h2=>⟨h1,h2⟩
 | x::l,k,z,B,h1,h2=>by
  obtain ⟨g,a⟩:=iu (k%4) (bY x,0) 32768 (fw x) (by show (0:Int).natAbs<=32768;decide);obtain ⟨h,e⟩:=nC l (k+1) (z.1+(ci (k%4) (bY x,0)).1,z.2+(ci (k%4) (bY x,0)).2) (B+32768) (by show (z.1+_).natAbs<=_;omega) (by show (z.2+_).natAbs<=_;omega);rw [List.length_cons];exact ⟨by show (gP (k+1) _ l).1.natAbs<=_;omega,by show (gP (k+1) _ l).2.natAbs<=_;omega⟩
theorem jZ:∀(l:N3) (k:Nat) (z:Int×Int) (x:Int),gP k z (l++[x])=((gP k z l).1+(ci ((k+l.length)%4) (bY x,0)).1,(gP k z l).2+(ci ((k+l.length)%4) (bY x,0)).2)
 | [],_,_,_=>rfl
 | y::l,k,z,x=>by
  show gP (k+1) _ (l++[x])=_
  rw [jZ l,List.length_cons,show k+1+l.length=k+(l.length+1) by omega];rfl
def cK (l:N3):Int×Int:=gP 0 (0,0) l
theorem iD {l:N3} (h:l.length<=1048576):(cK l).1.natAbs<=2^50/\(cK l).2.natAbs<=2^50:=by
 obtain ⟨a,b⟩:=nC l 0 (0,0) 0 (by decide) (by decide);exact ⟨by unfold cK;omega,by unfold cK;omega⟩
theorem jY {l:N3} {k:Nat} (h:k<l.length):cK (l.take (k+1))=((cK (l.take k)).1+(ci (k%4) (bY (nth l k),0)).1,(cK (l.take k)).2+(ci (k%4) (bY (nth l k),0)).2):=by
 have e:l.take (k+1)=l.take k++[nth l k]:=by
  rw [List.take_add_one,show l[k]?=some (nth l k) by simp [nth,yC h]];rfl
 unfold cK;rw [e,jZ,yF,Nat.min_eq_left am,yR]
def dQ:Nat->Int×Int
 | 0=>(1,0)
 | 1=>(0,1)
 | 2=>(-1,0)
 | _=>(0, -1)
theorem qy {j:Nat} (h:j<4) (x:Int):ci j (x,0)=(x*(dQ j).1-0*(dQ j).2,x*(dQ j).2+0*(dQ j).1):=by
 have hc:j=0\/j=1\/j=2\/j=3:=am;rcases hc with rfl | rfl | rfl | rfl<;>simp [ci,dQ]
def dH:Nat->Nat×Nat
 | 0=>(4607182418800017408,0)
 | 1=>(0,4607182418800017408)
 | 2=>(13830554455654793216,0)
 | _=>(0,13830554455654793216)
theorem mB (j:Nat):IsW (dH j).1 (dQ j).1/\IsW (dH j).2 (dQ j).2:=by
 match j with
 | 0=>exact ⟨.inl (by decide),.inl (by decide)⟩
 | 1=>exact ⟨.inl (by decide),.inl (by decide)⟩
 | 2=>exact ⟨.inl (by decide),.inl (by decide)⟩
 | j+3=>exact ⟨.inl (by show 0=wd 0;decide),.inl (by show 13830554455654793216=wd (-1);decide)⟩
theorem mC (j:Nat):(dQ j).1.natAbs<=1/\(dQ j).2.natAbs<=1:=by
 match j with
 | 0=>decide
 | 1=>decide
 | 2=>decide
 | j+3=>exact ⟨by show (0:Int).natAbs<=1;decide,by show (-1:Int).natAbs<=1;decide⟩
abbrev M64:Int:=18446744073709551616
abbrev HP:Int:=1099511628211
theorem sj (x:Int):IntKind.u64.wrap x=x%M64:=by
 unfold IntKind.wrap;simp [IntKind.bits,IntKind.signed]
def dA:Int->N3->Int
 | h,[]=>h
 | h,x::l=>dA (IntKind.u64.wrap (IntKind.u64.wrap (h+IntKind.u64.wrap x)*HP)) l
def fI:N3->Int
 | []=>1
 | _::l=>IntKind.u64.wrap (fI l*HP)
def eB:N3->Int
 | []=>0
 | x::l=>IntKind.u64.wrap (eB l+IntKind.u64.wrap (IntKind.u64.wrap x*IntKind.u64.wrap (fI l*HP)))
def Em (a b:Int):Prop:=∃k,a=b+M64*k
theorem Em.refl (a:Int):Em a a:=⟨0,by omega⟩
theorem Em.trans {a b c:Int}:Em a b->Em b c->Em a c:=by
 rintro ⟨k,rfl⟩ ⟨j,rfl⟩;exact ⟨j+k,by rw [Int.mul_add];omega⟩
theorem Em.symm {a b:Int}:Em a b->Em b a:=by
 rintro ⟨k,rfl⟩;exact ⟨-k,by rw [Int.mul_neg];omega⟩
theorem Em.add {a b c d:Int}:Em a b->Em c d->Em (a+c) (b+d):=by
 rintro ⟨k,rfl⟩ ⟨j,rfl⟩;exact ⟨k+j,by rw [Int.mul_add];omega⟩
theorem Em.mul {a b c d:Int}:Em a b->Em c d->Em (a*c) (b*d):=by
 rintro ⟨k,rfl⟩ ⟨j,rfl⟩;exact ⟨k*d+b*j+M64*(k*j),by grind⟩
theorem Em.wrap (a:Int):Em (IntKind.u64.wrap a) a:=by
 rw [sj];exact ⟨-(a/M64),by have:=Int.emod_add_mul_ediv a M64;rw [Int.mul_neg];omega⟩
theorem Em.eq {a b:Int} (h:Em a b):IntKind.u64.wrap a=IntKind.u64.wrap b:=by
 obtain ⟨k,rfl⟩:=h;rw [sj,sj,Int.add_mul_emod_self_left]
theorem qi:∀(l:N3) (h:Int),IntKind.u64.wrap h=h->IntKind.u64.wrap (dA h l)=dA h l
 | [],_,e=>e
 | x::l,h,_=>qi l _ (by rw [sj,sj,Int.emod_emod])
theorem iY:∀l:N3,Em (fI l) (HP^l.length)
 | []=>⟨0,rfl⟩
 | x::l=>((Em.wrap _).trans ((iY l).mul (Em.refl HP))).trans (by rw [<-Int.pow_succ];exact Em.refl _)
theorem nE:∀(l:N3) (h:Int),Em (dA h l) (h*HP^l.length+eB l)
 | [],h=>by show Em h (h*HP^0+0);rw [Int.pow_zero];exact ⟨0,by omega⟩
 | x::l,h=>by
  have a:Em (IntKind.u64.wrap (IntKind.u64.wrap (h+IntKind.u64.wrap x)*HP)) ((h+x)*HP):=(Em.wrap _).trans (((Em.wrap _).trans ((Em.refl h).add (Em.wrap x))).mul (Em.refl HP));have b:=(nE l (IntKind.u64.wrap (IntKind.u64.wrap (h+IntKind.u64.wrap x)*HP))).trans ((a.mul (Em.refl (HP^l.length))).add (Em.refl (eB l)));have c:Em (eB (x::l)) (eB l+x*(HP^l.length*HP)):=(Em.wrap _).trans ((Em.refl _).add ((Em.wrap _).trans ((Em.wrap x).mul ((Em.wrap _).trans ((iY l).mul (Em.refl HP))))));refine b.trans (Em.symm (((Em.refl (h*HP^(x::l).length)).add c).trans ⟨0,?_⟩));rw [List.length_cons,Int.pow_succ];generalize HP^l.length=y;generalize eB l=s
  grind
theorem vE (l:N3):IntKind.u64.wrap (eB l+fI l)=dA 1 l:=by
 rw [<-qi l 1 (by decide)];refine Em.eq (Em.symm ((nE l 1).trans ?_));rw [Int.one_mul,Int.add_comm];exact (Em.refl _).add (Em.symm (iY l))
theorem j5:∀(l:N3) (h x:Int),dA h (l++[x])=IntKind.u64.wrap (IntKind.u64.wrap (dA h l+IntKind.u64.wrap x)*HP)
 | [],_,_=>rfl
 | _::l,_,_=>j5 l _ _
theorem o5 {l:N3} {k:Nat} (h:k<l.length):dA 1 (l.take (k+1))=IntKind.u64.wrap (IntKind.u64.wrap (dA 1 (l.take k)+IntKind.u64.wrap (nth l k))*HP):=by
 have e:l.take (k+1)=l.take k++[nth l k]:=by
  rw [List.take_add_one,show l[k]?=some (nth l k) by simp [nth,yC h]];rfl
 rw [e,j5]
theorem uv {l:N3} {k:Nat} (h:k<l.length):l.drop k=nth l k::l.drop (k+1):=by
 rw [List.drop_eq_getElem_cons h]
 congr 1
 simp [nth,yC h]
end Go.Proofs.YthamijnggdjaoaaGreat
namespace Go.Proofs.YthamijnggdjaoaaGreat
open Go.RowKit
open Tryz
open Classical in
noncomputable def shR (i:Inp):Int:=if bQ i then i.cfg.shift else 0
noncomputable def lsL (i:Inp):N3:=(bS i).map fun s=>bJ i s.1 i.data
noncomputable def hsL (i:Inp):N3:=(bS i).map fun s=>dA 1 s.1
noncomputable def mkL (i:Inp):List (Int×Int):=(bS i).map fun s=>cK s.1
theorem jw (i:Inp):(lsL i).length=(bS i).length:=by simp [lsL]
theorem jx (i:Inp):(hsL i).length=(bS i).length:=by simp [hsL]
theorem jv (i:Inp):(mkL i).length=(bS i).length:=by simp [mkL]
def rC:cf (Int×Int):=fun _ a z=>∃v,a=[v]/\IsC v z/\z.1.natAbs<=2^50/\z.2.natAbs<=2^50
def rMk:cf (Int×Int):=fun _ a z=>a=[yY z.1,yY z.2]/\z.1.natAbs<=2^50/\z.2.natAbs<=2^50
theorem lN:nR rC:=fun _ h=>h
theorem sP:nR rMk:=fun _ h=>h
def iN (w:N6) (i:Inp) (vs:N4):Prop:=∃A c L d H e M f,vs=#[yY (shR i),.slice A (bS i).length c,.slice L (bS i).length d,.slice H (bS i).length e,.slice M (bS i).length f]/\
 aQ rEx 2 w A (bS i)/\Rd w L (au .i64 (lsL i))/\Rd w H (au .u64 (hsL i))/\aQ rC 1 w M (mkL i)
def gg (w:N6) (i:Inp) (vs:N4):Prop:=∃A c L d H e M f,vs=#[yY (shR i),.slice A (bS i).length c,.slice L (bS i).length d,.slice H (bS i).length e,.slice M (bS i).length f]/\
 aQ rEx 2 w A (bS i)/\Rd w L (au .i64 (lsL i))/\Rd w H (au .u64 (hsL i))/\aQ rMk 2 w M (mkL i)
theorem iN.below {w w':N6} {i:Inp} {vs:N4} (h:iN w i vs) (q:an w w'):iN w' i vs:=by
 obtain ⟨A,c,L,d,H,e,M,f,rfl,j,a,k,g⟩:=h;exact ⟨A,c,L,d,H,e,M,f,rfl,j.below aH q,a.below q,k.below q,g.below lN q⟩
theorem gg.below {w w':N6} {i:Inp} {vs:N4} (h:gg w i vs) (q:an w w'):gg w' i vs:=by
 obtain ⟨A,c,L,d,H,e,M,f,rfl,j,a,k,g⟩:=h;exact ⟨A,c,L,d,H,e,M,f,rfl,j.below aH q,a.below q,k.below q,g.below sP q⟩
def ge (a b:Inp):Prop:=shR a=shR b/\bS a=bS b/\lsL a=lsL b/\hsL a=hsL b/\mkL a=mkL b
theorem ge.refl (a:Inp):ge a a:=⟨rfl,rfl,rfl,rfl,rfl⟩
theorem qq {i:Inp} (h:¬bQ i):bS i=[]/\shR i=0/\lsL i=[]/\hsL i=[]/\mkL i=[]:=by
 have e:bS i=[]:=by unfold bS;rw [if_neg h]
 exact ⟨e,by unfold shR;rw [if_neg h],by unfold lsL;rw [e];rfl,by unfold hsL;rw [e];rfl,by unfold mkL;rw [e];rfl⟩
end Go.Proofs.YthamijnggdjaoaaGreat
namespace Go.Proofs.YthamijnggdjaoaaGreat
open Go.RowKit
open Tryz
theorem uF {w:N6} {A:N0} {l:List (Int×Int)} (h:aQ rC 1 w A l) {k:Nat} {z:Int×Int} (n:l[k]?=some z):
  ∃b o ca a,A=some (ao b o)/\w.cell? (ao b (o+k))=some (.complex .f64 ca a)/\IsW ca z.1/\IsW a z.2/\z.1.natAbs<=2^50/\z.2.natAbs<=2^50:=by
 obtain ⟨b,o,p,rfl,q,hl,⟨v,rfl,⟨ca,a,rfl,i,e⟩,m,g⟩,j, -⟩:=h.get (by decide) n;exact ⟨b,o,ca,a,rfl,by simpa using j,i,e,m,g⟩
theorem jJ {α:Type} {l1 l2:List α} {k:Nat} {x y:α} (h:l1[k]?=some x) (g:l2[k]?=some y) (a:l1.take k=l2.take k) (e:x=y):l1.take (k+1)=l2.take (k+1):=by
 rw [List.take_add_one,List.take_add_one,h,g,a,e]
theorem mS {P:Program} (t:N7) (a b c d:Nat) {x y:Bool} (g:(DB.order a c==some .eq)=x) (e:(DB.order b d==some .eq)=y) (w:N6):(binOp .neq t (.complex .f64 a b) (.complex .f64 c d)).run P w=.ok (.bool (!(x&&y))) w:=by
 subst g e;rfl
theorem vL (C F:N0) (l1 l2:List (Int×Int)) (K L:Nat) (w:N6) (E:aQ rC 1 w C l1) (B:aQ rC 1 w F l2) (hl:l1.length<=1048577):Calls prog 30 #[.slice C l1.length K,.slice F l2.length L] w fun e w'=>e=.returned (.bool (decide (l1=l2)))/\∃n,w'=w.drewN n:=by
 obtain ⟨Q,M⟩:=ab E B;clear E B;by_cases g:l1.length=l2.length
 ·have A:((l1.length:Int) != (l2.length:Int))=false:=by simp [g]
  go_enter func30,ntmps30;go_wp2
  go_loopw [5,13] (fun _ i wr=>∃k:Nat,k<=l1.length/\i=yY k/\l1.take k=l2.take k/\∃n,wr=w.drewN n) (fun _ i _=>l1.length-(intOf i).toNat)
  ·exact ⟨0,yb _,rfl,rfl,0,rfl⟩
  case round=>
   obtain ⟨k,U,rfl,a,n,rfl⟩:=hrel;by_cases j:k<l2.length
   ·have v:l1[k]?=some l1[k]:=yC am;have p:l2[k]?=some l2[k]:=yC j;obtain ⟨S,Z,u,m,rfl,R,O,H,T,X⟩:=uF Q.o v;obtain ⟨b2,Y,x,l,rfl,N,I,J,y2,V⟩:=uF M.o p;obtain ⟨y,q,HP⟩:=ae v p a;have D:=l4 O I am am;have G:=l4 H J am am;clear v p a;have W:=fun w=>mS (P:=prog) 73 u m x l D G w;clear D G;go_wp2
    go_quiet (fail)
    go_wp2
    ·have h:(!decide (l1[k].fst=l2[k].fst))=true\/(!decide (l1[k].snd=l2[k].snd))=true:=by assumption
     go_ret;refine ⟨aL ?_,_,World.drewN_drewN _ _ _⟩;symm;rw [yU];rintro rfl;simp at h
    ·have h:(!decide (l1[k].fst=l2[k].fst))=false/\(!decide (l1[k].snd=l2[k].snd))=false:=by assumption
     simp only [Bool.not_eq_false',yV] at h;go_roundw
     ·exact ⟨k+1,by omega,by go_num,jJ y.o q.o HP.o (Prod.ext h.1 h.2),_,rfl⟩
     ·simp [intOf];omega
   ·go_wp2;go_ret;refine ⟨aL ?_,n,rfl⟩;symm;rw [decide_eq_true_iff];obtain rfl:k=l1.length:=am;rw [yK] at a;rw [a,g,yK]
 ·have A:((l1.length:Int) != (l2.length:Int))=true:=by simp;omega
  go_enter func30,ntmps30;go_wp2;go_ret;refine ⟨aL ?_,0,rfl⟩;symm;rw [yU];rintro rfl;exact g rfl
theorem kB (i j:Inp) (vs ws:N4) (w:N6) (h1:iN w i vs) (h2:iN w j ws):Calls prog 8 #[.agg vs,.agg ws] w fun e w'=>∃b:Bool,e=.returned (.bool b)/\(b=true↔ge i j)/\an w w':=by
 obtain ⟨A,c,L,d,H,e,M,f,rfl,a1,a2,a3,a4⟩:=h1;obtain ⟨O,E,J,P,R,N,G,Q,rfl,b1,b2,b3,b4⟩:=h2;have r1:=fo i;have r2:=fo j;have l:=fun w' (q:an w w')=>vK A O (bS i) (bS j) c E w' (a1.below aH q) (b1.below aH q) r1 r2;have S:=fun w' (q:an w w')=>ut L J (lsL i) (lsL j) d P w' (a2.below q) (b2.below q) (by rw [jw];omega);have K:=fun w' (q:an w w')=>rN H R (hsL i) (hsL j) e N w' (a3.below q) (b3.below q) (by rw [jx];omega);have U:=fun w' (q:an w w')=>vL M G (mkL i) (mkL j) f Q w' (a4.below lN q) (b4.below lN q) (by rw [jv];omega);simp only [jw,jx,jv] at S K U;obtain ⟨x,X⟩:∃x,shR i=x:=⟨_,rfl⟩;obtain ⟨y,W⟩:∃y,shR j=y:=⟨_,rfl⟩;obtain ⟨n,D⟩:∃n,(bS i).length=n:=⟨_,rfl⟩;obtain ⟨m,hm⟩:∃m,(bS j).length=m:=⟨_,rfl⟩;obtain ⟨p1,h⟩:∃p,decide (bS i=bS j)=p:=⟨_,rfl⟩;obtain ⟨p2,v⟩:∃p,decide (lsL i=lsL j)=p:=⟨_,rfl⟩;obtain ⟨p3,u⟩:∃p,decide (hsL i=hsL j)=p:=⟨_,rfl⟩;obtain ⟨p4,C⟩:∃p,decide (mkL i=mkL j)=p:=⟨_,rfl⟩
 have I:∀b:Bool,b=(decide (x=y)&&(p1&&(p2&&(p3&&p4))))->(b=true↔ge i j):=fun b hb=>by
  rw [hb,<-h,<-v,<-u,<-C];unfold ge;rw [X,W];simp
 rw [D,hm,h] at l;rw [D,hm,v] at S;rw [D,hm,u] at K;rw [D,hm,C] at U;rw [X,W,D,hm];obtain ⟨Q1,Q2,Q3,Q4,F⟩:=ag l S K U I;clear l S K U I X W D hm h v u C a1 a2 a3 a4 b1 b2 b3 b4 r1 r2;obtain ⟨g,a⟩:∃g,(w.alloc (.cells #[yY x,.slice A n c,.slice L n d,.slice H n e,.slice M n f] 35)).alloc (.cells #[yY y,.slice O m E,.slice J m P,.slice R m N,.slice G m Q] 35)=g:=⟨_,rfl⟩;have k0:an w g:=by rw [<-a];exact ((br w).alloc (x4 _) _).alloc (by simp) _
 have g0:g.heap[w.heap.size]?=some (.cells #[yY x,.slice A n c,.slice L n d,.slice H n e,.slice M n f] 35 (0,0)):=by
  rw [<-a];exact (yj (w.alloc (.cells #[yY x,.slice A n c,.slice L n d,.slice H n e,.slice M n f] 35)) (.cells #[yY y,.slice O m E,.slice J m P,.slice R m N,.slice G m Q] 35) w.heap.size (by simp)).trans (x6 w _)
 have g1:g.heap[w.heap.size+1]?=some (.cells #[yY y,.slice O m E,.slice J m P,.slice R m N,.slice G m Q] 35 (0,0)):=by
  have:=x6 (w.alloc (.cells #[yY x,.slice A n c,.slice L n d,.slice H n e,.slice M n f] 35)) (.cells #[yY y,.slice O m E,.slice J m P,.slice R m N,.slice G m Q] 35);rw [show (w.alloc (.cells #[yY x,.slice A n c,.slice L n d,.slice H n e,.slice M n f] 35)).heap.size=w.heap.size+1 by simp] at this;rw [<-a];exact this
 have t0:=fun w' q=>bx5 (sb g0 w' q);have t1:=fun w' q=>bx5 (sb g1 w' q);obtain ⟨HW,T⟩:=ab a k0;have q0:=br g;clear a g0 g1 k0;by_cases B:x=y
 ·subst B;go_enter func8,ntmps8;go_wp2_with fail;rw [HW.o];refine (Q1.o g T.o).mono ?_;rintro Y w1 ⟨rfl,Z⟩;have l:=bt q0 Z;have k:=aa (T.o.trans (l.mono T.o.size));clear Z
  cases p1
  ·go_wp2_with fail;go_ret;exact ⟨_,rfl,F.o _ (by simp),k.o⟩
  ·go_wp2_with fail;refine (Q2.o w1 k.o).mono ?_;rintro Y w2 ⟨rfl,V,rfl⟩;have S:=yh l V
   cases p2
   ·go_wp2_with fail;go_ret;exact ⟨_,rfl,F.o _ (by simp),yh k.o V⟩
   ·go_wp2_with fail;refine (Q3.o _ (yh k.o V)).mono ?_;rintro Y w3 ⟨rfl,n3,rfl⟩;have K:=yh l (V+n3)
    cases p3
    ·go_wp2_with fail;go_ret;exact ⟨_,rfl,F.o _ (by simp),yh k.o _⟩
    ·go_wp2_with fail;refine (Q4.o _ (yh k.o _)).mono ?_;rintro Y w4 ⟨rfl,n4,rfl⟩;go_wp2_with fail;go_ret;exact ⟨_,rfl,F.o _ (by simp),yh k.o _⟩
 ·have a0:(x==y)=false:=by simpa using B
  go_enter func8,ntmps8;go_wp2_with fail;rw [HW.o];go_wp2_with fail;go_ret;exact ⟨_,rfl,F.o _ (by simp [B]),T.o⟩
def ko (w wr:N6) (l:N8) (k:Nat) (v:Value):Prop:=∃a,wr.ownsRow w.heap.size 79 2 v k (List.flatten a)/\a.length=k/\(∀r∈a,r.length=2)/\(∀j x,j<k->l[j]?=some x->rEx w (aK a j) x)/\an w wr
theorem ko.push {w q n:N6} {l:N8} {k:Nat} {o i g:Value} {x:Ex} {a:List (N5)} (p:a.length=k) (C:∀r∈a,r.length=2) (v:∀j x,j<k->l[j]?=some x->rEx w (aK a j) x) (A:an w q) (E:l[k]?=some x) (B:rEx w [i,g] x) (u:n.ownsRow w.heap.size 79 2 o (k+1) (List.flatten a++[i,g])) (D:Below w.heap.size q n):ko w n l (k+1) o:=by
 refine ⟨a++[[i,g]],by rw [yJ,List.flatten_cons,List.flatten_nil,List.append_nil];exact u,by simp [p],?_,?_,A.trans D⟩
 ·intro r hr;rcases yN.1 hr with hr | hr
  ·exact C r hr
  ·rw [List.mem_singleton.1 hr];rfl
 ·intro j y F m;rcases yl j k with h | h
  ·have e:aK (a++[[i,g]]) j=aK a j:=by simp [aK,yD (show j<a.length by omega)]
   rw [e];exact v j y h m
  ·obtain rfl:j=k:=am;rw [E] at m;injection m with m;subst m
   have e:aK (a++[[i,g]]) j=[i,g]:=by rw [<-p];simp [aK]
   rw [e];exact B
theorem ko.rd {w wr:N6} {l:N8} {n c:Nat} {A:N0} (h:ko w wr l n (.slice A n c)) (o:l.length=n):aQ rEx 2 wr A l:=by
 obtain ⟨a,i,p,m,g,k⟩:=h;exact ⟨a,Rd.own i,by omega,m,fun j x e=>aH k (g j x (by rw [<-o];exact (yB.1 e).1) e)⟩
theorem rU (A:N0) (l:N8) (c:Nat) (w:N6) (h:aQ rEx 2 w A l) (hl:l.length<=1048577):Calls prog 32 #[.slice A l.length c] w fun e w'=>∃A' c',e=.returned (.slice A' l.length c')/\aQ rEx 2 w' A' l/\an w w':=by
 obtain ⟨n,Y⟩:∃n,l.length=n:=⟨_,rfl⟩;rw [Y] at hl ⊢;obtain ⟨H,Hn⟩:=ab h Y;clear h Y;go_enter func32,ntmps32;go_wp2_with fail
 go_loopw [3,8] (fun v i wr=>∃k:Nat,k<=n/\i=yY k/\ko w wr l k v) (fun _ i _=>n-(intOf i).toNat)
 ·exact ⟨0,yb _,rfl,[],yi _ _ _ _,rfl,by simp,fun j x hj=>am,ya _ _⟩
 case round=>
  obtain ⟨k,hk,rfl,I,O,h2,h3,h4,P⟩:=hrel;obtain ⟨Al,cl,rfl,_⟩:=aB O;obtain ⟨R1,R2,R3,R4,G⟩:=ag O h2 h3 h4 P;have E:=P.size;clear O h2 h3 h4 P;by_cases m:k<n
  ·have a0:(k:Int)<n:=am;obtain ⟨x,X⟩:∃x,l[k]?=some x:=⟨_,yC (by rw [Hn.o];exact m)⟩;obtain ⟨b,o,M,R,Z,T,rfl,q,p1,p2,r1,r2⟩:=bP H.o X;have q1:=(G.o.cell (p:=(ao b (o+k*2))) q).trans p1;have q2:=(G.o.cell (p:=(ao b (o+k*2+1))) q).trans p2;have V:rEx w [.slice M x.1.length R,.slice Z x.2.length T] x:=⟨_,_,_,_,rfl,r1,r2⟩;obtain ⟨K,u⟩:∃K,x.1.length=K:=⟨_,rfl⟩;obtain ⟨L,y⟩:∃L,x.2.length=L:=⟨_,rfl⟩;rw [u,y] at V;rw [u] at q1;rw [y] at q2;obtain ⟨Hu,Hx⟩:=ab V X;have a1:b<wr.heap.size:=ye q E;clear V X u y r1 r2 p1 p2;go_wp2_with fail;refine (uK M Z K R L T _).mono ?_;rintro e w3 ⟨rfl,B⟩;have a:an w w3:=(G.o.alloc E _).trans (B.mono (by simp;omega));have D:=az (R1.o.alloc _) B;have W:=a.size;obtain ⟨N,Q⟩:=ab a D;clear B a D q1 q2;go_wp2_with (at_builtin;refine aE qm _ rfl (.tmp 12) (.tmp 15) rfl w.heap.size (.slice Al k cl) k _ rfl Q.o [.slice M K R,.slice Z L T] rfl rfl (by simp [Value.oneCell']) am (by unfold maxLen;omega) W ?_);intro g6 c6 w6 C F U;have J:=ko.push R2.o R3.o R4.o N.o Hx.o Hu.o C F;have S:=aa J;clear C F U J;go_wp2_with fail;go_roundw
   ·exact ⟨k+1,m,by go_num,S.o⟩
   ·exact pZ m
  ·obtain rfl:n=k:=am;have g:aQ rEx 2 wr Al l:=ko.rd ⟨I,R1.o,R2.o,R3.o,R4.o,G.o⟩ Hn.o;have HF:=aa g;clear g;go_wp2_with fail;go_ret;exact ⟨_,_,rfl,HF.o,G.o⟩
theorem kF (W A2:N0) (l1 l2:N8) (c1 c2:Nat) (w:N6) (h1:aQ rEx 2 w W l1) (h2:aQ rEx 2 w A2 l2) (a0:l1.length<=1048577) (a1:l2.length<=1048577):Calls prog 9 #[.slice W l1.length c1,.slice A2 l2.length c2] w fun e w'=>e=.returned (.bool (decide (l1=l2)))/\an w w':=by
 obtain ⟨n,hn⟩:∃n,l1.length=n:=⟨_,rfl⟩;obtain ⟨m,hm⟩:∃m,l2.length=m:=⟨_,rfl⟩;obtain ⟨b,V⟩:∃b,decide (l1=l2)=b:=⟨_,rfl⟩;rw [hn] at a0 ⊢;rw [hm] at a1 ⊢;rw [V];obtain ⟨H1,H2,Z,Hm,Hb⟩:=ag h1 h2 hn hm V;clear h1 h2 hn hm V;by_cases G:n≠m
 ·have hq:((n:Int) != (m:Int))=true:=by rw [bne_iff_ne];omega
  have v:b=false:=by
   rw [<-Hb.o];refine yT fun e=>G ?_;rw [<-Z.o,<-Hm.o,e]
  go_enter func9,ntmps9;go_wp2_with fail;go_ret;exact ⟨by rw [v];rfl,ya _ _⟩
 obtain rfl:n=m:=am;clear G;go_enter func9,ntmps9;go_wp2_with fail
 go_loopw [5] (fun i wr=>∃k:Nat,k<=n/\i=yY k/\al (∀j,j<k->l1[j]?=l2[j]?)/\an w wr) (fun i _=>n-(intOf i).toNat)
 ·exact ⟨0,yb _,rfl,aa fun j hj=>am,ya _ _⟩
 case round=>
  obtain ⟨k,hk,rfl,q,M⟩:=hrel;have N:=aa M;clear M;by_cases H:k<n
  ·have a5:(k:Int)<n:=am;obtain ⟨x,Y⟩:∃x,l1[k]?=some x:=⟨_,yC (by rw [Z.o];exact H)⟩;obtain ⟨y,hy⟩:∃y,l2[k]?=some y:=⟨_,yC (by rw [Hm.o];exact H)⟩;have g1:aQ rEx 2 wr W l1:=H1.o.below aH N.o;have g2:aQ rEx 2 wr A2 l2:=H2.o.below aH N.o;obtain ⟨O,Q,P1,d1,Q1,f1,rfl,a4,p1,U,r1,r2⟩:=bP g1 Y;obtain ⟨S,P,P2,T,Q2,f2,rfl,a6,q1,q2,s1,s2⟩:=bP g2 hy;have E:=fun w' (k:an wr w')=>nZ P1 Q1 P2 Q2 x.1 x.2 y.1 y.2 d1 f1 T f2 w' (r1.below k) (r2.below k) (s1.below k) (s2.below k);obtain ⟨R,B⟩:∃R,(decide (x.1=y.1)&&decide (x.2=y.2))=R:=⟨_,rfl⟩
   have J:R=true↔x=y:=by
    rw [<-B,Bool.and_eq_true,yV,yV];exact ⟨fun h=>Prod.ext h.1 h.2,fun h=>by rw [h];exact ⟨rfl,rfl⟩⟩
   obtain ⟨n1,u⟩:∃n,x.1.length=n:=⟨_,rfl⟩;obtain ⟨n2,D⟩:∃n,x.2.length=n:=⟨_,rfl⟩;obtain ⟨m1,C⟩:∃n,y.1.length=n:=⟨_,rfl⟩;obtain ⟨m2,A⟩:∃n,y.2.length=n:=⟨_,rfl⟩;rw [B,u,D,C,A] at E;rw [u] at p1;rw [D] at U;rw [C] at q1;rw [A] at q2;obtain ⟨a3,Hx,Hy,I⟩:=af E Y hy J;clear E Y hy J B u D C A g1 g2 r1 r2 s1 s2;go_wp2_with fail;have a:(fun w':N6=>w'.cell? (ao O (Q+k*2))=some (.slice P1 n1 d1)/\w'.cell? (ao O (Q+k*2+1))=some (.slice Q1 n2 f1)/\w'.cell? (ao S (P+k*2))=some (.slice P2 m1 T)/\w'.cell? (ao S (P+k*2+1))=some (.slice Q2 m2 f2)) wr.drew:=⟨p1,U,q1,q2⟩;refine HA.g (fun w':N6=>w'.cell? (ao O (Q+k*2))=some (.slice P1 n1 d1)/\w'.cell? (ao O (Q+k*2+1))=some (.slice Q1 n2 f1)/\w'.cell? (ao S (P+k*2))=some (.slice P2 m1 T)/\w'.cell? (ao S (P+k*2+1))=some (.slice Q2 m2 f2)) ?_;refine HA.t ?_ [0,1,2,3,4,5,6,7] a ?_;refine HA.o 8 (fun K hK=>?_);go_simp;refine (a3.o _ ((ya _ _).drew)).mono ?_;rintro e w3 ⟨rfl,l⟩;have F:=yg (aq l a.1) (yg (aq l a.2.1) (yg (aq l a.2.2.1) (aq l a.2.2.2)));have L:=aa (N.o.trans (((ya wr.heap.size wr).drew.trans l).mono N.o.size));clear l a;dsimp only;refine hK.out _ _ F (fun a=>?_);clear hK K F;refine HA.t ?_ [9] a ?_;refine HA.d ?_;clear a p1 U q1 q2;rcases bK R with rfl | rfl
   ·go_wp2_with fail;go_ret
    have v:b=false:=by
     rw [<-Hb.o];refine yT fun e=>?_;have h:=Hx.o;rw [e,Hy.o] at h;injection h with h
     have:=I.o.2 h.symm;cases this
    exact ⟨by rw [v];rfl,L.o⟩
   ·have a2:=aa (I.o.1 rfl);go_wp2_with fail;go_roundw
    case rel=>exact ⟨k+1,by omega,by go_num,aa (p:=∀j,j<k+1->l1[j]?=l2[j]?) fun j hj=>by
     rcases yl j k with h | h
     ·exact q.out j h
     ·obtain rfl:j=k:=am
      rw [Hx.o,Hy.o,a2.o],L.o⟩
    case measure=>simp [intOf];omega
  ·obtain rfl:n=k:=am
   have X:b=true:=by
    rw [<-Hb.o];refine yS (List.ext_getElem? fun j=>?_);rcases yl j n with h | h
    ·exact q.out j h
    ·rw [List.getElem?_eq_none (by rw [Z.o];exact h),List.getElem?_eq_none (by rw [Hm.o];exact h)]
   go_wp2_with fail;go_ret;exact ⟨by rw [X];rfl,N.o⟩
theorem vA {w:N6} {A:N0} {l:List (Int×Int)} (h:aQ rMk 2 w A l) {k:Nat} {z:Int×Int} (m:l[k]?=some z):
  ∃b o,A=some (ao b o)/\b<w.heap.size/\w.cell? (ao b (o+k*2))=some (yY z.1)/\w.cell? (ao b (o+k*2+1))=some (yY z.2)/\z.1.natAbs<=2^50/\z.2.natAbs<=2^50:=by
 obtain ⟨b,o,n,rfl,i,hl,⟨rfl,g,a⟩,e,j⟩:=h.get (by decide) m;exact ⟨b,o,rfl,i,e,j 1 (by decide),g,a⟩
theorem vN {w:N6} {A:N0} {l:List (Int×Int)} (h:aQ rC 1 w A l) {k:Nat} {z:Int×Int} (p:l[k]?=some z):
  ∃b o ca a,A=some (ao b o)/\b<w.heap.size/\w.cell? (ao b (o+k))=some (.complex .f64 ca a)/\IsW ca z.1/\IsW a z.2/\z.1.natAbs<=2^50/\z.2.natAbs<=2^50:=by
 obtain ⟨b,o,q,rfl,n,hl,⟨v,rfl,⟨ca,a,rfl,i,e⟩,m,g⟩,j, -⟩:=h.get (by decide) p;exact ⟨b,o,ca,a,rfl,n,by simpa using j,i,e,m,g⟩
theorem mH {l1 l2:N3} {k:Nat} (a:k<l1.length) (g:k<l2.length) (h:l1.take k=l2.take k) (e:nth l1 k=nth l2 k):l1.take (k+1)=l2.take (k+1):=
 jJ (yC a) (yC g) h (by rw [cJ _ _ a,cJ _ _ g] at e;exact e)
theorem u8 {α:Type} {l1 l2:List α} {k:Nat} {x y:α} (a:l1[k]?=some x) (g:l2[k]?=some y) (e:x≠y):l1≠l2:=fun h=>e (by rw [h,g] at a;exact (Option.some.inj a).symm)
theorem nD (i j:Inp) (vs ws:N4) (w:N6) (h1:iN w i vs) (h2:gg w j ws):Calls prog 10 #[.agg vs,.agg ws] w fun e w'=>∃r:Int,e=.returned (yY r)/\(r=1↔ge i j)/\an w w':=by
 obtain ⟨A,c,L,d,H,e,M,f,rfl,a1,a2,a3,a4⟩:=h1;obtain ⟨A',c',L',d',H',e',M',f',rfl,b1,b2,b3,b4⟩:=h2;have r1:=fo i;have r2:=fo j;have qb:=fun w' (q:an w w')=>rU A (bS i) c w' (a1.below aH q) r1;have qs:=fun Z cz w' (q:an w w') E=>kF Z A' (bS i) (bS j) cz c' w' E (b1.below aH q) r1 r2;have l1:=jw i;have l2:=jx i;have l3:=jv i;have m1:=jw j;have m2:=jx j;have m3:=jv j;obtain ⟨x,J⟩:∃x,shR i=x:=⟨_,rfl⟩;obtain ⟨y,hy⟩:∃y,shR j=y:=⟨_,rfl⟩;have a0:∀r:Int,(r=1↔(x=y/\bS i=bS j/\lsL i=lsL j/\hsL i=hsL j/\mkL i=mkL j))->(r=1↔ge i j):=fun r hb=>by unfold ge;rw [J,hy];exact hb
 rw [J,hy];obtain ⟨p1,Q⟩:∃p,decide (bS i=bS j)=p:=⟨_,rfl⟩;rw [Q] at qs;generalize bS i=R1 at *;generalize bS j=R2 at *;generalize lsL i=X1 at *;generalize lsL j=X2 at *;generalize hsL i=Y1 at *;generalize hsL j=Y2 at *;generalize mkL i=Z1 at *;generalize mkL j=Z2 at *;obtain ⟨n,hn⟩:∃n,R1.length=n:=⟨_,rfl⟩;obtain ⟨m,hm⟩:∃m,R2.length=m:=⟨_,rfl⟩;rw [hn] at r1 l1 l2 l3 qb qs ⊢;rw [hm] at r2 m1 m2 m3 qs ⊢;obtain ⟨Qb,Qs,F,A2,A3,A4,B2,B3⟩:=aj qb qs a0 a2 a3 a4 b2 b3;obtain ⟨B4,av,HN,HM,LL,MM⟩:=ah b4 Q hn hm (yg l1 (yg l2 l3)) (yg m1 (yg m2 m3));clear qb qs a0 J hy hn hm Q a1 a2 a3 a4 b1 b2 b3 b4 l1 l2 l3 m1 m2 m3;obtain ⟨a,B⟩:∃a,(w.alloc (.cells #[yY x,.slice A n c,.slice L n d,.slice H n e,.slice M n f] 35)).alloc (.cells #[yY y,.slice A' m c',.slice L' m d',.slice H' m e',.slice M' m f'] 42)=a:=⟨_,rfl⟩;have k0:an w a:=by rw [<-B];exact ((br w).alloc (x4 _) _).alloc (by simp) _
 have g0:a.heap[w.heap.size]?=some (.cells #[yY x,.slice A n c,.slice L n d,.slice H n e,.slice M n f] 35 (0,0)):=by
  rw [<-B];exact (yj (w.alloc (.cells #[yY x,.slice A n c,.slice L n d,.slice H n e,.slice M n f] 35)) (.cells #[yY y,.slice A' m c',.slice L' m d',.slice H' m e',.slice M' m f'] 42) w.heap.size (by simp)).trans (x6 w _)
 have g1:a.heap[w.heap.size+1]?=some (.cells #[yY y,.slice A' m c',.slice L' m d',.slice H' m e',.slice M' m f'] 42 (0,0)):=by
  have:=x6 (w.alloc (.cells #[yY x,.slice A n c,.slice L n d,.slice H n e,.slice M n f] 35)) (.cells #[yY y,.slice A' m c',.slice L' m d',.slice H' m e',.slice M' m f'] 42);rw [show (w.alloc (.cells #[yY x,.slice A n c,.slice L n d,.slice H n e,.slice M n f] 35)).heap.size=w.heap.size+1 by simp] at this;rw [<-B];exact this
 have t0:=fun w' q=>bx5 (sb g0 w' q);have t1:=fun w' q=>bx5 (sb g1 w' q);obtain ⟨HW,u⟩:=ab B k0;have b7:=br a;clear B g0 g1 k0;have U:an a a.drew:=b7.drew;by_cases N:x=y
 ·subst N;by_cases b6:n=m
  ·subst b6;go_enter func10,ntmps10;go_wp2_with fail;rw [HW.o];refine HA.g (fun w':N6=>an a w') ?_;refine HA.t ?_ [0,1,2,3,4,5,6,7,8,9,10,11,12,13,14,15,16,17,18,19,20,21,22,23,24,25,26,27,28,29,30,31,32,33,34,36,37] U ?_;refine HA.c 35 (Qb.o _ (u.o.trans (U.mono u.o.size))) ?_;rintro K w1 ⟨Z,cz,rfl,E,k1⟩;have q1:=bt U k1;refine ⟨_,rfl,q1,fun _=>?_⟩;refine HA.c 38 (Qs.o Z cz w1 (u.o.trans (q1.mono u.o.size)) E) ?_;rintro K w2 ⟨rfl,k2⟩;have q2:=bt q1 k2;refine ⟨_,rfl,q2,fun _=>?_⟩;refine HA.t ?_ [39,40] q2 ?_;refine HA.d ?_;have K2:=aa (u.o.trans (q2.mono u.o.size));clear k1 k2 E q1
   cases p1
   ·go_wp2_with fail;go_ret;exact ⟨_,rfl,F.o _ ⟨(fun h=>by cases h),fun h=>by have:=av.o;simp [h.2.1] at this⟩,K2.o⟩
   ·have hR:R1=R2:=by have:=av.o;simpa using this
    have HR:=aa hR;clear hR;go_wp2_with fail
    go_loopw [5,50] (fun _ yv wr=>∃k:Nat,k<=n/\yv=yY k/\X1.take k=X2.take k/\Y1.take k=Y2.take k/\Z1.take k=Z2.take k/\an a wr) (fun _ yv _=>n-(intOf yv).toNat)
    ·exact ⟨0,yb _,rfl,rfl,rfl,rfl,q2⟩
    case round=>
     obtain ⟨k,hk,rfl,K,e2,e3,qr⟩:=hrel;clear q2 U K2;obtain ⟨l1,l2,l3⟩:=LL.o;obtain ⟨m1,m2,m3⟩:=MM.o;have KR:=aa (u.o.trans (qr.mono u.o.size));by_cases bd:k<n
     ·have b8:(k:Int)<(n:Int):=am;obtain ⟨bx,ox,rfl,cx⟩:=A2.o.num (k:=k) am;obtain ⟨bc,b9,rfl,O⟩:=B2.o.num (k:=k) am;obtain ⟨bb,oy,rfl,cy⟩:=A3.o.num (k:=k) am;obtain ⟨bh,bg,rfl,S⟩:=B3.o.num (k:=k) am;have ez:Z1[k]?=some Z1[k]:=yC am;have C:Z2[k]?=some Z2[k]:=yC am;obtain ⟨bz,oz,ca,cb,rfl,b5,a6,i1,i2,n1,n2⟩:=vN A4.o ez;obtain ⟨bk,be,rfl,a8,R,T,n3,n4⟩:=vA B4.o C;have px:=fun hp J=>mH (l1:=X1) (l2:=X2) (k:=k) am am hp J;have py:=fun hp J=>mH (l1:=Y1) (l2:=Y2) (k:=k) am am hp J;have nx:nth X1 k≠nth X2 k->X1≠X2:=fun h e=>h (by rw [e]);have ny:nth Y1 k≠nth Y2 k->Y1≠Y2:=fun h e=>h (by rw [e]);have pz:=fun hp E=>jJ ez C hp E;have nz:=fun E=>u8 ez C E;obtain ⟨z1,a9⟩:∃z,Z1[k]=z:=⟨_,rfl⟩;obtain ⟨I,a7⟩:∃z,Z2[k]=z:=⟨_,rfl⟩;rw [a9] at i1 i2 n1 n2 pz nz;rw [a7] at R T n3 n4 pz nz;obtain ⟨x1,ad⟩:∃z,nth X1 k=z:=⟨_,rfl⟩;obtain ⟨x2,W⟩:∃z,nth X2 k=z:=⟨_,rfl⟩;obtain ⟨y1,X⟩:∃z,nth Y1 k=z:=⟨_,rfl⟩;obtain ⟨y2,a5⟩:∃z,nth Y2 k=z:=⟨_,rfl⟩;rw [ad] at cx px nx;rw [W] at O px nx;rw [X] at cy py ny;rw [a5] at S py ny;have hq:=fun w=>mS (P:=prog) 73 ca cb (floatOfInt FloatKind.f64 I.1) (floatOfInt FloatKind.f64 I.2) (l4 i1 (.inl rfl:IsW _ I.1) am am) (l4 i2 (.inl rfl:IsW _ I.2) am am) w;have G:∀{p:Addr} {v:Value},w.cell? p=some v->∀w',an a w'->w'.cell? p=some v:=fun hc w' q=>((u.o.trans (q.mono u.o.size)).cell (aw hc)).trans hc;have s1:=G cx;have s2:=G O;have s3:=G cy;have s4:=G S;have s5:=G a6;have s6:=G R;have s7:=G T;obtain ⟨E1,E2,E3,PX,PY,PZ,NX,NY⟩:=aj K e2 e3 px py pz nx ny;have NZ:=aa nz;have Y:an a wr.drew:=qr.drew;clear G cx O cy S a6 R T K e2 e3 px py pz nx ny nz a9 a7 ad W X a5 ez C i1 i2 n1 n2 n3 n4 l1 l2 l3 m1 m2 m3 b5 a8;by_cases l:x1=x2
      ·by_cases D:y1=y2
       ·by_cases V:z1=I
        ·have c1:(x1 != x2)=false:=by simp [l]
         have c2:(y1 != y2)=false:=by simp [D]
         simp only [V,decide_true,Bool.and_self,Bool.not_true] at hq;obtain ⟨HX,HY,HZ⟩:=ae l D V;clear l D V;go_wp2_with fail;refine HA.g (fun w':N6=>an a w') ?_;refine HA.t ?_ [0,1,2,3,4,5,6,7,8,9,10,11,12,13,14,15,16,17,18,19,20,21,22,23,24,25,26,27,28,29,30,31,32,33,34,35,36,37,38,39,40,41,42,43,44,45,46] Y ?_;refine HA.d ?_;go_wp2_with fail;go_roundw
         ·exact ⟨k+1,by omega,by go_num,PX.o E1.o HX.o,PY.o E2.o HY.o,PZ.o E3.o HZ.o,Y⟩
         ·simp [intOf];omega
        ·have c1:(x1 != x2)=false:=by simp [l]
         have c2:(y1 != y2)=false:=by simp [D]
         have hd:(!(decide (z1.1=I.1)&&decide (z1.2=I.2)))=true:=by
          rw [Bool.not_eq_true',Bool.and_eq_false_iff,yU,yU];by_cases h:z1.1=I.1
          ·exact .inr fun h2=>V (Prod.ext h h2)
          ·exact .inl h
         simp only [hd] at hq;obtain ⟨HX,HY,HZ⟩:=ae l D V;clear l D V hd;go_wp2_with fail;refine HA.g (fun w':N6=>an a w') ?_;refine HA.t ?_ [0,1,2,3,4,5,6,7,8,9,10,11,12,13,14,15,16,17,18,19,20,21,22,23,24,25,26,27,28,29,30,31,32,33,34,35,36,37,38,39,40,41,42,43,44,45,46] Y ?_;refine HA.d ?_;go_wp2_with fail;go_ret;exact ⟨_,rfl,F.o _ ⟨(fun h=>by cases h),fun h=>absurd h.2.2.2.2 (NZ.o HZ.o)⟩,KR.o.drew⟩
       ·have c1:(x1 != x2)=false:=by simp [l]
        have c2:(y1 != y2)=true:=by simpa using D
        obtain ⟨HX,HY⟩:=ab l D;clear l D;go_wp2_with fail;refine HA.g (fun w':N6=>an a w') ?_;refine HA.t ?_ [0,1,2,3,4,5,6,7,8,9,10,11,12,13,14,15,16,17,18,19,20,21,22,23,24,25,26,27,28,29,30,31,32,33,34,35,36,37,38,39,40,41,42,43,44,45,46] Y ?_;refine HA.d ?_;go_wp2_with fail;go_ret;exact ⟨_,rfl,F.o _ ⟨(fun h=>by cases h),fun h=>absurd h.2.2.2.1 (NY.o HY.o)⟩,KR.o.drew⟩
      ·have c1:(x1 != x2)=true:=by simpa using l
       have HX:=aa l;clear l;go_wp2_with fail;refine HA.g (fun w':N6=>an a w') ?_;refine HA.t ?_ [0,1,2,3,4,5,6,7,8,9,10,11,12,13,14,15,16,17,18,19,20,21,22,23,24,25,26,27,28,29,30,31,32,33,34,35,36,37,38,39,40,41,42,43,44,45,46] Y ?_;refine HA.d ?_;go_wp2_with fail;go_ret;exact ⟨_,rfl,F.o _ ⟨(fun h=>by cases h),fun h=>absurd h.2.2.1 (NX.o HX.o)⟩,KR.o.drew⟩
     ·obtain rfl:n=k:=am;rw [List.take_of_length_le am,List.take_of_length_le am] at K e2 e3;have FI:=aa ((F.o 1 ⟨fun _=>⟨trivial,HR.o,K,e2,e3⟩,fun _=>rfl⟩).1 rfl);clear K e2 e3;go_wp2_with fail;go_ret;exact ⟨_,rfl,⟨fun _=>FI.o,fun _=>rfl⟩,KR.o⟩
  ·have b0:((n:Int) != (m:Int))=true:=by simp;omega
   go_enter func10,ntmps10;go_wp2_with fail;rw [HW.o];refine HA.g (fun w':N6=>an a w') ?_;refine HA.t ?_ [0,1,2,3,4,5,6,7,8,9,10,11,12,13,14,15,16,17,18,19,20,21,22,23,24,25,26,27,28,29,30,31,32,33,34,35,36,37,38,39,40] U ?_;refine HA.d ?_;go_wp2_with fail;go_ret;exact ⟨_,rfl,F.o _ ⟨(fun h=>by cases h),fun h=>by have:=HN.o;have:=HM.o;rw [h.2.1] at *;omega⟩,u.o.drew⟩
 ·have b0:(x != y)=true:=by simpa using N
  go_enter func10,ntmps10;go_wp2_with fail;rw [HW.o];refine HA.g (fun w':N6=>an a w') ?_;refine HA.t ?_ [0,1,2,3,4,5,6,7,8,9,10,11,12,13,14,15,16,17,18,19,20,21,22,23,24,25,26,27,28,29,30,31,32,33,34,35,36,37,38,39,40] U ?_;refine HA.d ?_;go_wp2_with fail;go_ret;exact ⟨_,rfl,F.o _ ⟨(fun h=>by cases h),fun h=>absurd h.1 N⟩,u.o.drew⟩
theorem XA.va {P:Program} {ops:N9} {Q:Exit->Na->N6->Prop} {S:N6->Prop} {n:Nat} {L:List Nat} {a:Na} {w:N6} {o:Oper} (i:Nat) (w':N6) (v:Value) (g:S w') (k:XA P ops Q S n (i::L) (a.put o.dst v) w') (e:ops[i]?=some o:=by (simp only [yu,yw,yx];rfl)) (hr:bT ops L=[i]:=by decide +kernel) (hw:Region.wanted o (yielded ops a.tmps)=true:=by rfl) (he:(execOp a.eval o).run P w=.ok (.value v) w':=by go_simp):XA P ops Q S n L a w:=by
 refine XA.one i e hr fun j h=>?_;rw [if_pos hw];unfold Oper.wp;rw [he];exact h.out _ _ g fun _=>k
theorem vJ:cE prog 33 73 (.complex .f64 0 0) 1 16:=⟨underlying33,info_parts (by kernel_rfl),rfl,by decide⟩
theorem jH (i:Inp) (n:Nat):cT i (n+1)=cT i n++[aN i n]:=by
 unfold cT;rw [yO,List.map_append];rfl
theorem rH (i:Inp) (P:N3) (l:N8): -9223372036854775808<=bJ i P l/\bJ i P l<=9223372036854775807:=by
 unfold bJ
 have:∀(l:N8) (a:Int),(-9223372036854775808<=a/\a<=9223372036854775807)-> -9223372036854775808<=l.foldl (fun a x=>wrap64 (a+gQ i.cfg.sizes P i.cfg.shift x.1 x.2)) a/\l.foldl (fun a x=>wrap64 (a+gQ i.cfg.sizes P i.cfg.shift x.1 x.2)) a<=9223372036854775807:=by
  intro l
  induction l with
  | nil=>intro a h;exact h
  | cons x l ih=>intro a _;exact ih _ (by show _<=wrap64 _/\wrap64 _<=_;unfold wrap64;omega)
 exact this l 0 (by decide)
theorem vc (a b:Int) (h: -9223372036854775808<=a/\a<=9223372036854775807):iR [a,b]=wrap64 (a+b):=by
 show wrap64 (wrap64 (0+a)+b)=_
 rw [show wrap64 (0+a)=a by unfold wrap64;omega]
theorem mb (i:Inp) (P:N3) {j:Nat} {x:Ex} (h:i.data[j]?=some x):iR [bJ i P (i.data.take j),gQ i.cfg.sizes P i.cfg.shift x.1 x.2]=bJ i P (i.data.take (j+1)):=by
 rw [vc _ _ (rH i P _),List.take_add_one,h];unfold bJ;rw [List.foldl_append];rfl
def CR (vs:N5) (a:List (Int×Int)):Prop:=vs.length=a.length/\∀(j:Nat) (z:Int×Int),a[j]?=some z->∃v,vs[j]?=some v/\IsC v z/\z.1.natAbs<=2^50/\z.2.natAbs<=2^50
theorem CR.nil:CR [] []:=⟨rfl,fun j z h=>by simp at h⟩
theorem CR.snoc {vs:N5} {i:List (Int×Int)} (h:CR vs i) {v:Value} {z:Int×Int} (n:IsC v z) (k:z.1.natAbs<=2^50) (p:z.2.natAbs<=2^50):CR (vs++[v]) (i++[z]):=by
 refine ⟨by simp [h.1],fun j y a=>?_⟩;rcases yl j i.length with g | g
 ·rw [yD g] at a;obtain ⟨u,o,l⟩:=h.2 j y a;exact ⟨u,by rw [yD (by rw [h.1];exact g)];exact o,l⟩
 ·rw [yE g] at a
  obtain ⟨e,rfl⟩:j-i.length=0/\z=y:=by
   rcases hk:j-i.length with _ | m
   ·rw [hk] at a;simpa using a
   ·rw [hk] at a;simp at a
  exact ⟨v,by rw [yE (by rw [h.1];exact g),h.1,e];rfl,n,k,p⟩
theorem CR.sl {w:N6} {base n c:Nat} {A:N0} {vs:N5} {i:List (Int×Int)} (h:CR vs i) (o:w.ownsRow base 73 1 (.slice A n c) n vs):aQ rC 1 w A i:=by
 refine ⟨vs.map fun v=>[v],?_,by rw [List.length_map];exact h.1,by simp,fun j z u=>?_⟩
 ·have k:∀l:N5,List.flatten (l.map fun v=>[v])=l:=fun l=>by
   induction l with
   | nil=>rfl
   | cons a l ih=>simp [ih]
  rw [k];exact Rd.own o
 ·obtain ⟨v,g,p,m,q⟩:=h.2 j z u;refine ⟨v,?_,p,m,q⟩;obtain ⟨hl,e⟩:=yB.1 g;simp [aK,g]
theorem dd {w:N6} {m x y o u A:Nat} {h l:N7} {k i:Value} {xs ys:N5} (v:w.ownsRow m h y k u xs) (p:w.ownsRow x l o i A ys) (a:h≠l) (j:Nat) (e:k.ownBlock=some j) (f:i.ownBlock=some j):False:=by
 rcases v.2 with ⟨g,_⟩ | ⟨n,_,_,g,_,hg,_⟩
 ·rw [g] at e;cases e
 ·rw [g] at e;have q:n=j:=by simpa [Value.ownBlock] using e
  subst q;exact ar hg a p f.symm
def TI (a base:Nat) (l:Int) (B:N0) (n d k:Nat) (o h:N3) (m:List (Int×Int)) (i wr:N6):Prop:=∃L dl H e M g vs,
 wr.heap[a]?=some (.cells #[yY l,.slice B n d,.slice L k dl,.slice H k e,.slice M k g] 35 (0,0))/\
 wr.ownsRow base 2 1 (.slice L k dl) k (au .i64 o)/\wr.ownsRow base 71 1 (.slice H k e) k (au .u64 h)/\wr.ownsRow base 73 1 (.slice M k g) k vs/\CR vs m/\Keep (fun j=>j=a\/base<=j) i wr
def xt (sz ps:N3) (q:Int) (w:N6) (e:Ending) (w':N6):Prop:=an w w'/\((pF sz ps q/\∃b,e=.returned (.tuple #[(ap b),.bool true])/\dF 109 116 w' b sz ps q/\uU w' w.heap.size b ps)\/(¬pF sz ps q/\e=.returned (.tuple #[.pointer none,.bool false])))
theorem tG (S:Nat) (sz ps:N3) (A:N0) (c:Nat) (q:Int) (w:N6) (i:aR 109 w S sz) (hg:bn sz) (hA:Rd w A (au .i64 ps)):Calls prog 17 #[(ap S),.slice A ps.length c,yY q] w (xt sz ps q w):=by
 by_cases a:0<=q/\q<=62
 ·by_cases hl:ps.length=aF sz (sz.length-1)
  ·refine (vx S sz ps A c q w i hg a hl hA).mono fun e w' ⟨b,g,k,l,j⟩=>⟨j,.inl ⟨⟨hg,a.1,a.2,hl⟩,b,g,k,l⟩⟩
  ·refine (oW S sz ps A c q w i hl).mono fun e w' ⟨g,hw⟩=>?_;subst hw;exact ⟨ya _ _,.inr ⟨fun h=>hl h.2.2.2,g⟩⟩
 ·refine (iC S _ q w a).mono fun e w' ⟨g,hw⟩=>?_;subst hw;exact ⟨ya _ _,.inr ⟨fun h=>a ⟨h.2.1,h.2.2.1⟩,g⟩⟩
theorem vC (x:Int) (w:N6):Calls prog 64 #[yY x] w fun e w'=>e=.returned (yY (bY x))/\w'=w:=by
 go_enter func64,ntmps64;go_wp2;go_ret;exact ⟨aD (by have:=fw x;unfold bY at this ⊢;unfold wrap64;omega),rfl⟩
theorem uc (n:Int):bits .and .i64 n 3=n%4:=by
 have e:(BitVec.ofInt 64 3).toNat=2^2-1:=by decide
 have a:(BitVec.ofInt 64 n&&& BitVec.ofInt 64 3).toNat=(n%((2^64:Nat):Int)).toNat%2^2:=by
  rw [BitVec.toNat_and,BitVec.toNat_ofInt,e,Nat.and_two_pow_sub_one_eq_mod]
 show IntKind.i64.wrap ((BitVec.ofInt 64 n&&& BitVec.ofInt 64 3).toNat:Nat)=n%4
 rw [a,IntKind.wrap_i64];omega
theorem sy (k:Nat) (w:N6):Calls prog 101 #[yY k] w fun e w'=>e=.returned (.complex .f64 (dH (k%4)).1 (dH (k%4)).2)/\w'=w:=by
 have a:k%4=0\/k%4=1\/k%4=2\/k%4=3:=am;have g:bits .and .i64 (k:Int) 3=((k%4:Nat):Int):=by rw [uc];omega
 have l:∀w:N6,(Instr.index 241 (.agg #[.complex .f64 4607182418800017408 0,.complex .f64 0 4607182418800017408,.complex .f64 13830554455654793216 0,.complex .f64 0 13830554455654793216]) (yY 0)).run prog w=.ok (.complex .f64 (dH 0).1 (dH 0).2) w:=fun w=>by
  simp [Instr.index,run_underlying underlying241,asIntOf,go_sem,dH]
 have j:∀w:N6,(Instr.index 241 (.agg #[.complex .f64 4607182418800017408 0,.complex .f64 0 4607182418800017408,.complex .f64 13830554455654793216 0,.complex .f64 0 13830554455654793216]) (yY 1)).run prog w=.ok (.complex .f64 (dH 1).1 (dH 1).2) w:=fun w=>by
  simp [Instr.index,run_underlying underlying241,asIntOf,go_sem,dH]
 have i:∀w:N6,(Instr.index 241 (.agg #[.complex .f64 4607182418800017408 0,.complex .f64 0 4607182418800017408,.complex .f64 13830554455654793216 0,.complex .f64 0 13830554455654793216]) (yY 2)).run prog w=.ok (.complex .f64 (dH 2).1 (dH 2).2) w:=fun w=>by
  simp [Instr.index,run_underlying underlying241,asIntOf,go_sem,dH]
 have m:∀w:N6,(Instr.index 241 (.agg #[.complex .f64 4607182418800017408 0,.complex .f64 0 4607182418800017408,.complex .f64 13830554455654793216 0,.complex .f64 0 13830554455654793216]) (yY 3)).run prog w=.ok (.complex .f64 (dH 3).1 (dH 3).2) w:=fun w=>by
  simp [Instr.index,run_underlying underlying241,asIntOf,go_sem,dH]
 rcases a with h | h | h | h<;>(
  rw [h] at g ⊢;go_enter func101,ntmps101;go_wp2;go_ret
  exact ⟨rfl,rfl⟩)
theorem sB (a b:Nat) (x y:Int) (k:Nat) (w:N6) (p:IsW a x) (B:IsW b y) (bx:x.natAbs<=2^50) (i:y.natAbs<=2^50):Calls prog 63 #[.complex .f64 a b,yY k] w fun e w'=>(∃l j,e=.returned (.complex .f64 l j)/\IsW l (x*(dQ (k%4)).1-y*(dQ (k%4)).2)/\IsW j (x*(dQ (k%4)).2+y*(dQ (k%4)).1))/\w'=w:=by
 obtain ⟨l,j,hm,A,q⟩:=xj p B (mB (k%4)).1 (mB (k%4)).2 bx i (mC (k%4)).1 (mC (k%4)).2;have m:=sy k;obtain ⟨u,g⟩:∃u,(dH (k%4)).1=u:=⟨_,rfl⟩;obtain ⟨v,h⟩:∃v,(dH (k%4)).2=v:=⟨_,rfl⟩;rw [g,h] at hm;rw [g,h] at m;obtain ⟨E,D,C⟩:=ae m A q;have n:=fun (P:Program) (w:N6) (t:N7)=>run_complex_mul (P:=P) w t a b u v l j hm;clear m A q g h p B bx i hm;go_enter func63,ntmps63;go_wp2_with fail;refine (E.o w).mono ?_;rintro e F ⟨rfl,rfl⟩;go_wp2_with fail;go_ret;exact ⟨⟨_,_,rfl,D.o,C.o⟩,rfl⟩
theorem iy {P:Program} (w:N6) (a:Addr) (k:FloatKind) (x y:Nat) {m:Mode}:(store a (.complex k x y) m).run P w=stored P w a (.complex k x y) m:=run_store P w a _ m rfl
theorem vt (B k:Nat) (x:Int) (a b:Nat) (z:Int×Int) (w:N6) (E:w.heap[B]?=some (.cells #[.complex .f64 a b] 73 (0,0))) (U:IsW a z.1) (L:IsW b z.2) (J:z.1.natAbs<=2^50) (Q:z.2.natAbs<=2^50):Calls prog 62 #[yY x,yY k,(ap B)] w fun e w'=>e=.returned (.tuple #[])/\(∃p v,w'.heap[B]?=some (.cells #[.complex .f64 p v] 73 (0,0))/\IsW p (z.1+(ci (k%4) (bY x,0)).1)/\IsW v (z.2+(ci (k%4) (bY x,0)).2))/\Keep (fun j=>j=B) w w':=by
 have hl:=xZ E;have X:∀w',an w w'->w'.cell? (ao B 0)=some (.complex .f64 a b):=fun w' q=>(bx1 (sb E w' q)).1;have C:=vC x;have i:=fun w'=>sB (floatOfInt .f64 (bY x)) 0 (bY x) 0 k w' (.inl rfl) (.inl (by decide)) (by have:=fw x;omega) (by decide);have F:=qy (Nat.mod_lt k (by decide)) (bY x);have T:bY x*(dQ (k%4)).1-0*(dQ (k%4)).2=(ci (k%4) (bY x,0)).1:=by rw [F]
 have N:bY x*(dQ (k%4)).2+0*(dQ (k%4)).1=(ci (k%4) (bY x,0)).2:=by rw [F]
 simp only [T,N] at i;clear F T N;have l:=iu (k%4) (bY x,0) 32768 (fw x) (by show (0:Int).natAbs<=32768;decide);obtain ⟨u,O⟩:∃u,ci (k%4) (bY x,0)=u:=⟨_,rfl⟩;rw [O] at i l ⊢;have n:=fun (c d:Nat) (hc:IsW c u.1) (D:IsW d u.2)=>xi U L hc D J Q (yd l.1 (by decide)) (yd l.2 (by decide));obtain ⟨H,G,I,y⟩:=af E C i n;clear E U L J Q C i l O n;have h:=(br w).drew;go_enter func62,ntmps62;refine XA.g 8 (fun w':N6=>an w w') ?_;refine XA.t ?_ [0,1,5] h ?_;refine XA.c 2 (G.o _) ?_;rintro e V ⟨rfl,rfl⟩;refine ⟨_,rfl,h,fun _=>?_⟩;refine XA.t ?_ [3,4] h ?_;refine XA.c 6 (I.o _) ?_;rintro e V ⟨⟨c,d,rfl,hc,D⟩,rfl⟩;refine ⟨_,rfl,h,fun _=>?_⟩;obtain ⟨p,v,R,M,K⟩:=y.o c d hc D;have A:=fun (w:N6) (t:N7)=>run_complex_sum (P:=prog) w .add (.inl rfl) t .f64 a b c d p v R;obtain ⟨Y,H2⟩:=ab M K;clear hc D R M K;refine XA.t ?_ [7] h ?_;clear A;refine XA.e ?_;simp only [yy,yz];obtain ⟨z0,zf⟩:=bx1 (sb H.o _ h);have a0:=xZ (sb H.o _ h);obtain ⟨Z,Q0⟩:=ab (sb H.o _ h) h;clear X h;have W:=fun m=>iy (P:=prog) w.drew (ao B 0) .f64 p v (m:=m);go_wp2_with fail
 go_end0
 exact ⟨rfl,⟨p,v,yW _ B 0 _ _ _ Z.o,Y.o,H2.o⟩,(Keep.below Q0.o).trans (Keep.setCell (S:=fun j=>j=B) (Keep.refl _ _) (ao B 0) (.inr rfl) _)⟩
theorem tS (A:N0) (l:N3) (c:Nat) (w:N6) (h:Rd w A (au .i64 l)) (hl:l.length<=1048576):Calls prog 21 #[.slice A l.length c] w fun e w'=>(∃v,e=.returned v/\IsC v (cK l))/\an w w':=by
 obtain ⟨m,hm⟩:∃m,l.length=m:=⟨_,rfl⟩;rw [hm] at hl ⊢;obtain ⟨H,K⟩:=ab h hm;clear h hm;go_enter func21,ntmps21;go_wp2_with fail;have O:(w.alloc (.cells #[.complex .f64 0 0] 73)).heap[w.heap.size]?=some (.cells #[.complex .f64 0 0] 73 (0,0)):=x6 w _;have N:an w (w.alloc (.cells #[.complex .f64 0 0] 73)):=(br w).alloc (x4 _) _
 go_loopw [10] (fun y wr=>∃k:Nat,k<=m/\y=yY k/\(∃x C,wr.heap[w.heap.size]?=some (.cells #[.complex .f64 x C] 73 (0,0))/\IsW x (cK (l.take k)).1/\IsW C (cK (l.take k)).2)/\an w wr) (fun y _=>m-(intOf y).toNat)
 ·exact ⟨0,yb _,rfl,⟨0,0,O,.inl (by show 0=wd 0;decide),.inl (by show 0=wd 0;decide)⟩,N⟩
 case round=>
  obtain ⟨k,hk,rfl,⟨x,C,g,u,n⟩,q⟩:=hrel;clear O N;obtain ⟨Z,Y⟩:=bx1 g;have T:=xZ g;by_cases D:k<m
  ·have S:(k:Int)<m:=am;have i:k<l.length:=by rw [K.o];exact D
   obtain ⟨b,o,rfl,hc⟩:=H.o.num i;have V:=(q.cell (p:=(ao b (o+k))) (aw hc)).trans hc;have a:=iD (l:=l.take k) (by rw [yF];omega);have B:=vt w.heap.size k (nth l k) x C (cK (l.take k)) wr g u n a.1 a.2;have L:=jY i;obtain ⟨M,G,Q⟩:=ae L B q;clear hc u n a B L q g;go_wp2_with fail;refine G.o.mono ?_;rintro e w1 ⟨rfl,⟨F,E,P,R,J⟩,I⟩;obtain ⟨U,W,G1,Q1⟩:=af R J P (Q.o.trans (I.toBelow Q.o.size (fun j hj=>am)));clear R J P I Z Y;go_wp2_with fail;go_roundw
   ·exact ⟨k+1,by omega,by go_num,⟨F,E,G1.o,by rw [M.o];exact U.o,by rw [M.o];exact W.o⟩,Q1.o⟩
   ·simp [intOf];omega
  ·obtain rfl:k=m:=am;have e:l.take k=l:=by rw [<-K.o,yK]
   rw [e] at u n;obtain ⟨X,H2,Q⟩:=ae u n q;clear u n q e;go_wp2_with fail;go_ret;exact ⟨⟨_,rfl,x,C,rfl,X.o,H2.o⟩,Q.o⟩
theorem ud (A:N0) (l:N3) (c:Nat) (w:N6) (h:Rd w A (au .i64 l)) (hl:l.length<=1048576):Calls prog 20 #[.slice A l.length c] w fun e w'=>e=.returned (.int .u64 (dA 1 l))/\w'=w:=by
 obtain ⟨m,hm⟩:∃m,l.length=m:=⟨_,rfl⟩;rw [hm] at hl ⊢;obtain ⟨H,i⟩:=ab h hm;clear h hm;go_enter func20,ntmps20;go_wp2_with fail
 go_loopw [3,8] (fun v y wr=>∃k:Nat,k<=m/\y=yY k/\v=.int .u64 (dA 1 (l.take k))/\wr=w) (fun _ y _=>m-(intOf y).toNat)
 ·exact ⟨0,yb _,rfl,rfl,rfl⟩
 case round=>
  obtain ⟨k,p,rfl,rfl,rfl⟩:=hrel;by_cases g:k<m
  ·have n:(k:Int)<m:=am;have a:k<l.length:=by rw [i.o];exact g
   obtain ⟨b,o,rfl,hc⟩:=H.o.num a;have j:=aa (o5 a);generalize dA 1 (l.take k)=v at j ⊢;go_wp2_with fail;go_roundw
   ·exact ⟨k+1,by omega,by go_num,by rw [j.o],trivial⟩
   ·simp [intOf];omega
  ·obtain rfl:k=m:=am;have e:l.take k=l:=by rw [<-i.o,yK]
   rw [e];go_wp2_with fail;go_ret;exact ⟨rfl,rfl⟩
theorem qV (A:N0) (l:N3) (c:Nat) (w:N6) (h:Rd w A (au .i64 l)) (hl:l.length<=1048576):Calls prog 24 #[.slice A l.length c] w fun e w'=>e=.returned (.int .u64 (dA 1 l))/\w'=w:=by
 obtain ⟨m,hm⟩:∃m,l.length=m:=⟨_,rfl⟩;have B:=vE l;obtain ⟨I,q⟩:∃I,dA 1 l=I:=⟨_,rfl⟩;rw [q] at B ⊢;rw [hm] at hl ⊢;obtain ⟨H,D,J⟩:=ae h hm B;clear h hm B q;go_enter func24,ntmps24;go_wp2_with fail
 go_loopw [3,4,5] (fun p v y wr=>∃k:Nat,k<=m/\y=yY ((m:Int)-k-1)/\p=.int .u64 (fI (l.drop (m-k)))/\v=.int .u64 (eB (l.drop (m-k)))/\wr=w) (fun _ _ y _=>(intOf y+1).toNat)
 case atStart=>
  have e:l.drop (m-0)=[]:=by rw [Nat.sub_zero,<-D.o,List.drop_length]
  exact ⟨0,yb _,by simp,by rw [e];rfl,by rw [e];rfl,rfl⟩
 case round=>
  obtain ⟨k,O,rfl,rfl,rfl,rfl⟩:=hrel;by_cases K:k<m
  ·obtain ⟨j,C⟩:∃j:Nat,(m:Int)-k-1=j:=⟨m-k-1,by omega⟩;rw [C];have i:j<l.length:=by rw [D.o];omega
   obtain ⟨b,o,rfl,hc⟩:=H.o.num i;have M:(j:Int)<m:=am;have x:=aa (uv i);have G:m-k=j+1:=am;have F:m-(k+1)=j:=am;obtain ⟨E,L⟩:=ab F C;rw [G];obtain ⟨l1,u⟩:∃l1,l.drop (j+1)=l1:=⟨_,rfl⟩;rw [u] at x ⊢;obtain ⟨p,g⟩:∃p,fI l1=p:=⟨_,rfl⟩;obtain ⟨v,a⟩:∃v,eB l1=v:=⟨_,rfl⟩;rw [g,a];obtain ⟨n,N⟩:=ab g a;clear G F u g a C;go_wp2_with fail;go_roundw
   ·exact ⟨k+1,by omega,congrArg (Value.int .i64) (by have:=L.o;omega),by rw [E.o,x.o];show _=Value.int .u64 (IntKind.u64.wrap (fI l1*HP));rw [n.o],by rw [E.o,x.o];show _=Value.int .u64 (IntKind.u64.wrap (eB l1+IntKind.u64.wrap (IntKind.u64.wrap (nth l j)*IntKind.u64.wrap (fI l1*HP))));rw [n.o,N.o],trivial⟩
   ·simp only [intOf];omega
  ·obtain rfl:k=m:=am;have e:l.drop (k-k)=l:=by rw [Nat.sub_self,yz]
   rw [e];rw [show (k:Int)-k-1= -1 by omega];obtain ⟨p,g⟩:∃p,fI l=p:=⟨_,rfl⟩;obtain ⟨v,a⟩:∃v,eB l=v:=⟨_,rfl⟩;rw [g,a] at J;rw [g,a];clear g a;go_wp2_with fail;go_ret;exact ⟨by rw [<-J.o];rfl,rfl⟩
theorem wj:eH prog 82 2:=⟨⟨_,underlying82,rfl⟩,by kernel_rfl⟩
theorem jG:∀(k:Nat) (z:Int×Int),ci (k+1) z=(-(ci k z).2,(ci k z).1)
 | 0,_=>rfl
 | k+1,z=>jG k (-z.2,z.1)
theorem qO (k:Nat) (z:Int×Int) (w:N6) (A:z.1.natAbs<=32768) (H:z.2.natAbs<=32768) (a:k<=1048576):Calls prog 73 #[.agg #[yY z.1,yY z.2],yY k] w fun e w'=>e=.returned (.agg #[yY (ci (k%4) z).1,yY (ci (k%4) z).2])/\an w w':=by
 obtain ⟨m,hm⟩:∃m,k%4=m:=⟨_,rfl⟩;have O:(k:Int)%4=m:=am;have N:m<4:=am;have X:¬((m:Int)<0):=am;rw [hm];go_enter func73,ntmps73;go_wp2_with fail;have E:=(yj (w.alloc (.cells #[yY z.1,yY z.2] 82)) (.cells #[yY 0,yY 0] 82) w.heap.size (by simp)).trans (x6 w _);have u:=x6 (w.alloc (.cells #[yY z.1,yY z.2] 82)) (.cells #[yY 0,yY 0] 82);rw [show (w.alloc (.cells #[yY z.1,yY z.2] 82)).heap.size=w.heap.size+1 by simp] at u;have F:an w ((w.alloc (.cells #[yY z.1,yY z.2] 82)).alloc (.cells #[yY 0,yY 0] 82)):=((br w).alloc (x4 _) _).alloc (by simp) _;have n:=fun j=>iu j z 32768 A H;obtain ⟨G,J,D,P⟩:=af E u F n;clear E u F n A H
 go_loopw [6] (fun y wr=>∃j:Nat,j<=m/\y=yY j/\wr.heap[w.heap.size]?=some (.cells #[yY (ci j z).1,yY (ci j z).2] 82 (0,0))/\wr.heap[w.heap.size+1]?=some (.cells #[yY 0,yY 0] 82 (0,0))/\an w wr) (fun y _=>m-(intOf y).toNat)
 ·exact ⟨0,yb _,rfl,G.o,J.o,D.o⟩
 case round=>
  obtain ⟨j,I,rfl,g,l,q⟩:=hrel;clear G J D;have n:=P.o j;have C:=aa (jG j z);have B:al (j=m->ci m z=ci j z):=aa fun e=>by rw [e]
  generalize ci j z=y at g n C B;obtain ⟨⟨Y,W⟩,U⟩:=bx2 g;have M:=xZ g;obtain ⟨⟨T,Z⟩,V⟩:=bx2 l;have x:=xZ l;obtain ⟨R,h,Q⟩:=ae g l q;have K:IntKind.i64.wrap (-y.2)= -y.2:=yc _ am;clear g l q;by_cases L:j<m
  ·have i:(j:Int)<m:=am;go_wp2_with fail;have v:=yW wr w.heap.size 0 _ _ (yY (-y.2)) R.o;have p:=yW _ w.heap.size 1 _ _ (yY y.1) v;have a:Keep (fun j=>j=w.heap.size) wr ((wr.setCell (ao w.heap.size 0) (yY (-y.2))).setCell (ao w.heap.size 1) (yY y.1)):=Keep.setCell (S:=fun j=>j=w.heap.size) (Keep.setCell (S:=fun j=>j=w.heap.size) (Keep.refl _ _) (ao w.heap.size 0) (.inr rfl) _) (ao w.heap.size 1) (.inr rfl) _;go_roundw
   ·exact ⟨j+1,by omega,by go_num,by rw [C.o];exact p,(a.block _ x am).trans h.o,Q.o.trans (a.toBelow Q.o.size (fun j I=>am))⟩
   ·simp [intOf];omega
  ·have e:j=m:=am;have i:¬((j:Int)<m):=am;go_wp2_with fail;have v:=yW wr (w.heap.size+1) 0 _ _ (yY y.1) h.o;have p:=yW _ (w.heap.size+1) 1 _ _ (yY y.2) v;have a:Keep (fun j=>j=w.heap.size+1) wr ((wr.setCell (ao (w.heap.size+1) 0) (yY y.1)).setCell (ao (w.heap.size+1) 1) (yY y.2)):=Keep.setCell (S:=fun j=>j=w.heap.size+1) (Keep.setCell (S:=fun j=>j=w.heap.size+1) (Keep.refl _ _) (ao (w.heap.size+1) 0) (.inr rfl) _) (ao (w.heap.size+1) 1) (.inr rfl) _;exact yk (m5 rfl rfl p wj) rfl ⟨by rw [B.out e];rfl,Q.o.trans (a.toBelow Q.o.size (fun j I=>am))⟩
theorem tV (x:Int):bY x=(x+32768)%65536-32768:=by
 unfold bY;simp [IntKind.wrap,IntKind.bits,IntKind.signed]
 split<;>omega
theorem uZ (x:Int):(0<=x/\x.tmod 65536=x%65536)\/(x<0/\x.tmod 65536= -((-x)%65536)):=by
 by_cases h:0<=x
 ·exact .inl ⟨h,Int.tmod_eq_emod_of_nonneg h⟩
 ·refine .inr ⟨by omega,?_⟩;rw [<-Int.tmod_eq_emod_of_nonneg (show 0<= -x by omega),Int.neg_tmod,Int.neg_neg]
theorem tc (x:Int) (w:N6):Calls prog 74 #[yY x] w fun e w'=>e=.returned (yY (bY x))/\w'=w:=by
 have g:=tV x;have a:=uZ x;obtain ⟨r,hr⟩:∃r,bY x=r:=⟨_,rfl⟩;obtain ⟨t,j⟩:∃t,x.tmod 65536=t:=⟨_,rfl⟩;rw [hr] at g ⊢;rw [j] at a;obtain ⟨i,h⟩:=ab g a;clear g a hr;go_enter func74,ntmps74;go_wp2
 all_goals (
  go_ret;refine ⟨aD ?_,rfl⟩;have g:=i.o;have a:=h.o;unfold wrap64 at *
  omega)
theorem vh (A:N0) (l:N3) (c:Nat) (w:N6) (h:Rd w A (au .i64 l)) (hl:l.length<=1048576):Calls prog 25 #[.slice A l.length c] w fun e w'=>e=.returned (.agg #[yY (cK l).1,yY (cK l).2])/\an w w':=by
 obtain ⟨m,hm⟩:∃m,l.length=m:=⟨_,rfl⟩;rw [hm] at hl ⊢;obtain ⟨H,HM⟩:=ab h hm;clear h hm;obtain ⟨E,i⟩:∃E,(w.alloc (.cells #[yY 0,yY 0] 82)).alloc (.cells #[yY 0,yY 0] 82)=E:=⟨_,rfl⟩;have g0:E.heap[w.heap.size]?=some (.cells #[yY 0,yY 0] 82 (0,0)):=by rw [<-i];exact (yj (w.alloc (.cells #[yY 0,yY 0] 82)) (.cells #[yY 0,yY 0] 82) w.heap.size (by simp)).trans (x6 w _)
 have g1:E.heap[w.heap.size+1]?=some (.cells #[yY 0,yY 0] 82 (0,0)):=by
  have:=x6 (w.alloc (.cells #[yY 0,yY 0] 82)) (.cells #[yY 0,yY 0] 82);rw [show (w.alloc (.cells #[yY 0,yY 0] 82)).heap.size=w.heap.size+1 by simp] at this;rw [<-i];exact this
 have k0:an w E:=by rw [<-i];exact ((br w).alloc (x4 _) _).alloc (by simp) _
 obtain ⟨G0,G1,K0,HW⟩:=af g0 g1 k0 i;clear g0 g1 k0 i;go_enter func25,ntmps25;go_wp2_with fail;rw [HW.o];clear HW
 go_loopw [4] (fun y wr=>∃k:Nat,k<=m/\y=yY k/\wr.heap[w.heap.size]?=some (.cells #[yY 0,yY 0] 82 (0,0))/\wr.heap[w.heap.size+1]?=some (.cells #[yY (cK (l.take k)).1,yY (cK (l.take k)).2] 82 (0,0))/\an w wr) (fun y _=>m-(intOf y).toNat)
 ·exact ⟨0,yb _,rfl,G0.o,G1.o,K0.o⟩
 case round=>
  obtain ⟨k,v,rfl,g,C,q⟩:=hrel;clear G0 G1 K0;have G:=xZ g;have L:=xZ C;by_cases R:k<m
  ·have a1:(k:Int)<m:=am;have I:k<l.length:=by rw [HM.o];exact R
   obtain ⟨b,o,rfl,hc⟩:=H.o.num I;have W:=(q.cell (p:=(ao b (o+k))) (aw hc)).trans hc;have a0:=iD (l:=l.take k) (by rw [yF];omega);have Ht:=aa (jY I);have B:=fun w=>qO k (bY (nth l k),0) w (fw _) (by show (0:Int).natAbs<=32768;decide) am;have K:=tc (nth l k);have Y:=iu (k%4) (bY (nth l k),0) 32768 (fw _) (by show (0:Int).natAbs<=32768;decide);generalize cK (l.take k)=y at *;generalize ci (k%4) (bY (nth l k),0)=u at *;dsimp only at B;obtain ⟨Z,V⟩:=ab B K;have w1:IntKind.i64.wrap (y.1+u.1)=y.1+u.1:=yc _ am;have w2:IntKind.i64.wrap (y.2+u.2)=y.2+u.2:=yc _ am;obtain ⟨O,M,Q⟩:=ae g C q;clear hc B K g C q a0 Y;go_wp2_with fail;refine (V.o wr).mono ?_;rintro e w3 ⟨rfl,rfl⟩;clear W;go_wp2_with fail;refine (Z.o w3).mono ?_;rintro e D ⟨rfl,P⟩;have q4:=Q.o.trans (P.mono Q.o.size);have g4:=(P.block _ G).trans O.o;have n:=(P.block _ L).trans M.o;have a2:w.heap.size+1<D.heap.size:=xZ n;obtain ⟨⟨y0,y1⟩,yf⟩:=bx2 n;obtain ⟨G4,X,Q4⟩:=ae g4 n q4;clear q4 g4 n P O M Q G L;go_wp2_with fail;have z4:w.heap.size<=D.heap.size:=Q4.o.size;have N:=yW D (w.heap.size+1) 0 _ _ (yY (y.1+u.1)) X.o;have x:=yW _ (w.heap.size+1) 1 _ _ (yY (y.2+u.2)) N;have v:Keep (fun j=>j=w.heap.size+1) D ((D.setCell (ao (w.heap.size+1) 0) (yY (y.1+u.1))).setCell (ao (w.heap.size+1) 1) (yY (y.2+u.2))):=Keep.setCell (S:=fun j=>j=w.heap.size+1) (Keep.setCell (S:=fun j=>j=w.heap.size+1) (Keep.refl _ _) (ao (w.heap.size+1) 0) (.inr rfl) _) (ao (w.heap.size+1) 1) (.inr rfl) _;have a:=Q4.o.trans (v.toBelow z4 (fun j hj=>am));have T:=a.size;have F:=(yj _ (.cells #[yY u.1,yY u.2] 82) w.heap.size (by have:=v.size;omega)).trans ((v.block w.heap.size (xZ G4.o) am).trans G4.o);have x:=(yj _ (.cells #[yY u.1,yY u.2] 82) (w.heap.size+1) (xZ x)).trans x;have a:=a.alloc T (.cells #[yY u.1,yY u.2] 82);obtain ⟨E2,U,J⟩:=ae x F a;clear N x v F a;go_roundw
   ·exact ⟨k+1,by omega,by go_num,U.o,by rw [Ht.o];exact E2.o,J.o⟩
   ·simp [intOf];omega
  ·obtain rfl:k=m:=am;have e:l.take k=l:=by rw [<-HM.o,yK]
   rw [e] at C;obtain ⟨⟨x0,x1⟩,xf⟩:=bx2 C;obtain ⟨⟨y0,y1⟩,yf⟩:=bx2 g;obtain ⟨O,Q⟩:=ab g q;clear g C q;go_wp2_with fail;have N:=yW wr w.heap.size 0 _ _ (yY (cK l).1) O.o;have x:=yW _ w.heap.size 1 _ _ (yY (cK l).2) N;have v:Keep (fun j=>j=w.heap.size) wr ((wr.setCell (ao w.heap.size 0) (yY (cK l).1)).setCell (ao w.heap.size 1) (yY (cK l).2)):=Keep.setCell (S:=fun j=>j=w.heap.size) (Keep.setCell (S:=fun j=>j=w.heap.size) (Keep.refl _ _) (ao w.heap.size 0) (.inr rfl) _) (ao w.heap.size 1) (.inr rfl) _;exact yk (m5 rfl rfl x wj) rfl ⟨rfl,Q.o.trans (v.toBelow Q.o.size (fun j hj=>am))⟩
def nmS (m:Int):ByteArray:=if m=1 then ⟨#[115,101,114,105,97,108]⟩ else if m=2 then ⟨#[116,117,114,110,115]⟩ else if m=3 then ⟨#[99,114,101,119]⟩ else ⟨#[]⟩
theorem jE (w:N6):Calls prog 15 #[] w fun e w'=>e=.returned (.slice (some (ao w.heap.size 0)) 4 4)/\w'.heap[w.heap.size]?=some (.cells #[.string ⟨#[]⟩,Value.nilFunc,.string ⟨#[115,101,114,105,97,108]⟩,.func (.func 45) #[] #[],.string ⟨#[116,117,114,110,115]⟩,.func (.func 46) #[] #[],.string ⟨#[99,114,101,119]⟩,.func (.func 47) #[] #[]] 54 (0,0))/\an w w':=by
 have h:=x6 w (.cells #[.string ⟨#[]⟩,Value.nilFunc,.string ⟨#[115,101,114,105,97,108]⟩,.func (.func 45) #[] #[],.string ⟨#[116,117,114,110,115]⟩,.func (.func 46) #[] #[],.string ⟨#[99,114,101,119]⟩,.func (.func 47) #[] #[]] 54);have a:an w (w.alloc (.cells #[.string ⟨#[]⟩,Value.nilFunc,.string ⟨#[115,101,114,105,97,108]⟩,.func (.func 45) #[] #[],.string ⟨#[116,117,114,110,115]⟩,.func (.func 46) #[] #[],.string ⟨#[99,114,101,119]⟩,.func (.func 47) #[] #[]] 54)):=(ya _ w).alloc (x4 _) _;obtain ⟨H,g⟩:=ab h a;clear h a;go_enter func15,ntmps15;go_wp2_with fail;go_ret;exact ⟨rfl,H.o,g.o⟩
theorem nu (m:Int) (w:N6):Calls prog 13 #[yY m] w fun e w'=>e=.returned (.string (nmS m))/\an w w':=by
 by_cases k:m<1
 ·have e:nmS m=⟨#[]⟩:=by unfold nmS;rw [if_neg am,if_neg am,if_neg am]
  rw [e];go_enter func13,ntmps13;go_wp2;go_ret;exact ⟨rfl,ya _ _⟩
 ·by_cases j:3<m
  ·have e:nmS m=⟨#[]⟩:=by unfold nmS;rw [if_neg am,if_neg am,if_neg am]
   rw [e];go_enter func13,ntmps13;go_wp2;go_ret;exact ⟨rfl,ya _ _⟩
  ·have h:m=1\/m=2\/m=3:=am
   rcases h with rfl | rfl | rfl<;>(
    go_enter func13,ntmps13;go_wp2_with fail;refine (jE w).mono ?_;rintro e i ⟨rfl,hw,a⟩;have q:=bx8 hw;have g:=aa a;clear a hw;go_wp2_with fail;go_ret
    exact ⟨rfl,g.o⟩)
structure eJ (w:N6) (A:N0) (c:Nat) (D:N0) (T:N0) (ct:Nat) (R:N0) (i:Inp):Prop where
 c:ff w A c i.cfg
 d:aQ rEx 2 w D i.data
 dl:i.data.length<=17592186043904
 t:aP w T i.start ct
 r:Rd w R (au .u64 i.draws)
 rl:i.draws.length<=17592186043904
 ru:U64 i.draws
 ra: -9223372036854775808<=i.cfg.rate/\i.cfg.rate<=9223372036854775807
 rm: -9223372036854775808<=i.cfg.mom/\i.cfg.mom<=9223372036854775807
theorem eJ.below {w w':N6} {A:N0} {c:Nat} {D T R:N0} {e:Nat} {i:Inp} (h:eJ w A c D T e R i) (a:an w w'):eJ w' A c D T e R i:=
 ⟨h.c.below a,h.d.below aH a,h.dl,h.t.below a,h.r.below a,h.rl,h.ru,h.ra,h.rm⟩
def fM (i:Inp):Prop:=i.data.length<=60/\i.start.length<=600/\i.draws.length<=2000/\i.cfg.sizes.length<=40
theorem eJ.rd {w:N6} {A:N0} {c:Nat} {D T R:N0} {e:Nat} {i:Inp} (h:eJ w A c D T e R i) (a:fM i):dJ w A c D T e R i:=
 ⟨h.c,h.d,by have:=a.1;omega,h.t,by have:=a.2.1;omega,h.r,by have:=a.2.2.1;omega,h.ru,h.ra,h.rm⟩
def kn (q:Prop) (w:N6) (e:Ending) (w':N6):Prop:=(∃b:Bool,e=.returned (.bool b)/\(b=true->q))/\an w w'
theorem j9 {q:Prop} {w w':N6} (b:Bool) (e:q) (a:an w w'):kn q w (.returned (.bool b)) w':=⟨⟨b,rfl,fun _=>e⟩,a⟩
theorem me {q:Prop} {w w':N6} (a:an w w'):kn q w (.returned (.bool false)) w':=⟨⟨false,rfl,fun h=>by cases h⟩,a⟩
theorem ui {p:Prop} [Decidable p] {q:Prop} {w w':N6} (e:p->q) (a:an w w'):kn q w (.returned (.bool (decide p))) w':=⟨⟨_,rfl,fun h=>e (of_decide_eq_true h)⟩,a⟩
theorem ub (A:N0) (c:Nat) (D:N0) (l:Nat) (T:N0) (n:Nat) (R:N0) (p:Nat) (i:Inp) (w:N6) (h:eJ w A c D T n R i):Calls prog 78 #[.agg (ax A c D l T n R p i)] w (kn (fM i) w):=by
 have I:=fun w' (q:an w w')=>td l D i.data w' (h.d.below aH q) h.dl;have H:i.data.length<=60->i.start.length<=600->i.draws.length<=2000->i.cfg.sizes.length<=40->fM i:=fun a b c d=>⟨a,b,c,d⟩;generalize fM i=Q at H ⊢;clear h;unfold vX at I;obtain ⟨⟨sz,y,ra,u,E,ba,mi,st,bu,ch,wi,ca⟩,data,start,draws⟩:=i;dsimp only [ax,bE] at *;obtain ⟨L,S⟩:∃L,sz.length=L:=⟨_,rfl⟩;obtain ⟨N,J⟩:∃N,data.length=N:=⟨_,rfl⟩;obtain ⟨M,K⟩:∃M,start.length=M:=⟨_,rfl⟩;obtain ⟨P,hP⟩:∃P,draws.length=P:=⟨_,rfl⟩;rw [S,J,K,hP] at H;rw [J] at I;rw [S,J,K,hP];obtain ⟨Hf,Hq⟩:=ab I H;clear I H S J K hP;have C:¬(L<=40)->¬((L:Int)<=40):=am;have v:L<=40->(L:Int)<=40:=am;have G:¬(M<=600)->¬((M:Int)<=600):=am;have B:M<=600->(M:Int)<=600:=am;have F:¬(P<=2000)->¬((P:Int)<=2000):=am;have x:P<=2000->(P:Int)<=2000:=am;obtain ⟨W,X,Z,YM,NP,YP⟩:=ah C v G B F x;clear C v G B F x;by_cases h1:¬(L<=40)
 ·have k1:=W.o h1;go_enter func78,ntmps78;go_wp2_with fail
  all_goals
   go_ret;exact me ((ya _ w).alloc (x4 _) _)
 have m:L<=40:=am;have k1:=X.o m;have G1:=aa m;clear h1 m;go_enter func78,ntmps78;go_wp2_with fail;have hz:=x6 w (.cells #[.slice A L c,yY y,yY ra,yY u,yY E,yY ba,yY mi,yY st,yY bu,yY ch,yY wi,yY ca,.slice D N l,.slice T M n,.slice R P p] 29);have U:=(ya _ w).alloc (x4 _) (.cells #[.slice A L c,yY y,yY ra,yY u,yY E,yY ba,yY mi,yY st,yY bu,yY ch,yY wi,yY ca,.slice D N l,.slice T M n,.slice R P p] 29);refine (Hf.o _ U).mono ?_;rintro e w' ⟨⟨b,rfl,Y⟩,d,rfl⟩;have j:((w.alloc (.cells #[.slice A L c,yY y,yY ra,yY u,yY E,yY ba,yY mi,yY st,yY bu,yY ch,yY wi,yY ca,.slice D N l,.slice T M n,.slice R P p] 29)).drewN d).heap[w.heap.size]?=some (.cells #[.slice A L c,yY y,yY ra,yY u,yY E,yY ba,yY mi,yY st,yY bu,yY ch,yY wi,yY ca,.slice D N l,.slice T M n,.slice R P p] 29 (0,0)):=hz;have g:=yh U d;have Hb:=aa Y;clear hz U Y;generalize (w.alloc (.cells #[.slice A L c,yY y,yY ra,yY u,yY E,yY ba,yY mi,yY st,yY bu,yY ch,yY wi,yY ca,.slice D N l,.slice T M n,.slice R P p] 29)).drewN d=W1 at j g ⊢;have O:=aa g;obtain ⟨⟨z0,z1,z2,z3,z4,z5,z6,z7,z8,z9,a0,a4,a3,a1,a2⟩,zf⟩:=em j;clear j g;rcases bK b with rfl | rfl
 ·go_wp2_with fail
  all_goals
   go_ret;exact me O.o
 by_cases V:¬(M<=600)
 ·have k2:=Z.o V;go_wp2_with fail
  all_goals
   go_ret;exact me O.o
 have k:M<=600:=am;have k2:=YM.o k;have G2:=aa k;clear V k;clear W X Z YM YP;go_wp2_with fail
 all_goals
  go_ret;exact ui (fun h=>Hq.o (Hb.o trivial) G2.o am G1.o) O.o
theorem o6 (A:N0) (c:Nat) (D:N0) (F:Nat) (T:N0) (y:Nat) (R:N0) (E:Nat) (i:Inp) (w:N6) (h:eJ w A c D T y R i):Calls prog 33 #[.agg (ax A c D F T y R E i)] w (kn (fM i) w):=by
 have a:=fun w' (q:an w w')=>ub A c D F T y R E i w' (h.below q);have v:=fun w' (q:an w w')=>iz A c i.cfg w' (h.c.below q);have B:=fun (hR:aX i.cfg.sizes) w' (q:an w w')=>ey A i.cfg.sizes i.cfg.sizes.length c w' (h.c.hr.below q) hR (by have:=hR.1;omega) (x4 _);have G:=@eE i.cfg;generalize fM i=QQ at a ⊢;clear h;have a:∀w',an w w'->Calls prog 78 #[.agg (ax A c D F T y R E i)] w' (fun e a4=>∃b:Bool,e=.returned (.bool b)/\(b=true->QQ)/\an w' a4):=fun w' q=>(a w' q).mono fun e a4 ⟨⟨b,h1,h2⟩,h3⟩=>⟨b,h1,h2,h3⟩;obtain ⟨⟨sz,p,ra,n,u,ba,mi,st,bu,ch,wi,ca⟩,data,start,draws⟩:=i;dsimp only [ax,bE] at *;obtain ⟨Z,a5⟩:∃Z,aM ⟨sz,p,ra,n,u,ba,mi,st,bu,ch,wi,ca⟩=Z:=⟨_,rfl⟩;rw [a5] at v G;have a0:Z=0->aX sz:=fun e=>(G.1 e).z.1;obtain ⟨L,hL⟩:∃L,sz.length=L:=⟨_,rfl⟩;obtain ⟨N,hN⟩:∃N,data.length=N:=⟨_,rfl⟩;obtain ⟨M,hM⟩:∃M,start.length=M:=⟨_,rfl⟩;obtain ⟨Q,hQ⟩:∃Q,draws.length=Q:=⟨_,rfl⟩;rw [hL] at v B a ⊢;rw [hN,hM,hQ] at a ⊢;obtain ⟨CN,a2⟩:∃CN,aF sz (L-1)=CN:=⟨_,rfl⟩;rw [a2] at B;obtain ⟨a9,a8,X,a7⟩:=af v B a a0;clear v B a G hL hN hM hQ a5 a2 a0;go_enter func33,ntmps33;go_wp2_with fail;have hz:=(yj (w.alloc (.cells #[.slice A L c,yY p,yY ra,yY n,yY u,yY ba,yY mi,yY st,yY bu,yY ch,yY wi,yY ca,.slice D N F,.slice T M y,.slice R Q E] 29)) (.cells #[.slice A L c,yY p,yY ra,yY n,yY u,yY ba,yY mi,yY st,yY bu,yY ch,yY wi,yY ca] 24) w.heap.size (by simp)).trans (x6 w _);have hy:=x6 (w.alloc (.cells #[.slice A L c,yY p,yY ra,yY n,yY u,yY ba,yY mi,yY st,yY bu,yY ch,yY wi,yY ca,.slice D N F,.slice T M y,.slice R Q E] 29)) (.cells #[.slice A L c,yY p,yY ra,yY n,yY u,yY ba,yY mi,yY st,yY bu,yY ch,yY wi,yY ca] 24);rw [show (w.alloc (.cells #[.slice A L c,yY p,yY ra,yY n,yY u,yY ba,yY mi,yY st,yY bu,yY ch,yY wi,yY ca,.slice D N F,.slice T M y,.slice R Q E] 29)).heap.size=w.heap.size+1 by simp] at hy;have hB:an w ((w.alloc (.cells #[.slice A L c,yY p,yY ra,yY n,yY u,yY ba,yY mi,yY st,yY bu,yY ch,yY wi,yY ca,.slice D N F,.slice T M y,.slice R Q E] 29)).alloc (.cells #[.slice A L c,yY p,yY ra,yY n,yY u,yY ba,yY mi,yY st,yY bu,yY ch,yY wi,yY ca] 24)):=((ya _ w).alloc (x4 _) _).alloc (by simp) _;obtain ⟨W0,a3⟩:∃W0,W0=(w.alloc (.cells #[.slice A L c,yY p,yY ra,yY n,yY u,yY ba,yY mi,yY st,yY bu,yY ch,yY wi,yY ca,.slice D N F,.slice T M y,.slice R Q E] 29)).alloc (.cells #[.slice A L c,yY p,yY ra,yY n,yY u,yY ba,yY mi,yY st,yY bu,yY ch,yY wi,yY ca] 24):=⟨_,rfl⟩;rw [<-a3] at hz hy hB ⊢;clear a3;refine (X.o _ hB).mono ?_;rintro e w1 ⟨b,rfl,hb,C⟩;have k:=(C.block _ (xZ hz)).trans hz;have g:=(C.block _ (xZ hy)).trans hy;obtain ⟨HB,Hb⟩:=ab (hB.trans (C.mono hB.size)) hb;obtain ⟨⟨z0,z1,z2,z3,z4,z5,z6,z7,z8,z9,H,Y,W,J,P⟩,zf⟩:=em k;obtain ⟨⟨y0,y1,y2,y3,y4,y5,y6,y7,y8,y9,I,K⟩,yf⟩:=fY g;obtain ⟨HZ,HY⟩:=ab k g;clear hz hy hB C hb;rcases bK b with rfl | rfl
 ·clear k g;go_wp2_with fail;refine (X.o _ HB.o).mono ?_;rintro e w2 ⟨b',rfl,m,l⟩;obtain ⟨S,U⟩:=ab (HB.o.trans (l.mono HB.o.size)) m;clear l m;go_wp2_with fail;go_ret;exact ⟨⟨b',rfl,U.o⟩,S.o⟩
 have HQ:=aa (Hb.o rfl);go_wp2_with fail;refine (a9.o _ HB.o).mono ?_;rintro e w3 ⟨rfl,x⟩;have a1:=(x.block _ (xZ k)).trans k;have a6:=(x.block _ (xZ g)).trans g;have j:=aa (HB.o.trans (x.mono HB.o.size));clear z0 z1 z2 z3 z4 z5 z6 z7 z8 z9 H Y W J P zf y0 y1 y2 y3 y4 y5 y6 y7 y8 y9 I K yf k g x HZ HY;obtain ⟨⟨z0,z1,z2,z3,z4,z5,z6,z7,z8,z9,H,Y,W,J,P⟩,zf⟩:=em a1;obtain ⟨⟨y0,y1,y2,y3,y4,y5,y6,y7,y8,y9,I,K⟩,yf⟩:=fY a6;clear a1 a6;by_cases h3:Z≠0
 ·have hq:(Z != 0)=true:=by rw [bne_iff_ne];exact h3
  go_wp2_with fail;refine (X.o _ j.o).mono ?_;rintro e w2 ⟨b',rfl,m,l⟩;obtain ⟨S,U⟩:=ab (j.o.trans (l.mono j.o.size)) m;clear l m;go_wp2_with fail;go_ret;exact ⟨⟨b',rfl,U.o⟩,S.o⟩
 obtain rfl:Z=0:=am;clear h3;have HR:=aa (a7.o rfl);by_cases h4:12<st
 ·have hq:¬(st<=12):=am;go_wp2_with fail
  all_goals
   go_ret;exact j9 _ HQ.o j.o
 have hq:st<=12:=am;go_wp2_with fail;refine (a8.o HR.o _ j.o).mono ?_;rintro e w4 ⟨rfl,d,rfl⟩;have V:=aa (yh j.o d);obtain ⟨W4,O⟩:∃W4,W4=w3.drewN d:=⟨_,rfl⟩;have ad:W4.cell? (ao (w.heap.size+1) 5)=some (yY ba):=by rw [O];exact y5
 rw [<-O] at V ⊢;clear O z0 z1 z2 z3 z4 z5 z6 z7 z8 z9 H Y W J P zf y0 y1 y2 y3 y4 y5 y6 y7 y8 y9 I K yf;by_cases h5:CN<=150
 ·have k5:(CN:Int)<=150:=am;go_wp2_with fail
  all_goals
   go_ret;exact j9 _ HQ.o V.o
 ·have k5:¬((CN:Int)<=150):=am;go_wp2_with fail
  all_goals
   go_ret;exact j9 _ HQ.o V.o
theorem pJ {P:Program} {ops:N9} {rest:List Oper} {op:Oper} {a:Na} {w:N6} {Q:Exit->Na->N6->Prop} {i:N7} {x:Operand} {b o:Nat} {xs:N4} {t:N7} {u:Nat×Nat} (e:N4) (p:w.heap[b]?=some (.cells xs t u)) (hr:eH P i e.size) (hw:Region.wanted op (yielded ops a.tmps)=true) (j:op.op=.load i x) (q:a.eval x=.pointer (some (ao b o))) (g:(xs.toList.drop o).take e.toList.length=e.toList) (h:wpList P ops Q rest (a.put op.dst (.agg e)) w):wpList P ops Q (op::rest) a w:=by
 obtain ⟨⟨d,l,k⟩,n⟩:=hr;refine wpList_step fun K m=>?_;rw [if_pos hw];exact wp_load_mid i x j b o q e.toList d (dR p o g) l k (by simpa using n) (m _ _ (by simpa using h))
theorem ia:eH prog 29 15:=⟨⟨_,underlying29,rfl⟩,by kernel_rfl⟩
noncomputable def jQ (k:Cfg) (n:Int):Bool:=decide (aM k=0)&&(decide (1<=n)&&decide (n<=1048576))
theorem lW (A:N0) (c:Nat) (k:Cfg) (n:Int) (w:N6) (h:ff w A c k):Calls prog 79 #[.agg #[.slice A k.sizes.length c,yY k.shift,yY k.rate,yY k.mom,yY k.workers,yY k.batch,yY k.micros,yY k.steps,yY k.bucket,yY k.chunk,yY k.window,yY k.cap,yY n]] w fun e w'=>e=.returned (.bool (jQ k n))/\an w w':=by
 obtain ⟨x,m⟩:∃x,w.alloc (.cells #[.slice A k.sizes.length c,yY k.shift,yY k.rate,yY k.mom,yY k.workers,yY k.batch,yY k.micros,yY k.steps,yY k.bucket,yY k.chunk,yY k.window,yY k.cap,yY n] 94)=x:=⟨_,rfl⟩;have D:x.heap[w.heap.size]?=some (.cells #[.slice A k.sizes.length c,yY k.shift,yY k.rate,yY k.mom,yY k.workers,yY k.batch,yY k.micros,yY k.steps,yY k.bucket,yY k.chunk,yY k.window,yY k.cap,yY n] 94 (0,0)):=by rw [<-m];exact x6 w _
 have v:an w x:=by rw [<-m];exact (br w).alloc (x4 _) _
 have hc:=iz A c k x (h.below v);have H:=fun w' q=>xk (sb D w' q);obtain ⟨l,a,y⟩:=ae m v hc;have B:=br x;clear m D v hc h;unfold jQ;obtain ⟨i,j⟩:∃i,aM k=i:=⟨_,rfl⟩;rw [j] at y ⊢;clear j;by_cases E:i=0
 ·by_cases F:1<=n
  ·by_cases G:n<=1048576
   ·go_enter func79,ntmps79;go_wp2_with fail;rw [l.o];refine y.o.mono ?_;rintro e C ⟨rfl,g⟩;have u:=bt B g;have p:=aa (a.o.trans (u.mono a.o.size));clear g;go_wp2_with fail;go_ret;exact ⟨by simp [E,F,G],p.o⟩
   ·go_enter func79,ntmps79;go_wp2_with fail;rw [l.o];refine y.o.mono ?_;rintro e C ⟨rfl,g⟩;have u:=bt B g;have p:=aa (a.o.trans (u.mono a.o.size));clear g;go_wp2_with fail;go_ret;exact ⟨by rw [show decide (n<=1048576)=false from yT am];simp,p.o⟩
  ·go_enter func79,ntmps79;go_wp2_with fail;rw [l.o];refine y.o.mono ?_;rintro e C ⟨rfl,g⟩;have u:=bt B g;have p:=aa (a.o.trans (u.mono a.o.size));clear g;go_wp2_with fail;go_ret;exact ⟨by rw [show decide (1<=n)=false from yT am];simp,p.o⟩
 ·go_enter func79,ntmps79;go_wp2_with fail;rw [l.o];refine y.o.mono ?_;rintro e C ⟨rfl,g⟩;have u:=bt B g;have p:=aa (a.o.trans (u.mono a.o.size));clear g;go_wp2_with fail;go_ret;exact ⟨by simp [E],p.o⟩
def pE (k:Cfg) (n:Int) (r:Bool):Prop:=r=true->n<=60/\k.workers<=8/\k.micros<=20/\k.steps<=12
def xX (q:Prop) (w:N6) (e:Ending) (w':N6):Prop:=(∃b:Bool,e=.returned (.bool b)/\(b=true->q))/\an w w'
theorem oM (A:N0) (c:Nat) (k:Cfg) (n:Int) (w:N6) (h:ff w A c k):Calls prog 34 #[.agg #[.slice A k.sizes.length c,yY k.shift,yY k.rate,yY k.mom,yY k.workers,yY k.batch,yY k.micros,yY k.steps,yY k.bucket,yY k.chunk,yY k.window,yY k.cap,yY n]] w (xX (pE k n (jQ k n)) w):=by
 obtain ⟨x,m⟩:∃x,w.alloc (.cells #[.slice A k.sizes.length c,yY k.shift,yY k.rate,yY k.mom,yY k.workers,yY k.batch,yY k.micros,yY k.steps,yY k.bucket,yY k.chunk,yY k.window,yY k.cap,yY n] 94)=x:=⟨_,rfl⟩;have G:x.heap[w.heap.size]?=some (.cells #[.slice A k.sizes.length c,yY k.shift,yY k.rate,yY k.mom,yY k.workers,yY k.batch,yY k.micros,yY k.steps,yY k.bucket,yY k.chunk,yY k.window,yY k.cap,yY n] 94 (0,0)):=by rw [<-m];exact x6 w _
 have v:an w x:=by rw [<-m];exact (br w).alloc (x4 _) _
 have hc:=lW A c k n x (h.below v);have K:=fun w' q=>xk (sb G w' q);obtain ⟨g,a,u⟩:=ae m v hc;have y:=br x;clear m G v hc h;obtain ⟨r,hr⟩:∃r,jQ k n=r:=⟨_,rfl⟩;rw [hr] at u ⊢;clear hr;obtain ⟨L,I⟩:∃L,k.sizes.length=L:=⟨_,rfl⟩;rw [I] at g u K ⊢;clear I;by_cases hl:(L:Int)<=40
 ·have D:¬(40<(L:Int)):=am
  cases r with
  | false=>
   go_enter func34,ntmps34;go_wp2_with fail;rw [g.o];refine u.o.mono ?_;rintro e C ⟨rfl,i⟩;have p:=bt y i;have l:=aa (a.o.trans (p.mono a.o.size));clear i;go_wp2_with fail;go_ret;exact ⟨⟨_,rfl,fun _ h=>by cases h⟩,l.o⟩
  | true=>
   have B:∀b:Bool,(b=true->n<=60/\k.workers<=8/\k.micros<=20/\k.steps<=12)->b=true->pE k n true:=fun b j E _=>j E;have Fin:=aa B;clear B;by_cases H:n<=60
   ·by_cases F:k.workers<=8
    ·by_cases J:k.micros<=20
     ·go_enter func34,ntmps34;go_wp2_with fail;rw [g.o];refine u.o.mono ?_;rintro e C ⟨rfl,i⟩;have p:=bt y i;have l:=aa (a.o.trans (p.mono a.o.size));clear i;go_wp2_with fail;go_ret;exact ⟨⟨_,rfl,Fin.o _ (fun j=>⟨H,F,J,by simpa using j⟩)⟩,l.o⟩
     ·go_enter func34,ntmps34;go_wp2_with fail;rw [g.o];refine u.o.mono ?_;rintro e C ⟨rfl,i⟩;have p:=bt y i;have l:=aa (a.o.trans (p.mono a.o.size));clear i;go_wp2_with fail;go_ret;exact ⟨⟨_,rfl,fun j=>by simp [J] at j⟩,l.o⟩
    ·go_enter func34,ntmps34;go_wp2_with fail;rw [g.o];refine u.o.mono ?_;rintro e C ⟨rfl,i⟩;have p:=bt y i;have l:=aa (a.o.trans (p.mono a.o.size));clear i;go_wp2_with fail;go_ret;exact ⟨⟨_,rfl,fun j=>by simp [F] at j⟩,l.o⟩
   ·go_enter func34,ntmps34;go_wp2_with fail;rw [g.o];refine u.o.mono ?_;rintro e C ⟨rfl,i⟩;have p:=bt y i;have l:=aa (a.o.trans (p.mono a.o.size));clear i;go_wp2_with fail;go_ret;exact ⟨⟨_,rfl,fun j=>by simp [H] at j⟩,l.o⟩
 ·have D:40<(L:Int):=am;go_enter func34,ntmps34;go_wp2_with fail;rw [g.o]
  try go_wp2_with fail
  go_ret;exact ⟨⟨_,rfl,fun j=>by simp at j⟩,a.o⟩
theorem mV (A:N0) (L c:Nat) (i ra h j k mi sn bu ch wi ca:Int) (D:N0) (N C:Nat) (T:N0) (n F:Nat) (R:N0) (Q y:Nat) (w:N6):Calls prog 35 #[.agg #[.slice A L c,yY i,yY ra,yY h,yY j,yY k,yY mi,yY sn,yY bu,yY ch,yY wi,yY ca,.slice D N C,.slice T (n:Nat) F,.slice R Q y]] w fun e w'=>e=.returned (.agg #[.slice A L c,yY i,yY ra,yY h,yY j,yY k,yY mi,yY sn,yY bu,yY ch,yY wi,yY ca,yY (n:Nat)])/\an w w':=by
 obtain ⟨g,a⟩:∃g,w.alloc (.cells #[.slice A L c,yY i,yY ra,yY h,yY j,yY k,yY mi,yY sn,yY bu,yY ch,yY wi,yY ca,.slice D N C,.slice T (n:Nat) F,.slice R Q y] 29)=g:=⟨_,rfl⟩;have u:g.heap[w.heap.size]?=some (.cells #[.slice A L c,yY i,yY ra,yY h,yY j,yY k,yY mi,yY sn,yY bu,yY ch,yY wi,yY ca,.slice D N C,.slice T (n:Nat) F,.slice R Q y] 29 (0,0)):=by rw [<-a];exact x6 w _
 have p:an w g:=by rw [<-a];exact (br w).alloc (x4 _) _
 have l:g.heap.size=w.heap.size+1:=by rw [<-a];exact Array.size_push _
 have G:(g.alloc (.cells #[.slice A L c,yY i,yY ra,yY h,yY j,yY k,yY mi,yY sn,yY bu,yY ch,yY wi,yY ca,yY (n:Nat)] 94)).heap[w.heap.size+1]?=some (.cells #[.slice A L c,yY i,yY ra,yY h,yY j,yY k,yY mi,yY sn,yY bu,yY ch,yY wi,yY ca,yY (n:Nat)] 94 (0,0)):=by rw [<-l];exact x6 g _
 have O:=aa (p.alloc p.size (.cells #[.slice A L c,yY i,yY ra,yY h,yY j,yY k,yY mi,yY sn,yY bu,yY ch,yY wi,yY ca,yY (n:Nat)] 94));have Z:=fun w' (q:an g w')=>em (sb u w' q);obtain ⟨m,W⟩:=ab a G;have l0:=xZ u;have p1:=br g;clear a u G p l;go_enter func35,ntmps35;go_wp2_with fail;rw [m.o];obtain ⟨⟨P,I,V,H,K,S,J,M,X,U,x,B,E⟩,Y⟩:=xk W.o;exact yk (v:=.agg #[.slice A L c,yY i,yY ra,yY h,yY j,yY k,yY mi,yY sn,yY bu,yY ch,yY wi,yY ca,yY (n:Nat)]) (by simp [results,results35,go_sem,P,I,V,H,K,S,J,M,X,U,x,B,E]) rfl ⟨rfl,O.o⟩
def xu (i:Inp):Prop:=fM i/\(aW i=0->pE i.cfg i.start.length (jQ i.cfg i.start.length)/\i.cfg.steps<=6/\i.data.length<=40)
theorem oL (A:N0) (c:Nat) (D:N0) (u:Nat) (T:N0) (n:Nat) (R:N0) (p:Nat) (i:Inp) (w:N6) (h:eJ w A c D T n R i):Calls prog 11 #[.agg (ax A c D u T n R p i)] w (kn (xu i) w):=by
 obtain ⟨j,g⟩:∃j,w.alloc (.cells (ax A c D u T n R p i) 29)=j:=⟨_,rfl⟩;have Y:j.heap[w.heap.size]?=some (.cells (ax A c D u T n R p i) 29 (0,0)):=by rw [<-g];exact x6 w _
 have a:an w j:=by rw [<-g];exact (br w).alloc (x4 _) _
 have Z:=o6 A c D u T n R p i j (h.below a);have E:=fun (hs:fM i) w' (q:an j w')=>fE A c D u T n R p i w' (((h.rd hs).below a).below q);have x:=mV A i.cfg.sizes.length c i.cfg.shift i.cfg.rate i.cfg.mom i.cfg.workers i.cfg.batch i.cfg.micros i.cfg.steps i.cfg.bucket i.cfg.chunk i.cfg.window i.cfg.cap D i.data.length u T i.start.length n R i.draws.length p;have B:=fun w' (q:an j w')=>oM A c i.cfg i.start.length w' ((h.c.below a).below q);unfold kn xu;dsimp only [ax] at *;have t0:=fun w' q=>em (sb Y w' q);obtain ⟨J,v,Hf,U,Q,I⟩:=ah g a Z E x B;have V:=br j;clear g Y a Z E x B h;go_enter func11,ntmps11;go_wp2_with fail;rw [J.o];refine Hf.o.mono ?_;rintro e w1 ⟨⟨b,rfl,X⟩,G⟩;have L:=bt V G;obtain ⟨k,N⟩:=ab (v.o.trans (G.mono v.o.size)) X;clear X G V
 cases b with
 | false=>
  go_wp2_with fail;go_ret;exact ⟨⟨false,rfl,fun h=>by cases h⟩,k.o⟩
 | true=>
  go_wp2_with fail;refine (U.o (N.o (by trivial)) w1 L).mono ?_;rintro e w2 ⟨rfl,P⟩;have q2:=bt L P;have l:=aa (k.o.trans (P.mono k.o.size));clear P L;obtain ⟨C,H⟩:∃C,aW i=C:=⟨_,rfl⟩;rw [H];have HC:=aa H;clear H;by_cases W:C=0
  ·subst W;go_wp2_with fail;refine (Q.o w2).mono ?_;rintro e w3 ⟨rfl,K⟩;have M:=bt q2 K;have y:=aa (l.o.trans (K.mono l.o.size));clear K q2;go_wp2_with fail;refine (I.o w3 M).mono ?_;rintro e w4 ⟨⟨b2,rfl,F⟩,S⟩;have q4:=bt M S;obtain ⟨m,O⟩:=ab (y.o.trans (S.mono y.o.size)) F;clear F S M
   cases b2 with
   | false=>
    go_wp2_with fail;go_ret;exact ⟨⟨false,rfl,fun h=>by cases h⟩,m.o⟩
   | true=>
    by_cases h6:i.cfg.steps<=6
    ·go_wp2_with fail;go_ret;exact ⟨⟨_,rfl,fun h=>⟨N.o (by trivial),fun _=>⟨O.o (by trivial),h6,by simp at h;omega⟩⟩⟩,m.o⟩
    ·go_wp2_with fail;go_ret;exact ⟨.inl rfl,m.o⟩
  ·go_wp2_with fail;go_ret;exact ⟨⟨true,rfl,fun _=>⟨N.o (by trivial),fun h=>absurd (HC.o.symm.trans h) W⟩⟩,l.o⟩
def se (i:Inp):Prop:=xu i/\(aW i=0->i.cfg.workers<=6/\i.cfg.steps<=5/\i.start.length<=40)
theorem jR (A:N0) (c:Nat) (D:N0) (n:Nat) (T:N0) (j:Nat) (R:N0) (m:Nat) (i:Inp) (w:N6) (h:eJ w A c D T j R i):Calls prog 4 #[.agg (ax A c D n T j R m i)] w (kn (se i) w):=by
 obtain ⟨g,k⟩:∃g,w.alloc (.cells (ax A c D n T j R m i) 29)=g:=⟨_,rfl⟩;have x:g.heap[w.heap.size]?=some (.cells (ax A c D n T j R m i) 29 (0,0)):=by rw [<-k];exact x6 w _
 have l:an w g:=by rw [<-k];exact (br w).alloc (x4 _) _
 have I:=oL A c D n T j R m i g (h.below l);have B:=fun (V:fM i) w' (q:an g w')=>fE A c D n T j R m i w' (((h.rd V).below l).below q);have Y:∀w',an g w'->w'.cell? (ao w.heap.size 4)=some (yY i.cfg.workers):=fun w' q=>x7 w' w.heap.size 4 _ _ _ (sb x w' q);have Z:∀w',an g w'->w'.cell? (ao w.heap.size 7)=some (yY i.cfg.steps):=fun w' q=>x7 w' w.heap.size 7 _ _ _ (sb x w' q);have S:∀w',an g w'->w'.cell? (ao w.heap.size 13)=some (.slice T i.start.length j):=fun w' q=>x7 w' w.heap.size 13 _ _ _ (sb x w' q);unfold kn se;unfold kn at I;obtain ⟨v,u,X,K,G⟩:=ag k l I B x;have L:=br g;clear k x l I B h;go_enter func4,ntmps4;go_wp2_with (refine dw (ax A c D n T j R m i) (b:=w.heap.size) (by rw [v.o];exact G.o) ia rfl rfl rfl rfl ?_);rw [v.o];refine X.o.mono ?_;rintro e O ⟨⟨b,rfl,N⟩,E⟩;have y:=bt L E;obtain ⟨p,H⟩:=ab (u.o.trans (E.mono u.o.size)) N;clear N E L
 cases b with
 | false=>
  go_wp2_with fail;go_ret;exact ⟨⟨false,rfl,fun h=>by cases h⟩,p.o⟩
 | true=>
  go_wp2_with (first | (refine dw (ax A c D n T j R m i) (sb G.o _ y) ia rfl rfl rfl rfl ?_) | (refine pJ (ax A c D n T j R m i) (sb G.o _ y) ia rfl rfl rfl rfl ?_));refine (K.o (H.o (by trivial)).1 O y).mono ?_;rintro e w2 ⟨rfl,J⟩;have q2:=bt y J;have a:=aa (p.o.trans (J.mono p.o.size));clear J y;obtain ⟨C,F⟩:∃C,aW i=C:=⟨_,rfl⟩;rw [F];have U:=aa F;clear F;by_cases M:C=0
  ·subst M;by_cases W:i.cfg.workers<=6
   ·by_cases Q:i.cfg.steps<=5
    ·by_cases P:i.start.length<=40
     ·go_wp2_with fail;go_ret;exact ⟨⟨_,rfl,fun _=>⟨H.o (by trivial),fun _=>⟨W,Q,P⟩⟩⟩,a.o⟩
     ·go_wp2_with fail;go_ret;exact ⟨⟨false,by simp;omega,fun h=>by cases h⟩,a.o⟩
    ·go_wp2_with fail;go_ret;exact ⟨.inl rfl,a.o⟩
   ·go_wp2_with fail;go_ret;exact ⟨.inl rfl,a.o⟩
  ·go_wp2_with fail;go_ret;exact ⟨⟨true,rfl,fun _=>⟨H.o (by trivial),fun h=>absurd (U.o.symm.trans h) M⟩⟩,a.o⟩
theorem dX.keep2 {base:Nat} {w w':N6} {i:Inp} {n:Nat} {v:Value} (h:dX base w i n v) {S:Nat->Prop} (k:Keep S w w') (l:∀j,base<=j->j<w.heap.size->¬S j):dX base w' i n v:=by
 obtain ⟨g,m,q,A,x⟩:=h;refine ⟨g,k.own m (fun j a=>l j (m.lt j a).1 (m.lt j a).2),q,A,fun j a=>?_⟩;obtain ⟨u,v,e,p,o,l1,l2,y,B⟩:=x j a;exact ⟨u,v,e,k.own p (fun j a=>l j (p.lt j a).1 (p.lt j a).2),k.own o (fun j a=>l j (o.lt j a).1 (o.lt j a).2),l1,l2,y,B⟩
theorem nb2 {w a:N6} {o:Obj} (k:Keep (fun j=>j=w.heap.size) (w.alloc o) a):an w a:= ((br w).alloc (x4 _) o).trans (k.toBelow (by simp) (fun j g=>by have e:j=w.heap.size:=g;omega))
def StM (lo:Nat) (i:Inp) (n:Nat) (B:N0) (d e:Nat) (w:N6):Prop:=∃base a,dX base a i n (.slice B n d)/\lo<=base/\(e<base\/a.heap.size<=e)/\Keep (fun j=>j=e\/a.heap.size<=j) a w
theorem StM.next {lo:Nat} {i:Inp} {n:Nat} {B:N0} {d a:Nat} {w w':N6} (h:StM lo i n B d a w) (k:Keep (fun j=>j=a\/w.heap.size<=j) w w'):StM lo i n B d a w':=by
 obtain ⟨base,p,m,o,l,g⟩:=h;have:=g.size;exact ⟨base,p,m,o,l,g.trans (k.mono fun j _ e=>by rcases e with e | e;exact .inl e;exact .inr am)⟩
theorem StM.map {lo:Nat} {i:Inp} {n:Nat} {B:N0} {d a:Nat} {w:N6} (h:StM lo i n B d a w):∃base,dX base w i n (.slice B n d)/\lo<=base:=by
 obtain ⟨base,q,g,k,o,l⟩:=h;exact ⟨base,g.keep2 l fun j m p e=>by rcases e with e | e<;>omega,k⟩
theorem StM.at {lo:Nat} {i:Inp} {n:Nat} {B:N0} {d A:Nat} {w:N6} (h:StM lo i n B d A w) {k:Nat} (P:k<n):∃b o g l u m,B=some (ao b o)/\∀w',Keep (fun j=>j=A\/w.heap.size<=j) w w'->
  b<w'.heap.size/\w'.cell? (ao b (o+k*2))=some (.slice g (aN i k).1.length l)/\w'.cell? (ao b (o+k*2+1))=some (.slice u (aN i k).2.length m)/\aP w' g (aN i k).1 l/\aP w' u (aN i k).2 m:=by
 have J:(cT i n)[k]?=some (aN i k):=iv i P;obtain ⟨base,a,x,Y,X,I⟩:=h;obtain ⟨b,o,g,l,u,m,rfl,Z,L,F,_,_⟩:=bP x.rd J
 have v:base<=b/\b<a.heap.size:=by
  obtain ⟨G,R,_⟩:=x;exact R.lt b rfl
 refine ⟨b,o,g,l,u,m,rfl,fun w' q=>?_⟩;have s3:=I.size;have D:Keep (fun j=>j=A\/a.heap.size<=j) a w':=I.trans (q.mono fun j _ e=>by rcases e with e | e;exact .inl e;exact .inr am);have hm:dX base w' i n (.slice (some (ao b o)) n d):=x.keep2 D fun j L F e=>by rcases e with e | e<;>omega
 obtain ⟨N,S,U,O,M,Q,V,y,E,K,T,W⟩:=bP hm.rd J;obtain ⟨rfl,rfl⟩:b=N/\o=S:=by simpa using V
 have hc:∀p,w'.cell? (ao b p)=a.cell? (ao b p):=fun p=>by
  unfold World.cell?;rw [show w'.heap[((ao b p):Addr).block]?=a.heap[b]? from D.block b v.2 am]
 have H:=L.symm.trans ((hc _).symm.trans E);have C:=F.symm.trans ((hc _).symm.trans K);simp only [Option.some.injEq,yM] at H C;obtain ⟨rfl, -,rfl⟩:=H;obtain ⟨rfl, -,rfl⟩:=C;exact ⟨y,E,K,T,W⟩
theorem pD (A:N0) (c:Nat) (D:N0) (l:Nat) (T:N0) (j:Nat) (R:N0) (k:Nat) (i:Inp) (w:N6) (h:dJ w A c D T j R i) (hg:bQ i):Calls prog 45 #[.agg (ax A c D l T j R k i)] w fun e w'=>∃B d base,e=.returned (.slice B (i.cfg.steps.toNat+1) d)/\w.heap.size<=base/\dX base w' i (i.cfg.steps.toNat+1) (.slice B (i.cfg.steps.toNat+1) d)/\an w w':=by
 have a:=fun w' (q:an w w')=>mE A c D l T j R k i w' (h.below q) hg;unfold uS at a;obtain ⟨s,x⟩:∃s,i.cfg.steps.toNat=s:=⟨_,rfl⟩;rw [x] at a ⊢;have n:an w (w.alloc (.cells (ax A c D l T j R k i) 29)):=(br w).alloc (x4 _) _;dsimp only [ax] at a n ⊢;obtain ⟨y,g⟩:=ab a n;clear a x h n hg;go_enter func45,ntmps45;go_wp2_with fail;refine (y.o _ g.o).mono ?_;rintro e F ⟨p,B,d,base,rfl, -,u,v⟩;obtain ⟨E,C,m⟩:=ae v (g.o.trans (p.mono g.o.size)) (yd g.o.size u);clear v p u;go_wp2_with fail;go_ret;exact ⟨_,_,_,rfl,m.o,E.o,C.o⟩
theorem cC:eH prog 35 5:=⟨⟨_,underlying35,rfl⟩,by kernel_rfl⟩
theorem sC (A:N0) (c:Nat) (D:N0) (u:Nat) (T:N0) (m:Nat) (R:N0) (n:Nat) (i:Inp) (w:N6) (h:dJ w A c D T m R i) (k:aW i≠0):Calls prog 6 #[.agg (ax A c D u T m R n i),yY 1] w fun e w'=>∃vs,e=.returned (.tuple #[.agg vs,yY (aW i)])/\iN w' i vs/\an w w':=by
 have g:=fun w' (q:an w w')=>iX A c D u T m R n i w' (h.below q);have l:=qq (fun hg=>k (eW.2 hg));obtain ⟨C,x⟩:∃C,aW i=C:=⟨_,rfl⟩;rw [x] at g k ⊢;obtain ⟨p,a⟩:∃p,(w.alloc (.cells (ax A c D u T m R n i) 29)).alloc (.cells #[yY 0,yZ,yZ,yZ,yZ] 35)=p:=⟨_,rfl⟩;have F:an w p:=by rw [<-a];exact ((br w).alloc (x4 _) _).alloc (by simp) _
 have y:p.heap[w.heap.size+1]?=some (.cells #[yY 0,yZ,yZ,yZ,yZ] 35 (0,0)):=by
  have:=x6 (w.alloc (.cells (ax A c D u T m R n i) 29)) (.cells #[yY 0,yZ,yZ,yZ,yZ] 35);rw [show (w.alloc (.cells (ax A c D u T m R n i) 29)).heap.size=w.heap.size+1 by simp] at this;rw [<-a];exact this
 have l1:=xZ y;dsimp only [ax] at g a ⊢;obtain ⟨E,X,V,L,v,O⟩:=ah g x a y F l;clear g x h a y F l;go_enter func6,ntmps6;go_wp2_with fail;rw [V.o];refine (E.o p v.o).mono ?_;rintro e w2 ⟨rfl,B⟩;have K:=(B.block _ l1).trans L.o;obtain ⟨S,I⟩:=ab K (v.o.trans (B.mono v.o.size));clear K B L v l1;go_wp2_with (refine gi S.o cC rfl rfl rfl rfl rfl rfl rfl ?_;intro Z H J;obtain ⟨Q,U⟩:=ab H (I.o.trans (J.toBelow I.o.size (fun j Y=>am)));clear H J);refine yk (ec rfl rfl Q.o cC) rfl ?_;obtain ⟨G,W,M,N,P⟩:=O.o;refine ⟨_,rfl,?_,U.o⟩;refine ⟨none,0,none,0,none,0,none,0,by rw [G,W];rfl,by rw [G];exact aQ.nil _ _ _ _,by rw [M];exact Rd.nil _ _,by rw [N];exact Rd.nil _ _,by rw [P];exact aQ.nil _ _ _ _⟩
end Go.Proofs.YthamijnggdjaoaaGreat
