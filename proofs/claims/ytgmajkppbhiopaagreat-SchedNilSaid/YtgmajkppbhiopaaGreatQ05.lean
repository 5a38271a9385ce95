/- No condition. -/
import Derived.Test.YtgmajkppbhiopaaGreatQ04
import Derived.BigRegion
set_option linter.unusedSimpArgs false
set_option linter.unusedVariables false
set_option maxRecDepth 100000
set_option maxHeartbeats 4000000
namespace Go.Proofs.YtgmajkppbhiopaaGreat
open Go.RowKit
open Tryz
def j8 (n:Nat) (i:Int):Prop:=0<=i/\i<n
instance (n:Nat) (i:Int):Decidable (j8 n i):=by unfold j8;exact inferInstance
def Ck (l:Qg) (h:Qa) (w:Qd) (e:Ending) (i:Qd):Prop:=aq w i/\ (((∀k,k<h.length->j8 l.length (nth h k))/\∃v,e=.returned (.tuple #[v,.bool true])/\jk w i (dR l h) h.length v)\/((¬∀k,k<h.length->j8 l.length (nth h k))/\e=.returned (.tuple #[OJ,.bool false])))
theorem Bs (P c d:Nat) (A B:N_) (l:Qg) (u:Qa) (w:Qd) (hP:w.heap[P]?=some (.cells #[.slice A l.length c] 25 (0,0))) (h:de rEx 2 w A l) (hl:l.length<=1048576) (hB:Rd w B (aA .i64 u)) (hi:u.length<=1048576):Calls prog 245 #[.slice B u.length d,.func (.func 246) #[] #[(au P)]] w (Ck l u w):=by
 obtain ⟨n,hn⟩:∃n,u.length=n:=⟨_,rfl⟩;unfold Ck;rw [hn] at hi ⊢;obtain ⟨N,hN⟩:∃N,l.length=N:=⟨_,rfl⟩;have T:=nD l u;have V:=fun k (hk:k<u.length)=>yt l u hk;rw [hn] at T V;have ao:=hP;rw [hN] at hl hP ⊢;obtain ⟨H,Hn,HN,HB,HP,b1,b2,aG⟩:=ak h hn hN hB hP ao T V;clear h hn hN hB hP ao T V;go_enter func245,ntmps245;go_wp2_with fail
 go_loopw [6,13] (fun v i wr=>∃k:Nat,k<=n/\i=OH k/\jk w wr (dR l u) k v/\an (∀j,j<k->j8 N (nth u j))) (fun _ i _=>n-(intOf i).toNat)
 ·exact ⟨0,NJ _,rfl,jk.zero w _,aa fun j hj=>ap⟩
 case round=>
  obtain ⟨k,hk,rfl,L,Q⟩:=hrel;obtain ⟨Al,cl,rfl⟩:=L.form;by_cases R:k<n
  ·have hb:=L.b;obtain ⟨b,o,rfl,p⟩:=(HB.o.below hb).num (show k<u.length by rw [Hn.o];exact R);obtain ⟨i,C⟩:∃i,nth u k=i:=⟨_,rfl⟩;rw [C] at p;have I:=(hb.block P (NE HP.o)).trans HP.o;by_cases hg:j8 N i
   ·obtain ⟨j,rfl⟩:∃j:Nat,i=(j:Int):=⟨i.toNat,by have:=hg.1;omega⟩;have aR:j<N:=by have:=hg.2;omega
    have J:=aG.o k R;rw [C,Int.toNat_natCast] at J;have a7:j<l.length:=by rw [HN.o];exact aR
    obtain ⟨x,hx⟩:∃x,l[j]?=some x:=⟨_,Of a7⟩;have a1:l.getD j ([],[])=x:=by simp [hx]
    rw [a1] at J;have y:=Bd P c j A l x wr (by rw [HN.o];exact I) (H.o.below dE hb) hx;unfold vO at y;obtain ⟨Z,a2⟩:∃Z,x.1.length=Z:=⟨_,rfl⟩;obtain ⟨Y,ad⟩:∃Y,x.2.length=Y:=⟨_,rfl⟩;rw [a2,ad] at y;obtain ⟨U,O,Hx,Hg,Hi⟩:=ah y L J hg C;clear y L hx a2 ad hb hg C J a1 I a7;go_wp2_with fail;refine U.o.mono ?_;rintro e w3 ⟨B1,d1,B2,d2,rfl,ho,D⟩;have a4:=(O.o.below D).below ((NI _ _).alloc (NF _) (.cells #[.slice B1 Z d1,.slice B2 Y d2] 91));have a3:=(ho.base (base':=w.heap.size) O.o.b.size).below ((NI _ _).alloc (NF _) (.cells #[.slice B1 Z d1,.slice B2 Y d2] 91));obtain ⟨aP,b0⟩:=ae a4 a3;clear a4 a3 ho D p;obtain ⟨rows,h1,h2,h3,h4,h5⟩:=aP.o;obtain ⟨R1,R2,R3,R4,R5⟩:=ah h1 h2 h3 h4 h5;clear h1 h2 h3 h4 h5;have ab:=aa (show (w3.alloc (.cells #[.slice B1 Z d1,.slice B2 Y d2] 91)).heap.size=w3.heap.size+1 by simp);go_wp2_with (at_builtin;refine aW Jh _ rfl (.tmp 25) (.tmp 27) rfl w.heap.size (.slice Al k cl) k _ rfl R1.o [.slice B1 Z d1,.slice B2 Y d2] (congrArg (fun b:Nat=>Value.slice (some (ar b 0)) 1 1) ab.o.symm) rfl (by simp [Value.oneCell']) ap (by unfold maxLen;omega) R5.o.size ?_);intro g6 c6 w6 a0 a8 a9;have av:=jk.push R1.o R2.o R3.o R4.o R5.o Hx.o b0.o a0 a8 a9;have aM:=aa av;clear a0 a8 a9 av;go_wp2_with fail;go_roundw
    case rel=>exact ⟨k+1,by omega,by go_num,aM.o,aa (p:=∀j,j<k+1->j8 N (nth u j)) fun t ht=>by
     rcases NY t k with h | h
     ·exact Q.out t h
     ·obtain rfl:t=k:=ap
      rw [Hi.o];exact Hg.o⟩
    case measure=>simp [intOf];omega
   ·have a5:i<0\/(N:Int)<=i:=by unfold j8 at hg;omega
    have y:=Ee P N c A i wr I a5;obtain ⟨U,O,Hg,Hi⟩:=ag y L hg C;clear y L hb hg a5 C I;go_wp2_with fail;refine U.o.mono ?_;rintro e w3 ⟨rfl,D⟩;have a6:=aa (O.o.b.trans (D.mono O.o.b.size));clear D p;go_wp2_with fail;go_ret2;exact ⟨a6.o.alloc a6.o.size _,.inr ⟨fun h=>Hg.o (by have:=h k R;rwa [Hi.o] at this),rfl⟩⟩
  ·obtain rfl:n=k:=ap;have O:=aa L;clear L;go_wp2_with fail;go_ret2;exact ⟨O.o.b,.inl ⟨Q.out,_,rfl,O.o⟩⟩
def fu (a b:Nat) (x:Ex):Prop:=x.1.length=a/\x.2.length=b
instance (a b:Nat) (x:Ex):Decidable (fu a b x):=by unfold fu;exact inferInstance
theorem BU (x y n m a b c d:Nat) (A B:N_) (w:Qd) (h1:w.heap[x]?=some (.cells #[OH a] 3 (0,0))) (u:w.heap[y]?=some (.cells #[OH b] 3 (0,0))):Calls prog 116 #[.agg #[.slice A n c,.slice B m d],(au x),(au y)] w fun e C=>e=.returned (.bool (!decide (n=a/\m=b)))/\aq w C:=by
 obtain ⟨I,L⟩:=bx1 h1;obtain ⟨H,D⟩:=bx1 u;have l1:=NE h1;have J:=NE u;clear h1 u;by_cases i:n=a
 ·by_cases p:m=b
  ·have o:((n:Int) != (a:Int))=false:=by rw [i];simp
   have v:((m:Int) != (b:Int))=false:=by rw [p];simp
   have h:(!decide (n=a/\m=b))=false:=by simp [i,p]
   rw [h];clear i p h;go_enter func116,ntmps116;go_wp2;go_ret;exact ⟨rfl,(NI _ w).alloc (NF _) _⟩
  ·have o:((n:Int) != (a:Int))=false:=by rw [i];simp
   have v:((m:Int) != (b:Int))=true:=by rw [bne_iff_ne];omega
   have h:(!decide (n=a/\m=b))=true:=by simp [p]
   rw [h];clear i p h;go_enter func116,ntmps116;go_wp2;go_ret;exact ⟨rfl,(NI _ w).alloc (NF _) _⟩
 ·have o:((n:Int) != (a:Int))=true:=by rw [bne_iff_ne];omega
  have h:(!decide (n=a/\m=b))=true:=by simp [i]
  rw [h];clear i h;go_enter func116,ntmps116;go_wp2;go_ret;exact ⟨rfl,(NI _ w).alloc (NF _) _⟩
def xA (l:Qg) (a b:Nat) (w:Qd) (e:Ending) (h:Qd):Prop:=∃d:Int,e=.returned (OH d)/\ -1<=d/\d<=1048576/\(d<0↔∀x∈l,fu a b x)/\aq w h
theorem zj (Y Z a b c:Nat) (A:N_) (l:Qg) (w:Qd) (h1:w.heap[Y]?=some (.cells #[OH a] 3 (0,0))) (T:w.heap[Z]?=some (.cells #[OH b] 3 (0,0))) (h:de rEx 2 w A l) (hl:l.length<=1048576):Calls prog 115 #[.slice A l.length c,.func (.func 116) #[] #[(au Y),(au Z)]] w (xA l a b w):=by
 unfold xA;have N:=fun n m A c B d w' (k:aq w w')=>BU Y Z n m a b c d A B w' ((k.block _ (NE h1)).trans h1) ((k.block _ (NE T)).trans T);obtain ⟨n,hn⟩:∃n,l.length=n:=⟨_,rfl⟩;rw [hn] at hl ⊢;obtain ⟨H,Hn,U⟩:=af h hn N;clear h hn N h1 T;go_enter func115,ntmps115;go_wp2_with fail
 go_loopw [5,8] (fun _ i wr=>∃k:Nat,k<=n/\i=OH k/\an (∀j x,j<k->l[j]?=some x->fu a b x)/\aq w wr) (fun _ i _=>n-(intOf i).toNat)
 ·exact ⟨0,NJ _,rfl,aa fun j x O=>ap,NI _ _⟩
 case round=>
  obtain ⟨k,hk,rfl,v,hb⟩:=hrel;by_cases Q:k<n
  ·obtain ⟨x,I⟩:∃x,l[k]?=some x:=⟨_,Of (by rw [Hn.o];exact Q)⟩;obtain ⟨b',o,A1,c1,A2,c2,rfl,a0,p1,p2,r1,r2⟩:=fL (H.o.below dE hb) I;have hc:=U.o x.1.length x.2.length A1 c1 A2 c2 wr hb;by_cases J:fu a b x
   ·have L:(!decide (x.1.length=a/\x.2.length=b))=false:=by
     have:=J;unfold fu at this;simp [this.1,this.2]
    rw [L] at hc;obtain ⟨V,R,Hf,C⟩:=ag hc I J hb;clear hc I J L r1 r2 hb;go_wp2_with fail;refine V.o.mono ?_;rintro e w1 ⟨rfl,u⟩;have D:=aa (C.o.trans (u.mono C.o.size));clear u p1 p2;go_wp2_with fail;go_roundw
    case rel=>exact ⟨k+1,by omega,by go_num,aa (p:=∀j x,j<k+1->l[j]?=some x->fu a b x) fun j y O hy=>by
     rcases NY j k with h | h
     ·exact v.out j y h hy
     ·obtain rfl:j=k:=ap
      have:=R.o;rw [hy] at this;injection this with this;rw [this];exact Hf.o,D.o⟩
    case measure=>simp [intOf];omega
   ·have L:(!decide (x.1.length=a/\x.2.length=b))=true:=by
     have:=J;unfold fu at this;simp only [Bool.not_eq_true',OC];exact this
    rw [L] at hc;obtain ⟨V,R,Hf,C⟩:=ag hc I J hb;clear hc I J L r1 r2 hb;go_wp2_with fail;refine V.o.mono ?_;rintro e w1 ⟨rfl,u⟩;have D:=aa (C.o.trans (u.mono C.o.size));clear u p1 p2;go_wp2_with fail;go_ret;exact ⟨k,rfl,by omega,by omega,⟨fun h=>ap,fun h=>absurd (h x (List.mem_of_getElem? R.o)) Hf.o⟩,D.o⟩
  ·obtain rfl:n=k:=ap;have C:=aa hb;clear hb;go_wp2_with fail;go_ret;refine ⟨-1,rfl,by omega,by omega,⟨fun _ x I=>?_,fun _=>ap⟩,C.o⟩;obtain ⟨j,O⟩:=List.getElem?_of_mem I;exact v.out j x (by have:=(Oe.1 O).1;have:=Hn.o;omega) O
def qT (l:Qg) (a b:Nat) (w:Qd) (e:Ending) (h:Qd):Prop:=aq w h/\∃d:Int,((∀x∈l,fu a b x)/\e=.returned (.tuple #[OH d,.bool true]))\/((¬∀x∈l,fu a b x)/\e=.returned (.tuple #[OH d,.bool false]))
theorem BQ (a b c:Nat) (A:N_) (l:Qg) (w:Qd) (h:de rEx 2 w A l) (hl:l.length<=1048576):Calls prog 78 #[.slice A l.length c,OH a,OH b] w (qT l a b w):=by
 have v:∀(B y:Obj),aq w ((w.alloc B).alloc y):=fun B y=>((NI _ w).alloc (NF _) _).alloc (by simp) _
 have u:=zj w.heap.size (w.heap.size+1) a b c A l ((w.alloc (.cells #[OH a] 3)).alloc (.cells #[OH b] 3)) ((NW _ _ _ (by simp)).trans (NG w _))
  (by have:=NG (w.alloc (.cells #[OH a] 3)) (.cells #[OH b] 3);rwa [show (w.alloc (.cells #[OH a] 3)).heap.size=w.heap.size+1 by simp] at this) (h.below dE (v _ _)) hl
 obtain ⟨n,hn⟩:∃n,l.length=n:=⟨_,rfl⟩;unfold xA at u;unfold qT;rw [hn] at u ⊢;obtain ⟨J,L⟩:=ae u v;clear u v h hn;go_enter func78,ntmps78;go_wp2_with fail;refine J.o.mono ?_;rintro e N ⟨d,rfl,D,C,p,hb⟩;obtain ⟨x,i⟩:=ae ((L.o (.cells #[OH a] 3) (.cells #[OH b] 3)).trans (hb.mono (by simp;omega))) p;clear hb p;by_cases I:d<0
 ·have H:decide (d<0)=true:=by simp;omega
  go_wp2_with fail
  all_goals
   go_ret2;exact ⟨x.o,_,.inl ⟨i.o.1 I,rfl⟩⟩
 ·have H:decide (d<0)=false:=by simp;omega
  go_wp2_with fail
  all_goals
   go_ret2;exact ⟨x.o,_,.inr ⟨fun h=>by have:=i.o.2 h;omega,rfl⟩⟩
def swp (p:Qa) (i j:Nat):Qa:=(p.set i (nth p j)).set j (nth p i)
theorem Ki (p:Qa) (i j:Nat):(swp p i j).length=p.length:=by simp [swp]
theorem Cm {p:Qa} {i j:Nat} (o:i<p.length) (h:j<p.length) (k:Nat):nth (swp p i j) k=if k=j then nth p i else if k=i then nth p j else nth p k:=by
 unfold swp;rw [iQ,iQ,List.length_set];simp only [o,h,and_true]
theorem xE {p:Qa} {i j:Nat} (o:i<p.length) (h:j<p.length):(p.set j (nth p i)).set i (nth p j)=swp p i j:=by
 refine js (by simp [swp]) fun k hk=>?_;rw [Cm o h,iQ,iQ,List.length_set];simp only [o,h,and_true];by_cases h1:k=i
 ·subst h1;by_cases u:k=j
  ·subst u;simp
  ·simp [u]
 ·simp [h1]
def tj (n:Nat):Qa:=dM n fun k=>(k:Int)
theorem IT (n:Nat):(tj n).length=n:=cF _ _
def ig (n:Nat) (d:Nat->Nat):Nat->Qa
 | 0=>tj n
 | k+1=>swp (ig n d k) (n-1-k) (d k)
theorem lF (n:Nat) (d:Nat->Nat) (k:Nat):(ig n d k).length=n:=by
 induction k with
 | zero=>exact IT n
 | succ k ih=>rw [ig,Ki,ih]
theorem Gc {n:Nat} {d:Nat->Nat} (k:Nat) (p:∀j,j<k->d j<n-j) (hk:k<=n-1):∀i,i<n->0<=nth (ig n d k) i/\nth (ig n d k) i<n:=by
 induction k with
 | zero=>intro i o;unfold ig tj;rw [bU _ o];omega
 | succ k h=>
  have h:=h (fun j u=>p j ap) ap;have h1:=p k ap;intro i o;rw [ig,Cm (by rw [lF];omega) (by rw [lF];omega)]
  split
  ·exact h _ ap
  ·split
   ·exact h _ ap
   ·exact h _ o
def iv (l:Qa) (n i k:Nat):Nat:=(nth l (i+k)%((n-k:Nat):Int)).toNat
theorem tE (l:Qa) {n i k:Nat} (h:k<n):iv l n i k<n-k:=by
 unfold iv;have h1:=Int.emod_nonneg (nth l (i+k)) (show ((n-k:Nat):Int)≠0 by omega);have o:=Int.emod_lt_of_pos (nth l (i+k)) (show (0:Int)<((n-k:Nat):Int) by omega);omega
theorem vB (l:Qa) {n i k:Nat} (h:k<n):(iv l n i k:Int)=nth l (i+k)%((n-k:Nat):Int):=by
 unfold iv;have h1:=Int.emod_nonneg (nth l (i+k)) (show ((n-k:Nat):Int)≠0 by omega);omega
def fW (l:Qa) (n i:Nat):Qa:=ig n (iv l n i) (n-1)
theorem jB (l:Qa) (n i:Nat):(fW l n i).length=n:=lF _ _ _
theorem Ih (l:Qa) (n i:Nat):∀k,k<n->0<=nth (fW l n i) k/\nth (fW l n i) k<n:=Gc _ (fun j h=>tE l ap) (NF _)
def jp (l:Qa) (n e:Nat):List (Qa):=(List.range e).map fun k=>fW l n (k*(n-1))
theorem rq (l:Qa) (n e:Nat):(jp l n e).length=e:=by simp [jp]
theorem sP (l:Qa) (n:Nat) {e k:Nat} (h:k<e):(jp l n e)[k]?=some (fW l n (k*(n-1))):=by simp [jp,h]
theorem IN (n:Int) (w:Qd) (h:1<=n):Calls prog 177 #[OH n] w fun e i=>e=.returned (.bool false)/\w=i:=by
 have h1:¬n<1:=ap;go_enter func177,ntmps177;go_wp2;go_ret;exact ⟨df (by first | rfl | (simp;omega) | (simp;done)),rfl⟩
theorem Bn (A:N_) (l:Qa) (c:Nat) (w:Qd) (hA:Rd w A (aA .i64 l)) (hl:l.length<=17592186043904) (hb:∀k,k<l.length->1<=nth l k):Calls prog 154 #[.slice A l.length c,.func (.func 177) #[] #[]] w fun e v=>e=.returned (OH (-1))/\w=v:=by
 obtain ⟨n,hn⟩:∃n,l.length=n:=⟨_,rfl⟩;have hw:=fun k (hk:k<l.length)=>IN (nth l k) w (hb k hk);rw [hn] at hl hw ⊢;obtain ⟨HA,y,x⟩:=af hA hn hw;clear hA hn hw hb;go_enter func154,ntmps154;go_wp2_with fail
 go_loop [5,8] (fun _ i=>∃k:Nat,k<=n/\i=OH k) (fun _ i=>n-(intOf i).toNat)
 ·exact ⟨0,NJ _,rfl⟩
 case round=>
  obtain ⟨k,hk,rfl⟩:=hrel;by_cases h:k<n
  ·obtain ⟨b,o,rfl,p⟩:=HA.o.num (show k<l.length by rw [y.o];exact h);have hw:=x.o k h;have u:=aa hw;clear hw;go_wp2_with fail;refine u.o.mono ?_;rintro e v ⟨rfl,rfl⟩;go_wp2_with fail;go_round
   ·exact ⟨k+1,by omega,by go_num⟩
   ·simp [intOf];omega
  ·obtain rfl:k=n:=ap;go_wp2_with fail;go_ret;exact ⟨rfl,rfl⟩
theorem xa (A:N_) (l:Qa) (c:Nat) (w:Qd) (hA:Rd w A (aA .i64 l)) (hl:l.length<=17592186043904) (hb:∀k,k<l.length->1<=nth l k):Calls prog 113 #[.slice A l.length c,.func (.func 177) #[] #[]] w fun e h=>e=.returned (.bool false)/\w=h:=by
 have i:=Bn A l c w hA hl hb;have p:=aa i;clear i hA hb;go_enter func113,ntmps113;go_wp2_with fail;refine p.o.mono ?_;rintro e h ⟨rfl,rfl⟩;go_wp2;go_ret;exact ⟨rfl,rfl⟩
theorem EU (n:Nat) (w:Qd) (hn:n<=1048576):Calls prog 157 #[OH n] w fun e H=>∃v,e=.returned v/\H.ownsRow w.heap.size 3 1 v n (aA .i64 (tj n))/\aq w H:=by
 go_enter func157,ntmps157;go_wp2_with fail
 go_loopw [3,6] (fun v i wr=>∃k:Nat,k<=n/\i=OH k/\wr.ownsRow w.heap.size 3 1 v k (aA .i64 (tj k))/\aq w wr) (fun _ i _=>n-(intOf i).toNat)
 ·exact ⟨0,NJ _,rfl,NV _ _ _ _,NI _ _⟩
 case round=>
  obtain ⟨k,hk,rfl,h,hb⟩:=hrel;by_cases I:k<n
  ·obtain ⟨L,J,rfl,_⟩:=aC h;obtain ⟨p,A⟩:=ae h hb;clear h hb;go_wp2_with (at_builtin;refine aW fQ _ rfl (.tmp 9) (.tmp 11) rfl w.heap.size (.slice L k J) k _ rfl p.o [OH (k:Int)] rfl rfl (cJ .i64 [_]) ap (by unfold maxLen;omega) A.o.size ?_);intro N O Q x y D;have u:=A.o.trans y;obtain ⟨C,B⟩:=ae x u;clear x y D u;go_wp2_with fail;go_roundw
   case rel=>
    refine ⟨k+1,by omega,by go_num,?_,B.o⟩;have:tj (k+1)=tj k++[(k:Int)]:=iC _ _;rw [this,cT];exact C.o
   case measure=>simp [intOf];omega
  ·obtain rfl:k=n:=ap;obtain ⟨p,A⟩:=ae h hb;clear h hb;go_wp2_with fail;go_ret;exact ⟨_,rfl,p.o,A.o⟩
theorem IM (b c i:Nat) (A:N_) (l:Qa) (B:N_) (bs:Qa) (d:Nat) (w:Qd) (h:cV w b A c l i) (hi:i+bs.length<=l.length) (hl:l.length<=1048576) (hu:U64 l) (hB:Rd w B (aA .i64 bs)) (a0:∀a,B=some a->a.block≠b) (J:∀k,k<bs.length->1<=nth bs k/\nth bs k<=1048576):Calls prog 156 #[(au b),.slice B bs.length d] w fun e O=>∃v,e=.returned (.tuple #[v,.bool true])/\O.ownsRow w.heap.size 3 1 v bs.length (aA .i64 (dM bs.length fun k=>nth l (i+k)%nth bs k))/\cV O b A c l (i+bs.length)/\Keep (fun j=>j=b) w O:=by
 have U:=qZ b c i A l w h ap ap;have Q:=fun n=>xa B bs d (w.drewN n) (hB.drewN n) ap (fun k hk=>(J k hk).1);have C:=fun j m O (h:cV O b A c l j) (hj:j<l.length)=>xG b c j m A l O h hj ap hu;obtain ⟨n,hn⟩:∃n,bs.length=n:=⟨_,rfl⟩;rw [hn] at hi Q J ⊢;obtain ⟨N,hN⟩:∃N,l.length=N:=⟨_,rfl⟩;rw [hN] at hi hl U C;have ad:=h.lt;obtain ⟨ab,a9,a8,H,HB,Hn,aR,aM⟩:=ak U Q C h hB hn J a0;clear U Q C h hB hn J hu a0 hN;have hq:decide (((N-i:Nat):Int)<(n:Int))=false:=by simp;omega
 have b2:decide (N-i<n)=false:=by simp;omega
 go_enter func156,ntmps156;go_wp2_with fail;refine ab.o.mono ?_;rintro e O ⟨rfl,a,rfl⟩;go_wp2_with fail;refine (a9.o a).mono ?_;rintro e O ⟨rfl,rfl⟩;clear hq b2;go_wp2_with fail
 go_loopw [6,26] (fun v x wr=>∃k:Nat,k<=n/\x=OH k/\wr.ownsRow w.heap.size 3 1 v k (aA .i64 (dM k fun k=>nth l (i+k)%nth bs k))/\cV wr b A c l (i+k)/\Keep (fun j=>j=b) w wr) (fun _ x _=>n-(intOf x).toNat)
 ·exact ⟨0,NJ _,rfl,NV _ _ _ _,H.o.drewN a,(Keep.refl _ _).drewN a⟩
 case round=>
  obtain ⟨k,hk,rfl,u,hS,V⟩:=hrel;by_cases Z:k<n
  ·obtain ⟨Al,cl,rfl,_⟩:=aC u;have a4:=V.rd HB.o (fun a ha e=>aM.o a ha e);obtain ⟨bB,oB,rfl,p⟩:=a4.num (show k<bs.length by rw [Hn.o];exact Z);have b1:=aR.o k Z;obtain ⟨m,hm⟩:∃m:Nat,nth bs k=(m:Int):=⟨(nth bs k).toNat,by omega⟩;rw [hm] at p b1;have C:=a8.o (i+k) m wr hS ap ap ap;obtain ⟨y,hy⟩:∃y,nth l (i+k)%(m:Int)=y:=⟨_,rfl⟩;rw [hy] at C;have b4:=V.size;have a6:=u.lt;obtain ⟨D,HK,Hm,a5,Hy,av⟩:=ai u V hm C hy a6;clear u V hS a4 hm C hy a6;go_wp2_with fail;refine a5.o.mono ?_;rintro e w1 ⟨rfl,a3,L⟩;have I:=L.own D.o (fun x hx e=>by have:=(av.o x hx).1;omega);have b3:=L.size;obtain ⟨ao,aG,T⟩:=af a3 L I;clear a3 L I;go_wp2_with (at_builtin;refine aW fQ _ rfl (.tmp 36) (.tmp 38) rfl w.heap.size (.slice Al k cl) k _ rfl T.o [OH y] rfl rfl (cJ .i64 [_]) ap (by unfold maxLen;omega) ap ?_);intro g6 c6 w6 Y R b0;obtain ⟨aP,a7⟩:=ae Y R;have a1:=(HK.o.trans aG.o).below2 R;have a2:=aa a1;clear Y R b0 a1;go_wp2_with fail;go_roundw
   case rel=>
    refine ⟨k+1,by omega,by go_num,?_,?_,a2.o⟩
    ·rw [iC,cT,Hm.o,Hy.o];exact aP.o
    ·exact ⟨(a7.o.block b ad).trans ao.o.blk,a2.o.rd H.o.rd (fun a ha e=>H.o.ne a ha e),H.o.ne⟩
   case measure=>simp [intOf];omega
  ·obtain rfl:k=n:=ap;obtain ⟨D,HK,HS⟩:=af u V hS;clear u V hS;go_wp2_with fail;go_ret2;exact ⟨_,rfl,D.o,HS.o,HK.o⟩
theorem kg {w:Qd} {p q:Addr} {x v:Value} (h:w.cell? q=some v):∃v',(w.setCell p x).cell? q=some v':=by
 by_cases e:p=q
 ·subst e;exact ⟨x,World.cell?_setCell_same w p x h⟩
 ·exact ⟨v,(World.cell?_setCell_other w p q x e).trans h⟩
theorem gq {w:Qd} {base size n c m:Nat} {e:Qf} {A:N_} {xs:Qc} (h:w.ownsRow base e size (.slice A n c) m xs):∀a,A=some a->base<=a.block/\a.block<w.heap.size:=fun a p=>by
 subst p;rcases h.2 with ⟨hn,_⟩ | ⟨g,cap,o,i,_⟩
 ·cases hn
 ·simp only [Ou,Option.some.injEq] at i;obtain ⟨rfl,_,_⟩:=i;exact h.lt g rfl
theorem FR (P g n c base i j:Nat) (p:Qa) (w:Qd) (hP:w.heap[P]?=some (.cells #[.slice (some (ar g 0)) n c] 22 (0,0))) (h:w.ownsRow base 3 1 (.slice (some (ar g 0)) n c) n (aA .i64 p)) (T:i<n) (V:j<n) (hn:n<=1048576):Calls prog 158 #[OH i,OH j,(au P)] w fun e B=>e=.returned (.tuple #[])/\B.ownsRow base 3 1 (.slice (some (ar g 0)) n c) n (aA .i64 (swp p i j))/\Keep (fun k=>k=g) w B:=by
 have y:=kQ h;have O:=cH h T;have D:=cH h V;have Z:=h.frozenAt i;have f2:=h.frozenAt j;have v:=xE (p:=p) (i:=i) (j:=j) ap ap;obtain ⟨A,Y⟩:=bx1 hP;have R:(i:Int)<n:=ap;have N:(j:Int)<n:=ap;have u:g≠P:=fun e=>ax hP (by decide) h (by rw [<-e];rfl);have L:=(World.cell?_setCell_other w (ar g i) (ar P 0) (OH (nth p j)) (by simp [u])).trans A;have C:=(World.cell?_setCell_other w (ar g j) (ar P 0) (OH (nth p i)) (by simp [u])).trans A;obtain ⟨v1,H⟩:=kg (w:=w) (p:=(ar g i)) (x:=OH (nth p j)) (q:=(ar g j)) D;obtain ⟨v2,I⟩:=kg (w:=w) (p:=(ar g j)) (x:=OH (nth p i)) (q:=(ar g i)) O;obtain ⟨Q,U,J⟩:=af h y v;clear h y hP v;go_enter func158,ntmps158;go_wp2_with fail
 go_region
 all_goals go_wp2_with fail
 all_goals
  go_end0
  refine ⟨rfl,?_,?_⟩
 ·exact bW (ed (ed Q.o i _) j _) 1
 ·exact (Keep.setCell (S:=fun k=>k=g) (Keep.setCell (S:=fun k=>k=g) (Keep.refl _ w) (ar g i) (.inr rfl) _) (ar g j) (.inr rfl) _).drew
theorem xM (n b c i:Nat) (A:N_) (l:Qa) (w:Qd) (h:cV w b A c l i) (hn:1<=n) (b3:n<=1048576) (hi:i+(n-1)<=l.length) (hl:l.length<=1048576) (hu:U64 l):Calls prog 122 #[OH n,(au b)] w fun e O=>∃v,e=.returned (.tuple #[v,.bool true])/\O.ownsRow w.heap.size 3 1 v n (aA .i64 (fW l n i))/\cV O b A c l (i+(n-1))/\Keep (fun j=>j=b) w O:=by
 obtain ⟨m,hm⟩:∃m,n-1=m:=⟨_,rfl⟩;rw [hm] at hi ⊢;have b4:fW l n i=ig n (iv l n i) m:=by unfold fW;rw [hm]
 rw [b4];have c8:m<n:=ap;have bV:n<=m+1:=ap;clear hm b4;have Q:=fun B d O (h:cV O b A c l i) (hB:Rd O B (aA .i64 (dM m fun k=>((n-k:Nat):Int)))) I=>IM b c i A l B (dM m fun k=>((n-k:Nat):Int)) d O h (by rw [cF];exact hi) hl hu hB I (fun k hk=>by rw [cF] at hk;rw [bU _ hk];omega)
 simp only [cF] at Q;have he:(dM m fun k=>nth l (i+k)%nth (dM m fun k=>((n-k:Nat):Int)) k)=dM m fun k=>(iv l n i k:Int):=eZ fun k hk=>by rw [bU _ hk,vB l ap]
 rw [he] at Q;have aP:=fun O=>EU n O b3;have c9:=h.lt;obtain ⟨bM,a9,H⟩:=af Q aP h;clear Q he aP h hu;go_enter func122,ntmps122;go_wp2_with fail
 go_loopw [6,7] (fun v x wr=>∃k:Nat,k<=m/\x=OH ((n:Int)-k)/\wr.ownsRow w.heap.size 3 1 v k (aA .i64 (dM k fun k=>((n-k:Nat):Int)))/\aq w wr) (fun _ x _=>(intOf x).toNat)
 ·exact ⟨0,NJ _,by go_num,NV _ _ _ _,NI _ _⟩
 case round=>
  obtain ⟨k,hk,rfl,u,hb⟩:=hrel;by_cases Y:k<m
  ·obtain ⟨Al,cl,rfl,_⟩:=aC u;obtain ⟨D,Hb⟩:=ae u hb;clear u hb;go_wp2_with (at_builtin;refine aW fQ _ rfl (.tmp 29) (.tmp 31) rfl w.heap.size (.slice Al k cl) k _ rfl D.o [OH ((n:Int)-k)] rfl rfl (cJ .i64 [_]) ap (by unfold maxLen;omega) Hb.o.size ?_);intro g6 c6 w6 ao aG bz;have T:=Hb.o.trans aG;obtain ⟨bw,bd⟩:=ae ao T;clear ao aG bz T;go_wp2_with fail;go_roundw
   case rel=>
    refine ⟨k+1,by omega,by go_num,?_,bd.o⟩;rw [iC,cT,show ((n-k:Nat):Int)=(n:Int)-k by omega];exact bw.o
   case measure=>simp [intOf];omega
  ·obtain rfl:m=k:=ap;obtain ⟨Al,cl,rfl,_⟩:=aC u
   have I:∀a,Al=some a->a.block≠b:=fun a ha e=>by
    subst ha;have:=gq u a rfl;omega
   have b5:=bM.o Al cl wr (H.o.below hb) (Rd.own u) I;obtain ⟨bv,Hb⟩:=ae b5 hb;clear u hb b5 I;obtain ⟨wq,rfl⟩:∃wq:Qd,wq=wr:=⟨_,rfl⟩;go_wp2_with fail;refine bv.o.mono ?_;rintro e w1 ⟨v1,rfl,N,b2,U⟩;obtain ⟨A1,c1,rfl,_⟩:=aC N;have a3:=gq N;have a7:=Rd.own N;have cb:=U.size;have Z:=(Keep.below (S:=fun j=>j=b) Hb.o).trans U;have c7:=Z.size;obtain ⟨b6,b7,bb,b8⟩:=ag b2 Z a7 a3;clear b2 U a7 N a3 Z;go_wp2_with fail;refine (a9.o w1).mono ?_;rintro e w2 ⟨v2,rfl,L,a1⟩;obtain ⟨g,c2,rfl,_⟩:=L.form hn;have b9:=a1.size;have bX:=L.lt g rfl;have hP:=NG w2 (.cells #[.slice (some (ar g 0)) n c2] 22);have V:=a1.alloc b9 (.cells #[.slice (some (ar g 0)) n c2] 22);have b0:=L.alloc (.cells #[.slice (some (ar g 0)) n c2] 22);have ad:=bb.o.below V;obtain ⟨HP,av,a8,aR⟩:=ag hP V b0 ad;clear hP V b0 ad L a1;go_wp2_with fail;obtain ⟨R,C⟩:∃R,R=w2.alloc (.cells #[.slice (some (ar g 0)) n c2] 22):=⟨_,rfl⟩;have bO:w2.heap.size<R.heap.size:=by rw [C];simp
   have bf:an (R.heap[w2.heap.size]?=some (.cells #[.slice (some (ar g 0)) n c2] 22 (0,0))):=aa (by rw [C];exact HP.o);have aM:an (aq w1 R):=aa (by rw [C];exact av.o);have bn:an (R.ownsRow w1.heap.size 3 1 (.slice (some (ar g 0)) n c2) n (aA .i64 (tj n))):=aa (by rw [C];exact a8.o);have bN:an (Rd R A1 (aA .i64 (dM m fun k=>(iv l n i k:Int)))):=aa (by rw [C];exact aR.o);rw [<-C];clear HP av a8 aR C
   go_loopw [46] (fun x wr=>∃k:Nat,k<=m/\x=OH k/\wr.heap[w2.heap.size]?=some (.cells #[.slice (some (ar g 0)) n c2] 22 (0,0))/\wr.ownsRow w1.heap.size 3 1 (.slice (some (ar g 0)) n c2) n (aA .i64 (ig n (iv l n i) k))/\Keep (fun j=>j=g) R wr) (fun x _=>m-(intOf x).toNat)
   ·exact ⟨0,NJ _,rfl,bf.out,bn.out,Keep.refl _ _⟩
   case round=>
    obtain ⟨k,hk,rfl,hP,u,hK⟩:=hrel;by_cases Y:k<m
    ·have hr:=hK.rd bN.out (fun a ha e=>by have:=(b8.o a ha).2;omega);obtain ⟨bA,oA,rfl,p⟩:=hr.num (show k<_ by rw [cF];exact Y);rw [bU _ Y] at p;have bh:=tE l (n:=n) (i:=i) (k:=k) ap;have y:=FR w2.heap.size g n c2 w1.heap.size (n-1-k) (iv l n i k) (ig n (iv l n i) k) wr hP u ap ap b3;rw [show ((n-1-k:Nat):Int)=(n:Int)-1-k by omega] at y;have bi:=NE hP;obtain ⟨a4,HP,HK⟩:=af y hP hK;clear y hP u hK hr;obtain ⟨dk,J⟩:∃dk,iv l n i k=dk:=⟨_,rfl⟩;rw [J] at p;have y:=a4.o;rw [J] at y bh;obtain ⟨ab,be⟩:=ae y J;clear a4 y J;go_wp2_with fail;refine ab.o.mono ?_;rintro e w5 ⟨rfl,a5,a0⟩;have a6:=(a0.block _ bi ap).trans HP.o;obtain ⟨bI,bs,bG⟩:=af a6 a5 (HK.o.trans a0);clear a6 a5 a0 p;go_wp2_with fail;go_roundw
     case rel=>
      refine ⟨k+1,by omega,by go_num,bI.o,?_,bG.o⟩;rw [ig,be.o];exact bs.o
     case measure=>simp [intOf];omega
    ·obtain rfl:m=k:=ap;obtain ⟨x0,xf⟩:=bx1 hP;have a2:Keep (fun j=>j=b) w wr:=b7.o.below2 ((aM.out.mono ap).trans (hK.toBelow ap (fun j hj=>ap)));have b1:cV wr b A c l (i+m):=⟨(hK.block b ap ap).trans ((aM.out.block b ap).trans b6.o.blk),a2.rd H.o.rd (fun a ha e=>H.o.ne a ha e),H.o.ne⟩;obtain ⟨bl,bo,D⟩:=af a2 b1 (aE (base':=w.heap.size) u ap);clear a2 b1 u hK hP;go_wp2_with fail;go_ret2;exact ⟨_,rfl,D.o,bo.o,bl.o⟩
theorem zm:dB prog 126 22 (OJ) 1 24:=⟨underlying126,info_parts (by kernel_rfl),rfl,by decide⟩
def LF (S n b c i k base:Nat) (A:N_) (l:Qa) (u x y:Value) (vs:Qc) (w:Qd) (e:Ending) (h:Qd):Prop:=
 e=.returned (.bool true)/\∃A1 c1 p o,h.heap[S]?=some (.cells #[u,x,y,.slice p (k+1) o] 218 (0,0))/\
  h.ownsRow base 22 1 (.slice p (k+1) o) (k+1) (vs++[.slice A1 n c1])/\n<=c1/\h.ownsRow base 3 1 (.slice A1 n c1) n (aA .i64 (fW l n i))/\
  h.heap[b]?=some (.cells #[.slice A l.length c,OH ((i+(n-1):Nat):Int)] 270 (0,0))/\
  (∀base' m v xs,w.ownsRow base' 3 1 v m xs->h.ownsRow base' 3 1 v m xs)/\Keep (fun j=>j=b\/j=S\/base<=j) w h
theorem Fd (N P1 P2 S n b c i k base:Nat) (A:N_) (l:Qa) (Ao:N_) (co:Nat) (x0 x1 x2:Value) (vs:Qc) (w:Qd) (hN:w.heap[N]?=some (.cells #[OH n] 3 (0,0))) (aM:w.heap[P1]?=some (.cells #[(au b)] 219 (0,0))) (L:w.heap[P2]?=some (.cells #[(au S)] 162 (0,0))) (hS:w.heap[S]?=some (.cells #[x0,x1,x2,.slice Ao k co] 218 (0,0))) (h:cV w b A c l i) (a2:w.ownsRow base 22 1 (.slice Ao k co) k vs) (a0:base<=w.heap.size) (hk:k<=1048576) (hn:1<=n) (bv:n<=1048576) (hi:i+(n-1)<=l.length) (hl:l.length<=1048576) (hu:U64 l):Calls prog 121 #[(au N),(au P1),(au P2)] w (LF S n b c i k base A l x0 x1 x2 vs w):=by
 have b2:=xM n b c i A l w h hn bv hi hl hu
 have aG:b≠S:=fun e=>by
  have h1:=h.blk;rw [e,hS] at h1;simp at h1
 have aR:b≠P2:=fun e=>by
  have h1:=h.blk;rw [e,L] at h1;simp at h1
 have a9:∀j,(Value.slice Ao k co).ownBlock=some j->j≠b:=fun j I e=>ax h.blk (by decide) a2 (by rw [<-e,I]);have R:∀base' m v xs,w.ownsRow base' 3 1 v m xs->∀j,v.ownBlock=some j->j≠b:=fun base' m v xs hr j I e=>ax h.blk (by decide) hr (by rw [<-e,I]);obtain ⟨p0,pf⟩:=bx1 hN;obtain ⟨q0,qf⟩:=bx1 aM;have b6:=NE L;have bb:=NE hS;obtain ⟨be,b8,HS,bl,bh,a7,ao,bd⟩:=ak b2 L hS a2 a9 R aG aR;clear b2 L hS a2 a9 R aG aR hN aM h hu;go_enter func121,ntmps121;go_wp2_with fail;refine be.o.mono ?_;rintro e w1 ⟨v1,rfl,a3,b0,y⟩;obtain ⟨A1,c1,rfl,b3⟩:=aC a3;have Z:=(y.block P2 b6 (fun e=>bd.o e.symm)).trans b8.o;have Y:=(y.block S bb (fun e=>ao.o e.symm)).trans HS.o;have U:=y.own bl.o (fun j I e=>bh.o j I e);have bI:=y.size;obtain ⟨t0,tf⟩:=bx1 Z;obtain ⟨⟨y0,y1,y2,y3⟩,yf⟩:=bx4 Y;obtain ⟨bo,b5,D,bs,b9,u,bz⟩:=aj a3 b0 y Z Y U b3;clear a3 b0 y Z Y U b3 p0 pf q0 qf;go_wp2_with fail;have B:(fun w':Qd=>w'.cell? (ar P2 0)=some ((au S))/\w'.cell? (ar S 3)=some (.slice Ao k co)) w1.drew:=⟨t0,y3⟩;refine XA.g 8 (fun w':Qd=>w'.cell? (ar P2 0)=some ((au S))/\w'.cell? (ar S 3)=some (.slice Ao k co)) ?_;refine XA.t ?_ [0,1,2,3,4,5] B ?_;refine XA.o 6 (fun K hK=>?_);go_simp;refine hK.out _ _ ⟨aI B.1 _,aI B.2 _⟩ (fun B=>?_);clear hK K;refine XA.o 7 (fun K hK=>?_);refine bT zm (.tmp 16) (.tmp 18) rfl rfl base (.slice Ao k co) k vs rfl (bW (u.o.alloc _) 1) (some (ar w1.heap.size 0)) 1 1 [.slice A1 n c1] rfl (dN w1 _ _ _ rfl) rfl (by simp [Value.oneCell']) ap (by unfold maxLen;omega) (by simp;omega) ?_;intro A7 c7 O ab b1 x _;have x:=qe x;have J:=dV (o:=.cells #[.slice A1 n c1] 22 (0,0)) b9.o (by decide) u.o x;have av:=dV (o:=.cells #[.slice A1 n c1] 22 (0,0)) bs.o (by decide) u.o x;have T:=dV (o:=.cells #[.slice A1 n c1] 22 (0,0)) b5.o.blk (by decide) u.o x;have i0:=NH O _ 0 _ _ _ av;have i3:=NH O _ 3 _ _ _ J;have bG:=NS O _ 3 _ _ J;obtain ⟨ad,a4,b4,C,aP⟩:=ah ab J x b1 T;clear ab J x b1 av T;dsimp only;refine hK.out _ _ ⟨i0,i3⟩ (fun B=>?_);clear hK K B;refine XA.e ?_;simp only [Ob,Oc];go_wp2_with fail;have a5:=OE O S 3 _ _ (.slice A7 (k+1) c7) a4.o;have p:Keep (fun j=>j=S) O (O.setCell (ar S 3) (.slice A7 (k+1) c7)):=Keep.setCell (S:=fun j=>j=S) (Keep.refl _ _) (ar S 3) (.inr rfl) _;have a6:=p.own ad.o (fun j I e=>ax a4.o (by decide) ad.o (by rw [I,e]));have a8:=(p.block b (by have:=NE aP.o;omega) (fun e=>ao.o e)).trans aP.o;have V:∀base' m v xs,w1.ownsRow base' 3 1 v m xs->(O.setCell (ar S 3) (.slice A7 (k+1) c7)).ownsRow base' 3 1 v m xs:=fun base' m v xs h=>yw h u.o b4.o a4.o (by decide) (by decide)
 have H:Keep (fun j=>j=b\/j=S\/base<=j) w (O.setCell (ar S 3) (.slice A7 (k+1) c7)):=by
  refine ⟨p.os.trans (C.o.os.trans D.o.os),p.tape.trans (C.o.tape.trans D.o.tape),p.output.trans (C.o.output.trans D.o.output),?_,fun j I hn=>?_⟩
  ·have:=C.o.size;have:=p.size;simp at *;omega
  ·have bf:¬j=b:=fun e=>hn (.inl e);have bn:¬j=S:=fun e=>hn (.inr (.inl e));have bA:j<base:=by rcases NY j base with h | h;exact h;exact absurd (.inr (.inr h)) hn
   have h1:=D.o.block j I bf;have h2:=C.o.block j bA;have h3:=p.block j (by have:=C.o.size;simp at this;omega) bn;refine h3.trans (h2.trans (Eq.trans ?_ h1));exact NW w1 _ j ap
 obtain ⟨bi,bw,b7,Q,a1⟩:=ah a5 a6 a8 V H;clear a5 p a6 a8 V H;go_ret;refine ⟨rfl,A1,c1,A7,c7,bi.o,bw.o,bz.o,?_,b7.o,fun base' m v xs hr=>Q.o _ _ _ _ (D.o.own hr (fun j I e=>a7.o _ _ _ _ hr j I e)),a1.o⟩;exact Q.o _ _ _ _ (aE bo.o a0)
def epN (n batch steps:Nat):Nat:=dD steps (n/batch)
def gi (w:Qd) (S n batch steps:Nat) (l:Qa):Prop:=
 ∃h u o v vs,w.heap[S]?=some (.cells #[OH batch,OH steps,.slice h (n/batch) u,.slice o (epN n batch steps) v] 218 (0,0))/\
  Rd w h (fU (n-n%batch) batch (n/batch))/\Rd w o vs/\vs.length=epN n batch steps/\
  ∀j,j<epN n batch steps->∃p i,vs[j]?=some (.slice p n i)/\n<=i/\Rd w p (aA .i64 (fW l n (j*(n-1))))
theorem FJ {B:Nat} {u v:Qd} {S n batch steps:Nat} {l:Qa} (h:gi (fZ B u) S n batch steps l) (i:Agr B u v):gi v S n batch steps l:=by
 obtain ⟨p,x,O,L,vs,h1,D,N,H,J⟩:=h
 exact ⟨p,x,O,L,vs,rW h1 i,lZ D i,lZ N i,H,fun j C=>by
  obtain ⟨Q,I,o,y,A⟩:=J j C
  exact ⟨Q,I,o,y,lZ A i⟩⟩
theorem gi.below {w i:Qd} {S n batch steps:Nat} {l:Qa} (h:gi w S n batch steps l) (hb:aq w i):gi i S n batch steps l:=by
 obtain ⟨p,u,J,H,vs,h1,A,I,B,D⟩:=h
 exact ⟨p,u,J,H,vs,(hb.block _ (NE h1)).trans h1,A.below hb,I.below hb,B,fun j y=>by
  obtain ⟨L,C,o,v,x⟩:=D j y
  exact ⟨L,C,o,v,x.below hb⟩⟩
def LN (h wr:Qd) (S n b c k:Nat) (A:N_) (l:Qa) (v x y:Value):Prop:=
 ∃p o vs,wr.heap[S]?=some (.cells #[v,x,y,.slice p k o] 218 (0,0))/\wr.ownsRow h.heap.size 22 1 (.slice p k o) k vs/\
  (∀j,j<k->∃u i,vs[j]?=some (.slice u n i)/\n<=i/\wr.ownsRow h.heap.size 3 1 (.slice u n i) n (aA .i64 (fW l n (j*(n-1)))))/\
  wr.heap[b]?=some (.cells #[.slice A l.length c,OH ((k*(n-1):Nat):Int)] 270 (0,0))/\Keep (fun j=>j=b\/j=S) h wr
theorem wg (A:N_) (l:Qa) (c n batch steps:Nat) (w:Qd) (hA:Rd w A (aA .u64 l)) (hl:l.length<=1048576) (hu:U64 l) (hb:1<=batch) (cv:batch<=n) (hn:n<=1048576) (aG:steps<=1048576) (hd:epN n batch steps*(n-1)<=l.length):Calls prog 81 #[OH n,OH batch,OH steps,.slice A l.length c] w fun e w'=>∃S,e=.returned (.tuple #[(au S),OH 0])/\gi (fZ w.heap.size w') S n batch steps l/\w.heap.size<=S/\aq w w':=by
 have ea:¬((n:Int)<1):=ap;have e5:¬((1048576:Int)<n):=ap;have e1:¬((steps:Int)<0):=ap;have e2:¬((1048576:Int)<steps):=ap;have eb:¬((batch:Int)<1):=ap;have ec:¬((n:Int)<batch):=ap;obtain ⟨N,hN⟩:∃N,l.length=N:=⟨_,rfl⟩;have a6:=fun w'=>mO (n-n%batch) batch w' ap hb ap;rw [BS n batch hb cv] at a6;obtain ⟨nb,a4⟩:∃nb,n/batch=nb:=⟨_,rfl⟩;have cn:1<=nb:=by rw [<-a4];exact Nat.div_pos cv hb
 have dv:nb<=n:=by rw [<-a4];exact Nat.div_le_self _ _
 obtain ⟨r,hr⟩:∃r,n%batch=r:=⟨_,rfl⟩;have dw:r<=n:=by rw [<-hr];exact Nat.mod_le _ _
 rw [hr,a4] at a6;have e9:(n:Int).tmod (batch:Int)=(r:Int):=by rw [<-hr];rfl
 have dG:(n:Int)%(batch:Int)=(r:Int):=by rw [<-hr];rfl
 have e8:IntKind.i64.wrap (r:Int)=(r:Int):=NK _ ap;have dT:IntKind.i64.wrap ((n:Int)-(r:Int))=((n-r:Nat):Int):=by rw [NK _ ap];omega
 have e3:¬(batch=0):=ap;obtain ⟨HA,Hu,Hd,HN,cs,bz,Hr⟩:=aj hA hu hd hN a6 a4 hr;rw [hN] at hl ⊢;clear hA hu hd hN a6 a4 hr;go_enter func81,ntmps81;go_wp2_with fail
 go_cut [10] (fun v wx=>∃P2 S I J,v=(au P2)/\wx.heap[P2]?=some (.cells #[(au S)] 162 (0,0))/\wx.heap[S]?=some (.cells #[OH batch,OH steps,.slice I nb J,OJ] 218 (0,0))/\
  wx.ownsRow (w.heap.size+1) 148 2 (.slice I nb J) nb (fU (n-r) batch nb)/\w.heap.size+1<=P2/\w.heap.size+1<=S/\Below (w.heap.size+1) (w.alloc (.cells #[OH n] 3)) wx)
 case first=>
  have d9:=NH (w.alloc (.cells #[OH n] 3)) w.heap.size 0 _ _ _ (NG w _);have i:(fun w':Qd=>w'.cell? (ar w.heap.size 0)=some (OH n)) (w.alloc (.cells #[OH n] 3)).drew:=d9;refine kp 12 (fun w':Qd=>w'.cell? (ar w.heap.size 0)=some (OH n)) (by kernel_rfl) ?_;refine wX 0 i ?_;refine wX 1 i ?_;refine wX 2 i ?_;refine wX 3 i ?_;refine wX 4 i ?_;refine wX 5 i ?_;refine wX 6 i ?_;refine wX 7 i ?_;simp only [N0,N1,N2,Act.put,N4,N5,N6];refine cD (rs:=[8,11]) (by kernel_rfl) (by simp) ?_;refine aU.cons rfl (fun K p=>?_) (aU.cons rfl (fun K p=>?_) aU.nil)
  ·simp only [N0,N1,N2];go_simp;refine (cs.o _).mono ?_;rintro e B ⟨v,rfl,ho,u⟩;obtain ⟨I,J,rfl,_⟩:=aC ho;have a9:=aw u i;have u:Below _ _ _:=u;simp only [Ot,NZ] at ho u;obtain ⟨Ho,T⟩:=ae ho u;clear ho u i;dsimp only;refine p.out _ _ a9 (fun i=>?_);clear p K a9;refine wX 9 i ?_;simp only [N0,N1,N2,Act.put,N4,N5,N6];refine cD (rs:=[10,11]) (by kernel_rfl) (by simp) ?_;refine aU.cons rfl (fun K p=>?_) (aU.cons rfl (fun K p=>?_) aU.nil)
   ·simp only [N0,N1,N2];go_simp;refine p.out _ _ (aI i _) (fun i=>?_);clear p K;refine cD (rs:=[11]) (by kernel_rfl) (by simp) ?_;refine aU.cons rfl (fun K p=>?_) aU.nil;simp only [N0,N1,N2];go_simp;refine p.out _ _ (aI i _) (fun i=>?_);clear p K i;refine eR (by rfl) (by kernel_rfl) ?_;simp only [Ob,Oc];go_wp2_with fail;go_meet;have a7:=T.o.size;simp at a7;refine ⟨B.heap.size+1,B.heap.size,I,J,rfl,?_,?_,(Ho.o.alloc _).alloc _,by omega,by omega,?_⟩
    ·have:=NG (B.alloc (.cells #[OH batch,OH steps,.slice I nb J,OJ] 218)) (.cells #[(au B.heap.size)] 162);simpa using this
    ·exact (NW _ _ _ (by simp)).trans (NG B _)
    ·exact ((((NI _ _).drew).trans T.o).alloc ap _).alloc (by simp;omega) _
   ·simp only [N0,N1,N2];go_simp;refine p.out _ _ (aI i _) (fun i=>?_);clear p K;refine cD (rs:=[10]) (by kernel_rfl) (by simp) ?_;refine aU.cons rfl (fun K p=>?_) aU.nil;simp only [N0,N1,N2];go_simp;refine p.out _ _ (aI i _) (fun i=>?_);clear p K i;refine eR (by rfl) (by kernel_rfl) ?_;simp only [Ob,Oc];go_wp2_with fail;go_meet;have a7:=T.o.size;simp at a7;refine ⟨B.heap.size,B.heap.size+1,I,J,rfl,?_,?_,(Ho.o.alloc _).alloc _,by omega,by omega,?_⟩
    ·exact (NW _ _ _ (by simp)).trans (NG B _)
    ·have:=NG (B.alloc (.cells #[(au (B.heap.size+1))] 162)) (.cells #[OH batch,OH steps,.slice I nb J,OJ] 218);simpa using this
    ·exact ((((NI _ _).drew).trans T.o).alloc ap _).alloc (by simp;omega) _
  ·simp only [N0,N1,N2];go_simp;refine p.out _ _ (aI i _) (fun i=>?_);clear p K;refine cD (rs:=[8]) (by kernel_rfl) (by simp) ?_;refine aU.cons rfl (fun K p=>?_) aU.nil;simp only [N0,N1,N2];go_simp;refine (cs.o _).mono ?_;rintro e B ⟨v,rfl,ho,u⟩;have C:B.heap[w.heap.size+1]?=some (.cells #[.pointer none] 162 (0,0)):=(u.block (w.heap.size+1) (by simp)).trans (by rw [<-show (w.alloc (.cells #[OH n] 3)).heap.size=w.heap.size+1 by simp];exact NG _ _);obtain ⟨t0,tf⟩:=bx1 C;have cL:=NE C;have a1:=aa C;clear C;obtain ⟨I,J,rfl,_⟩:=aC ho;have a9:=aw u i;have u:Below _ _ _:=u;simp only [Ot,NZ] at ho u;obtain ⟨Ho,T⟩:=ae ho u;clear ho u i;dsimp only;refine p.out _ _ a9 (fun i=>?_);clear p K a9;refine wX 9 i ?_;simp only [N0,N1,N2,Act.put,N4,N5,N6];refine cD (rs:=[10]) (by kernel_rfl) (by simp) ?_;refine aU.cons rfl (fun K p=>?_) aU.nil;simp only [N0,N1,N2];go_simp;refine p.out _ _ (aI i _) (fun i=>?_);clear p K i;refine eR (by rfl) (by kernel_rfl) ?_;simp only [Ob,Oc];go_wp2_with fail;go_meet;have a7:=T.o.size;simp at a7;have hk:Keep (fun j=>j=w.heap.size+1) B (B.setCell (ar (w.heap.size+1) 0) ((au B.heap.size))):=Keep.setCell (S:=fun j=>j=w.heap.size+1) (Keep.refl _ _) (ar (w.heap.size+1) 0) (.inr rfl) _;have h0:Below (w.heap.size+1) (w.alloc (.cells #[OH n] 3)) B:=((NI _ _).alloc (by simp) _).drew.trans (T.o.mono ap);refine ⟨w.heap.size+1,B.heap.size,I,J,rfl,?_,?_,?_,by omega,by omega,?_⟩
   ·exact (NW _ _ _ (by simpa using cL)).trans (OE B (w.heap.size+1) 0 _ _ _ a1.o)
   ·have:=NG (B.setCell (ar (w.heap.size+1) 0) ((au B.heap.size))) (.cells #[OH batch,OH steps,.slice I nb J,OJ] 218)
    rwa [show (B.setCell (ar (w.heap.size+1) 0) ((au B.heap.size))).heap.size=B.heap.size by simp] at this
   ·exact aE ((hk.own Ho.o (fun j L e=>ax a1.o (by decide) Ho.o (by rw [L,e]))).alloc _) ap
   ·exact (h0.trans (hk.toBelow ap (fun j L=>ap))).alloc (by simp;omega) _
 case rest=>
  obtain ⟨P2,S,I,J,rfl,C,hS,c8,e7,e6,bi⟩:=hcut;have bw:aq w wc:=((NI _ w).alloc (NF _) _).trans (bi.mono ap);have bX:=(bi.block w.heap.size ap).trans (NG w (.cells #[OH n] 3));have bo:=Jm A l c wc (HA.o.below bw) (by have:=HN.o;omega);rw [HN.o] at bo;obtain ⟨a1,HS,d2,bn,cj,cM⟩:=ai C hS c8 bw bX bo;clear C hS c8 bw bX bo bi;go_wp2_with fail;refine cM.o.mono ?_;rintro e w3 ⟨b,A3,c3,rfl,b4,cl,d6,O⟩;have aM:=(O.block _ (NE a1.o)).trans a1.o;have ao:=(O.block _ (NE HS.o)).trans HS.o;have bM:=(O.block _ (NE cj.o)).trans cj.o;have b8:=ay d2.o O;have b1:=bn.o.trans (O.mono bn.o.size);have e0:=O.size;obtain ⟨t0,tf⟩:=bx1 aM;obtain ⟨⟨y0,y1,y2,y3⟩,yf⟩:=bx4 ao;have l1:=NE aM;have l2:=NE ao;obtain ⟨c7,c9,bv,aR,be,b5,d8⟩:=aj aM ao bM b8 b1 b4 cl;clear aM ao bM b8 b1 b4 cl O;go_wp2_with fail;have he:epN n batch steps=dD steps nb:=by unfold epN;rw [bz.o]
  have d7:=fR steps nb;have hd:=Hd.o;rw [he] at hd;rw [HN.o] at hd;obtain ⟨E,hE⟩:∃E,dD steps nb=E:=⟨_,rfl⟩;rw [hE] at he d7 hd;have bl:=vC steps nb (w3.alloc (.cells #[(au b)] 219)) aG cn ap;rw [hE] at bl;obtain ⟨He,dr,bG⟩:=af he hd bl;clear he hd bl hE;refine bG.o.mono ?_;rintro e w' ⟨rfl,rfl⟩;obtain ⟨Z,Q⟩:∃Z,Z=w3.alloc (.cells #[(au b)] 219):=⟨_,rfl⟩;have aP:Z.heap[w3.heap.size]?=some (.cells #[(au b)] 219 (0,0)):=by rw [Q];exact NG w3 _
  have R:aq w3 Z:=by rw [Q];exact (NI _ _).alloc (NF _) _
  have d1:w3.heap.size<Z.heap.size:=NE aP;have a2:=(R.block _ l2).trans c9.o;have a8:=(R.block _ l1).trans c7.o;have av:=(R.block _ (NE bv.o)).trans bv.o;have H:=ay aR.o R;have y:=b5.o.below R;have b7:=be.o.trans (R.mono be.o.size);rw [<-Q];have dn:=NE av;have a6:=y.lt
  have ci:b≠S:=fun e=>by
   have h1:=y.blk;rw [e,a2] at h1;simp at h1
  have U:∀{x t},Z.heap[x]?=some (.cells #[t] 3 (0,0))\/Z.heap[x]?=some (.cells #[t] 219 (0,0))\/Z.heap[x]?=some (.cells #[t] 162 (0,0))->¬(x=b\/x=S):=fun h=>by
   rintro (rfl | rfl)
   ·have h1:=y.blk;rcases h with h | h | h<;>(rw [h1] at h;simp at h)
   ·rcases h with h | h | h<;>(rw [a2] at h;simp at h)
  have cw:=U (.inl av);have bf:=U (.inr (.inl aP));have b3:=U (.inr (.inr a8));have bN:=H.lt
  have c6:∀a,A3=some a->¬(a.block=b\/a.block=S):=fun a ha=>by
   rintro (h | h)
   ·exact y.ne a ha h
   ·have:=d8.o a ha;have:=NE HS.o;omega
  have bh:∀j,(Value.slice I nb J).ownBlock=some j->¬(j=b\/j=S):=fun j L=>by
   rintro (rfl | rfl)
   ·exact ax y.blk (by decide) H L.symm
   ·exact ax a2 (by decide) H L.symm
  obtain ⟨dp,cO,b2,cA,cd,a5,ab,dc⟩:=ak aP a2 a8 av H y b7 cw;obtain ⟨cf,bd,ds,cc,e4⟩:=ah bf b3 c6 bh ci;clear aP a2 a8 av H y b7 cw bf b3 c6 bh ci U bN R Q bG c7 c9 bv aR b5 t0 tf y0 y1 y2 y3 yf;go_wp2_with fail
  go_loopw [57] (fun x wr=>∃k:Nat,k<=E/\x=OH k/\LN Z wr S n b c3 k A3 l (OH batch) (OH steps) (.slice I nb J)) (fun x _=>E-(intOf x).toNat)
  case atStart=>
   refine ⟨0,NJ _,rfl,none,0,[],cO.o,NV _ _ _ _,fun j L=>ap,?_,Keep.refl _ _⟩;rw [Nat.zero_mul];exact a5.o.blk
  case round=>
   obtain ⟨k,hk,rfl,Ao,co,vs,hS,a3,D,bA,p⟩:=hrel;by_cases cP:k<E
   ·have d0:k*(n-1)+(n-1)<=N:=by
     have h1:(k+1)*(n-1)<=E*(n-1):=OF _ cP;rw [Ox] at h1;have:=dr.o;omega
    have aG:cV wr b A3 c3 l (k*(n-1)):=⟨bA,p.rd a5.o.rd (fun a ha e=>ds.o a ha e),a5.o.ne⟩
    have cr:=Fd w.heap.size w3.heap.size P2 S n b c3 (k*(n-1)) k Z.heap.size A3 l Ao co (OH batch) (OH steps) (.slice I nb J) vs wr
     ((p.block _ dn dc.o).trans cA.o) ((p.block _ d1 cf.o).trans dp.o) ((p.block _ ap bd.o).trans b2.o) hS aG a3 p.size ap ap hn (by rw [HN.o];exact d0) (by rw [HN.o];exact hl) Hu.o
    obtain ⟨d3,bs,HK⟩:=af cr D p;clear cr D p aG hS a3 bA;go_wp2_with fail;refine d3.o.mono ?_;rintro e w5 ⟨rfl,A1,c1,da,cy,bO,ad,cx,bI,ct,a0,Y⟩
    have b0:Keep (fun j=>j=b\/j=S) Z w5:=⟨Y.os.trans HK.o.os,Y.tape.trans HK.o.tape,Y.output.trans HK.o.output,NN HK.o.size Y.size,fun j L hn=>(Y.block j (NQ L HK.o.size) (fun h=>by
     rcases h with h | h | h
     ·exact hn (.inl h)
     ·exact hn (.inr h)
     ·omega)).trans (HK.o.block j L hn)⟩
    have V:∀j,j<k+1->∃A' c',(vs++[Value.slice A1 n c1])[j]?=some (.slice A' n c')/\n<=c'/\w5.ownsRow Z.heap.size 3 1 (.slice A' n c') n (aA .i64 (fW l n (j*(n-1)))):=fun j L=>by
     have dk:vs.length=k:=by have:=ad.1;simp at this;omega
     rcases NY j k with h | h
     ·obtain ⟨A',c',k1,k2,k3⟩:=bs.o j h;exact ⟨A',c',by rw [Og ap];exact k1,k2,a0 _ _ _ _ k3⟩
     ·obtain rfl:j=k:=ap;exact ⟨A1,c1,by rw [Oh ap,dk];simp,cx,bI⟩
    have b6:LN Z w5 S n b c3 (k+1) A3 l (OH batch) (OH steps) (.slice I nb J):=⟨da,cy,_,bO,ad,V,by rw [Ox];exact ct,b0⟩;have d4:=aa b6;clear b6 bO ad cx bI ct a0 Y b0 V;go_wp2_with fail;go_roundw
    ·exact ⟨k+1,by omega,by go_num,d4.o⟩
    ·simp [intOf];omega
   ·obtain rfl:E=k:=ap;have C:=(p.block _ ap bd.o).trans b2.o;have Q:=ab.o.size
    have bb:gi (fZ w.heap.size wr) S n batch steps l/\w.heap.size<=S:=by
     refine ⟨?_,by omega⟩;refine ⟨I,J,Ao,co,vs,?_,?_,Rd.own (fD a3 Q),?_,?_⟩
     ·rw [He.o,bz.o,iM ap];exact hS
     ·rw [Hr.o,bz.o];exact Rd.own (fD (p.own cd.o cc.o) ap)
     ·have:=a3.1;rw [He.o];omega
     ·intro j L;rw [He.o] at L;obtain ⟨A',c',k1,k2,k3⟩:=D j L;exact ⟨A',c',k1,k2,Rd.own (fD k3 Q)⟩
    have bV:aq w wr:=ab.o.trans (p.toBelow ab.o.size (fun j L=>by have:=d6;have:=bn.o.size;rcases L with h | h<;>omega));obtain ⟨t0,tf⟩:=bx1 C;obtain ⟨b9,d5⟩:=ae bb bV;clear bb bV hS a3 D bA p C;go_wp2_with fail;go_ret2;exact ⟨S,rfl,b9.o.1,b9.o.2,d5.o⟩
structure Inp where
 cfg:Cfg
 data:Qg
 start:Qa
 draws:Qa
def nc (n b st:Nat):Nat:=epN n b st*(n-1)
theorem Mv (n b st:Nat):epN n b st<=st:=fR _ _
theorem yH {n b st:Nat} (hn:n<=1048576) (hs:st<=1048576):nc n b st<=1099511627776:=by
 have h1:=Mv n b st;have h:epN n b st*(n-1)<=1048576*1048576:=Nat.mul_le_mul ap ap;unfold nc;omega
def inN (i:Inp):Nat:=szN i.cfg.sizes 0
def wR (i:Inp):Nat:=szN i.cfg.sizes (i.cfg.sizes.length-1)
def cnt (i:Inp):Nat:=bR i.cfg.sizes (i.cfg.sizes.length-1)
def nm (i:Inp):Bool:=decide (i.cfg.batch<=i.data.length/\i.data.length<=1048576)
def Mq (i:Inp):Bool:=decide (∀x∈i.data,fu (inN i) (wR i) x)
def mb (i:Inp):Bool:=Mq i&&decide (i.start.length=cnt i)
def qL (i:Inp):Bool:=decide (nc i.data.length i.cfg.batch.toNat i.cfg.steps.toNat<=i.draws.length)
noncomputable def dF (i:Inp):Int:=if cE i.cfg≠0 then cE i.cfg else if nm i=false then 7 else if mb i=false then 5 else if qL i=false then 8 else 0
theorem Mk {i:Inp} (h:cE i.cfg≠0):dF i=cE i.cfg:=by unfold dF;rw [if_pos h]
theorem Mn {i:Inp} (o:cE i.cfg=0) (h:nm i=false):dF i=7:=by unfold dF;rw [if_neg (by simp [o]),if_pos h]
theorem Mo {i:Inp} (o:cE i.cfg=0) (h1:nm i=true) (h:mb i=false):dF i=5:=by unfold dF;rw [if_neg (by simp [o]),if_neg (by simp [h1]),if_pos h]
theorem Mm {i:Inp} (p:cE i.cfg=0) (h1:nm i=true) (o:mb i=true) (h:qL i=false):dF i=8:=by unfold dF;rw [if_neg (by simp [p]),if_neg (by simp [h1]),if_neg (by simp [o]),if_pos h]
theorem Mp {i:Inp} (p:cE i.cfg=0) (h1:nm i=true) (o:mb i=true) (h:qL i=true):dF i=0:=by unfold dF;rw [if_neg (by simp [p]),if_neg (by simp [h1]),if_neg (by simp [o]),if_neg (by simp [h])]
structure mU (i:Inp):Prop where
 c:jw i.cfg
 b:i.cfg.batch<=i.data.length/\i.data.length<=1048576
 f:∀x∈i.data,fu (inN i) (wR i) x
 s:i.start.length=cnt i
 d:nc i.data.length i.cfg.batch.toNat i.cfg.steps.toNat<=i.draws.length
theorem qd {i:Inp}:dF i=0↔mU i:=by
 constructor
 ·intro h;by_cases o:cE i.cfg=0
  ·cases h1:nm i with
   | false=>rw [Mn o h1] at h;omega
   | true=>
    cases h2:mb i with
    | false=>rw [Mo o h1 h2] at h;omega
    | true=>
     cases h3:qL i with
     | false=>rw [Mm o h1 h2 h3] at h;omega
     | true=>
      simp only [mb,Bool.and_eq_true] at h2;exact ⟨ix.1 o,of_decide_eq_true h1,of_decide_eq_true h2.1,of_decide_eq_true h2.2,of_decide_eq_true h3⟩
  ·rw [Mk o] at h;exact absurd h o
 ·intro h;refine Mp (ix.2 h.c) (OA h.b) ?_ (OA h.d);simp only [mb,Bool.and_eq_true];exact ⟨OA h.f,OA h.s⟩
theorem lE (n:Int) (w:Qd):Calls prog 111 #[OH n] w fun e h=>e=.returned (.bool (okB n))/\w=h:=by
 by_cases h1:n<1
 ·go_enter func111,ntmps111;go_wp2;go_ret;exact ⟨df (by unfold okB;simp;omega),rfl⟩
 ·by_cases i:1048576<n
  ·go_enter func111,ntmps111;go_wp2;go_ret;exact ⟨df (by unfold okB;simp;omega),rfl⟩
  ·go_enter func111,ntmps111;go_wp2;go_ret;exact ⟨df (by unfold okB;simp;omega),rfl⟩
def M7 (sz:Qa) (w:Qd) (e:Ending) (h:Qd):Prop:=aq w h/\((dO sz/\∃b,e=.returned (.tuple #[(au b),OH 0])/\cI 212 h b sz/\w.heap.size<=b)\/(¬dO sz/\e=.returned (.tuple #[.pointer none,OH (eH sz)])))
def MC (sz:Qa) (w:Qd) (e:Ending) (h:Qd):Prop:=aq w h/\((dO sz/\∃b,e=.returned (.tuple #[(au b),OH 0])/\cI 212 (fZ w.heap.size h) b sz/\w.heap.size<=b)\/(¬dO sz/\e=.returned (.tuple #[.pointer none,OH (eH sz)])))
theorem sq (A:N_) (sz:Qa) (c:Nat) (w:Qd) (hA:Rd w A (aA .i64 sz)) (hc:sz.length<=c) (hm:c<=9223372036854775807):Calls prog 77 #[.slice A sz.length c] w (MC sz w):=by
 by_cases h1:2<=sz.length/\sz.length<=16
 ·by_cases i:∀k,k<sz.length->1<=nth sz k/\nth sz k<=1048576
  ·refine (xI A sz c w hA hc hm ⟨h1,i⟩).mono fun e o ⟨hb,h⟩=>⟨hb,?_⟩;rcases h with ⟨h,he⟩ | ⟨h,b,he,hs,p⟩
   ·have hg:¬dO sz:=fun hg=>by have:=hg.2;omega
    exact .inr ⟨hg,by rw [mY hg ⟨h1,i⟩];exact he⟩
   ·exact .inl ⟨⟨⟨h1,i⟩,h⟩,b,he,hs,p⟩
  ·refine (Ae A sz c w hA hc hm h1 i).mono fun e o ⟨he,hw⟩=>?_;subst hw;exact ⟨NI _ _,.inr ⟨fun hg=>i hg.1.2,by rw [ie (fun hr=>i hr.2)];exact he⟩⟩
 ·refine (Af A sz c w hc hm h1).mono fun e o ⟨he,hw⟩=>?_;subst hw;exact ⟨NI _ _,.inr ⟨fun hg=>h1 hg.1.1,by rw [ie (fun hr=>h1 hr.1)];exact he⟩⟩
theorem uB (A:N_) (sz:Qa) (c:Nat) (w:Qd) (hA:Rd w A (aA .i64 sz)) (hc:sz.length<=c) (hm:c<=9223372036854775807):Calls prog 77 #[.slice A sz.length c] w (M7 sz w):=by
 refine (sq A sz c w hA hc hm).mono ?_;rintro e o ⟨hb,⟨hg,b,he,hs,i⟩ | h⟩
 ·exact ⟨hb,.inl ⟨hg,b,he,ns hs (Agr.refl _ _),i⟩⟩
 ·exact ⟨hb,.inr h⟩
abbrev dx (A:N_) (c:Nat) (k:Cfg):Qb:=#[.slice A k.sizes.length c,OH k.shift,OH k.rate,OH k.mom,OH k.workers,OH k.batch,OH k.micros,OH k.steps,OH k.bucket,OH k.chunk,OH k.window,OH k.cap]
structure lj (w:Qd) (A:N_) (c:Nat) (k:Cfg):Prop where
 hc:k.sizes.length<=c
 hm:c<=9223372036854775807
 hl:k.sizes.length<=17592186043904
 hr:Rd w A (aA .i64 k.sizes)
theorem lj.below {w i:Qd} {A:N_} {c:Nat} {k:Cfg} (h:lj w A c k) (hb:aq w i):lj i A c k:=⟨h.hc,h.hm,h.hl,h.hr.below hb⟩
theorem qM (A:N_) (c:Nat) (k:Cfg) (w:Qd) (h:lj w A c k):Calls prog 76 #[.agg (dx A c k)] w fun e D=>e=.returned (OH (cE k))/\aq w D:=by
 have J:=fun D (q:aq w D)=>uB A k.sizes c D (h.hr.below q) h.hc h.hm;have f6:=@Jw k;have f9:=@Ju k;have fs:=@Jt k;have f2:=@Jy k;have f7:=@Jv k;have f0:=@Jz k;unfold wkB shB pX baB sj at *;obtain ⟨B,C⟩:∃B,cE k=B:=⟨_,rfl⟩;rw [C] at f6 f9 fs f2 f7 f0 ⊢;clear C h;obtain ⟨sz,sh,ra,mo,H,ba,mi,st,bu,ch,wi,ca⟩:=k;dsimp only [dx] at *;obtain ⟨L,hL⟩:∃L,sz.length=L:=⟨_,rfl⟩;rw [hL] at J ⊢;obtain ⟨a3,F6,F9,Fs,Y,F7,F0⟩:=aj J f6 f9 fs f2 f7 f0;clear J f6 f9 fs f2 f7 f0 hL;go_enter func76,ntmps76;go_wp2_with fail;have hz:=NG w (.cells #[.slice A L c,OH sh,OH ra,OH mo,OH H,OH ba,OH mi,OH st,OH bu,OH ch,OH wi,OH ca] 24);have hB:=(NI _ w).alloc (NF _) (.cells #[.slice A L c,OH sh,OH ra,OH mo,OH H,OH ba,OH mi,OH st,OH bu,OH ch,OH wi,OH ca] 24);refine (a3.o _ hB).mono ?_;rintro e w1 ⟨x,hs⟩;have a0:=(x.block _ (NE hz)).trans hz;have u:=aa (hB.trans (x.mono hB.size));obtain ⟨⟨z0,z1,z2,z3,z4,z5,z6,z7,z8,z9,a4,a7⟩,zf⟩:=lB a0;clear hz hB x a0
 -- the sizes' B
 obtain ⟨p,sc,rfl,a1⟩:∃p sc,e=.returned (.tuple #[.pointer p,OH sc])/\eH sz=sc:=by
  rcases hs with ⟨hg,b,rfl,_⟩ | ⟨hg,rfl⟩
  ·exact ⟨_,0,rfl,ks hg⟩
  ·exact ⟨_,_,rfl,rfl⟩
 have i:=aa a1;clear hs a1;by_cases h1:H<1
 ·go_wp2_with fail;go_ret;exact ⟨bD (F6.o (by rw [OC];omega)).symm,u.o⟩
 by_cases a6:64<H
 ·go_wp2_with fail;go_ret;exact ⟨bD (F6.o (by rw [OC];omega)).symm,u.o⟩
 have v:=aa (show decide (1<=H/\H<=64)=true by rw [OD];omega);by_cases h2:sh<1
 ·go_wp2_with fail;go_ret;exact ⟨bD (F9.o v.o (by rw [OC];omega)).symm,u.o⟩
 by_cases a5:62<sh
 ·go_wp2_with fail;go_ret;exact ⟨bD (F9.o v.o (by rw [OC];omega)).symm,u.o⟩
 have y:=aa (show decide (1<=sh/\sh<=62)=true by rw [OD];omega);by_cases h3:sc≠0
 ·have hq:(sc != 0)=true:=by rw [bne_iff_ne];exact h3
  have H3:=aa h3;clear h3;go_wp2_with fail;go_ret;exact ⟨bD (by rw [Fs.o v.o y.o (by rw [i.o];exact H3.o)];exact i.o.symm),u.o⟩
 obtain rfl:sc=0:=ap;clear h3;go_wp2_with fail;refine (lE mi _).mono ?_;rintro e D ⟨rfl,rfl⟩;obtain ⟨b0,Q⟩:∃b,okB mi=b:=⟨_,rfl⟩;have I:=aa Q;rw [Q];clear Q;rcases dI b0 with rfl | rfl
 ·go_wp2_with fail;go_ret;exact ⟨bD (Y.o v.o y.o i.o (by simp [I.o])).symm,u.o⟩
 go_wp2_with fail;refine (lE bu _).mono ?_;rintro e D ⟨rfl,rfl⟩;obtain ⟨b1,x⟩:∃b,okB bu=b:=⟨_,rfl⟩;have U:=aa x;rw [x];clear x;rcases dI b1 with rfl | rfl
 ·go_wp2_with fail;go_ret;exact ⟨bD (Y.o v.o y.o i.o (by simp [I.o,U.o])).symm,u.o⟩
 go_wp2_with fail;refine (lE ch _).mono ?_;rintro e D ⟨rfl,rfl⟩;obtain ⟨b2,R⟩:∃b,okB ch=b:=⟨_,rfl⟩;have Z:=aa R;rw [R];clear R;rcases dI b2 with rfl | rfl
 ·go_wp2_with fail;go_ret;exact ⟨bD (Y.o v.o y.o i.o (by simp [I.o,U.o,Z.o])).symm,u.o⟩
 go_wp2_with fail;refine (lE wi _).mono ?_;rintro e D ⟨rfl,rfl⟩;obtain ⟨b3,V⟩:∃b,okB wi=b:=⟨_,rfl⟩;have O3:=aa V;rw [V];clear V;rcases dI b3 with rfl | rfl
 ·go_wp2_with fail;go_ret;exact ⟨bD (Y.o v.o y.o i.o (by simp [I.o,U.o,Z.o,O3.o])).symm,u.o⟩
 go_wp2_with fail;refine (lE ca _).mono ?_;rintro e D ⟨rfl,rfl⟩;obtain ⟨b4,T⟩:∃b,okB ca=b:=⟨_,rfl⟩;have O4:=aa T;rw [T];clear T;rcases dI b4 with rfl | rfl
 ·go_wp2_with fail;go_ret;exact ⟨bD (Y.o v.o y.o i.o (by simp [I.o,U.o,Z.o,O3.o,O4.o])).symm,u.o⟩
 by_cases h4:st=0
 ·have hq:(st != 0)=false:=by rw [h4];rfl
  have N:=aa (show (okB mi&&okB bu&&okB ch&&okB wi&&okB ca&&decide (0<=st/\st<=1048576))=true by rw [I.o,U.o,Z.o,O3.o,O4.o];simp;omega);clear h4;by_cases h5:ba<H
  ·go_wp2_with fail;go_ret;exact ⟨bD (F7.o v.o y.o i.o N.o (by rw [OC];omega)).symm,u.o⟩
  by_cases a2:1048576<ba
  ·go_wp2_with fail;go_ret;exact ⟨bD (F7.o v.o y.o i.o N.o (by rw [OC];omega)).symm,u.o⟩
  go_wp2_with fail;go_ret;exact ⟨bD (F0.o v.o y.o i.o N.o (by rw [OD];omega)).symm,u.o⟩
 ·have hq:(st != 0)=true:=by rw [bne_iff_ne];exact h4
  have H4:=aa h4;clear h4;go_wp2_with fail;refine (lE st _).mono ?_;rintro e D ⟨rfl,rfl⟩;obtain ⟨b5,O⟩:∃b,okB st=b:=⟨_,rfl⟩;have O5:=aa O;rw [O];clear O;rcases dI b5 with rfl | rfl
  ·go_wp2_with fail;go_ret;exact ⟨bD (Y.o v.o y.o i.o (by rw [I.o,U.o,Z.o,O3.o,O4.o];have:=Er O5.o;have:=H4.o;simp;omega)).symm,u.o⟩
  have N:=aa (show (okB mi&&okB bu&&okB ch&&okB wi&&okB ca&&decide (0<=st/\st<=1048576))=true by rw [I.o,U.o,Z.o,O3.o,O4.o];have:=lI O5.o;simp;omega);by_cases h5:ba<H
  ·go_wp2_with fail;go_ret;exact ⟨bD (F7.o v.o y.o i.o N.o (by rw [OC];omega)).symm,u.o⟩
  by_cases a2:1048576<ba
  ·go_wp2_with fail;go_ret;exact ⟨bD (F7.o v.o y.o i.o N.o (by rw [OC];omega)).symm,u.o⟩
  go_wp2_with fail;go_ret;exact ⟨bD (F0.o v.o y.o i.o N.o (by rw [OD];omega)).symm,u.o⟩
theorem Eb (n:Nat) (w:Qd) (hn:1<=n) (i:n<=1048576):Calls prog 118 #[OH n] w fun e h=>e=.returned (OH ((n-1:Nat):Int))/\w=h:=by
 have h1:(0:Int)<=(n:Int)-1:=ap;go_enter func118,ntmps118;go_wp2
 all_goals
  go_ret;exact ⟨bD ap,rfl⟩
theorem BK (A:N_) (c n:Nat) (k:Cfg) (w:Qd) (h:lj w A c k) (hg:jw k) (hn:k.batch<=n/\(n:Int)<=1048576):Calls prog 117 #[.agg (dx A c k),OH n] w fun e D=>e=.returned (OH (epN n k.batch.toNat k.steps.toNat:Int))/\aq w D:=by
 have x:=fun D (q:aq w D)=>qM A c k D (h.below q);rw [ix.2 hg] at x;have g1:=hg.w;have g2:=hg.ba;have g3:=hg.st;clear h hg;obtain ⟨sz,sh,ra,O,R,ba,mi,st,bu,ch,wi,ca⟩:=k;dsimp only [dx] at *;obtain ⟨bt,rfl⟩:∃bt:Nat,ba=bt:=⟨ba.toNat,by omega⟩;obtain ⟨sn,rfl⟩:∃sn:Nat,st=sn:=⟨st.toNat,by omega⟩;rw [Int.toNat_natCast,Int.toNat_natCast];obtain ⟨L,T⟩:∃L,sz.length=L:=⟨_,rfl⟩;rw [T] at x ⊢;obtain ⟨i,p⟩:∃i,n/bt=i:=⟨_,rfl⟩;have y:1<=i:=by rw [<-p];exact Nat.div_pos ap ap
 have J:i<=n:=by rw [<-p];exact Nat.div_le_self _ _
 have U:epN n bt sn=(sn+i-1)/i:=by unfold epN;rw [p,rO _ _ y]
 rw [U];have I:(sn+i-1)/i<=sn+i-1:=Nat.div_le_self _ _;obtain ⟨E,v⟩:∃E,(sn+i-1)/i=E:=⟨_,rfl⟩;rw [v] at I ⊢;have Y:(n:Int).tdiv (bt:Int)=(i:Int):=by rw [<-p];rfl
 have V:(n:Int)/(bt:Int)=(i:Int):=by rw [<-p];rfl
 have u:(sn:Int)+i-1=((sn+i-1:Nat):Int):=ap;have a5:((sn:Int)+i-1).tdiv (i:Int)=(E:Int):=by rw [u,<-v];rfl
 have Q:((sn:Int)+i-1)/(i:Int)=(E:Int):=by rw [u,<-v];rfl
 have a2:¬(bt=0):=ap;have a4:¬(i=0):=ap;have a1:¬((n:Int)<bt):=ap;have a0:¬((1048576:Int)<n):=ap;have H:=aa x;clear x T p U v u;go_enter func117,ntmps117;go_wp2_with fail;have N:=NG w (.cells #[.slice A L c,OH sh,OH ra,OH O,OH R,OH bt,OH mi,OH sn,OH bu,OH ch,OH wi,OH ca] 24);have hB:=(NI _ w).alloc (NF _) (.cells #[.slice A L c,OH sh,OH ra,OH O,OH R,OH bt,OH mi,OH sn,OH bu,OH ch,OH wi,OH ca] 24);refine (H.o _ hB).mono ?_;rintro e w1 ⟨rfl,B⟩;have C:=(B.block _ (NE N)).trans N;have HB:=aa (hB.trans (B.mono hB.size));obtain ⟨⟨z0,z1,z2,z3,z4,z5,z6,z7,z8,z9,Z,a3⟩,zf⟩:=lB C;clear N hB B C;go_wp2_with fail;go_ret;exact ⟨rfl,HB.o⟩
theorem It (A:N_) (c n:Nat) (k:Cfg) (w:Qd) (h:lj w A c k) (hg:jw k) (hn:k.batch<=n/\(n:Int)<=1048576):Calls prog 80 #[.agg (dx A c k),OH n] w fun e v=>e=.returned (OH (nc n k.batch.toNat k.steps.toNat:Int))/\aq w v:=by
 have i:=fun v (q:aq w v)=>BK A c n k v (h.below q) hg hn;have g1:=hg.w;have U:=hg.ba;have Y:=hg.st;have u:=fun v=>Eb n v ap ap;have p:=yH (n:=n) (b:=k.batch.toNat) (st:=k.steps.toNat) ap ap;unfold nc at p ⊢;clear h hg;obtain ⟨sz,sh,ra,H,I,ba,mi,st,bu,ch,wi,ca⟩:=k;dsimp only [dx] at *;obtain ⟨L,J⟩:∃L,sz.length=L:=⟨_,rfl⟩;rw [J] at i ⊢;obtain ⟨E,N⟩:∃E,epN n ba.toNat st.toNat=E:=⟨_,rfl⟩;obtain ⟨m,hm⟩:∃m,n-1=m:=⟨_,rfl⟩;rw [N] at i p ⊢;rw [hm] at u p ⊢;obtain ⟨y,D⟩:∃y,E*m=y:=⟨_,rfl⟩;rw [D] at p ⊢;have O:(E:Int)*(m:Int)=(y:Int):=by rw [<-D];push_cast;rfl
 obtain ⟨B,C⟩:=ae i u;clear i u J N hm D;go_enter func80,ntmps80;go_wp2_with fail;have R:=NG w (.cells #[.slice A L c,OH sh,OH ra,OH H,OH I,OH ba,OH mi,OH st,OH bu,OH ch,OH wi,OH ca] 24);have hB:=(NI _ w).alloc (NF _) (.cells #[.slice A L c,OH sh,OH ra,OH H,OH I,OH ba,OH mi,OH st,OH bu,OH ch,OH wi,OH ca] 24);refine (B.o _ hB).mono ?_;rintro e T ⟨rfl,x⟩;have Q:=aa (hB.trans (x.mono hB.size));clear R hB x;go_wp2_with fail;refine (C.o _).mono ?_;rintro e V ⟨rfl,rfl⟩;go_wp2_with fail;go_ret;exact ⟨rfl,Q.o⟩
abbrev aN (A:N_) (c:Nat) (D:N_) (cd:Nat) (T:N_) (ct:Nat) (R:N_) (cr:Nat) (i:Inp):Qb:=
 #[.slice A i.cfg.sizes.length c,OH i.cfg.shift,OH i.cfg.rate,OH i.cfg.mom,OH i.cfg.workers,OH i.cfg.batch,OH i.cfg.micros,OH i.cfg.steps,OH i.cfg.bucket,OH i.cfg.chunk,OH i.cfg.window,OH i.cfg.cap,
  .slice D i.data.length cd,.slice T i.start.length ct,.slice R i.draws.length cr]
structure fY (w:Qd) (A:N_) (c:Nat) (D:N_) (T:N_) (ct:Nat) (R:N_) (i:Inp):Prop where
 c:lj w A c i.cfg
 d:de rEx 2 w D i.data
 dl:i.data.length<=1048576
 t:cB w T i.start ct
 tl:i.start.length<=1048576
 r:Rd w R (aA .u64 i.draws)
 rl:i.draws.length<=1048576
 ru:U64 i.draws
 ra: -9223372036854775808<=i.cfg.rate/\i.cfg.rate<=9223372036854775807
 rm: -9223372036854775808<=i.cfg.mom/\i.cfg.mom<=9223372036854775807
theorem fY.below {w p:Qd} {A:N_} {c:Nat} {D T R:N_} {o:Nat} {i:Inp} (h:fY w A c D T o R i) (hb:aq w p):fY p A c D T o R i:=
 ⟨h.c.below hb,h.d.below dE hb,h.dl,h.t.below hb,h.tl,h.r.below hb,h.rl,h.ru,h.ra,h.rm⟩
theorem qK (A:N_) (c:Nat) (D:N_) (cd:Nat) (T:N_) (ct:Nat) (R:N_) (cr:Nat) (i:Inp) (w:Qd) (h:fY w A c D T ct R i):Calls prog 43 #[.agg (aN A c D cd T ct R cr i)] w fun e u=>e=.returned (OH (dF i))/\aq w u:=by
 have ab:=fun u (q:aq w u)=>qM A c i.cfg u (h.c.below q);have b8:=fun u (q:aq w u)=>uB A i.cfg.sizes c u (h.c.hr.below q) h.c.hc h.c.hm;have aP:=fun S u (hS:cI 212 u S i.cfg.sizes)=>ky S i.cfg.sizes u hS;have a9:=fun a b u (q:aq w u)=>BQ a b cd D i.data u (h.d.below dE q) h.dl;have Y:=fun (hg:jw i.cfg) (hb:i.cfg.batch<=i.data.length/\(i.data.length:Int)<=1048576) u (q:aq w u)=>It A c i.data.length i.cfg u (h.c.below q) hg hb;have fc:=@Mk i;have f7:=@Mn i;have f5:=@Mo i;have J:=@Mm i;have O:=@Mp i;have b5:=@ix i.cfg;have bh:=h.c.hr;have ci:=h.dl;have co:=h.tl;have hrl:=h.rl;unfold qT at a9;unfold nm at f7 f5 J O;unfold mb Mq inN wR cnt at f5 J O;unfold qL at J O;obtain ⟨b2,a7⟩:∃b2,dF i=b2:=⟨_,rfl⟩;rw [a7] at fc f7 f5 J O ⊢;clear a7 h;obtain ⟨⟨sz,sh,ra,mo,wk,ba,mi,st,bu,ch,wi,ca⟩,data,start,draws⟩:=i;dsimp only [aN,dx] at *;obtain ⟨L,hL⟩:∃L,sz.length=L:=⟨_,rfl⟩;obtain ⟨N,hN⟩:∃N,data.length=N:=⟨_,rfl⟩;obtain ⟨M,hM⟩:∃M,start.length=M:=⟨_,rfl⟩;obtain ⟨Q,hQ⟩:∃Q,draws.length=Q:=⟨_,rfl⟩;obtain ⟨cc,bG⟩:∃cc,cE ⟨sz,sh,ra,mo,wk,ba,mi,st,bu,ch,wi,ca⟩=cc:=⟨_,rfl⟩;rw [hL] at ab b8 aP Y f5 J O ⊢;rw [hN] at a9 Y f7 f5 J O ci ⊢;rw [hM] at f5 J O co ⊢;rw [hQ] at J O hrl ⊢;rw [bG] at ab fc f7 f5 J O b5;obtain ⟨CN,b7⟩:∃CN,bR sz (L-1)=CN:=⟨_,rfl⟩;rw [b7] at aP f5 J O;obtain ⟨ND,bi⟩:∃ND,nc N ba.toNat st.toNat=ND:=⟨_,rfl⟩;rw [bi] at Y J O;obtain ⟨cn,bX,cl,cx,cv,Fc,F7,F5⟩:=ak ab b8 aP a9 Y fc f7 f5;obtain ⟨F8,F0,c9,bn,HL,cM⟩:=ai J O b5 bh hL b7;clear ab b8 aP a9 Y fc f7 f5 J O b5 bh hL hN hM hQ bG b7 bi;go_enter func43,ntmps43;go_wp2_with fail;have hz:=(NW (w.alloc (.cells #[.slice A L c,OH sh,OH ra,OH mo,OH wk,OH ba,OH mi,OH st,OH bu,OH ch,OH wi,OH ca,.slice D N cd,.slice T M ct,.slice R Q cr] 29)) (.cells #[.slice A L c,OH sh,OH ra,OH mo,OH wk,OH ba,OH mi,OH st,OH bu,OH ch,OH wi,OH ca] 24) w.heap.size (by simp)).trans (NG w _);have hy:=NG (w.alloc (.cells #[.slice A L c,OH sh,OH ra,OH mo,OH wk,OH ba,OH mi,OH st,OH bu,OH ch,OH wi,OH ca,.slice D N cd,.slice T M ct,.slice R Q cr] 29)) (.cells #[.slice A L c,OH sh,OH ra,OH mo,OH wk,OH ba,OH mi,OH st,OH bu,OH ch,OH wi,OH ca] 24);rw [show (w.alloc (.cells #[.slice A L c,OH sh,OH ra,OH mo,OH wk,OH ba,OH mi,OH st,OH bu,OH ch,OH wi,OH ca,.slice D N cd,.slice T M ct,.slice R Q cr] 29)).heap.size=w.heap.size+1 by simp] at hy;have hB:aq w ((w.alloc (.cells #[.slice A L c,OH sh,OH ra,OH mo,OH wk,OH ba,OH mi,OH st,OH bu,OH ch,OH wi,OH ca,.slice D N cd,.slice T M ct,.slice R Q cr] 29)).alloc (.cells #[.slice A L c,OH sh,OH ra,OH mo,OH wk,OH ba,OH mi,OH st,OH bu,OH ch,OH wi,OH ca] 24)):=((NI _ w).alloc (NF _) _).alloc (by simp) _;obtain ⟨W0,bo⟩:∃W0,W0=(w.alloc (.cells #[.slice A L c,OH sh,OH ra,OH mo,OH wk,OH ba,OH mi,OH st,OH bu,OH ch,OH wi,OH ca,.slice D N cd,.slice T M ct,.slice R Q cr] 29)).alloc (.cells #[.slice A L c,OH sh,OH ra,OH mo,OH wk,OH ba,OH mi,OH st,OH bu,OH ch,OH wi,OH ca] 24):=⟨_,rfl⟩;rw [<-bo] at hz hy hB ⊢;clear bo;refine (cn.o _ hB).mono ?_;rintro e w1 ⟨rfl,b0⟩;have aR:=(b0.block _ (NE hz)).trans hz;have a8:=(b0.block _ (NE hy)).trans hy;have HB:=aa (hB.trans (b0.mono hB.size));obtain ⟨⟨z0,z1,z2,z3,z4,z5,z6,z7,z8,z9,Z,a1,U,a0,I⟩,zf⟩:=lA aR;obtain ⟨⟨y0,y1,y2,y3,y4,y5,y6,y7,y8,y9,B,C⟩,yf⟩:=lB a8;have lz:=NE aR;have ly:=NE a8;obtain ⟨HZ,HY⟩:=ae aR a8;clear hz hy hB b0 aR a8;by_cases h3:cc≠0
 ·have hq:(cc != 0)=true:=by rw [bne_iff_ne];exact h3
  have H3:=aa h3;clear h3;go_wp2_with fail;go_ret;exact ⟨bD (Fc.o H3.o).symm,HB.o⟩
 obtain rfl:cc=0:=ap;clear h3;have hg:=c9.o.1 rfl;have g1:=hg.w;have g2:=hg.ba;have g3:=hg.st;have gz:=hg.z;have HG:=aa hg;dsimp only at g1 g2 g3 gz;clear hg;have bv:=gz.1.1;rw [HL.o] at bv;have s0:=gz.1.at (k:=0) (by have:=HL.o;omega);have s1:=gz.1.at (k:=L-1) (by have:=HL.o;omega);obtain ⟨bz,oz,rfl,p0⟩:=bn.o.num (show 0<sz.length by have:=HL.o;omega);obtain ⟨_,_,e',p1⟩:=bn.o.num (show L-1<sz.length by have:=HL.o;omega);injection e' with e';injection e' with e1 e2 _;subst e1;subst e2
 rw [s0.2.2,Nat.add_zero] at p0;rw [s1.2.2] at p1;obtain ⟨n0,b9⟩:∃n0,szN sz 0=n0:=⟨_,rfl⟩;obtain ⟨n1,b6⟩:∃n1,szN sz (L-1)=n1:=⟨_,rfl⟩;have f5:=F5.o;have J:=F8.o;have O:=F0.o;rw [b9,b6] at f5 J O;rw [b9] at p0 s0;rw [b6] at p1 s1;obtain ⟨F5,F8,F0,cw⟩:=ag f5 J O gz;have bO:bz<w.heap.size:=aB p0;obtain ⟨P0,P1⟩:=ae p0 p1;clear f5 J O gz b9 b6 p0 p1 s0 s1;obtain ⟨bt,rfl⟩:∃bt:Nat,ba=bt:=⟨ba.toNat,by omega⟩;go_wp2_with fail;refine (bX.o _ HB.o).mono ?_;rintro e w2 ⟨av,hs⟩
 obtain ⟨S,rfl,hS⟩:∃S,e=.returned (.tuple #[(au S),OH 0])/\cI 212 w2 S sz:=by
  rcases hs with ⟨_,S,he,hS,_⟩ | ⟨bV,_⟩
  ·exact ⟨S,he,hS⟩
  ·exact absurd cw.o bV
 clear hs;have aM:=(av.block _ lz).trans HZ.o;have ao:=(av.block _ ly).trans HY.o;have a6:=aa (HB.o.trans (av.mono HB.o.size));clear z0 z1 z2 z3 z4 z5 z6 z7 z8 z9 Z a1 U a0 I zf y0 y1 y2 y3 y4 y5 y6 y7 y8 y9 B C yf lz ly;obtain ⟨⟨z0,z1,z2,z3,z4,z5,z6,z7,z8,z9,Z,a1,U,a0,I⟩,zf⟩:=lA aM;obtain ⟨⟨y0,y1,y2,y3,y4,y5,y6,y7,y8,y9,B,C⟩,yf⟩:=lB ao;have lz:=NE aM;have ly:=NE ao;obtain ⟨cb,cs,HS⟩:=af aM ao hS;clear av aM ao hS;have p0:=(a6.o.cell (p:=(ar bz oz)) bO).trans P0.o;have p1:=(a6.o.cell (p:=⟨bz,oz+(L-1),none⟩) bO).trans P1.o;have c6:IntKind.i64.wrap ((L:Int)-1)=((L-1:Nat):Int):=by rw [NK _ ap];omega
 have cP:((L-1:Nat):Int)<L:=ap;have cO:L-1<L:=ap;have cL:0<L:=ap;have cy:(0:Int)<L:=ap;go_wp2_with fail;have v:(fun u:Qd=>u.cell? (ar w.heap.size 12)=some (.slice D N cd)/\u.cell? (ar (w.heap.size+1) 0)=some (.slice (some (ar bz oz)) L c)/\u.cell? (ar bz oz)=some (OH n0)/\u.cell? ⟨bz,oz+(L-1),none⟩=some (OH n1)) w2.drew:=⟨U,y0,p0,p1⟩;refine HA.g (fun u:Qd=>u.cell? (ar w.heap.size 12)=some (.slice D N cd)/\u.cell? (ar (w.heap.size+1) 0)=some (.slice (some (ar bz oz)) L c)/\u.cell? (ar bz oz)=some (OH n0)/\u.cell? ⟨bz,oz+(L-1),none⟩=some (OH n1)) ?_;refine HA.t ?_ [0,1,2,3,4,5,6,7,8,9,10,11,12,13] v ?_;refine HA.o 14 (fun K hK=>?_);go_simp;refine (cx.o n0 n1 _ a6.o.drew).mono ?_;rintro e w3 ⟨a3,d,hd⟩;have bf:=NR (aw a3 v.1) (NR (aw a3 v.2.1) (NR (aw a3 v.2.2.1) (aw a3 v.2.2.2)));have H:aq w2 w3:=(NI w2.heap.size w2).drew.trans a3;have a2:=(H.block _ lz).trans cb.o;have a4:=(H.block _ ly).trans cs.o;have bd:=HS.o.below H;obtain ⟨aG,bI,bl,cf⟩:=ag (a6.o.trans (H.mono a6.o.size)) a2 a4 bd
 obtain ⟨ad,rfl,b4⟩:∃ad,e=.returned (.tuple #[OH d,.bool ad])/\decide (∀x∈data,fu n0 n1 x)=ad:=by
  rcases hd with ⟨ha,rfl⟩ | ⟨ha,rfl⟩
  ·exact ⟨true,rfl,OA ha⟩
  ·exact ⟨false,rfl,OB ha⟩
 have a5:=aa b4;clear a3 H a2 a4 bd hd b4 v;dsimp only;refine hK.out _ _ bf (fun v=>?_);clear hK K bf;refine HA.t ?_ [15,16,17,18,19] v ?_;refine HA.d ?_;clear v z0 z1 z2 z3 z4 z5 z6 z7 z8 z9 Z a1 U a0 I zf y0 y1 y2 y3 y4 y5 y6 y7 y8 y9 B C yf lz ly c6;have a2:=bI.o;have a4:=bl.o;obtain ⟨⟨z0,z1,z2,z3,z4,z5,z6,z7,z8,z9,Z,a1,U,a0,I⟩,zf⟩:=lA a2;obtain ⟨⟨y0,y1,y2,y3,y4,y5,y6,y7,y8,y9,B,C⟩,yf⟩:=lB a4;have lz:=NE a2;have ly:=NE a4;clear a2 a4;by_cases h7:N<bt
 ·have hq:(N:Int)<bt:=ap;go_wp2_with fail;go_ret;exact ⟨bD (F7.o trivial (by rw [OC];omega)).symm,aG.o⟩
 have d0:¬((N:Int)<bt):=ap;have cA:¬((1048576:Int)<N):=ap;have G1:=aa (show decide ((bt:Int)<=N/\N<=1048576)=true by rw [OD];omega);rcases dI ad with rfl | rfl
 ·go_wp2_with fail
  go_quiet (fail)
  go_wp2_with fail;go_ret;exact ⟨bD (F5.o trivial G1.o (by rw [a5.o];rfl)).symm,NU aG.o _⟩
 have b1:=fun u (q:aq w3 u)=>cl.o S u (cf.o.below q);have b3:=aa b1;clear b1;by_cases h5:M≠CN
 ·have hq:((M:Int) != (CN:Int))=true:=by rw [bne_iff_ne];omega
  have H5:=aa h5;clear h5;go_wp2_with fail
  go_quiet ((go_at_call 79;refine Calls.quiet_of ((b3.o _ ?_).mono fun e u ⟨he,hw⟩=>⟨he,0,hw.symm⟩);exact am))
  go_wp2_with fail;go_ret;exact ⟨bD (F5.o trivial G1.o (by rw [a5.o,OB H5.o];rfl)).symm,NU aG.o _⟩
 have hq:((M:Int) != (CN:Int))=false:=by rw [bne_eq_false_iff_eq];omega
 have G2:=aa (show (decide (∀x∈data,fu n0 n1 x)&&decide (M=CN))=true by rw [a5.o,OA (show M=CN by omega)];rfl);clear h5;go_wp2_with fail
 go_quiet ((go_at_call 79;refine Calls.quiet_of ((b3.o _ ?_).mono fun e u ⟨he,hw⟩=>⟨he,0,hw.symm⟩);exact am))
 go_wp2_with fail;obtain ⟨V,hV⟩:∃V,V=w3.drewN nq:=⟨_,rfl⟩;have bN:aq w V:=by rw [hV];exact NU aG.o _
 have be:V.heap[w.heap.size]?=some (.cells #[.slice (some (ar bz oz)) L c,OH sh,OH ra,OH mo,OH wk,OH bt,OH mi,OH st,OH bu,OH ch,OH wi,OH ca,.slice D N cd,.slice T M ct,.slice R Q cr] 29 (0,0)):=by rw [hV];exact bI.o
 have bM:V.heap[w.heap.size+1]?=some (.cells #[.slice (some (ar bz oz)) L c,OH sh,OH ra,OH mo,OH wk,OH bt,OH mi,OH st,OH bu,OH ch,OH wi,OH ca] 24 (0,0)):=by rw [hV];exact bl.o
 clear z0 z1 z2 z3 z4 z5 z6 z7 z8 z9 Z a1 U a0 I zf y0 y1 y2 y3 y4 y5 y6 y7 y8 y9 B C yf;rw [<-hV];clear hV;obtain ⟨⟨z0,z1,z2,z3,z4,z5,z6,z7,z8,z9,Z,a1,U,a0,I⟩,zf⟩:=lA be;obtain ⟨⟨y0,y1,y2,y3,y4,y5,y6,y7,y8,y9,B,C⟩,yf⟩:=lB bM;have bb:=aa bN;clear bN be bM;have Y:=cv.o HG.o ap V.drew bb.o.drew;have bs:=aa Y;clear Y;have v:(fun u:Qd=>u.cell? (ar w.heap.size 14)=some (.slice R Q cr)/\u.cell? (ar (w.heap.size+1) 0)=some (.slice (some (ar bz oz)) L c)/\u.cell? (ar (w.heap.size+1) 1)=some (OH sh)/\u.cell? (ar (w.heap.size+1) 2)=some (OH ra)/\u.cell? (ar (w.heap.size+1) 3)=some (OH mo)/\u.cell? (ar (w.heap.size+1) 4)=some (OH wk)/\u.cell? (ar (w.heap.size+1) 5)=some (OH bt)/\u.cell? (ar (w.heap.size+1) 6)=some (OH mi)/\u.cell? (ar (w.heap.size+1) 7)=some (OH st)/\u.cell? (ar (w.heap.size+1) 8)=some (OH bu)/\u.cell? (ar (w.heap.size+1) 9)=some (OH ch)/\u.cell? (ar (w.heap.size+1) 10)=some (OH wi)/\u.cell? (ar (w.heap.size+1) 11)=some (OH ca)) V.drew:=⟨I,y0,y1,y2,y3,y4,y5,y6,y7,y8,y9,B,C⟩;refine HA.g (fun u:Qd=>u.cell? (ar w.heap.size 14)=some (.slice R Q cr)/\u.cell? (ar (w.heap.size+1) 0)=some (.slice (some (ar bz oz)) L c)/\u.cell? (ar (w.heap.size+1) 1)=some (OH sh)/\u.cell? (ar (w.heap.size+1) 2)=some (OH ra)/\u.cell? (ar (w.heap.size+1) 3)=some (OH mo)/\u.cell? (ar (w.heap.size+1) 4)=some (OH wk)/\u.cell? (ar (w.heap.size+1) 5)=some (OH bt)/\u.cell? (ar (w.heap.size+1) 6)=some (OH mi)/\u.cell? (ar (w.heap.size+1) 7)=some (OH st)/\u.cell? (ar (w.heap.size+1) 8)=some (OH bu)/\u.cell? (ar (w.heap.size+1) 9)=some (OH ch)/\u.cell? (ar (w.heap.size+1) 10)=some (OH wi)/\u.cell? (ar (w.heap.size+1) 11)=some (OH ca)) ?_;refine HA.t ?_ [0,1,2,3,4] v ?_;refine HA.o 5 (fun K hK=>?_);go_simp;refine bs.o.mono ?_;rintro e w4 ⟨rfl,y⟩;have bw:=aa (bb.o.trans ((NI V.heap.size V).drew.trans y |>.mono bb.o.size));have bA:=NR (aw y v.1) (NR (aw y v.2.1) (NR (aw y v.2.2.1) (NR (aw y v.2.2.2.1) (NR (aw y v.2.2.2.2.1) (NR (aw y v.2.2.2.2.2.1) (NR (aw y v.2.2.2.2.2.2.1) (NR (aw y v.2.2.2.2.2.2.2.1) (NR (aw y v.2.2.2.2.2.2.2.2.1) (NR (aw y v.2.2.2.2.2.2.2.2.2.1) (NR (aw y v.2.2.2.2.2.2.2.2.2.2.1) (NR (aw y v.2.2.2.2.2.2.2.2.2.2.2.1) (aw y v.2.2.2.2.2.2.2.2.2.2.2.2))))))))))));clear y v;dsimp only;refine hK.out _ _ bA (fun v=>?_);clear hK K bA;refine HA.t ?_ [6,7] v ?_;refine HA.d ?_;clear v z0 z1 z2 z3 z4 z5 z6 z7 z8 z9 Z a1 U a0 I zf y0 y1 y2 y3 y4 y5 y6 y7 y8 y9 B C yf;by_cases h8:ND<=Q
 ·have c7:¬((Q:Int)<ND):=ap;have cj:decide ((Q:Int)<ND)=false:=by simp;omega
  have c8:decide (Q<ND)=false:=by simp;omega
  have G8:=aa (OA h8);go_wp2_with fail;go_ret;exact ⟨bD (F0.o trivial G1.o G2.o G8.o).symm,bw.o⟩
 ·have c7:(Q:Int)<ND:=ap;have cj:decide ((Q:Int)<ND)=true:=by simp;omega
  have c8:decide (Q<ND)=true:=by simp;omega
  have G8:=aa (OB h8);go_wp2_with fail;go_ret;exact ⟨bD (F8.o trivial G1.o G2.o G8.o).symm,bw.o⟩
end Go.Proofs.YtgmajkppbhiopaaGreat
namespace Go.Proofs.YtgmajkppbhiopaaGreat
open Go.RowKit Go.Shelf
open Tryz
attribute [local go_sem] Oper.semAt_some
def rY (l:Qa):Int:=l.foldl (fun a x=>wrap64 (a+x)) 0
theorem Dn (l:Qa) (x:Int):rY (l++[x])=wrap64 (rY l+x):=by simp [rY]
def vV (zs:Qa) {m:Nat} (k:Fin m):Qb:=#[OH (nth zs k.1)]
theorem Kc {zs:Qa} {m:Nat} (h:zs.length=m):((List.finRange m).map fun k=>nth zs k.1)=zs:=by
 refine js (by simp [h]) fun k hk=>?_;rw [dd _ _ hk];simp
theorem yy {β:Type} (B b:Nat) (o:List β->Obj) (i:∀p,(o p).isCells=true):OwnFrom B (fun (p:List β) W=>W.heap[b]?=some (o p)):=fun p W h row hs hg hr=>gr (β:=List β) B b (o p) (i p) p W h row hs hg hr
theorem FG (n l Y n₀ m d:Nat) (A:N_) (zs:Qa) (T:zs.length=m) (hm:m<=1048576) (a7:Y<n₀) (R:∀a,A=some a->a.block<n₀) (J Jx:List (Fin m)->Qd->Prop) (hY:∀u x W,J u W->u.length<m->YieldAt Fence.wide (n-1) prog l (vV zs x) W fun e I=> (e=.returned (.bool true)/\J (u++[x]) I/\ja n₀ Y W I)\/(e=.returned (.bool false)/\Jx (u++[x]) I)) (W:Qd) (H:W.heap[Y]?=some (.cells #[.slice A m d] 26 (0,0))) (hA:Rd W A (aA .i64 zs)) (h0:J [] W):
  CallsIn Fence.wide n prog 276 #[.func (.yield l) #[] #[],(au Y)] W fun e I=>(∃v,e=.returned v)/\
   ((∃ys,ys=List.finRange m/\J ys I)\/(∃u,True/\Jx u I)):=by
 obtain ⟨e0,ef⟩:=bx1 H;obtain ⟨a6,HA,Z,a3⟩:=ag H hA T R;clear H hA T R;refine callsIn_of_wp func276 rfl trivial ?_ rfl;simp only [ntmps276,List.size_toArray,List.length_cons,List.length_nil,Nat.reduceAdd,Nat.reduceSub,Array.replicate_succ,Array.replicate_zero,List.push_toArray,List.append_toArray,List.nil_append,List.cons_append]
 gi_wp2
 gi_loopw [7] (fun i wr=>∃k:Nat,k<=m/\i=OH k/\J ((List.finRange m).take k) wr/\Rd wr A (aA .i64 zs))
  (fun i _=>m-(intOf i).toNat)
 ·exact ⟨0,NJ _,rfl,h0,HA.o⟩
 case round=>
  obtain ⟨k,hk,rfl,y,B⟩:=hrel;clear e0 ef;by_cases D:k<m
  ·have U:((List.finRange m).take k).length<m:=by simp;omega
   have a2:=aa B;obtain ⟨b,o,rfl,p⟩:=B.num (show k<zs.length by rw [Z.o];exact D);obtain ⟨fn,tmps,V,a5,hy,hR⟩:=hY _ ⟨k,D⟩ wr y U;unfold vV at hy;dsimp only at hy;clear B y
   gi_wp2
   refine ⟨(fun h=>by cases h),?_⟩;refine hR.mono ?_;rintro e w5 (⟨rfl,L,Q⟩ | ⟨rfl,O⟩)
   ·have N:=a2.o.belowB Q.1 a3.o;obtain ⟨a0,a4⟩:=ae N L;clear N L Q p
    gi_wp2
    go_roundw
    ·exact ⟨k+1,by omega,by go_num,by rw [CW D];exact a4.o,a0.o⟩
    ·simp [intOf];omega
   ·gi_wp2
    refine NX (results_none rfl _ _ _) rfl ?_;exact ⟨⟨_,rfl⟩,.inr ⟨_,trivial,O⟩⟩
  ·obtain rfl:k=m:=ap;have C:(List.finRange k).take k=List.finRange k:=List.take_of_length_le (by simp);rw [C] at y;have a1:=aa y;clear y C B
   gi_wp2
   go_end0
   exact ⟨⟨_,rfl⟩,.inl ⟨_,rfl,a1.o⟩⟩
theorem zN (n i n₀ m d:Nat) (A:N_) (zs:Qa) (u:zs.length=m) (hm:m<=1048576) (p:i<n₀) (o:∀a,A=some a->a.block<n₀) (w:Qd) (h:w.heap[i]?=some (.cells #[.slice A m d] 26 (0,0))) (hA:Rd w A (aA .i64 zs)):
  SeqStopsK Fence.wide n prog 276 #[(au i)] (vV zs (m:=m)) (ja n₀ i) (fun ys=>ys=List.finRange m) (fun _=>True) m w:=fun l J y W v _ _ B x=>
 FG n l i n₀ m d A zs u hm p o J y B W ((v.block _ (NE h)).trans h) (hA.below v) x
theorem Dj (L m d:Nat) (A:N_) (zs:Qa) (w:Qd) (C:w.heap[L]?=some (.cells #[.slice A m d] 26 (0,0))) (hA:Rd w A (aA .i64 zs)) (y:zs.length=m) (hm:m<=1048576) (J:∀a,A=some a->a.block<w.heap.size):Calls prog 272 #[.func (.func 276) #[] #[(au L)]] w fun e w'=>e=.returned (OH (rY zs))/\aq w w':=by
 have N:=NE C;have H:=zN 2 L w.heap.size m d A zs y hm N J (w.alloc (.cells #[OH 0] 2)) ((NW w _ _ N).trans C) (hA.alloc _);obtain ⟨V,T⟩:=ae H y;clear H C hA y J;refine (callsIn_wide (n:=3)).1 ?_;refine callsIn_of_wp_marks func272 rfl trivial ?_ rfl;simp only [ntmps272,List.size_toArray,List.length_cons,List.length_nil,Nat.reduceAdd,Nat.reduceSub,Array.replicate_succ,Array.replicate_zero,List.push_toArray,List.append_toArray,List.nil_append,List.cons_append]
 gi_wp2_with fail
 refine' wpIn_rangeFunc_ownG (F:=Fence.wide) (n:=3) rfl ap (gf:=276) (lb:=#[(au L)]) rfl trivial (enters_of func276 (by kernel_rfl) rfl)
  V.o mj (mp (by simp) (by simp;omega)) (NI _ _) (fun _=>rfl)
  (fun (p:List (Fin m)) W=>(W.heap[w.heap.size]?=some (.cells #[OH (rY (p.map fun k=>nth zs k.1))] 2 (0,0)))/\aq w W)
  (fun _ _ _=>False)
  (OwnFrom.and (yy _ _ (fun p:List (Fin m)=>.cells #[OH (rY (p.map fun k=>nth zs k.1))] 2 (0,0)) (fun _=>rfl)) (ownFrom_below (NF _) (by simp)))
  (fun _ _ _ _ _ hs _ _=>hs)
  ⟨NG w _,(NI _ w).alloc (NF _) _⟩
  _ ?assign ?body ?done ?stop
 case assign=>
  intro l x W K Q;unfold vV
  gi_wp2
  exact Q
 case body=>
  rintro l p x W ⟨u,i⟩ U;obtain ⟨R,v⟩:∃R,rY (p.map fun k=>nth zs k.1)=R:=⟨_,rfl⟩;obtain ⟨O,B⟩:∃O,nth zs x.1=O:=⟨_,rfl⟩;rw [v] at u;obtain ⟨p0,pf⟩:=bx1 u;have a0:=NE u;obtain ⟨HS,HB,Z,Y⟩:=ag u i v B;clear u i U v;simp only [B];clear B
  gi_wp2_with fail
  have hk:Keep (fun j=>j=w.heap.size) W (W.setCell (ar w.heap.size 0) (OH (wrap64 (R+O)))):=Keep.setCell (S:=fun j=>j=w.heap.size) (Keep.refl _ _) (ar w.heap.size 0) (.inr rfl) _;have hb:Below w.heap.size W (W.setCell (ar w.heap.size 0) (OH (wrap64 (R+O)))):=hk.toBelow HB.o.size (fun j hj=>ap);refine ⟨(m8 hk (fun k o hs I=>by rw [hs,HS.o] at I;injection I with e;subst e;rfl)).from _,⟨hb,fun h=>hk.block L h ap⟩,?_,HB.o.trans hb⟩;rw [List.map_append,List.map_cons,List.map_nil,Dn,Z.o,Y.o];exact OE W w.heap.size 0 _ _ _ HS.o
 case done=>
  rintro D ys W hD rfl ⟨u,i⟩ Q;rw [Kc T.o] at u;obtain ⟨p0,pf⟩:=bx1 u
  gi_wp2
  refine ⟨by simp,.inl ⟨_,_,rfl,run_takeDeferred Q,?_⟩⟩;exact ⟨OH (rY zs),by simp [results,results272,go_sem],rfl,i.trans (belowK_b (w:=w) (NF _) W D _ _ (by simp at hD;omega) Q rfl rfl)⟩
 case stop=>
  rintro D c p W _ _ h _;exact h.elim
theorem FF (A:N_) (m d:Nat) (w:Qd):Calls prog 273 #[.slice A m d] w fun e h=>e=.returned (.func (.func 276) #[] #[(au w.heap.size)])/\h=w.alloc (.cells #[.slice A m d] 26):=by
 go_enter func273,ntmps273;go_wp2;go_ret;exact ⟨rfl,rfl⟩
theorem I2 (A:N_) (m d:Nat) (zs:Qa) (w:Qd) (hA:Rd w A (aA .i64 zs)) (i:zs.length=m) (hm:m<=1048576) (h:∀a,A=some a->a.block<w.heap.size):Calls prog 262 #[.slice A m d] w fun e u=>e=.returned (OH (rY zs))/\aq w u:=by
 have p:=Dj w.heap.size m d A zs (w.alloc (.cells #[.slice A m d] 26)) (NG w _) (hA.alloc _) i hm (fun a v=>by have:=h a v;simp;omega);have x:=aa p;clear p hA i h;go_enter func262,ntmps262;go_wp2_with fail;refine (FF A m d w).mono ?_;rintro e B ⟨rfl,rfl⟩;go_wp2_with fail;refine x.o.mono ?_;rintro e C ⟨rfl,hb⟩;have y:=aa (((NI _ w).alloc (NF _) _).trans (hb.mono (by simp)));clear hb;go_wp2;go_ret;exact ⟨rfl,y.o⟩
end Go.Proofs.YtgmajkppbhiopaaGreat
namespace Go.Proofs.YtgmajkppbhiopaaGreat
open Go.RowKit
open Tryz
theorem FS (a b:Int):rY [a,b]=wrap64 (a+b):=by
 show wrap64 (wrap64 (0+a)+b)=wrap64 (a+b)
 unfold wrap64;omega
def fm (h q m g:Int):Int:=wrap64 (fB h m q+g)
def mV (ra q p m:Int):Int:=wrap64 (p-fB ra m q)
def apM (h q:Int) (ms g:Qa) (lo k:Nat):Qa:=dM ms.length fun j=>if lo<=j/\j<lo+k then fm h q (nth ms j) (nth g (j-lo)) else nth ms j
def apP (ra h q:Int) (ps ms g:Qa) (lo k:Nat):Qa:=dM ps.length fun j=>if lo<=j/\j<lo+k then mV ra q (nth ps j) (fm h q (nth ms j) (nth g (j-lo))) else nth ps j
theorem zD (h q:Int) (ms g:Qa) (lo:Nat):apM h q ms g lo 0=ms:=(fF rfl fun k _=>by rw [if_neg ap]).symm
theorem zC (ra h q:Int) (ps ms g:Qa) (lo:Nat):apP ra h q ps ms g lo 0=ps:=(fF rfl fun k _=>by rw [if_neg ap]).symm
theorem nT (h q:Int) (ms g:Qa) (lo k:Nat):(apM h q ms g lo k).length=ms.length:=cF _ _
theorem nS (ra h q:Int) (ps ms g:Qa) (lo k:Nat):(apP ra h q ps ms g lo k).length=ps.length:=cF _ _
theorem Mz (i q:Int) (ms g:Qa) (lo k:Nat) (h:lo+k<ms.length):nth (apM i q ms g lo k) (lo+k)=nth ms (lo+k):=by
 unfold apM;rw [bU _ h,if_neg ap]
theorem My (ra i q:Int) (ps ms g:Qa) (lo k:Nat) (h:lo+k<ps.length):nth (apP ra i q ps ms g lo k) (lo+k)=nth ps (lo+k):=by
 unfold apP;rw [bU _ h,if_neg ap]
theorem C9 (i q:Int) (ms g:Qa) (lo k:Nat) (h:lo+k<ms.length):(apM i q ms g lo k).set (lo+k) (fm i q (nth ms (lo+k)) (nth g k))=apM i q ms g lo (k+1):=by
 refine js (by simp [nT]) fun j o=>?_;rw [List.length_set,nT] at o;rw [iQ,nT];unfold apM;rw [bU _ o,bU _ o];by_cases h1:j=lo+k
 ·subst h1;rw [if_pos ⟨rfl,h⟩,if_pos ap,show lo+k-lo=k by omega]
 ·rw [if_neg ap];by_cases p:lo<=j/\j<lo+k
  ·rw [if_pos p,if_pos ap]
  ·rw [if_neg p,if_neg ap]
theorem C7 (ra i q:Int) (ps ms g:Qa) (lo k:Nat) (h:lo+k<ps.length):(apP ra i q ps ms g lo k).set (lo+k) (mV ra q (nth ps (lo+k)) (fm i q (nth ms (lo+k)) (nth g k)))=apP ra i q ps ms g lo (k+1):=by
 refine js (by simp [nS]) fun j o=>?_;rw [List.length_set,nS] at o;rw [iQ,nS];unfold apP;rw [bU _ o,bU _ o];by_cases h1:j=lo+k
 ·subst h1;rw [if_pos ⟨rfl,h⟩,if_pos ap,show lo+k-lo=k by omega]
 ·rw [if_neg ap];by_cases p:lo<=j/\j<lo+k
  ·rw [if_pos p,if_pos ap]
  ·rw [if_neg p,if_neg ap]
theorem xt {i q:Int} {ms g:Qa} {lo k:Nat} (h:W64 ms):W64 (apM i q ms g lo k):=fJ fun j o=>by
 split
 ·exact gF _
 ·exact h j o
def sW (h q:Int) (ms g:Qa):Qa:=dM ms.length fun j=>fm h q (nth ms j) (nth g j)
def sU (ra h q:Int) (ps ms g:Qa):Qa:=dM ps.length fun j=>mV ra q (nth ps j) (fm h q (nth ms j) (nth g j))
theorem Lv (h q:Int) (ms g:Qa):apM h q ms g 0 ms.length=sW h q ms g:=eZ fun k hk=>by rw [if_pos ap,Nat.sub_zero]
theorem Lu (ra h q:Int) (ps ms g:Qa):apP ra h q ps ms g 0 ps.length=sU ra h q ps ms g:=eZ fun k hk=>by rw [if_pos ap,Nat.sub_zero]
theorem DK (lo i:Nat) (w:Qd) (h:lo<=i) (x:i<=17592186043904):Calls prog 175 #[.agg #[OH lo,OH i]] w fun e v=>e=.returned (OH ((i-lo:Nat):Int))/\aq w v:=by
 have h1:(0:Int)<=(i:Int)-lo:=ap;have p:max ((i:Int)-lo) 0=((i-lo:Nat):Int):=ap;have u:=aa p;clear p;go_enter func175,ntmps175;go_wp2
 all_goals
  go_ret;exact ⟨bD (by have:=u.o;omega),(NI _ w).alloc (NF _) _⟩
theorem zO (ra I q g:Int) (base n i y cp x cm:Nat) (ps ms:Qa) (w:Qd) (hp:w.ownsRow base 2 1 (.slice (some (ar y 0)) n cp) n (aA .i64 ps)) (hm:w.ownsRow base 2 1 (.slice (some (ar x 0)) n cm) n (aA .i64 ms)) (b8:y≠x) (hi:i<n) (wr: -9223372036854775808<=ra/\ra<=9223372036854775807) (wo: -9223372036854775808<=I/\I<=9223372036854775807) (wm:W64 ms):Calls prog 253 #[.agg #[OH ra,OH I,OH q],.pointer (some (ar y i)),.pointer (some (ar x i)),OH g] w fun e u=>e=.returned (.tuple #[])/\
   u.ownsRow base 2 1 (.slice (some (ar y 0)) n cp) n (aA .i64 (ps.set i (mV ra q (nth ps i) (fm I q (nth ms i) g))))/\u.ownsRow base 2 1 (.slice (some (ar x 0)) n cm) n (aA .i64 (ms.set i (fm I q (nth ms i) g)))/\Keep (fun j=>j=y\/j=x) w u:=by
 have a8:=kQ hm;have p1:=cH hp hi;have p2:=cH hm hi;have f1:=hp.frozenAt i;have f2:=hm.frozenAt i;have l1:=(hp.lt y rfl).2;have l2:=(hm.lt x rfl).2;have Z:=fun u=>tv I (nth ms i) q u wo (wm i ap);have R:=fun m' u (h: -9223372036854775808<=m'/\m'<=9223372036854775807)=>tv ra m' q u wr h;obtain ⟨m0,b1⟩:∃m0,nth ms i=m0:=⟨_,rfl⟩;obtain ⟨p0,aG⟩:∃p0,nth ps i=p0:=⟨_,rfl⟩;rw [b1] at p2 Z ⊢;rw [aG] at p1 ⊢;obtain ⟨m1,B⟩:∃m1,fm I q m0 g=m1:=⟨_,rfl⟩;have b5: -9223372036854775808<=m1/\m1<=9223372036854775807:=by rw [<-B];exact gF _
 obtain ⟨mu,N⟩:∃mu,fB I m0 q=mu:=⟨_,rfl⟩;have aR:rY [mu,g]=m1:=by rw [FS,<-B,<-N];rfl
 rw [B];rw [N] at Z;have R:=fun u=>R m1 u b5;obtain ⟨pu,L⟩:∃pu,fB ra m1 q=pu:=⟨_,rfl⟩;rw [L] at R;obtain ⟨p9,a9⟩:∃p9,mV ra q p0 m1=p9:=⟨_,rfl⟩;have a1:wrap64 (p0-pu)=p9:=by rw [<-a9,<-L];rfl
 rw [a9];have ab:=fun u=>Co p0 pu u;rw [a1] at ab;have a7:=fun A u (hA:Rd u A (aA .i64 [mu,g])) ha=>I2 A 2 2 [mu,g] u hA rfl ap ha;rw [aR] at a7;obtain ⟨bh,bl,bo,bi,HP,HM,bb,b2⟩:=ak Z R ab a7 hp hm aG b8;clear Z R ab a7 hp hm b1 aG B N aR L a9 a1 wr wo wm a8 b5;go_enter func253,ntmps253;go_wp2_with fail;have hz:=NG w (.cells #[OH ra,OH I,OH q] 172);have D:aq w (w.alloc (.cells #[OH ra,OH I,OH q] 172)):=(NI _ w).alloc (NF _) _;obtain ⟨W0,b3⟩:∃W0,W0=w.alloc (.cells #[OH ra,OH I,OH q] 172):=⟨_,rfl⟩;rw [<-b3] at hz D ⊢;clear b3;have q1:=aw D p1;have q2:=aw D p2;obtain ⟨⟨y0,y1,y2⟩,yf⟩:=bx3 hz;have a0:=ay HP.o D;have a4:=ay HM.o D;have b9:=NE hz;obtain ⟨HZ,bs,bd,bz⟩:=ag hz D a0 a4;clear hz D a0 a4 p1 p2 f1 f2;have p:(fun u:Qd=>u.cell? (ar w.heap.size 1)=some (OH I)/\u.cell? (ar w.heap.size 2)=some (OH q)/\u.cell? (ar x i)=some (OH m0)) W0.drew:=⟨y1,y2,q2⟩;refine XA.g 12 (fun u:Qd=>u.cell? (ar w.heap.size 1)=some (OH I)/\u.cell? (ar w.heap.size 2)=some (OH q)/\u.cell? (ar x i)=some (OH m0)) ?_;refine XA.t ?_ [0,1,2,3,4,5,6,7,9] p ?_;refine XA.o 8 (fun K H=>?_);go_simp;refine (bh.o _).mono ?_;rintro e w1 ⟨rfl,v⟩;have b0:=NR (aw v p.1) (NR (aw v p.2.1) (aw v p.2.2));have ad:=aa ((NI W0.heap.size W0).drew.trans v);clear v p;dsimp only;refine H.out _ _ b0 (fun p=>?_);clear H K b0;refine XA.o 10 (fun K H=>?_);go_simp;refine H.out _ _ ⟨aI p.1 _,aI p.2.1 _,aI p.2.2 _⟩ (fun p=>?_);clear H K;refine XA.o 11 (fun K H=>?_);go_simp;refine (bi.o _ _ ?_ ?_).mono ?_
 ·exact dN _ [OH mu,OH g] 2 _ (by simp)
 ·intro a ha;injection ha with ha;subst ha;simp
 rintro e w2 ⟨rfl,v⟩;have av:=NR (aw v p.1) (NR (aw v p.2.1) (aw v p.2.2));have C:aq W0 w2:=(ad.o.alloc ad.o.size _).trans (v.mono (by have:=ad.o.size;simp;omega));have ao:=ay bd.o C;have B:=ay bz.o C;have bf:=aw C q1;have g1:=B.frozenAt i;have g2:=ao.frozenAt i;have b7:=(C.block _ b9).trans HZ.o;have bX:=C.size;obtain ⟨bI,bN,b4,bM⟩:=ag ao B C b7;clear ao B C v b7 p y0 y1 y2 yf q1 q2;dsimp only;refine H.out _ _ av (fun p=>?_);clear H K;have q3:=av.2.2;refine XA.e ?_;clear p av;simp only [Ob,Oc];go_wp2_with fail;have Q:Keep (fun j=>j=x) w2 (w2.setCell (ar x i) (OH m1)):=Keep.setCell (S:=fun j=>j=x) (Keep.refl _ _) (ar x i) (.inr rfl) _;have U:=ed bN.o i m1
 have a2:∀j,(Value.slice (some (ar y 0)) n cp).ownBlock=some j->¬j=x:=fun j hj e=>by
  have h1:y=j:=by simpa [Value.ownBlock] using hj
  exact b2.o ap
 have a3:∀j,(Value.slice (some (ar x 0)) n cm).ownBlock=some j->¬j=y:=fun j hj e=>by
  have h1:x=j:=by simpa [Value.ownBlock] using hj
  exact b2.o ap
 have Y:=Q.own bI.o a2;have aM:=aa a3;clear a2 a3;have O:=(Q.block _ (by have:=b4.o.size;omega) ap).trans bM.o;obtain ⟨V,hV⟩:∃V,V=w2.setCell (ar x i) (OH m1):=⟨_,rfl⟩;rw [<-hV] at Q U Y O ⊢;clear hV bf q3 g1 g2;have r1:=cH Y hi;have r2:=cH U hi;have a8:=kQ HM.o;rw [iQ,if_pos ⟨rfl,by omega⟩] at r2;rw [bb.o] at r1;obtain ⟨⟨y0,y1,y2⟩,yf⟩:=bx3 O;have bO:=NE O;obtain ⟨bw,bA,be,bV⟩:=ag Q U Y O;clear Q U Y O a8;have p:(fun u:Qd=>u.cell? (ar w.heap.size 0)=some (OH ra)/\u.cell? (ar w.heap.size 2)=some (OH q)/\u.cell? (ar y i)=some (OH p0)/\u.cell? (ar x i)=some (OH m1)) V.drew:=⟨y0,y2,r1,r2⟩;refine XA.g 13 (fun u:Qd=>u.cell? (ar w.heap.size 0)=some (OH ra)/\u.cell? (ar w.heap.size 2)=some (OH q)/\u.cell? (ar y i)=some (OH p0)/\u.cell? (ar x i)=some (OH m1)) ?_;refine XA.t ?_ [0,1,2,3,4,5,6,7,8,9,10] p ?_;refine XA.o 11 (fun K H=>?_);go_simp;refine (bl.o _).mono ?_;rintro e w3 ⟨rfl,J⟩;have a6:=NR (aw J p.1) (NR (aw J p.2.1) (NR (aw J p.2.2.1) (aw J p.2.2.2)));have T:aq V w3:=(NI V.heap.size V).drew.trans J;have a5:=ay be.o T;have b6:=ay bA.o T;have g2:=a5.frozenAt i;have q3:=a6.2.2.1;obtain ⟨bv,bn,bG⟩:=af T a5 b6;clear J T a5 b6 p;dsimp only;refine H.out _ _ a6 (fun p=>?_);clear H K a6;refine XA.o 12 (fun K H=>?_);go_simp;refine (bo.o _).mono ?_;rintro e w4 ⟨rfl,rfl⟩;dsimp only;refine H.out _ _ p (fun p=>?_);clear H K;refine XA.e ?_;clear p y0 y1 y2 yf r1 r2;simp only [Ob,Oc];go_wp2_with fail
 go_end0
 have aP:Keep (fun j=>j=y) w3 (w3.setCell (ar y i) (OH p9)):=Keep.setCell (S:=fun j=>j=y) (Keep.refl _ _) (ar y i) (.inr rfl) _;refine ⟨rfl,ed bn.o i p9,aP.own bG.o aM.o,?_⟩;have k1:Keep (fun j=>j=y\/j=x) w W0:=Keep.below bs.o;have k2:Keep (fun j=>j=y\/j=x) W0 w2:=Keep.below b4.o;have k3:Keep (fun j=>j=y\/j=x) w2 V:=bw.o.mono (fun _ _ h=>.inr h);have k4:Keep (fun j=>j=y\/j=x) V w3:=Keep.below bv.o;exact (((k1.trans k2).trans k3).trans k4).trans (aP.mono (fun _ _ h=>.inl h))
theorem vI (ra p q:Int) (base n lo m c1 c2 cg:Nat) (A B G:N_) (ps ms g:Qa) (w:Qd) (hp:w.ownsRow base 2 1 (.slice A n c1) n (aA .i64 ps)) (hm:w.ownsRow base 2 1 (.slice B n c2) n (aA .i64 ms)) (ad:∀i,(Value.slice A n c1).ownBlock=some i->(Value.slice B n c2).ownBlock≠some i) (hG:Rd w G (aA .i64 g)) (b1:g.length=m) (cr:lo+m<=n) (hn:n<=1048576) (ab:∀a,G=some a->(Value.slice A n c1).ownBlock≠some a.block) (b3:∀a,G=some a->(Value.slice B n c2).ownBlock≠some a.block) (wr: -9223372036854775808<=ra/\ra<=9223372036854775807) (wo: -9223372036854775808<=p/\p<=9223372036854775807) (wm:W64 ms):Calls prog 237 #[.agg #[OH ra,OH p,OH q],.agg #[.slice A n c1,.slice B n c2],.agg #[OH lo,OH ((lo+m:Nat):Int)],.slice G m cg] w fun e v=>e=.returned (.bool true)/\
   v.ownsRow base 2 1 (.slice A n c1) n (aA .i64 (apP ra p q ps ms g lo m))/\v.ownsRow base 2 1 (.slice B n c2) n (aA .i64 (apM p q ms g lo m))/\Keep (fun j=>(Value.slice A n c1).ownBlock=some j\/(Value.slice B n c2).ownBlock=some j) w v:=by
 have bd:=kQ hp;have b9:=kQ hm;have Z:=fun v=>DK lo (lo+m) v ap ap;rw [Nat.add_sub_cancel_left] at Z;obtain ⟨H,b5⟩:∃H,lo+m=H:=⟨_,rfl⟩;rw [b5] at Z ⊢;have cn:lo<=H:=ap;have cA:H<=n:=ap;have cL:((n:Int) != (n:Int))=false:=by simp
 have cx:((m:Int) != (m:Int))=false:=by simp
 have cs:¬((n:Int)<(H:Int)):=ap;have ct:¬((H:Int)<lo):=ap;have a3:=hp.lt;have a5:=hm.lt;obtain ⟨av,HP,HM,bV,HG,bI,bf,ao⟩:=ak Z hp hm ad hG b1 ab b3;obtain ⟨aR,b6,Wr,Wo,Wm,a0,a1⟩:=aj bd b9 wr wo wm a3 a5;clear Z hp hm ad hG b1 ab b3 bd b9 wr wo wm a3 a5 b5;go_enter func237,ntmps237;go_wp2_with fail;have a6:(((w.alloc (.cells #[OH ra,OH p,OH q] 172)).alloc (.cells #[.slice A n c1,.slice B n c2] 141)).alloc (.cells #[OH lo,OH H] 148)).heap.size=w.heap.size+3:=by simp
 have a8:aq w (((w.alloc (.cells #[OH ra,OH p,OH q] 172)).alloc (.cells #[.slice A n c1,.slice B n c2] 141)).alloc (.cells #[OH lo,OH H] 148)):=(((NI _ w).alloc (NF _) _).alloc (by simp) _).alloc (by simp;omega) _;have a7:=(NW ((w.alloc (.cells #[OH ra,OH p,OH q] 172)).alloc (.cells #[.slice A n c1,.slice B n c2] 141)) (.cells #[OH lo,OH H] 148) w.heap.size (by simp;omega)).trans ((NW (w.alloc (.cells #[OH ra,OH p,OH q] 172)) (.cells #[.slice A n c1,.slice B n c2] 141) w.heap.size (by simp)).trans (NG w _));have D:=NG (w.alloc (.cells #[OH ra,OH p,OH q] 172)) (.cells #[.slice A n c1,.slice B n c2] 141);rw [show (w.alloc (.cells #[OH ra,OH p,OH q] 172)).heap.size=w.heap.size+1 by simp] at D;have D:=(NW ((w.alloc (.cells #[OH ra,OH p,OH q] 172)).alloc (.cells #[.slice A n c1,.slice B n c2] 141)) (.cells #[OH lo,OH H] 148) (w.heap.size+1) (by simp)).trans D;have T:=NG ((w.alloc (.cells #[OH ra,OH p,OH q] 172)).alloc (.cells #[.slice A n c1,.slice B n c2] 141)) (.cells #[OH lo,OH H] 148);rw [show ((w.alloc (.cells #[OH ra,OH p,OH q] 172)).alloc (.cells #[.slice A n c1,.slice B n c2] 141)).heap.size=w.heap.size+1+1 by simp] at T;obtain ⟨W0,bi⟩:∃W0,W0=((w.alloc (.cells #[OH ra,OH p,OH q] 172)).alloc (.cells #[.slice A n c1,.slice B n c2] 141)).alloc (.cells #[OH lo,OH H] 148):=⟨_,rfl⟩;rw [<-bi] at a6 a8 a7 D T ⊢;obtain ⟨co,L,aG,b0,V⟩:=ah a6 a8 a7 D T;clear a6 a8 a7 D T bi;refine (av.o _).mono ?_;rintro e w1 ⟨rfl,k1⟩;have y:=(k1.block _ (NE V.o)).trans V.o;have c7:=NE y;obtain ⟨⟨x0,x1⟩,xf⟩:=bx2 y;have K1:=aa k1;clear k1 y;go_wp2_with fail;refine (av.o _).mono ?_;rintro e w2 ⟨rfl,k2⟩;have K2:=aa (K1.o.trans (k2.mono K1.o.size));clear k2 x0 x1 xf c7;have b8:=L.o.trans (K2.o.mono L.o.size);have bl:=ay (ay HP.o L.o) K2.o;have b4:=ay (ay HM.o L.o) K2.o;have bv:=(HG.o.below L.o).below K2.o;have I:=(K2.o.block _ (NE aG.o)).trans aG.o;have Q:=(K2.o.block _ (NE b0.o)).trans b0.o;have y:=(K2.o.block _ (NE V.o)).trans V.o;obtain ⟨bX,bN,cc,c8,bh,bb,bs⟩:=aj b8 bl b4 bv I Q y;clear b8 bl b4 bv I Q y;go_wp2_with fail
 go_loopw [46] (fun x wr=>∃k:Nat,k<=m/\x=OH k/\wr.ownsRow base 2 1 (.slice A n c1) n (aA .i64 (apP ra p q ps ms g lo k))/\wr.ownsRow base 2 1 (.slice B n c2) n (aA .i64 (apM p q ms g lo k))/\Keep (fun j=>(Value.slice A n c1).ownBlock=some j\/(Value.slice B n c2).ownBlock=some j) w2 wr) (fun x _=>m-(intOf x).toNat)
 ·exact ⟨0,NJ _,rfl,by rw [zC];exact bN.o,by rw [zD];exact cc.o,Keep.refl _ _⟩
 case round=>
  obtain ⟨k,hk,rfl,R,J,N⟩:=hrel;by_cases bO:k<m
  ·have hG:=N.rd c8.o (fun a ha=>by
    rintro (h | h)
    ·exact bf.o a ha h
    ·exact ao.o a ha h)
   obtain ⟨bG,oG,rfl,pg⟩:=hG.num (show k<g.length by rw [bI.o];exact bO);obtain ⟨gk,O⟩:∃gk,nth g k=gk:=⟨_,rfl⟩;rw [O] at pg
   have U:∀j,w.heap.size<=j->¬((Value.slice A n c1).ownBlock=some j\/(Value.slice B n c2).ownBlock=some j):=fun j hj=>by
    rintro (h | h)
    ·have:=(a0.o j h).2;omega
    ·have:=(a1.o j h).2;omega
   have I:=(N.block _ (NE bh.o) (U _ (NF _))).trans bh.o;have Q:=(N.block _ (NE bb.o) (U _ ap)).trans bb.o;have y:=(N.block _ (NE bs.o) (U _ ap)).trans bs.o;obtain ⟨Y,e1,b2,_,_⟩:=R.form ap;obtain ⟨gm,e2,be,_,_⟩:=J.form ap;simp only [Ou] at b2 be;obtain ⟨rfl,_,rfl⟩:=b2;obtain ⟨rfl,_,rfl⟩:=be;have a4:Y≠gm:=fun e=>bV.o Y rfl (by rw [e];rfl);have a9:=zO ra p q gk base n (lo+k) Y c1 gm c2 (apP ra p q ps ms g lo k) (apM p q ms g lo k) wr.drew (bW R 1) (bW J 1) a4 ap Wr.o Wo.o (xt Wm.o);rw [My ra p q ps ms g lo k (by have:=aR.o;omega),Mz p q ms g lo k (by have:=b6.o;omega),<-O,C7 ra p q ps ms g lo k (by have:=aR.o;omega),C9 p q ms g lo k (by have:=b6.o;omega),O] at a9;obtain ⟨⟨y0,y1,y2⟩,yf⟩:=bx3 I;obtain ⟨⟨z0,z1⟩,zf⟩:=bx2 Q;obtain ⟨⟨t0,t1⟩,tf⟩:=bx2 y;have cv:(k:Int)<m:=ap;have bM:IntKind.i64.wrap ((lo:Int)+(k:Int))=(lo:Int)+k:=NK _ ap;have cl:(0:Int)<=(lo:Int)+k:=ap;have cy:(lo:Int)+k<n:=ap;have bz:((lo:Int)+k).toNat=lo+k:=ap;obtain ⟨HK,c9,cw⟩:=af N a9 O;clear N a9 R J hG I Q y U O a4;go_wp2_with fail;have u:(fun v:Qd=>v.cell? (ar w.heap.size 0)=some (OH ra)/\v.cell? (ar w.heap.size 1)=some (OH p)/\v.cell? (ar w.heap.size 2)=some (OH q)/\v.cell? (ar (w.heap.size+1) 0)=some (.slice (some (ar Y 0)) n c1)/\v.cell? (ar (w.heap.size+1) 1)=some (.slice (some (ar gm 0)) n c2)/\v.cell? (ar (w.heap.size+1+1) 0)=some (OH lo)/\v.cell? (ar bG (oG+k))=some (OH gk)) wr.drew:=⟨y0,y1,y2,z0,z1,t0,pg⟩;have ci:Y<w.heap.size:=(a0.o Y rfl).2;have cj:gm<w.heap.size:=(a1.o gm rfl).2
   have a2:¬(bG=Y\/bG=gm):=by
    rintro (h | h)
    ·exact bf.o _ rfl (by rw [h];rfl)
    ·exact ao.o _ rfl (by rw [h];rfl)
   refine HA.g (fun v:Qd=>v.cell? (ar w.heap.size 0)=some (OH ra)/\v.cell? (ar w.heap.size 1)=some (OH p)/\v.cell? (ar w.heap.size 2)=some (OH q)/\v.cell? (ar (w.heap.size+1) 0)=some (.slice (some (ar Y 0)) n c1)/\v.cell? (ar (w.heap.size+1) 1)=some (.slice (some (ar gm 0)) n c2)/\v.cell? (ar (w.heap.size+1+1) 0)=some (OH lo)/\v.cell? (ar bG (oG+k))=some (OH gk)) ?_;refine HA.t ?_ [0,1,2,3,4,5,6,7,8,9,10,11,12,13,14,15,16,17,18] u ?_;clear bM bz;refine HA.o 19 (fun K N=>?_);go_simp;refine c9.o.mono ?_;rintro e w5 ⟨rfl,bo,aM,C⟩;have aP:=NR (C.cell u.1 (by simp;omega)) (NR (C.cell u.2.1 (by simp;omega)) (NR (C.cell u.2.2.1 (by simp;omega)) (NR (C.cell u.2.2.2.1 (by simp;omega)) (NR (C.cell u.2.2.2.2.1 (by simp;omega)) (NR (C.cell u.2.2.2.2.2.1 (by simp;omega)) (C.cell u.2.2.2.2.2.2 a2))))))
   have b7:Keep (fun j=>(Value.slice (some (ar Y 0)) n c1).ownBlock=some j\/(Value.slice (some (ar gm 0)) n c2).ownBlock=some j) w2 w5:=HK.o.trans ((Keep.refl _ wr).drew.trans (C.mono (fun j _ h=>by
    rcases h with rfl | rfl
    ·exact .inl rfl
    ·exact .inr rfl)))
   obtain ⟨cb,bA,cd⟩:=af bo aM b7;clear bo aM C b7 u a2;dsimp only;refine N.out _ _ aP (fun u=>?_);clear N K aP u y0 y1 y2 yf z0 z1 zf t0 t1 tf pg;refine HA.d ?_;go_wp2_with fail;go_roundw
   ·exact ⟨k+1,by omega,by go_num,cb.o,bA.o,cd.o⟩
   ·simp [intOf];omega
  ·obtain rfl:m=k:=ap;have bn:Keep (fun j=>(Value.slice A n c1).ownBlock=some j\/(Value.slice B n c2).ownBlock=some j) w wr:=(Keep.below bX.o).trans N;obtain ⟨bw,cf,c6⟩:=af R J bn;clear R J bn N;go_wp2_with fail;go_ret;exact ⟨rfl,bw.o,cf.o,c6.o⟩
theorem m6 {P:Program} {t e:Qf} {z:Value} {h:Nat} (T:dB P t e z 1 h) (w:Qd) (A:z.cells=#[z]) (n:Nat) (C:h*n<=281474976710656) (b3:n<=maxLen):
  ∃u,Sem.run P (Instr.makeSlice t (OH (n:Int)) (OH (n:Int))) w=.ok (.slice (some (ar w.heap.size 0)) n n) u/\u.ownsRow w.heap.size e 1 (.slice (some (ar w.heap.size 0)) n n) n (List.replicate n z)/\aq w u:=by
 obtain ⟨i,D,x,y,v⟩:=T.info;obtain ⟨u,p,B,o⟩:=run_make_full (P:=P) w w.heap.size t e i z 1 T.und D x y .i64 .i64 n (by rw [v];exact C) b3 (NF _);rw [A,Nat.mul_one,toList_madeCells_one] at B;exact ⟨u,p,B,⟨o.os,o.tape,o.output,o.size,fun k hk=>o.block k hk (by simp)⟩⟩
end Go.Proofs.YtgmajkppbhiopaaGreat
