/- No condition. -/
import Derived.Test.YtgmajkppbhiopaaGreatE04
import Derived.BigRegion
set_option linter.unusedSimpArgs false
set_option linter.unusedVariables false
set_option maxRecDepth 100000
set_option maxHeartbeats 4000000
namespace Go.Proofs.YtgmajkppbhiopaaGreat
open Go.RowKit
open Tryz
def jD (n:Nat) (i:Int):Prop:=0<=i/\i<n
instance (n:Nat) (i:Int):Decidable (jD n i):=by unfold jD;exact inferInstance
def Ay (l:List Ex) (h:List Int) (w:World) (e:Ending) (i:World):Prop:=aq w i/\
 (((∀k,k<h.length->jD l.length (nth h k))/\∃v,e=.returned (.tuple #[v,.bool true])/\iP w i (dK l h) h.length v)\/((¬∀k,k<h.length->jD l.length (nth h k))/\e=.returned (.tuple #[MP,.bool false])))
theorem zA (P c d:Nat) (A B:Option Addr) (l:List Ex) (u:List Int) (w:World) (hP:w.heap[P]?=some (.cells #[.slice A l.length c] 25 (0,0))) (h:dA rEx 2 w A l) (hl:l.length<=1048576) (hB:Rd w B (aA .i64 u)) (hi:u.length<=1048576):
  Calls prog 245 #[.slice B u.length d,.func (.func 246) #[] #[(au P)]] w (Ay l u w):=by
 obtain ⟨n,hn⟩:∃n,u.length=n:=⟨_,rfl⟩
 unfold Ay
 rw [hn] at hi ⊢
 obtain ⟨N,hN⟩:∃N,l.length=N:=⟨_,rfl⟩
 have T:=mJ l u
 have V:=fun k (hk:k<u.length)=>wJ l u hk
 rw [hn] at T V
 have ao:=hP
 rw [hN] at hl hP ⊢
 obtain ⟨H,Hn,HN,HB,HP,b1,b2,aG⟩:=ak h hn hN hB hP ao T V;clear h hn hN hB hP ao T V
 go_enter func245,ntmps245
 go_wp2_with fail
 go_loopw [6,13] (fun v i wr=>∃k:Nat,k<=n/\i=MO k/\iP w wr (dK l u) k v/\an (∀j,j<k->jD N (nth u j))) (fun _ i _=>n-(intOf i).toNat)
 case atStart=>exact ⟨0,LS _,rfl,iP.zero w _,aa fun j hj=>ap⟩
 case round=>
  obtain ⟨k,hk,rfl,L,Q⟩:=hrel
  obtain ⟨Al,cl,rfl⟩:=L.form
  by_cases R:k<n
  ·have hb:=L.b
   obtain ⟨b,o,rfl,p⟩:=(HB.o.below hb).num (show k<u.length by rw [Hn.o];exact R)
   obtain ⟨i,C⟩:∃i,nth u k=i:=⟨_,rfl⟩
   rw [C] at p
   have I:=(hb.block P (LN HP.o)).trans HP.o
   by_cases hg:jD N i
   ·obtain ⟨j,rfl⟩:∃j:Nat,i=(j:Int):=⟨i.toNat,by have:=hg.1;omega⟩
    have aR:j<N:=by have:=hg.2;omega
    have J:=aG.o k R
    rw [C,Int.toNat_natCast] at J
    have a7:j<l.length:=by rw [HN.o];exact aR
    obtain ⟨x,hx⟩:∃x,l[j]?=some x:=⟨_,Mq a7⟩
    have a1:l.getD j ([],[])=x:=by simp [hx]
    rw [a1] at J
    have y:=zl P c j A l x wr (by rw [HN.o];exact I) (H.o.below eU hb) hx
    unfold uH at y
    obtain ⟨Z,a2⟩:∃Z,x.1.length=Z:=⟨_,rfl⟩
    obtain ⟨Y,ad⟩:∃Y,x.2.length=Y:=⟨_,rfl⟩
    rw [a2,ad] at y
    obtain ⟨U,O,Hx,Hg,Hi⟩:=ah y L J hg C;clear y L hx a2 ad hb hg C J a1 I a7
    go_wp2_with fail
    refine U.o.mono ?_
    rintro e w3 ⟨B1,d1,B2,d2,rfl,ho,D⟩
    have a4:=(O.o.below D).below ((LR _ _).alloc (LO _) (.cells #[.slice B1 Z d1,.slice B2 Y d2] 91))
    have a3:=(ho.base (base':=w.heap.size) O.o.b.size).below ((LR _ _).alloc (LO _) (.cells #[.slice B1 Z d1,.slice B2 Y d2] 91))
    obtain ⟨aP,b0⟩:=ae a4 a3;clear a4 a3 ho D p
    obtain ⟨rows,h1,h2,h3,h4,h5⟩:=aP.o
    obtain ⟨R1,R2,R3,R4,R5⟩:=ah h1 h2 h3 h4 h5;clear h1 h2 h3 h4 h5;have ab:=aa (show (w3.alloc (.cells #[.slice B1 Z d1,.slice B2 Y d2] 91)).heap.size=w3.heap.size+1 by simp)
    go_wp2_with (at_builtin;refine aY GM _ rfl (.tmp 25) (.tmp 27) rfl w.heap.size (.slice Al k cl) k _ rfl R1.o [.slice B1 Z d1,.slice B2 Y d2] (congrArg (fun b:Nat=>Value.slice (some (ar b 0)) 1 1) ab.o.symm) rfl (by simp [Value.oneCell']) ap (by unfold maxLen;omega) R5.o.size ?_)
    intro g6 c6 w6 a0 a8 a9
    have av:=iP.push R1.o R2.o R3.o R4.o R5.o Hx.o b0.o a0 a8 a9
    have aM:=aa av;clear a0 a8 a9 av
    go_wp2_with fail
    go_roundw
    case rel=>exact ⟨k+1,by omega,by go_num,aM.o,aa (p:=∀j,j<k+1->jD N (nth u j)) fun t ht=>by
     rcases Ma t k with h | h
     ·exact Q.out t h
     ·obtain rfl:t=k:=ap
      rw [Hi.o];exact Hg.o⟩
    case measure=>simp [intOf];omega
   ·have a5:i<0\/(N:Int)<=i:=by unfold jD at hg;omega
    have y:=CZ P N c A i wr I a5
    obtain ⟨U,O,Hg,Hi⟩:=ag y L hg C;clear y L hb hg a5 C I
    go_wp2_with fail
    refine U.o.mono ?_
    rintro e w3 ⟨rfl,D⟩
    have a6:=aa (O.o.b.trans (D.mono O.o.b.size));clear D p
    go_wp2_with fail
    go_ret2
    exact ⟨a6.o.alloc a6.o.size _,.inr ⟨fun h=>Hg.o (by have:=h k R;rwa [Hi.o] at this),rfl⟩⟩
  ·obtain rfl:n=k:=ap
   have O:=aa L;clear L
   go_wp2_with fail
   go_ret2
   exact ⟨O.o.b,.inl ⟨Q.out,_,rfl,O.o⟩⟩
def fh (a b:Nat) (x:Ex):Prop:=x.1.length=a/\x.2.length=b
instance (a b:Nat) (x:Ex):Decidable (fh a b x):=by unfold fh;exact inferInstance
theorem zY (x y n m a b c d:Nat) (A B:Option Addr) (w:World) (h1:w.heap[x]?=some (.cells #[MO a] 3 (0,0))) (u:w.heap[y]?=some (.cells #[MO b] 3 (0,0))):
  Calls prog 116 #[.agg #[.slice A n c,.slice B m d],(au x),(au y)] w fun e C=>e=.returned (.bool (!decide (n=a/\m=b)))/\aq w C:=by
 obtain ⟨I,L⟩:=bx1 h1
 obtain ⟨H,D⟩:=bx1 u
 have l1:=LN h1
 have J:=LN u
 clear h1 u
 by_cases i:n=a
 ·by_cases p:m=b
  ·have o:((n:Int) != (a:Int))=false:=by rw [i];simp
   have v:((m:Int) != (b:Int))=false:=by rw [p];simp
   have h:(!decide (n=a/\m=b))=false:=by simp [i,p]
   rw [h]
   clear i p h
   go_enter func116,ntmps116
   go_wp2
   go_ret
   exact ⟨rfl,(LR _ w).alloc (LO _) _⟩
  ·have o:((n:Int) != (a:Int))=false:=by rw [i];simp
   have v:((m:Int) != (b:Int))=true:=by rw [bne_iff_ne];omega
   have h:(!decide (n=a/\m=b))=true:=by simp [p]
   rw [h]
   clear i p h
   go_enter func116,ntmps116
   go_wp2
   go_ret
   exact ⟨rfl,(LR _ w).alloc (LO _) _⟩
 ·have o:((n:Int) != (a:Int))=true:=by rw [bne_iff_ne];omega
  have h:(!decide (n=a/\m=b))=true:=by simp [i]
  rw [h]
  clear i h
  go_enter func116,ntmps116
  go_wp2
  go_ret
  exact ⟨rfl,(LR _ w).alloc (LO _) _⟩
def vG (l:List Ex) (a b:Nat) (w:World) (e:Ending) (h:World):Prop:=∃d:Int,e=.returned (MO d)/\ -1<=d/\d<=1048576/\(d<0↔∀x∈l,fh a b x)/\aq w h
theorem xF (Y Z a b c:Nat) (A:Option Addr) (l:List Ex) (w:World) (h1:w.heap[Y]?=some (.cells #[MO a] 3 (0,0))) (T:w.heap[Z]?=some (.cells #[MO b] 3 (0,0))) (h:dA rEx 2 w A l) (hl:l.length<=1048576):
  Calls prog 115 #[.slice A l.length c,.func (.func 116) #[] #[(au Y),(au Z)]] w (vG l a b w):=by
 unfold vG
 have N:=fun n m A c B d w' (k:aq w w')=>zY Y Z n m a b c d A B w' ((k.block _ (LN h1)).trans h1) ((k.block _ (LN T)).trans T)
 obtain ⟨n,hn⟩:∃n,l.length=n:=⟨_,rfl⟩
 rw [hn] at hl ⊢
 obtain ⟨H,Hn,U⟩:=af h hn N;clear h hn N h1 T
 go_enter func115,ntmps115
 go_wp2_with fail
 go_loopw [5,8] (fun _ i wr=>∃k:Nat,k<=n/\i=MO k/\an (∀j x,j<k->l[j]?=some x->fh a b x)/\aq w wr) (fun _ i _=>n-(intOf i).toNat)
 case atStart=>exact ⟨0,LS _,rfl,aa fun j x O=>ap,LR _ _⟩
 case round=>
  obtain ⟨k,hk,rfl,v,hb⟩:=hrel
  by_cases Q:k<n
  ·obtain ⟨x,I⟩:∃x,l[k]?=some x:=⟨_,Mq (by rw [Hn.o];exact Q)⟩
   obtain ⟨b',o,A1,c1,A2,c2,rfl,a0,p1,p2,r1,r2⟩:=iH (H.o.below eU hb) I
   have hc:=U.o x.1.length x.2.length A1 c1 A2 c2 wr hb
   by_cases J:fh a b x
   ·have L:(!decide (x.1.length=a/\x.2.length=b))=false:=by
     have:=J;unfold fh at this;simp [this.1,this.2]
    rw [L] at hc
    obtain ⟨V,R,Hf,C⟩:=ag hc I J hb;clear hc I J L r1 r2 hb
    go_wp2_with fail
    refine V.o.mono ?_
    rintro e w1 ⟨rfl,u⟩
    have D:=aa (C.o.trans (u.mono C.o.size));clear u p1 p2
    go_wp2_with fail
    go_roundw
    case rel=>exact ⟨k+1,by omega,by go_num,aa (p:=∀j x,j<k+1->l[j]?=some x->fh a b x) fun j y O hy=>by
     rcases Ma j k with h | h
     ·exact v.out j y h hy
     ·obtain rfl:j=k:=ap
      have:=R.o;rw [hy] at this;injection this with this;rw [this];exact Hf.o,D.o⟩
    case measure=>simp [intOf];omega
   ·have L:(!decide (x.1.length=a/\x.2.length=b))=true:=by
     have:=J;unfold fh at this;simp only [Bool.not_eq_true',MK];exact this
    rw [L] at hc
    obtain ⟨V,R,Hf,C⟩:=ag hc I J hb;clear hc I J L r1 r2 hb
    go_wp2_with fail
    refine V.o.mono ?_
    rintro e w1 ⟨rfl,u⟩
    have D:=aa (C.o.trans (u.mono C.o.size));clear u p1 p2
    go_wp2_with fail
    go_ret
    exact ⟨k,rfl,by omega,by omega,⟨fun h=>ap,fun h=>absurd (h x (List.mem_of_getElem? R.o)) Hf.o⟩,D.o⟩
  ·obtain rfl:n=k:=ap
   have C:=aa hb;clear hb
   go_wp2_with fail
   go_ret
   refine ⟨-1,rfl,by omega,by omega,⟨fun _ x I=>?_,fun _=>ap⟩,C.o⟩
   obtain ⟨j,O⟩:=List.getElem?_of_mem I
   exact v.out j x (by have:=(Mp.1 O).1;have:=Hn.o;omega) O
def pZ (l:List Ex) (a b:Nat) (w:World) (e:Ending) (h:World):Prop:=aq w h/\∃d:Int,((∀x∈l,fh a b x)/\e=.returned (.tuple #[MO d,.bool true]))\/((¬∀x∈l,fh a b x)/\e=.returned (.tuple #[MO d,.bool false]))
theorem zT (a b c:Nat) (A:Option Addr) (l:List Ex) (w:World) (h:dA rEx 2 w A l) (hl:l.length<=1048576):
  Calls prog 78 #[.slice A l.length c,MO a,MO b] w (pZ l a b w):=by
 have v:∀(B y:Obj),aq w ((w.alloc B).alloc y):=fun B y=>((LR _ w).alloc (LO _) _).alloc (by simp) _
 have u:=xF w.heap.size (w.heap.size+1) a b c A l ((w.alloc (.cells #[MO a] 3)).alloc (.cells #[MO b] 3)) ((L0 _ _ _ (by simp)).trans (LP w _))
  (by have:=LP (w.alloc (.cells #[MO a] 3)) (.cells #[MO b] 3);rwa [show (w.alloc (.cells #[MO a] 3)).heap.size=w.heap.size+1 by simp] at this) (h.below eU (v _ _)) hl
 obtain ⟨n,hn⟩:∃n,l.length=n:=⟨_,rfl⟩
 unfold vG at u
 unfold pZ
 rw [hn] at u ⊢
 obtain ⟨J,L⟩:=ae u v;clear u v h hn
 go_enter func78,ntmps78
 go_wp2_with fail
 refine J.o.mono ?_
 rintro e N ⟨d,rfl,D,C,p,hb⟩
 obtain ⟨x,i⟩:=ae ((L.o (.cells #[MO a] 3) (.cells #[MO b] 3)).trans (hb.mono (by simp;omega))) p;clear hb p
 by_cases I:d<0
 ·have H:decide (d<0)=true:=by simp;omega
  go_wp2_with fail
  all_goals
   go_ret2
   exact ⟨x.o,_,.inl ⟨i.o.1 I,rfl⟩⟩
 ·have H:decide (d<0)=false:=by simp;omega
  go_wp2_with fail
  all_goals
   go_ret2
   exact ⟨x.o,_,.inr ⟨fun h=>by have:=i.o.2 h;omega,rfl⟩⟩
def swp (p:List Int) (i j:Nat):List Int:=(p.set i (nth p j)).set j (nth p i)
theorem IK (p:List Int) (i j:Nat):(swp p i j).length=p.length:=by simp [swp]
theorem AB {p:List Int} {i j:Nat} (o:i<p.length) (h:j<p.length) (k:Nat):nth (swp p i j) k=if k=j then nth p i else if k=i then nth p j else nth p k:=by
 unfold swp
 rw [ix,ix,List.length_set]
 simp only [o,h,and_true]
theorem vK {p:List Int} {i j:Nat} (o:i<p.length) (h:j<p.length):(p.set j (nth p i)).set i (nth p j)=swp p i j:=by
 refine iU (by simp [swp]) fun k hk=>?_
 rw [AB o h,ix,ix,List.length_set]
 simp only [o,h,and_true]
 by_cases h1:k=i
 ·subst h1
  by_cases u:k=j
  ·subst u;simp
  ·simp [u]
 ·simp [h1]
def rW (n:Nat):List Int:=dB n fun k=>(k:Int)
theorem Gm (n:Nat):(rW n).length=n:=cC _ _
def gq (n:Nat) (d:Nat->Nat):Nat->List Int
 | 0=>rW n
 | k+1=>swp (gq n d k) (n-1-k) (d k)
theorem kr (n:Nat) (d:Nat->Nat) (k:Nat):(gq n d k).length=n:=by
 induction k with
 | zero=>exact Gm n
 | succ k ih=>rw [gq,IK,ih]
theorem Et {n:Nat} {d:Nat->Nat} (k:Nat) (p:∀j,j<k->d j<n-j) (hk:k<=n-1):∀i,i<n->0<=nth (gq n d k) i/\nth (gq n d k) i<n:=by
 induction k with
 | zero=>intro i o;unfold gq rW;rw [bS _ o];omega
 | succ k h=>
  have h:=h (fun j u=>p j ap) ap
  have h1:=p k ap
  intro i o
  rw [gq,AB (by rw [kr];omega) (by rw [kr];omega)]
  split
  ·exact h _ ap
  ·split
   ·exact h _ ap
   ·exact h _ o
def gK (l:List Int) (n i k:Nat):Nat:=(nth l (i+k)%((n-k:Nat):Int)).toNat
theorem sB (l:List Int) {n i k:Nat} (h:k<n):gK l n i k<n-k:=by
 unfold gK
 have h1:=Int.emod_nonneg (nth l (i+k)) (show ((n-k:Nat):Int)≠0 by omega)
 have o:=Int.emod_lt_of_pos (nth l (i+k)) (show (0:Int)<((n-k:Nat):Int) by omega)
 omega
theorem uu (l:List Int) {n i k:Nat} (h:k<n):(gK l n i k:Int)=nth l (i+k)%((n-k:Nat):Int):=by
 unfold gK
 have h1:=Int.emod_nonneg (nth l (i+k)) (show ((n-k:Nat):Int)≠0 by omega)
 omega
def fJ (l:List Int) (n i:Nat):List Int:=gq n (gK l n i) (n-1)
theorem jd (l:List Int) (n i:Nat):(fJ l n i).length=n:=kr _ _ _
theorem Fv (l:List Int) (n i:Nat):∀k,k<n->0<=nth (fJ l n i) k/\nth (fJ l n i) k<n:=Et _ (fun j h=>sB l ap) (LO _)
def iS (l:List Int) (n e:Nat):List (List Int):=(List.range e).map fun k=>fJ l n (k*(n-1))
theorem qp (l:List Int) (n e:Nat):(iS l n e).length=e:=by simp [iS]
theorem rH (l:List Int) (n:Nat) {e k:Nat} (h:k<e):(iS l n e)[k]?=some (fJ l n (k*(n-1))):=by simp [iS,h]
theorem Ge (n:Int) (w:World) (h:1<=n):Calls prog 177 #[MO n] w fun e i=>e=.returned (.bool false)/\w=i:=by
 have h1:¬n<1:=ap
 go_enter func177,ntmps177
 go_wp2
 go_ret
 exact ⟨dW (by first | rfl | (simp;omega) | (simp;done)),rfl⟩
theorem zv (A:Option Addr) (l:List Int) (c:Nat) (w:World) (hA:Rd w A (aA .i64 l)) (hl:l.length<=17592186043904) (hb:∀k,k<l.length->1<=nth l k):
  Calls prog 154 #[.slice A l.length c,.func (.func 177) #[] #[]] w fun e v=>e=.returned (MO (-1))/\w=v:=by
 obtain ⟨n,hn⟩:∃n,l.length=n:=⟨_,rfl⟩
 have hw:=fun k (hk:k<l.length)=>Ge (nth l k) w (hb k hk)
 rw [hn] at hl hw ⊢
 obtain ⟨HA,y,x⟩:=af hA hn hw;clear hA hn hw hb
 go_enter func154,ntmps154
 go_wp2_with fail
 go_loop [5,8] (fun _ i=>∃k:Nat,k<=n/\i=MO k) (fun _ i=>n-(intOf i).toNat)
 case atStart=>exact ⟨0,LS _,rfl⟩
 case round=>
  obtain ⟨k,hk,rfl⟩:=hrel
  by_cases h:k<n
  ·obtain ⟨b,o,rfl,p⟩:=HA.o.num (show k<l.length by rw [y.o];exact h)
   have hw:=x.o k h
   have u:=aa hw;clear hw
   go_wp2_with fail
   refine u.o.mono ?_
   rintro e v ⟨rfl,rfl⟩
   go_wp2_with fail
   go_round
   case rel=>exact ⟨k+1,by omega,by go_num⟩
   case measure=>simp [intOf];omega
  ·obtain rfl:k=n:=ap
   go_wp2_with fail
   go_ret
   exact ⟨rfl,rfl⟩
theorem vm (A:Option Addr) (l:List Int) (c:Nat) (w:World) (hA:Rd w A (aA .i64 l)) (hl:l.length<=17592186043904) (hb:∀k,k<l.length->1<=nth l k):
  Calls prog 113 #[.slice A l.length c,.func (.func 177) #[] #[]] w fun e h=>e=.returned (.bool false)/\w=h:=by
 have i:=zv A l c w hA hl hb
 have p:=aa i;clear i hA hb
 go_enter func113,ntmps113
 go_wp2_with fail
 refine p.o.mono ?_
 rintro e h ⟨rfl,rfl⟩
 go_wp2
 go_ret
 exact ⟨rfl,rfl⟩
theorem DD (n:Nat) (w:World) (hn:n<=1048576):
  Calls prog 157 #[MO n] w fun e H=>∃v,e=.returned v/\H.ownsRow w.heap.size 3 1 v n (aA .i64 (rW n))/\aq w H:=by
 go_enter func157,ntmps157
 go_wp2_with fail
 go_loopw [3,6] (fun v i wr=>∃k:Nat,k<=n/\i=MO k/\wr.ownsRow w.heap.size 3 1 v k (aA .i64 (rW k))/\aq w wr) (fun _ i _=>n-(intOf i).toNat)
 case atStart=>exact ⟨0,LS _,rfl,LZ _ _ _ _,LR _ _⟩
 case round=>
  obtain ⟨k,hk,rfl,h,hb⟩:=hrel
  by_cases I:k<n
  ·obtain ⟨L,J,rfl,_⟩:=aD h
   obtain ⟨p,A⟩:=ae h hb;clear h hb
   go_wp2_with (at_builtin;refine aY iA _ rfl (.tmp 9) (.tmp 11) rfl w.heap.size (.slice L k J) k _ rfl p.o [MO (k:Int)] rfl rfl (cG .i64 [_]) ap (by unfold maxLen;omega) A.o.size ?_)
   intro N O Q x y D
   have u:=A.o.trans y
   obtain ⟨C,B⟩:=ae x u;clear x y D u
   go_wp2_with fail
   go_roundw
   case rel=>
    refine ⟨k+1,by omega,by go_num,?_,B.o⟩
    have:rW (k+1)=rW k++[(k:Int)]:=gY _ _
    rw [this,cQ];exact C.o
   case measure=>simp [intOf];omega
  ·obtain rfl:k=n:=ap
   obtain ⟨p,A⟩:=ae h hb;clear h hb
   go_wp2_with fail
   go_ret
   exact ⟨_,rfl,p.o,A.o⟩
theorem Gd (b c i:Nat) (A:Option Addr) (l:List Int) (B:Option Addr) (bs:List Int) (d:Nat) (w:World) (h:cT w b A c l i) (hi:i+bs.length<=l.length) (hl:l.length<=1048576) (hu:U64 l)
  (hB:Rd w B (aA .i64 bs)) (a0:∀a,B=some a->a.block≠b) (J:∀k,k<bs.length->1<=nth bs k/\nth bs k<=1048576):
  Calls prog 156 #[(au b),.slice B bs.length d] w fun e O=>∃v,e=.returned (.tuple #[v,.bool true])/\O.ownsRow w.heap.size 3 1 v bs.length (aA .i64 (dB bs.length fun k=>nth l (i+k)%nth bs k))/\cT O b A c l (i+bs.length)/\Keep (fun j=>j=b) w O:=by
 have U:=qh b c i A l w h ap ap
 have Q:=fun n=>vm B bs d (w.drewN n) (hB.drewN n) ap (fun k hk=>(J k hk).1)
 have C:=fun j m O (h:cT O b A c l j) (hj:j<l.length)=>vN b c j m A l O h hj ap hu
 obtain ⟨n,hn⟩:∃n,bs.length=n:=⟨_,rfl⟩
 rw [hn] at hi Q J ⊢
 obtain ⟨N,hN⟩:∃N,l.length=N:=⟨_,rfl⟩
 rw [hN] at hi hl U C
 have ad:=h.lt
 obtain ⟨ab,a9,a8,H,HB,Hn,aR,aM⟩:=ak U Q C h hB hn J a0;clear U Q C h hB hn J hu a0 hN
 have hq:decide (((N-i:Nat):Int)<(n:Int))=false:=by simp;omega
 have b2:decide (N-i<n)=false:=by simp;omega
 go_enter func156,ntmps156
 go_wp2_with fail
 refine ab.o.mono ?_
 rintro e O ⟨rfl,a,rfl⟩
 go_wp2_with fail
 refine (a9.o a).mono ?_
 rintro e O ⟨rfl,rfl⟩
 clear hq b2
 go_wp2_with fail
 go_loopw [6,26] (fun v x wr=>∃k:Nat,k<=n/\x=MO k/\wr.ownsRow w.heap.size 3 1 v k (aA .i64 (dB k fun k=>nth l (i+k)%nth bs k))/\cT wr b A c l (i+k)/\Keep (fun j=>j=b) w wr) (fun _ x _=>n-(intOf x).toNat)
 case atStart=>exact ⟨0,LS _,rfl,LZ _ _ _ _,H.o.drewN a,(Keep.refl _ _).drewN a⟩
 case round=>
  obtain ⟨k,hk,rfl,u,hS,V⟩:=hrel
  by_cases Z:k<n
  ·obtain ⟨Al,cl,rfl,_⟩:=aD u
   have a4:=V.rd HB.o (fun a ha e=>aM.o a ha e)
   obtain ⟨bB,oB,rfl,p⟩:=a4.num (show k<bs.length by rw [Hn.o];exact Z)
   have b1:=aR.o k Z
   obtain ⟨m,hm⟩:∃m:Nat,nth bs k=(m:Int):=⟨(nth bs k).toNat,by omega⟩
   rw [hm] at p b1
   have C:=a8.o (i+k) m wr hS ap ap ap
   obtain ⟨y,hy⟩:∃y,nth l (i+k)%(m:Int)=y:=⟨_,rfl⟩
   rw [hy] at C
   have b4:=V.size
   have a6:=u.lt
   obtain ⟨D,HK,Hm,a5,Hy,av⟩:=ai u V hm C hy a6;clear u V hS a4 hm C hy a6
   go_wp2_with fail
   refine a5.o.mono ?_
   rintro e w1 ⟨rfl,a3,L⟩
   have I:=L.own D.o (fun x hx e=>by have:=(av.o x hx).1;omega)
   have b3:=L.size
   obtain ⟨ao,aG,T⟩:=af a3 L I;clear a3 L I
   go_wp2_with (at_builtin;refine aY iA _ rfl (.tmp 36) (.tmp 38) rfl w.heap.size (.slice Al k cl) k _ rfl T.o [MO y] rfl rfl (cG .i64 [_]) ap (by unfold maxLen;omega) ap ?_)
   intro g6 c6 w6 Y R b0
   obtain ⟨aP,a7⟩:=ae Y R
   have a1:=(HK.o.trans aG.o).below2 R
   have a2:=aa a1;clear Y R b0 a1
   go_wp2_with fail
   go_roundw
   case rel=>
    refine ⟨k+1,by omega,by go_num,?_,?_,a2.o⟩
    ·rw [gY,cQ,Hm.o,Hy.o];exact aP.o
    ·exact ⟨(a7.o.block b ad).trans ao.o.blk,a2.o.rd H.o.rd (fun a ha e=>H.o.ne a ha e),H.o.ne⟩
   case measure=>simp [intOf];omega
  ·obtain rfl:k=n:=ap
   obtain ⟨D,HK,HS⟩:=af u V hS;clear u V hS
   go_wp2_with fail
   go_ret2
   exact ⟨_,rfl,D.o,HS.o,HK.o⟩
theorem jF {w:World} {p q:Addr} {x v:Value} (h:w.cell? q=some v):∃v',(w.setCell p x).cell? q=some v':=by
 by_cases e:p=q
 ·subst e;exact ⟨x,World.cell?_setCell_same w p x h⟩
 ·exact ⟨v,(World.cell?_setCell_other w p q x e).trans h⟩
theorem fR {w:World} {base size n c m:Nat} {e:TypeId} {A:Option Addr} {xs:List Value} (h:w.ownsRow base e size (.slice A n c) m xs):∀a,A=some a->base<=a.block/\a.block<w.heap.size:=fun a p=>by
 subst p
 rcases h.2 with ⟨hn,_⟩ | ⟨g,cap,o,i,_⟩
 ·cases hn
 ·simp only [MC,Option.some.injEq] at i
  obtain ⟨rfl,_,_⟩:=i
  exact h.lt g rfl
theorem Ei (P g n c base i j:Nat) (p:List Int) (w:World) (hP:w.heap[P]?=some (.cells #[.slice (some (ar g 0)) n c] 22 (0,0))) (h:w.ownsRow base 3 1 (.slice (some (ar g 0)) n c) n (aA .i64 p)) (T:i<n) (V:j<n) (hn:n<=1048576):
  Calls prog 158 #[MO i,MO j,(au P)] w fun e B=>e=.returned (.tuple #[])/\B.ownsRow base 3 1 (.slice (some (ar g 0)) n c) n (aA .i64 (swp p i j))/\Keep (fun k=>k=g) w B:=by
 have y:=jX h
 have O:=cE h T
 have D:=cE h V
 have Z:=h.frozenAt i
 have f2:=h.frozenAt j
 have v:=vK (p:=p) (i:=i) (j:=j) ap ap
 obtain ⟨A,Y⟩:=bx1 hP
 have R:(i:Int)<n:=ap
 have N:(j:Int)<n:=ap
 have u:g≠P:=fun e=>ax hP (by decide) h (by rw [<-e];rfl)
 have L:=(World.cell?_setCell_other w (ar g i) (ar P 0) (MO (nth p j)) (by simp [u])).trans A
 have C:=(World.cell?_setCell_other w (ar g j) (ar P 0) (MO (nth p i)) (by simp [u])).trans A
 obtain ⟨v1,H⟩:=jF (w:=w) (p:=(ar g i)) (x:=MO (nth p j)) (q:=(ar g j)) D
 obtain ⟨v2,I⟩:=jF (w:=w) (p:=(ar g j)) (x:=MO (nth p i)) (q:=(ar g i)) O
 obtain ⟨Q,U,J⟩:=af h y v;clear h y hP v
 go_enter func158,ntmps158
 go_wp2_with fail
 go_region
 all_goals go_wp2_with fail
 all_goals
  go_end0
  refine ⟨rfl,?_,?_⟩
 ·exact bT (dS (dS Q.o i _) j _) 1
 ·exact (Keep.setCell (S:=fun k=>k=g) (Keep.setCell (S:=fun k=>k=g) (Keep.refl _ w) (ar g i) (.inr rfl) _) (ar g j) (.inr rfl) _).drew
theorem vS (n b c i:Nat) (A:Option Addr) (l:List Int) (w:World) (h:cT w b A c l i) (hn:1<=n) (b3:n<=1048576) (hi:i+(n-1)<=l.length) (hl:l.length<=1048576) (hu:U64 l):
  Calls prog 122 #[MO n,(au b)] w fun e O=>∃v,e=.returned (.tuple #[v,.bool true])/\O.ownsRow w.heap.size 3 1 v n (aA .i64 (fJ l n i))/\cT O b A c l (i+(n-1))/\Keep (fun j=>j=b) w O:=by
 obtain ⟨m,hm⟩:∃m,n-1=m:=⟨_,rfl⟩
 rw [hm] at hi ⊢
 have b4:fJ l n i=gq n (gK l n i) m:=by unfold fJ;rw [hm]
 rw [b4]
 have c8:m<n:=ap
 have bV:n<=m+1:=ap
 clear hm b4
 have Q:=fun B d O (h:cT O b A c l i) (hB:Rd O B (aA .i64 (dB m fun k=>((n-k:Nat):Int)))) I=>Gd b c i A l B (dB m fun k=>((n-k:Nat):Int)) d O h (by rw [cC];exact hi) hl hu hB I (fun k hk=>by rw [cC] at hk;rw [bS _ hk];omega)
 simp only [cC] at Q
 have he:(dB m fun k=>nth l (i+k)%nth (dB m fun k=>((n-k:Nat):Int)) k)=dB m fun k=>(gK l n i k:Int):=eK fun k hk=>by rw [bS _ hk,uu l ap]
 rw [he] at Q
 have aP:=fun O=>DD n O b3
 have c9:=h.lt
 obtain ⟨bM,a9,H⟩:=af Q aP h;clear Q he aP h hu
 go_enter func122,ntmps122
 go_wp2_with fail
 go_loopw [6,7] (fun v x wr=>∃k:Nat,k<=m/\x=MO ((n:Int)-k)/\wr.ownsRow w.heap.size 3 1 v k (aA .i64 (dB k fun k=>((n-k:Nat):Int)))/\aq w wr) (fun _ x _=>(intOf x).toNat)
 case atStart=>exact ⟨0,LS _,by go_num,LZ _ _ _ _,LR _ _⟩
 case round=>
  obtain ⟨k,hk,rfl,u,hb⟩:=hrel
  by_cases Y:k<m
  ·obtain ⟨Al,cl,rfl,_⟩:=aD u
   obtain ⟨D,Hb⟩:=ae u hb;clear u hb
   go_wp2_with (at_builtin;refine aY iA _ rfl (.tmp 29) (.tmp 31) rfl w.heap.size (.slice Al k cl) k _ rfl D.o [MO ((n:Int)-k)] rfl rfl (cG .i64 [_]) ap (by unfold maxLen;omega) Hb.o.size ?_)
   intro g6 c6 w6 ao aG bz
   have T:=Hb.o.trans aG
   obtain ⟨bw,bd⟩:=ae ao T;clear ao aG bz T
   go_wp2_with fail
   go_roundw
   case rel=>
    refine ⟨k+1,by omega,by go_num,?_,bd.o⟩
    rw [gY,cQ,show ((n-k:Nat):Int)=(n:Int)-k by omega];exact bw.o
   case measure=>simp [intOf];omega
  ·obtain rfl:m=k:=ap
   obtain ⟨Al,cl,rfl,_⟩:=aD u
   have I:∀a,Al=some a->a.block≠b:=fun a ha e=>by
    subst ha
    have:=fR u a rfl
    omega
   have b5:=bM.o Al cl wr (H.o.below hb) (Rd.own u) I
   obtain ⟨bv,Hb⟩:=ae b5 hb;clear u hb b5 I
   obtain ⟨wq,rfl⟩:∃wq:World,wq=wr:=⟨_,rfl⟩
   go_wp2_with fail
   refine bv.o.mono ?_
   rintro e w1 ⟨v1,rfl,N,b2,U⟩
   obtain ⟨A1,c1,rfl,_⟩:=aD N
   have a3:=fR N
   have a7:=Rd.own N
   have cb:=U.size
   have Z:=(Keep.below (S:=fun j=>j=b) Hb.o).trans U
   have c7:=Z.size
   obtain ⟨b6,b7,bb,b8⟩:=ag b2 Z a7 a3;clear b2 U a7 N a3 Z
   go_wp2_with fail
   refine (a9.o w1).mono ?_
   rintro e w2 ⟨v2,rfl,L,a1⟩
   obtain ⟨g,c2,rfl,_⟩:=L.form hn
   have b9:=a1.size
   have bX:=L.lt g rfl
   have hP:=LP w2 (.cells #[.slice (some (ar g 0)) n c2] 22)
   have V:=a1.alloc b9 (.cells #[.slice (some (ar g 0)) n c2] 22)
   have b0:=L.alloc (.cells #[.slice (some (ar g 0)) n c2] 22)
   have ad:=bb.o.below V
   obtain ⟨HP,av,a8,aR⟩:=ag hP V b0 ad;clear hP V b0 ad L a1
   go_wp2_with fail
   obtain ⟨R,C⟩:∃R,R=w2.alloc (.cells #[.slice (some (ar g 0)) n c2] 22):=⟨_,rfl⟩
   have bO:w2.heap.size<R.heap.size:=by rw [C];simp
   have bf:an (R.heap[w2.heap.size]?=some (.cells #[.slice (some (ar g 0)) n c2] 22 (0,0))):=aa (by rw [C];exact HP.o)
   have aM:an (aq w1 R):=aa (by rw [C];exact av.o)
   have bn:an (R.ownsRow w1.heap.size 3 1 (.slice (some (ar g 0)) n c2) n (aA .i64 (rW n))):=aa (by rw [C];exact a8.o)
   have bN:an (Rd R A1 (aA .i64 (dB m fun k=>(gK l n i k:Int)))):=aa (by rw [C];exact aR.o)
   rw [<-C]
   clear HP av a8 aR C
   go_loopw [46] (fun x wr=>∃k:Nat,k<=m/\x=MO k/\wr.heap[w2.heap.size]?=some (.cells #[.slice (some (ar g 0)) n c2] 22 (0,0))/\wr.ownsRow w1.heap.size 3 1 (.slice (some (ar g 0)) n c2) n (aA .i64 (gq n (gK l n i) k))/\Keep (fun j=>j=g) R wr) (fun x _=>m-(intOf x).toNat)
   case atStart=>exact ⟨0,LS _,rfl,bf.out,bn.out,Keep.refl _ _⟩
   case round=>
    obtain ⟨k,hk,rfl,hP,u,hK⟩:=hrel
    by_cases Y:k<m
    ·have hr:=hK.rd bN.out (fun a ha e=>by have:=(b8.o a ha).2;omega)
     obtain ⟨bA,oA,rfl,p⟩:=hr.num (show k<_ by rw [cC];exact Y)
     rw [bS _ Y] at p
     have bh:=sB l (n:=n) (i:=i) (k:=k) ap
     have y:=Ei w2.heap.size g n c2 w1.heap.size (n-1-k) (gK l n i k) (gq n (gK l n i) k) wr hP u ap ap b3
     rw [show ((n-1-k:Nat):Int)=(n:Int)-1-k by omega] at y
     have bi:=LN hP
     obtain ⟨a4,HP,HK⟩:=af y hP hK;clear y hP u hK hr
     obtain ⟨dk,J⟩:∃dk,gK l n i k=dk:=⟨_,rfl⟩
     rw [J] at p
     have y:=a4.o
     rw [J] at y bh
     obtain ⟨ab,be⟩:=ae y J;clear a4 y J
     go_wp2_with fail
     refine ab.o.mono ?_
     rintro e w5 ⟨rfl,a5,a0⟩
     have a6:=(a0.block _ bi ap).trans HP.o
     obtain ⟨bI,bs,bG⟩:=af a6 a5 (HK.o.trans a0);clear a6 a5 a0 p
     go_wp2_with fail
     go_roundw
     case rel=>
      refine ⟨k+1,by omega,by go_num,bI.o,?_,bG.o⟩
      rw [gq,be.o];exact bs.o
     case measure=>simp [intOf];omega
    ·obtain rfl:m=k:=ap
     obtain ⟨x0,xf⟩:=bx1 hP
     have a2:Keep (fun j=>j=b) w wr:=b7.o.below2 ((aM.out.mono ap).trans (hK.toBelow ap (fun j hj=>ap)))
     have b1:cT wr b A c l (i+m):=⟨(hK.block b ap ap).trans ((aM.out.block b ap).trans b6.o.blk),a2.rd H.o.rd (fun a ha e=>H.o.ne a ha e),H.o.ne⟩
     obtain ⟨bl,bo,D⟩:=af a2 b1 (aE (base':=w.heap.size) u ap);clear a2 b1 u hK hP
     go_wp2_with fail
     go_ret2
     exact ⟨_,rfl,D.o,bo.o,bl.o⟩
theorem xI:dt prog 126 22 (MP) 1 24:=⟨underlying126,info_parts (by kernel_rfl),rfl,by decide⟩
def JK (S n b c i k base:Nat) (A:Option Addr) (l:List Int) (u x y:Value) (vs:List Value) (w:World) (e:Ending) (h:World):Prop:=
 e=.returned (.bool true)/\∃A1 c1 p o,h.heap[S]?=some (.cells #[u,x,y,.slice p (k+1) o] 218 (0,0))/\
  h.ownsRow base 22 1 (.slice p (k+1) o) (k+1) (vs++[.slice A1 n c1])/\n<=c1/\h.ownsRow base 3 1 (.slice A1 n c1) n (aA .i64 (fJ l n i))/\
  h.heap[b]?=some (.cells #[.slice A l.length c,MO ((i+(n-1):Nat):Int)] 270 (0,0))/\
  (∀base' m v xs,w.ownsRow base' 3 1 v m xs->h.ownsRow base' 3 1 v m xs)/\Keep (fun j=>j=b\/j=S\/base<=j) w h
theorem DI (N P1 P2 S n b c i k base:Nat) (A:Option Addr) (l:List Int) (Ao:Option Addr) (co:Nat) (x0 x1 x2:Value) (vs:List Value) (w:World)
  (hN:w.heap[N]?=some (.cells #[MO n] 3 (0,0))) (aM:w.heap[P1]?=some (.cells #[(au b)] 219 (0,0))) (L:w.heap[P2]?=some (.cells #[(au S)] 162 (0,0)))
  (hS:w.heap[S]?=some (.cells #[x0,x1,x2,.slice Ao k co] 218 (0,0))) (h:cT w b A c l i) (a2:w.ownsRow base 22 1 (.slice Ao k co) k vs) (a0:base<=w.heap.size)
  (hk:k<=1048576) (hn:1<=n) (bv:n<=1048576) (hi:i+(n-1)<=l.length) (hl:l.length<=1048576) (hu:U64 l):
  Calls prog 121 #[(au N),(au P1),(au P2)] w (JK S n b c i k base A l x0 x1 x2 vs w):=by
 have b2:=vS n b c i A l w h hn bv hi hl hu
 have aG:b≠S:=fun e=>by
  have h1:=h.blk;rw [e,hS] at h1;simp at h1
 have aR:b≠P2:=fun e=>by
  have h1:=h.blk;rw [e,L] at h1;simp at h1
 have a9:∀j,(Value.slice Ao k co).ownBlock=some j->j≠b:=fun j I e=>ax h.blk (by decide) a2 (by rw [<-e,I])
 have R:∀base' m v xs,w.ownsRow base' 3 1 v m xs->∀j,v.ownBlock=some j->j≠b:=fun base' m v xs hr j I e=>ax h.blk (by decide) hr (by rw [<-e,I])
 obtain ⟨p0,pf⟩:=bx1 hN
 obtain ⟨q0,qf⟩:=bx1 aM
 have b6:=LN L
 have bb:=LN hS
 obtain ⟨be,b8,HS,bl,bh,a7,ao,bd⟩:=ak b2 L hS a2 a9 R aG aR;clear b2 L hS a2 a9 R aG aR hN aM h hu
 go_enter func121,ntmps121
 go_wp2_with fail
 refine be.o.mono ?_
 rintro e w1 ⟨v1,rfl,a3,b0,y⟩
 obtain ⟨A1,c1,rfl,b3⟩:=aD a3
 have Z:=(y.block P2 b6 (fun e=>bd.o e.symm)).trans b8.o
 have Y:=(y.block S bb (fun e=>ao.o e.symm)).trans HS.o
 have U:=y.own bl.o (fun j I e=>bh.o j I e)
 have bI:=y.size
 obtain ⟨t0,tf⟩:=bx1 Z
 obtain ⟨⟨y0,y1,y2,y3⟩,yf⟩:=bx4 Y
 obtain ⟨bo,b5,D,bs,b9,u,bz⟩:=aj a3 b0 y Z Y U b3;clear a3 b0 y Z Y U b3 p0 pf q0 qf
 go_wp2_with fail
 have B:(fun w':World=>w'.cell? (ar P2 0)=some ((au S))/\w'.cell? (ar S 3)=some (.slice Ao k co)) w1.drew:=⟨t0,y3⟩
 refine XA.g 8 (fun w':World=>w'.cell? (ar P2 0)=some ((au S))/\w'.cell? (ar S 3)=some (.slice Ao k co)) ?_
 refine XA.t ?_ [0,1,2,3,4,5] B ?_
 refine XA.o 6 (fun K hK=>?_)
 go_simp
 refine hK.out _ _ ⟨aH B.1 _,aH B.2 _⟩ (fun B=>?_)
 clear hK K
 refine XA.o 7 (fun K hK=>?_)
 refine bR xI (.tmp 16) (.tmp 18) rfl rfl base (.slice Ao k co) k vs rfl (bT (u.o.alloc _) 1) (some (ar w1.heap.size 0)) 1 1 [.slice A1 n c1] rfl (dD w1 _ _ _ rfl) rfl (by simp [Value.oneCell']) ap (by unfold maxLen;omega) (by simp;omega) ?_
 intro A7 c7 O ab b1 x _
 have x:=oY x
 have J:=dM (o:=.cells #[.slice A1 n c1] 22 (0,0)) b9.o (by decide) u.o x
 have av:=dM (o:=.cells #[.slice A1 n c1] 22 (0,0)) bs.o (by decide) u.o x
 have T:=dM (o:=.cells #[.slice A1 n c1] 22 (0,0)) b5.o.blk (by decide) u.o x
 have i0:=LQ O _ 0 _ _ _ av
 have i3:=LQ O _ 3 _ _ _ J
 have bG:=LX O _ 3 _ _ J
 obtain ⟨ad,a4,b4,C,aP⟩:=ah ab J x b1 T;clear ab J x b1 av T
 dsimp only
 refine hK.out _ _ ⟨i0,i3⟩ (fun B=>?_)
 clear hK K B
 refine XA.e ?_
 simp only [Mm,Mn]
 go_wp2_with fail
 have a5:=MM O S 3 _ _ (.slice A7 (k+1) c7) a4.o
 have p:Keep (fun j=>j=S) O (O.setCell (ar S 3) (.slice A7 (k+1) c7)):=Keep.setCell (S:=fun j=>j=S) (Keep.refl _ _) (ar S 3) (.inr rfl) _
 have a6:=p.own ad.o (fun j I e=>ax a4.o (by decide) ad.o (by rw [I,e]))
 have a8:=(p.block b (by have:=LN aP.o;omega) (fun e=>ao.o e)).trans aP.o
 have V:∀base' m v xs,w1.ownsRow base' 3 1 v m xs->(O.setCell (ar S 3) (.slice A7 (k+1) c7)).ownsRow base' 3 1 v m xs:=fun base' m v xs h=>wO h u.o b4.o a4.o (by decide) (by decide)
 have H:Keep (fun j=>j=b\/j=S\/base<=j) w (O.setCell (ar S 3) (.slice A7 (k+1) c7)):=by
  refine ⟨p.os.trans (C.o.os.trans D.o.os),p.tape.trans (C.o.tape.trans D.o.tape),p.output.trans (C.o.output.trans D.o.output),?_,fun j I hn=>?_⟩
  ·have:=C.o.size;have:=p.size;simp at *;omega
  ·have bf:¬j=b:=fun e=>hn (.inl e)
   have bn:¬j=S:=fun e=>hn (.inr (.inl e))
   have bA:j<base:=by rcases Ma j base with h | h;exact h;exact absurd (.inr (.inr h)) hn
   have h1:=D.o.block j I bf
   have h2:=C.o.block j bA
   have h3:=p.block j (by have:=C.o.size;simp at this;omega) bn
   refine h3.trans (h2.trans (Eq.trans ?_ h1))
   exact L0 w1 _ j ap
 obtain ⟨bi,bw,b7,Q,a1⟩:=ah a5 a6 a8 V H;clear a5 p a6 a8 V H
 go_ret
 refine ⟨rfl,A1,c1,A7,c7,bi.o,bw.o,bz.o,?_,b7.o,fun base' m v xs hr=>Q.o _ _ _ _ (D.o.own hr (fun j I e=>a7.o _ _ _ _ hr j I e)),a1.o⟩
 exact Q.o _ _ _ _ (aE bo.o a0)
def epN (n batch steps:Nat):Nat:=du steps (n/batch)
def fO (w:World) (S n batch steps:Nat) (l:List Int):Prop:=
 ∃h u o v vs,w.heap[S]?=some (.cells #[MO batch,MO steps,.slice h (n/batch) u,.slice o (epN n batch steps) v] 218 (0,0))/\
  Rd w h (fH (n-n%batch) batch (n/batch))/\Rd w o vs/\vs.length=epN n batch steps/\
  ∀j,j<epN n batch steps->∃p i,vs[j]?=some (.slice p n i)/\n<=i/\Rd w p (aA .i64 (fJ l n (j*(n-1))))
theorem Eb {B:Nat} {u v:World} {S n batch steps:Nat} {l:List Int} (h:fO (fL B u) S n batch steps l) (i:Agr B u v):fO v S n batch steps l:=by
 obtain ⟨p,x,O,L,vs,h1,D,N,H,J⟩:=h
 exact ⟨p,x,O,L,vs,qS h1 i,kO D i,kO N i,H,fun j C=>by
  obtain ⟨Q,I,o,y,A⟩:=J j C
  exact ⟨Q,I,o,y,kO A i⟩⟩
theorem fO.below {w i:World} {S n batch steps:Nat} {l:List Int} (h:fO w S n batch steps l) (hb:aq w i):fO i S n batch steps l:=by
 obtain ⟨p,u,J,H,vs,h1,A,I,B,D⟩:=h
 exact ⟨p,u,J,H,vs,(hb.block _ (LN h1)).trans h1,A.below hb,I.below hb,B,fun j y=>by
  obtain ⟨L,C,o,v,x⟩:=D j y
  exact ⟨L,C,o,v,x.below hb⟩⟩
def JR (h wr:World) (S n b c k:Nat) (A:Option Addr) (l:List Int) (v x y:Value):Prop:=
 ∃p o vs,wr.heap[S]?=some (.cells #[v,x,y,.slice p k o] 218 (0,0))/\wr.ownsRow h.heap.size 22 1 (.slice p k o) k vs/\
  (∀j,j<k->∃u i,vs[j]?=some (.slice u n i)/\n<=i/\wr.ownsRow h.heap.size 3 1 (.slice u n i) n (aA .i64 (fJ l n (j*(n-1)))))/\
  wr.heap[b]?=some (.cells #[.slice A l.length c,MO ((k*(n-1):Nat):Int)] 270 (0,0))/\Keep (fun j=>j=b\/j=S) h wr
theorem uW (A:Option Addr) (l:List Int) (c n batch steps:Nat) (w:World) (hA:Rd w A (aA .u64 l)) (hl:l.length<=1048576) (hu:U64 l) (hb:1<=batch) (cv:batch<=n) (hn:n<=1048576) (aG:steps<=1048576) (hd:epN n batch steps*(n-1)<=l.length):
  Calls prog 81 #[MO n,MO batch,MO steps,.slice A l.length c] w fun e w'=>∃S,e=.returned (.tuple #[(au S),MO 0])/\fO (fL w.heap.size w') S n batch steps l/\w.heap.size<=S/\aq w w':=by
 have e9:¬((n:Int)<1):=ap
 have e4:¬((1048576:Int)<n):=ap
 have e0:¬((steps:Int)<0):=ap
 have e1:¬((1048576:Int)<steps):=ap
 have ea:¬((batch:Int)<1):=ap
 have eb:¬((n:Int)<batch):=ap
 obtain ⟨N,hN⟩:∃N,l.length=N:=⟨_,rfl⟩
 have a6:=fun w'=>lH (n-n%batch) batch w' ap hb ap
 rw [zW n batch hb cv] at a6
 obtain ⟨nb,a4⟩:∃nb,n/batch=nb:=⟨_,rfl⟩
 have cn:1<=nb:=by rw [<-a4];exact Nat.div_pos cv hb
 have ds:nb<=n:=by rw [<-a4];exact Nat.div_le_self _ _
 obtain ⟨r,hr⟩:∃r,n%batch=r:=⟨_,rfl⟩
 have dv:r<=n:=by rw [<-hr];exact Nat.mod_le _ _
 rw [hr,a4] at a6
 have e8:(n:Int).tmod (batch:Int)=(r:Int):=by rw [<-hr];rfl
 have dw:(n:Int)%(batch:Int)=(r:Int):=by rw [<-hr];rfl
 have e7:IntKind.i64.wrap (r:Int)=(r:Int):=LT _ ap
 have dG:IntKind.i64.wrap ((n:Int)-(r:Int))=((n-r:Nat):Int):=by rw [LT _ ap];omega
 have e2:¬(batch=0):=ap
 obtain ⟨HA,Hu,Hd,HN,cs,bz,Hr⟩:=aj hA hu hd hN a6 a4 hr
 rw [hN] at hl ⊢
 clear hA hu hd hN a6 a4 hr
 go_enter func81,ntmps81
 go_wp2_with fail
 go_cut [10] (fun v wx=>∃P2 S I J,v=(au P2)/\wx.heap[P2]?=some (.cells #[(au S)] 162 (0,0))/\wx.heap[S]?=some (.cells #[MO batch,MO steps,.slice I nb J,MP] 218 (0,0))/\
  wx.ownsRow (w.heap.size+1) 148 2 (.slice I nb J) nb (fH (n-r) batch nb)/\w.heap.size+1<=P2/\w.heap.size+1<=S/\Below (w.heap.size+1) (w.alloc (.cells #[MO n] 3)) wx)
 case first=>
  have d8:=LQ (w.alloc (.cells #[MO n] 3)) w.heap.size 0 _ _ _ (LP w _)
  have i:(fun w':World=>w'.cell? (ar w.heap.size 0)=some (MO n)) (w.alloc (.cells #[MO n] 3)).drew:=d8
  refine jO 12 (fun w':World=>w'.cell? (ar w.heap.size 0)=some (MO n)) (by kernel_rfl) ?_
  refine wX 0 i ?_
  refine wX 1 i ?_
  refine wX 2 i ?_
  refine wX 3 i ?_
  refine wX 4 i ?_
  refine wX 5 i ?_
  refine wX 6 i ?_
  refine wX 7 i ?_
  simp only [Mc,Md,Me,Act.put,Mf,Mg,Mh]
  refine cz (rs:=[8,11]) (by kernel_rfl) (by simp) ?_
  refine aQ.cons rfl (fun K p=>?_) (aQ.cons rfl (fun K p=>?_) aQ.nil)
  ·simp only [Mc,Md,Me]
   go_simp
   refine (cs.o _).mono ?_
   rintro e B ⟨v,rfl,ho,u⟩
   obtain ⟨I,J,rfl,_⟩:=aD ho
   have a9:=aw u i
   have u:Below _ _ _:=u
   simp only [MB,Mb] at ho u
   obtain ⟨Ho,T⟩:=ae ho u;clear ho u i
   dsimp only
   refine p.out _ _ a9 (fun i=>?_)
   clear p K a9
   refine wX 9 i ?_
   simp only [Mc,Md,Me,Act.put,Mf,Mg,Mh]
   refine cz (rs:=[10,11]) (by kernel_rfl) (by simp) ?_
   refine aQ.cons rfl (fun K p=>?_) (aQ.cons rfl (fun K p=>?_) aQ.nil)
   ·simp only [Mc,Md,Me]
    go_simp
    refine p.out _ _ (aH i _) (fun i=>?_)
    clear p K
    refine cz (rs:=[11]) (by kernel_rfl) (by simp) ?_
    refine aQ.cons rfl (fun K p=>?_) aQ.nil
    simp only [Mc,Md,Me]
    go_simp
    refine p.out _ _ (aH i _) (fun i=>?_)
    clear p K i
    refine eF (by rfl) (by kernel_rfl) ?_
    simp only [Mm,Mn]
    go_wp2_with fail
    go_meet
    have a7:=T.o.size
    simp at a7
    refine ⟨B.heap.size+1,B.heap.size,I,J,rfl,?_,?_,(Ho.o.alloc _).alloc _,by omega,by omega,?_⟩
    ·have:=LP (B.alloc (.cells #[MO batch,MO steps,.slice I nb J,MP] 218)) (.cells #[(au B.heap.size)] 162)
     simpa using this
    ·exact (L0 _ _ _ (by simp)).trans (LP B _)
    ·exact ((((LR _ _).drew).trans T.o).alloc ap _).alloc (by simp;omega) _
   ·simp only [Mc,Md,Me]
    go_simp
    refine p.out _ _ (aH i _) (fun i=>?_)
    clear p K
    refine cz (rs:=[10]) (by kernel_rfl) (by simp) ?_
    refine aQ.cons rfl (fun K p=>?_) aQ.nil
    simp only [Mc,Md,Me]
    go_simp
    refine p.out _ _ (aH i _) (fun i=>?_)
    clear p K i
    refine eF (by rfl) (by kernel_rfl) ?_
    simp only [Mm,Mn]
    go_wp2_with fail
    go_meet
    have a7:=T.o.size
    simp at a7
    refine ⟨B.heap.size,B.heap.size+1,I,J,rfl,?_,?_,(Ho.o.alloc _).alloc _,by omega,by omega,?_⟩
    ·exact (L0 _ _ _ (by simp)).trans (LP B _)
    ·have:=LP (B.alloc (.cells #[(au (B.heap.size+1))] 162)) (.cells #[MO batch,MO steps,.slice I nb J,MP] 218)
     simpa using this
    ·exact ((((LR _ _).drew).trans T.o).alloc ap _).alloc (by simp;omega) _
  ·simp only [Mc,Md,Me]
   go_simp
   refine p.out _ _ (aH i _) (fun i=>?_)
   clear p K
   refine cz (rs:=[8]) (by kernel_rfl) (by simp) ?_
   refine aQ.cons rfl (fun K p=>?_) aQ.nil
   simp only [Mc,Md,Me]
   go_simp
   refine (cs.o _).mono ?_
   rintro e B ⟨v,rfl,ho,u⟩
   have C:B.heap[w.heap.size+1]?=some (.cells #[.pointer none] 162 (0,0)):=(u.block (w.heap.size+1) (by simp)).trans (by rw [<-show (w.alloc (.cells #[MO n] 3)).heap.size=w.heap.size+1 by simp];exact LP _ _)
   obtain ⟨t0,tf⟩:=bx1 C
   have cL:=LN C
   have a1:=aa C;clear C
   obtain ⟨I,J,rfl,_⟩:=aD ho
   have a9:=aw u i
   have u:Below _ _ _:=u
   simp only [MB,Mb] at ho u
   obtain ⟨Ho,T⟩:=ae ho u;clear ho u i
   dsimp only
   refine p.out _ _ a9 (fun i=>?_)
   clear p K a9
   refine wX 9 i ?_
   simp only [Mc,Md,Me,Act.put,Mf,Mg,Mh]
   refine cz (rs:=[10]) (by kernel_rfl) (by simp) ?_
   refine aQ.cons rfl (fun K p=>?_) aQ.nil
   simp only [Mc,Md,Me]
   go_simp
   refine p.out _ _ (aH i _) (fun i=>?_)
   clear p K i
   refine eF (by rfl) (by kernel_rfl) ?_
   simp only [Mm,Mn]
   go_wp2_with fail
   go_meet
   have a7:=T.o.size
   simp at a7
   have hk:Keep (fun j=>j=w.heap.size+1) B (B.setCell (ar (w.heap.size+1) 0) ((au B.heap.size))):=Keep.setCell (S:=fun j=>j=w.heap.size+1) (Keep.refl _ _) (ar (w.heap.size+1) 0) (.inr rfl) _
   have h0:Below (w.heap.size+1) (w.alloc (.cells #[MO n] 3)) B:=((LR _ _).alloc (by simp) _).drew.trans (T.o.mono ap)
   refine ⟨w.heap.size+1,B.heap.size,I,J,rfl,?_,?_,?_,by omega,by omega,?_⟩
   ·exact (L0 _ _ _ (by simpa using cL)).trans (MM B (w.heap.size+1) 0 _ _ _ a1.o)
   ·have:=LP (B.setCell (ar (w.heap.size+1) 0) ((au B.heap.size))) (.cells #[MO batch,MO steps,.slice I nb J,MP] 218)
    rwa [show (B.setCell (ar (w.heap.size+1) 0) ((au B.heap.size))).heap.size=B.heap.size by simp] at this
   ·exact aE ((hk.own Ho.o (fun j L e=>ax a1.o (by decide) Ho.o (by rw [L,e]))).alloc _) ap
   ·exact (h0.trans (hk.toBelow ap (fun j L=>ap))).alloc (by simp;omega) _
 case rest=>
  obtain ⟨P2,S,I,J,rfl,C,hS,c8,e6,e5,bi⟩:=hcut
  have bw:aq w wc:=((LR _ w).alloc (LO _) _).trans (bi.mono ap)
  have bX:=(bi.block w.heap.size ap).trans (LP w (.cells #[MO n] 3))
  have bo:=GT A l c wc (HA.o.below bw) (by have:=HN.o;omega)
  rw [HN.o] at bo
  obtain ⟨a1,HS,d1,bn,cj,cM⟩:=ai C hS c8 bw bX bo;clear C hS c8 bw bX bo bi
  go_wp2_with fail
  refine cM.o.mono ?_
  rintro e w3 ⟨b,A3,c3,rfl,b4,cl,d5,O⟩
  have aM:=(O.block _ (LN a1.o)).trans a1.o
  have ao:=(O.block _ (LN HS.o)).trans HS.o
  have bM:=(O.block _ (LN cj.o)).trans cj.o
  have b8:=ay d1.o O
  have b1:=bn.o.trans (O.mono bn.o.size)
  have dT:=O.size
  obtain ⟨t0,tf⟩:=bx1 aM
  obtain ⟨⟨y0,y1,y2,y3⟩,yf⟩:=bx4 ao
  have l1:=LN aM
  have l2:=LN ao
  obtain ⟨c7,c9,bv,aR,be,b5,d7⟩:=aj aM ao bM b8 b1 b4 cl;clear aM ao bM b8 b1 b4 cl O
  go_wp2_with fail
  have he:epN n batch steps=du steps nb:=by unfold epN;rw [bz.o]
  have d6:=fE steps nb
  have hd:=Hd.o
  rw [he] at hd
  rw [HN.o] at hd
  obtain ⟨E,hE⟩:∃E,du steps nb=E:=⟨_,rfl⟩
  rw [hE] at he d6 hd
  have bl:=uv steps nb (w3.alloc (.cells #[(au b)] 219)) aG cn ap
  rw [hE] at bl
  obtain ⟨He,dp,bG⟩:=af he hd bl;clear he hd bl hE
  refine bG.o.mono ?_
  rintro e w' ⟨rfl,rfl⟩
  obtain ⟨Z,Q⟩:∃Z,Z=w3.alloc (.cells #[(au b)] 219):=⟨_,rfl⟩
  have aP:Z.heap[w3.heap.size]?=some (.cells #[(au b)] 219 (0,0)):=by rw [Q];exact LP w3 _
  have R:aq w3 Z:=by rw [Q];exact (LR _ _).alloc (LO _) _
  have d0:w3.heap.size<Z.heap.size:=LN aP
  have a2:=(R.block _ l2).trans c9.o
  have a8:=(R.block _ l1).trans c7.o
  have av:=(R.block _ (LN bv.o)).trans bv.o
  have H:=ay aR.o R
  have y:=b5.o.below R
  have b7:=be.o.trans (R.mono be.o.size)
  rw [<-Q]
  have dk:=LN av
  have a6:=y.lt
  have ci:b≠S:=fun e=>by
   have h1:=y.blk;rw [e,a2] at h1;simp at h1
  have U:∀{x t},Z.heap[x]?=some (.cells #[t] 3 (0,0))\/Z.heap[x]?=some (.cells #[t] 219 (0,0))\/Z.heap[x]?=some (.cells #[t] 162 (0,0))->¬(x=b\/x=S):=fun h=>by
   rintro (rfl | rfl)
   ·have h1:=y.blk;rcases h with h | h | h<;>(rw [h1] at h;simp at h)
   ·rcases h with h | h | h<;>(rw [a2] at h;simp at h)
  have cw:=U (.inl av)
  have bf:=U (.inr (.inl aP))
  have b3:=U (.inr (.inr a8))
  have bN:=H.lt
  have c6:∀a,A3=some a->¬(a.block=b\/a.block=S):=fun a ha=>by
   rintro (h | h)
   ·exact y.ne a ha h
   ·have:=d7.o a ha;have:=LN HS.o;omega
  have bh:∀j,(Value.slice I nb J).ownBlock=some j->¬(j=b\/j=S):=fun j L=>by
   rintro (rfl | rfl)
   ·exact ax y.blk (by decide) H L.symm
   ·exact ax a2 (by decide) H L.symm
  obtain ⟨dn,cO,b2,cA,cd,a5,ab,da⟩:=ak aP a2 a8 av H y b7 cw;obtain ⟨cf,bd,dr,cc,e3⟩:=ah bf b3 c6 bh ci;clear aP a2 a8 av H y b7 cw bf b3 c6 bh ci U bN R Q bG c7 c9 bv aR b5 t0 tf y0 y1 y2 y3 yf
  go_wp2_with fail
  go_loopw [57] (fun x wr=>∃k:Nat,k<=E/\x=MO k/\JR Z wr S n b c3 k A3 l (MO batch) (MO steps) (.slice I nb J)) (fun x _=>E-(intOf x).toNat)
  case atStart=>
   refine ⟨0,LS _,rfl,none,0,[],cO.o,LZ _ _ _ _,fun j L=>ap,?_,Keep.refl _ _⟩
   rw [Nat.zero_mul];exact a5.o.blk
  case round=>
   obtain ⟨k,hk,rfl,Ao,co,vs,hS,a3,D,bA,p⟩:=hrel
   by_cases cP:k<E
   ·have cY:k*(n-1)+(n-1)<=N:=by
     have h1:(k+1)*(n-1)<=E*(n-1):=MN _ cP
     rw [MF] at h1
     have:=dp.o
     omega
    have aG:cT wr b A3 c3 l (k*(n-1)):=⟨bA,p.rd a5.o.rd (fun a ha e=>dr.o a ha e),a5.o.ne⟩
    have cr:=DI w.heap.size w3.heap.size P2 S n b c3 (k*(n-1)) k Z.heap.size A3 l Ao co (MO batch) (MO steps) (.slice I nb J) vs wr
     ((p.block _ dk da.o).trans cA.o) ((p.block _ d0 cf.o).trans dn.o) ((p.block _ ap bd.o).trans b2.o) hS aG a3 p.size ap ap hn (by rw [HN.o];exact cY) (by rw [HN.o];exact hl) Hu.o
    obtain ⟨d2,bs,HK⟩:=af cr D p;clear cr D p aG hS a3 bA
    go_wp2_with fail
    refine d2.o.mono ?_
    rintro e w5 ⟨rfl,A1,c1,d9,cy,bO,ad,cx,bI,ct,a0,Y⟩
    have b0:Keep (fun j=>j=b\/j=S) Z w5:=⟨Y.os.trans HK.o.os,Y.tape.trans HK.o.tape,Y.output.trans HK.o.output,LU HK.o.size Y.size,fun j L hn=>(Y.block j (LV L HK.o.size) (fun h=>by
     rcases h with h | h | h
     ·exact hn (.inl h)
     ·exact hn (.inr h)
     ·omega)).trans (HK.o.block j L hn)⟩
    have V:∀j,j<k+1->∃A' c',(vs++[Value.slice A1 n c1])[j]?=some (.slice A' n c')/\n<=c'/\w5.ownsRow Z.heap.size 3 1 (.slice A' n c') n (aA .i64 (fJ l n (j*(n-1)))):=fun j L=>by
     have dc:vs.length=k:=by have:=ad.1;simp at this;omega
     rcases Ma j k with h | h
     ·obtain ⟨A',c',k1,k2,k3⟩:=bs.o j h
      exact ⟨A',c',by rw [Mr ap];exact k1,k2,a0 _ _ _ _ k3⟩
     ·obtain rfl:j=k:=ap
      exact ⟨A1,c1,by rw [Ms ap,dc];simp,cx,bI⟩
    have b6:JR Z w5 S n b c3 (k+1) A3 l (MO batch) (MO steps) (.slice I nb J):=⟨d9,cy,_,bO,ad,V,by rw [MF];exact ct,b0⟩
    have d3:=aa b6;clear b6 bO ad cx bI ct a0 Y b0 V
    go_wp2_with fail
    go_roundw
    case rel=>exact ⟨k+1,by omega,by go_num,d3.o⟩
    case measure=>simp [intOf];omega
   ·obtain rfl:E=k:=ap
    have C:=(p.block _ ap bd.o).trans b2.o
    have Q:=ab.o.size
    have bb:fO (fL w.heap.size wr) S n batch steps l/\w.heap.size<=S:=by
     refine ⟨?_,by omega⟩
     refine ⟨I,J,Ao,co,vs,?_,?_,Rd.own (fq a3 Q),?_,?_⟩
     ·rw [He.o,bz.o,iq ap];exact hS
     ·rw [Hr.o,bz.o];exact Rd.own (fq (p.own cd.o cc.o) ap)
     ·have:=a3.1;rw [He.o];omega
     ·intro j L
      rw [He.o] at L
      obtain ⟨A',c',k1,k2,k3⟩:=D j L
      exact ⟨A',c',k1,k2,Rd.own (fq k3 Q)⟩
    have bV:aq w wr:=ab.o.trans (p.toBelow ab.o.size (fun j L=>by have:=d5;have:=bn.o.size;rcases L with h | h<;>omega))
    obtain ⟨t0,tf⟩:=bx1 C
    obtain ⟨b9,d4⟩:=ae bb bV;clear bb bV hS a3 D bA p C
    go_wp2_with fail
    go_ret2
    exact ⟨S,rfl,b9.o.1,b9.o.2,d4.o⟩
structure Inp where
 cfg:Cfg
 data:List Ex
 start:List Int
 draws:List Int
def mg (n b st:Nat):Nat:=epN n b st*(n-1)
theorem Kw (n b st:Nat):epN n b st<=st:=fE _ _
theorem xc {n b st:Nat} (hn:n<=1048576) (hs:st<=1048576):mg n b st<=1099511627776:=by
 have h1:=Kw n b st
 have h:epN n b st*(n-1)<=1048576*1048576:=Nat.mul_le_mul ap ap
 unfold mg
 omega
def inN (i:Inp):Nat:=szN i.cfg.sizes 0
def vg (i:Inp):Nat:=szN i.cfg.sizes (i.cfg.sizes.length-1)
def cnt (i:Inp):Nat:=bQ i.cfg.sizes (i.cfg.sizes.length-1)
def mw (i:Inp):Bool:=decide (i.cfg.batch<=i.data.length/\i.data.length<=1048576)
def Kr (i:Inp):Bool:=decide (∀x∈i.data,fh (inN i) (vg i) x)
def kR (i:Inp):Bool:=Kr i&&decide (i.start.length=cnt i)
def pR (i:Inp):Bool:=decide (mg i.data.length i.cfg.batch.toNat i.cfg.steps.toNat<=i.draws.length)
noncomputable def dV (i:Inp):Int:=if cB i.cfg≠0 then cB i.cfg else if mw i=false then 7 else if kR i=false then 5 else if pR i=false then 8 else 0
theorem Kk {i:Inp} (h:cB i.cfg≠0):dV i=cB i.cfg:=by unfold dV;rw [if_pos h]
theorem Km {i:Inp} (o:cB i.cfg=0) (h:mw i=false):dV i=7:=by unfold dV;rw [if_neg (by simp [o]),if_pos h]
theorem Kn {i:Inp} (o:cB i.cfg=0) (h1:mw i=true) (h:kR i=false):dV i=5:=by unfold dV;rw [if_neg (by simp [o]),if_neg (by simp [h1]),if_pos h]
theorem Kl {i:Inp} (p:cB i.cfg=0) (h1:mw i=true) (o:kR i=true) (h:pR i=false):dV i=8:=by unfold dV;rw [if_neg (by simp [p]),if_neg (by simp [h1]),if_neg (by simp [o]),if_pos h]
theorem Ko {i:Inp} (p:cB i.cfg=0) (h1:mw i=true) (o:kR i=true) (h:pR i=true):dV i=0:=by unfold dV;rw [if_neg (by simp [p]),if_neg (by simp [h1]),if_neg (by simp [o]),if_neg (by simp [h])]
structure lL (i:Inp):Prop where
 c:iZ i.cfg
 b:i.cfg.batch<=i.data.length/\i.data.length<=1048576
 f:∀x∈i.data,fh (inN i) (vg i) x
 s:i.start.length=cnt i
 d:mg i.data.length i.cfg.batch.toNat i.cfg.steps.toNat<=i.draws.length
theorem oV {i:Inp}:dV i=0↔lL i:=by
 constructor
 ·intro h
  by_cases o:cB i.cfg=0
  ·cases h1:mw i with
   | false=>rw [Km o h1] at h;omega
   | true=>
    cases h2:kR i with
    | false=>rw [Kn o h1 h2] at h;omega
    | true=>
     cases h3:pR i with
     | false=>rw [Kl o h1 h2 h3] at h;omega
     | true=>
      simp only [kR,Bool.and_eq_true] at h2
      exact ⟨gM.1 o,of_decide_eq_true h1,of_decide_eq_true h2.1,of_decide_eq_true h2.2,of_decide_eq_true h3⟩
  ·rw [Kk o] at h;exact absurd h o
 ·intro h
  refine Ko (gM.2 h.c) (MI h.b) ?_ (MI h.d)
  simp only [kR,Bool.and_eq_true]
  exact ⟨MI h.f,MI h.s⟩
theorem kp (n:Int) (w:World):Calls prog 111 #[MO n] w fun e h=>e=.returned (.bool (okB n))/\w=h:=by
 by_cases h1:n<1
 ·go_enter func111,ntmps111
  go_wp2
  go_ret
  exact ⟨dW (by unfold okB;simp;omega),rfl⟩
 ·by_cases i:1048576<n
  ·go_enter func111,ntmps111
   go_wp2
   go_ret
   exact ⟨dW (by unfold okB;simp;omega),rfl⟩
  ·go_enter func111,ntmps111
   go_wp2
   go_ret
   exact ⟨dW (by unfold okB;simp;omega),rfl⟩
def Lj (sz:List Int) (w:World) (e:Ending) (h:World):Prop:=aq w h/\((dH sz/\∃b,e=.returned (.tuple #[(au b),MO 0])/\cF 212 h b sz/\w.heap.size<=b)\/(¬dH sz/\e=.returned (.tuple #[.pointer none,MO (eq sz)])))
def KF (sz:List Int) (w:World) (e:Ending) (h:World):Prop:=aq w h/\((dH sz/\∃b,e=.returned (.tuple #[(au b),MO 0])/\cF 212 (fL w.heap.size h) b sz/\w.heap.size<=b)\/(¬dH sz/\e=.returned (.tuple #[.pointer none,MO (eq sz)])))
theorem rh (A:Option Addr) (sz:List Int) (c:Nat) (w:World) (hA:Rd w A (aA .i64 sz)) (hc:sz.length<=c) (hm:c<=9223372036854775807):
  Calls prog 77 #[.slice A sz.length c] w (KF sz w):=by
 by_cases h1:2<=sz.length/\sz.length<=16
 ·by_cases i:∀k,k<sz.length->1<=nth sz k/\nth sz k<=1048576
  ·refine (vQ A sz c w hA hc hm ⟨h1,i⟩).mono fun e o ⟨hb,h⟩=>⟨hb,?_⟩
   rcases h with ⟨h,he⟩ | ⟨h,b,he,hs,p⟩
   ·have hg:¬dH sz:=fun hg=>by have:=hg.2;omega
    exact .inr ⟨hg,by rw [lT hg ⟨h1,i⟩];exact he⟩
   ·exact .inl ⟨⟨⟨h1,i⟩,h⟩,b,he,hs,p⟩
  ·refine (yy A sz c w hA hc hm h1 i).mono fun e o ⟨he,hw⟩=>?_
   subst hw
   exact ⟨LR _ _,.inr ⟨fun hg=>i hg.1.2,by rw [gn (fun hr=>i hr.2)];exact he⟩⟩
 ·refine (yz A sz c w hc hm h1).mono fun e o ⟨he,hw⟩=>?_
  subst hw
  exact ⟨LR _ _,.inr ⟨fun hg=>h1 hg.1.1,by rw [gn (fun hr=>h1 hr.1)];exact he⟩⟩
theorem tu (A:Option Addr) (sz:List Int) (c:Nat) (w:World) (hA:Rd w A (aA .i64 sz)) (hc:sz.length<=c) (hm:c<=9223372036854775807):
  Calls prog 77 #[.slice A sz.length c] w (Lj sz w):=by
 refine (rh A sz c w hA hc hm).mono ?_
 rintro e o ⟨hb,⟨hg,b,he,hs,i⟩ | h⟩
 ·exact ⟨hb,.inl ⟨hg,b,he,mz hs (Agr.refl _ _),i⟩⟩
 ·exact ⟨hb,.inr h⟩
abbrev dh (A:Option Addr) (c:Nat) (k:Cfg):Array Value:=#[.slice A k.sizes.length c,MO k.shift,MO k.rate,MO k.mom,MO k.workers,MO k.batch,MO k.micros,MO k.steps,MO k.bucket,MO k.chunk,MO k.window,MO k.cap]
structure ka (w:World) (A:Option Addr) (c:Nat) (k:Cfg):Prop where
 hc:k.sizes.length<=c
 hm:c<=9223372036854775807
 hl:k.sizes.length<=17592186043904
 hr:Rd w A (aA .i64 k.sizes)
theorem ka.below {w i:World} {A:Option Addr} {c:Nat} {k:Cfg} (h:ka w A c k) (hb:aq w i):ka i A c k:=⟨h.hc,h.hm,h.hl,h.hr.below hb⟩
theorem pS (A:Option Addr) (c:Nat) (k:Cfg) (w:World) (h:ka w A c k):
  Calls prog 76 #[.agg (dh A c k)] w fun e D=>e=.returned (MO (cB k))/\aq w D:=by
 have J:=fun D (q:aq w D)=>tu A k.sizes c D (h.hr.below q) h.hc h.hm
 have f6:=@Ib k;have f9:=@H9 k;have fs:=@HU k;have f2:=@Ic k;have f7:=@Ia k;have f0:=@Id k
 unfold wkB shB oJ baB qZ at *
 obtain ⟨B,C⟩:∃B,cB k=B:=⟨_,rfl⟩
 rw [C] at f6 f9 fs f2 f7 f0 ⊢
 clear C h
 obtain ⟨sz,sh,ra,mo,H,ba,mi,st,bu,ch,wi,ca⟩:=k
 dsimp only [dh] at *
 obtain ⟨L,hL⟩:∃L,sz.length=L:=⟨_,rfl⟩
 rw [hL] at J ⊢
 obtain ⟨a3,F6,F9,Fs,Y,F7,F0⟩:=aj J f6 f9 fs f2 f7 f0;clear J f6 f9 fs f2 f7 f0 hL
 go_enter func76,ntmps76
 go_wp2_with fail
 have hz:=LP w (.cells #[.slice A L c,MO sh,MO ra,MO mo,MO H,MO ba,MO mi,MO st,MO bu,MO ch,MO wi,MO ca] 24)
 have hB:=(LR _ w).alloc (LO _) (.cells #[.slice A L c,MO sh,MO ra,MO mo,MO H,MO ba,MO mi,MO st,MO bu,MO ch,MO wi,MO ca] 24)
 refine (a3.o _ hB).mono ?_
 rintro e w1 ⟨x,hs⟩
 have a0:=(x.block _ (LN hz)).trans hz
 have u:=aa (hB.trans (x.mono hB.size))
 obtain ⟨⟨z0,z1,z2,z3,z4,z5,z6,z7,z8,z9,a4,a7⟩,zf⟩:=kl a0
 clear hz hB x a0
 -- the sizes' B
 obtain ⟨p,sc,rfl,a1⟩:∃p sc,e=.returned (.tuple #[.pointer p,MO sc])/\eq sz=sc:=by
  rcases hs with ⟨hg,b,rfl,_⟩ | ⟨hg,rfl⟩
  ·exact ⟨_,0,rfl,jQ hg⟩
  ·exact ⟨_,_,rfl,rfl⟩
 have i:=aa a1;clear hs a1
 by_cases h1:H<1
 ·go_wp2_with fail
  go_ret
  exact ⟨bj (F6.o (by rw [MK];omega)).symm,u.o⟩
 by_cases a6:64<H
 ·go_wp2_with fail
  go_ret
  exact ⟨bj (F6.o (by rw [MK];omega)).symm,u.o⟩
 have v:=aa (show decide (1<=H/\H<=64)=true by rw [ML];omega)
 by_cases h2:sh<1
 ·go_wp2_with fail
  go_ret
  exact ⟨bj (F9.o v.o (by rw [MK];omega)).symm,u.o⟩
 by_cases a5:62<sh
 ·go_wp2_with fail
  go_ret
  exact ⟨bj (F9.o v.o (by rw [MK];omega)).symm,u.o⟩
 have y:=aa (show decide (1<=sh/\sh<=62)=true by rw [ML];omega)
 by_cases h3:sc≠0
 ·have hq:(sc != 0)=true:=by rw [bne_iff_ne];exact h3
  have H3:=aa h3;clear h3
  go_wp2_with fail
  go_ret
  exact ⟨bj (by rw [Fs.o v.o y.o (by rw [i.o];exact H3.o)];exact i.o.symm),u.o⟩
 obtain rfl:sc=0:=ap
 clear h3
 go_wp2_with fail
 refine (kp mi _).mono ?_
 rintro e D ⟨rfl,rfl⟩
 obtain ⟨b0,Q⟩:∃b,okB mi=b:=⟨_,rfl⟩
 have I:=aa Q
 rw [Q]
 clear Q
 rcases eh b0 with rfl | rfl
 ·go_wp2_with fail
  go_ret
  exact ⟨bj (Y.o v.o y.o i.o (by simp [I.o])).symm,u.o⟩
 go_wp2_with fail
 refine (kp bu _).mono ?_
 rintro e D ⟨rfl,rfl⟩
 obtain ⟨b1,x⟩:∃b,okB bu=b:=⟨_,rfl⟩
 have U:=aa x
 rw [x]
 clear x
 rcases eh b1 with rfl | rfl
 ·go_wp2_with fail
  go_ret
  exact ⟨bj (Y.o v.o y.o i.o (by simp [I.o,U.o])).symm,u.o⟩
 go_wp2_with fail
 refine (kp ch _).mono ?_
 rintro e D ⟨rfl,rfl⟩
 obtain ⟨b2,R⟩:∃b,okB ch=b:=⟨_,rfl⟩
 have Z:=aa R
 rw [R]
 clear R
 rcases eh b2 with rfl | rfl
 ·go_wp2_with fail
  go_ret
  exact ⟨bj (Y.o v.o y.o i.o (by simp [I.o,U.o,Z.o])).symm,u.o⟩
 go_wp2_with fail
 refine (kp wi _).mono ?_
 rintro e D ⟨rfl,rfl⟩
 obtain ⟨b3,V⟩:∃b,okB wi=b:=⟨_,rfl⟩
 have O3:=aa V
 rw [V]
 clear V
 rcases eh b3 with rfl | rfl
 ·go_wp2_with fail
  go_ret
  exact ⟨bj (Y.o v.o y.o i.o (by simp [I.o,U.o,Z.o,O3.o])).symm,u.o⟩
 go_wp2_with fail
 refine (kp ca _).mono ?_
 rintro e D ⟨rfl,rfl⟩
 obtain ⟨b4,T⟩:∃b,okB ca=b:=⟨_,rfl⟩
 have O4:=aa T
 rw [T]
 clear T
 rcases eh b4 with rfl | rfl
 ·go_wp2_with fail
  go_ret
  exact ⟨bj (Y.o v.o y.o i.o (by simp [I.o,U.o,Z.o,O3.o,O4.o])).symm,u.o⟩
 by_cases h4:st=0
 ·have hq:(st != 0)=false:=by rw [h4];rfl
  have N:=aa (show (okB mi&&okB bu&&okB ch&&okB wi&&okB ca&&decide (0<=st/\st<=1048576))=true by rw [I.o,U.o,Z.o,O3.o,O4.o];simp;omega);clear h4
  by_cases h5:ba<H
  ·go_wp2_with fail
   go_ret
   exact ⟨bj (F7.o v.o y.o i.o N.o (by rw [MK];omega)).symm,u.o⟩
  by_cases a2:1048576<ba
  ·go_wp2_with fail
   go_ret
   exact ⟨bj (F7.o v.o y.o i.o N.o (by rw [MK];omega)).symm,u.o⟩
  go_wp2_with fail
  go_ret
  exact ⟨bj (F0.o v.o y.o i.o N.o (by rw [ML];omega)).symm,u.o⟩
 ·have hq:(st != 0)=true:=by rw [bne_iff_ne];exact h4
  have H4:=aa h4;clear h4
  go_wp2_with fail
  refine (kp st _).mono ?_
  rintro e D ⟨rfl,rfl⟩
  obtain ⟨b5,O⟩:∃b,okB st=b:=⟨_,rfl⟩
  have O5:=aa O
  rw [O]
  clear O
  rcases eh b5 with rfl | rfl
  ·go_wp2_with fail
   go_ret
   exact ⟨bj (Y.o v.o y.o i.o (by rw [I.o,U.o,Z.o,O3.o,O4.o];have:=Dc O5.o;have:=H4.o;simp;omega)).symm,u.o⟩
  have N:=aa (show (okB mi&&okB bu&&okB ch&&okB wi&&okB ca&&decide (0<=st/\st<=1048576))=true by rw [I.o,U.o,Z.o,O3.o,O4.o];have:=kv O5.o;simp;omega)
  by_cases h5:ba<H
  ·go_wp2_with fail
   go_ret
   exact ⟨bj (F7.o v.o y.o i.o N.o (by rw [MK];omega)).symm,u.o⟩
  by_cases a2:1048576<ba
  ·go_wp2_with fail
   go_ret
   exact ⟨bj (F7.o v.o y.o i.o N.o (by rw [MK];omega)).symm,u.o⟩
  go_wp2_with fail
  go_ret
  exact ⟨bj (F0.o v.o y.o i.o N.o (by rw [ML];omega)).symm,u.o⟩
theorem CV (n:Nat) (w:World) (hn:1<=n) (i:n<=1048576):Calls prog 118 #[MO n] w fun e h=>e=.returned (MO ((n-1:Nat):Int))/\w=h:=by
 have h1:(0:Int)<=(n:Int)-1:=ap
 go_enter func118,ntmps118
 go_wp2
 all_goals
  go_ret
  exact ⟨bj ap,rfl⟩
theorem zR (A:Option Addr) (c n:Nat) (k:Cfg) (w:World) (h:ka w A c k) (hg:iZ k) (hn:k.batch<=n/\(n:Int)<=1048576):
  Calls prog 117 #[.agg (dh A c k),MO n] w fun e D=>e=.returned (MO (epN n k.batch.toNat k.steps.toNat:Int))/\aq w D:=by
 have x:=fun D (q:aq w D)=>pS A c k D (h.below q)
 rw [gM.2 hg] at x
 have g1:=hg.w;have g2:=hg.ba;have g3:=hg.st
 clear h hg
 obtain ⟨sz,sh,ra,O,R,ba,mi,st,bu,ch,wi,ca⟩:=k
 dsimp only [dh] at *
 obtain ⟨bt,rfl⟩:∃bt:Nat,ba=bt:=⟨ba.toNat,by omega⟩
 obtain ⟨sn,rfl⟩:∃sn:Nat,st=sn:=⟨st.toNat,by omega⟩
 rw [Int.toNat_natCast,Int.toNat_natCast]
 obtain ⟨L,T⟩:∃L,sz.length=L:=⟨_,rfl⟩
 rw [T] at x ⊢
 obtain ⟨i,p⟩:∃i,n/bt=i:=⟨_,rfl⟩
 have y:1<=i:=by rw [<-p];exact Nat.div_pos ap ap
 have J:i<=n:=by rw [<-p];exact Nat.div_le_self _ _
 have U:epN n bt sn=(sn+i-1)/i:=by unfold epN;rw [p,qL _ _ y]
 rw [U]
 have I:(sn+i-1)/i<=sn+i-1:=Nat.div_le_self _ _
 obtain ⟨E,v⟩:∃E,(sn+i-1)/i=E:=⟨_,rfl⟩
 rw [v] at I ⊢
 have Y:(n:Int).tdiv (bt:Int)=(i:Int):=by rw [<-p];rfl
 have V:(n:Int)/(bt:Int)=(i:Int):=by rw [<-p];rfl
 have u:(sn:Int)+i-1=((sn+i-1:Nat):Int):=ap
 have a5:((sn:Int)+i-1).tdiv (i:Int)=(E:Int):=by rw [u,<-v];rfl
 have Q:((sn:Int)+i-1)/(i:Int)=(E:Int):=by rw [u,<-v];rfl
 have a2:¬(bt=0):=ap
 have a4:¬(i=0):=ap
 have a1:¬((n:Int)<bt):=ap
 have a0:¬((1048576:Int)<n):=ap
 have H:=aa x;clear x T p U v u
 go_enter func117,ntmps117
 go_wp2_with fail
 have N:=LP w (.cells #[.slice A L c,MO sh,MO ra,MO O,MO R,MO bt,MO mi,MO sn,MO bu,MO ch,MO wi,MO ca] 24)
 have hB:=(LR _ w).alloc (LO _) (.cells #[.slice A L c,MO sh,MO ra,MO O,MO R,MO bt,MO mi,MO sn,MO bu,MO ch,MO wi,MO ca] 24)
 refine (H.o _ hB).mono ?_
 rintro e w1 ⟨rfl,B⟩
 have C:=(B.block _ (LN N)).trans N
 have HB:=aa (hB.trans (B.mono hB.size))
 obtain ⟨⟨z0,z1,z2,z3,z4,z5,z6,z7,z8,z9,Z,a3⟩,zf⟩:=kl C
 clear N hB B C
 go_wp2_with fail
 go_ret
 exact ⟨rfl,HB.o⟩
theorem FJ (A:Option Addr) (c n:Nat) (k:Cfg) (w:World) (h:ka w A c k) (hg:iZ k) (hn:k.batch<=n/\(n:Int)<=1048576):
  Calls prog 80 #[.agg (dh A c k),MO n] w fun e v=>e=.returned (MO (mg n k.batch.toNat k.steps.toNat:Int))/\aq w v:=by
 have i:=fun v (q:aq w v)=>zR A c n k v (h.below q) hg hn
 have g1:=hg.w;have U:=hg.ba;have Y:=hg.st
 have u:=fun v=>CV n v ap ap
 have p:=xc (n:=n) (b:=k.batch.toNat) (st:=k.steps.toNat) ap ap
 unfold mg at p ⊢
 clear h hg
 obtain ⟨sz,sh,ra,H,I,ba,mi,st,bu,ch,wi,ca⟩:=k
 dsimp only [dh] at *
 obtain ⟨L,J⟩:∃L,sz.length=L:=⟨_,rfl⟩
 rw [J] at i ⊢
 obtain ⟨E,N⟩:∃E,epN n ba.toNat st.toNat=E:=⟨_,rfl⟩
 obtain ⟨m,hm⟩:∃m,n-1=m:=⟨_,rfl⟩
 rw [N] at i p ⊢
 rw [hm] at u p ⊢
 obtain ⟨y,D⟩:∃y,E*m=y:=⟨_,rfl⟩
 rw [D] at p ⊢
 have O:(E:Int)*(m:Int)=(y:Int):=by rw [<-D];push_cast;rfl
 obtain ⟨B,C⟩:=ae i u;clear i u J N hm D
 go_enter func80,ntmps80
 go_wp2_with fail
 have R:=LP w (.cells #[.slice A L c,MO sh,MO ra,MO H,MO I,MO ba,MO mi,MO st,MO bu,MO ch,MO wi,MO ca] 24)
 have hB:=(LR _ w).alloc (LO _) (.cells #[.slice A L c,MO sh,MO ra,MO H,MO I,MO ba,MO mi,MO st,MO bu,MO ch,MO wi,MO ca] 24)
 refine (B.o _ hB).mono ?_
 rintro e T ⟨rfl,x⟩
 have Q:=aa (hB.trans (x.mono hB.size));clear R hB x
 go_wp2_with fail
 refine (C.o _).mono ?_
 rintro e V ⟨rfl,rfl⟩
 go_wp2_with fail
 go_ret
 exact ⟨rfl,Q.o⟩
abbrev aO (A:Option Addr) (c:Nat) (D:Option Addr) (cd:Nat) (T:Option Addr) (ct:Nat) (R:Option Addr) (cr:Nat) (i:Inp):Array Value:=
 #[.slice A i.cfg.sizes.length c,MO i.cfg.shift,MO i.cfg.rate,MO i.cfg.mom,MO i.cfg.workers,MO i.cfg.batch,MO i.cfg.micros,MO i.cfg.steps,MO i.cfg.bucket,MO i.cfg.chunk,MO i.cfg.window,MO i.cfg.cap,
  .slice D i.data.length cd,.slice T i.start.length ct,.slice R i.draws.length cr]
structure ge (w:World) (A:Option Addr) (c:Nat) (D:Option Addr) (T:Option Addr) (ct:Nat) (R:Option Addr) (i:Inp):Prop where
 c:ka w A c i.cfg
 d:dA rEx 2 w D i.data
 dl:i.data.length<=1048576
 t:cH w T i.start ct
 tl:i.start.length<=1048576
 r:Rd w R (aA .u64 i.draws)
 rl:i.draws.length<=1048576
 ru:U64 i.draws
 ra: -9223372036854775808<=i.cfg.rate/\i.cfg.rate<=9223372036854775807
 rm: -9223372036854775808<=i.cfg.mom/\i.cfg.mom<=9223372036854775807
theorem ge.below {w p:World} {A:Option Addr} {c:Nat} {D T R:Option Addr} {o:Nat} {i:Inp} (h:ge w A c D T o R i) (hb:aq w p):ge p A c D T o R i:=
 ⟨h.c.below hb,h.d.below eU hb,h.dl,h.t.below hb,h.tl,h.r.below hb,h.rl,h.ru,h.ra,h.rm⟩
theorem um (A:Option Addr) (c:Nat) (D:Option Addr) (cd:Nat) (T:Option Addr) (ct:Nat) (R:Option Addr) (cr:Nat) (i:Inp) (w:World) (h:ge w A c D T ct R i):
  Calls prog 43 #[.agg (aO A c D cd T ct R cr i)] w fun e u=>e=.returned (MO (dV i))/\aq w u:=by
 have ab:=fun u (q:aq w u)=>pS A c i.cfg u (h.c.below q)
 have b8:=fun u (q:aq w u)=>tu A i.cfg.sizes c u (h.c.hr.below q) h.c.hc h.c.hm
 have aP:=fun S u (hS:cF 212 u S i.cfg.sizes)=>jU S i.cfg.sizes u hS
 have a9:=fun a b u (q:aq w u)=>zT a b cd D i.data u (h.d.below eU q) h.dl
 have Y:=fun (hg:iZ i.cfg) (hb:i.cfg.batch<=i.data.length/\(i.data.length:Int)<=1048576) u (q:aq w u)=>FJ A c i.data.length i.cfg u (h.c.below q) hg hb
 have fc:=@Kk i;have f7:=@Km i;have f5:=@Kn i;have J:=@Kl i;have O:=@Ko i
 have b5:=@gM i.cfg
 have bh:=h.c.hr
 have ci:=h.dl;have co:=h.tl;have hrl:=h.rl
 unfold pZ at a9
 unfold mw at f7 f5 J O
 unfold kR Kr inN vg cnt at f5 J O
 unfold pR at J O
 obtain ⟨b2,a7⟩:∃b2,dV i=b2:=⟨_,rfl⟩
 rw [a7] at fc f7 f5 J O ⊢
 clear a7 h
 obtain ⟨⟨sz,sh,ra,mo,wk,ba,mi,st,bu,ch,wi,ca⟩,data,start,draws⟩:=i
 dsimp only [aO,dh] at *
 obtain ⟨L,hL⟩:∃L,sz.length=L:=⟨_,rfl⟩
 obtain ⟨N,hN⟩:∃N,data.length=N:=⟨_,rfl⟩
 obtain ⟨M,hM⟩:∃M,start.length=M:=⟨_,rfl⟩
 obtain ⟨Q,hQ⟩:∃Q,draws.length=Q:=⟨_,rfl⟩
 obtain ⟨cc,bG⟩:∃cc,cB ⟨sz,sh,ra,mo,wk,ba,mi,st,bu,ch,wi,ca⟩=cc:=⟨_,rfl⟩
 rw [hL] at ab b8 aP Y f5 J O ⊢
 rw [hN] at a9 Y f7 f5 J O ci ⊢
 rw [hM] at f5 J O co ⊢
 rw [hQ] at J O hrl ⊢
 rw [bG] at ab fc f7 f5 J O b5
 obtain ⟨CN,b7⟩:∃CN,bQ sz (L-1)=CN:=⟨_,rfl⟩
 rw [b7] at aP f5 J O
 obtain ⟨ND,bi⟩:∃ND,mg N ba.toNat st.toNat=ND:=⟨_,rfl⟩
 rw [bi] at Y J O
 obtain ⟨cn,bX,cl,cx,cv,Fc,F7,F5⟩:=ak ab b8 aP a9 Y fc f7 f5;obtain ⟨F8,F0,c9,bn,HL,cM⟩:=ai J O b5 bh hL b7;clear ab b8 aP a9 Y fc f7 f5 J O b5 bh hL hN hM hQ bG b7 bi
 go_enter func43,ntmps43
 go_wp2_with fail
 have hz:=(L0 (w.alloc (.cells #[.slice A L c,MO sh,MO ra,MO mo,MO wk,MO ba,MO mi,MO st,MO bu,MO ch,MO wi,MO ca,.slice D N cd,.slice T M ct,.slice R Q cr] 29)) (.cells #[.slice A L c,MO sh,MO ra,MO mo,MO wk,MO ba,MO mi,MO st,MO bu,MO ch,MO wi,MO ca] 24) w.heap.size (by simp)).trans (LP w _)
 have hy:=LP (w.alloc (.cells #[.slice A L c,MO sh,MO ra,MO mo,MO wk,MO ba,MO mi,MO st,MO bu,MO ch,MO wi,MO ca,.slice D N cd,.slice T M ct,.slice R Q cr] 29)) (.cells #[.slice A L c,MO sh,MO ra,MO mo,MO wk,MO ba,MO mi,MO st,MO bu,MO ch,MO wi,MO ca] 24)
 rw [show (w.alloc (.cells #[.slice A L c,MO sh,MO ra,MO mo,MO wk,MO ba,MO mi,MO st,MO bu,MO ch,MO wi,MO ca,.slice D N cd,.slice T M ct,.slice R Q cr] 29)).heap.size=w.heap.size+1 by simp] at hy
 have hB:aq w ((w.alloc (.cells #[.slice A L c,MO sh,MO ra,MO mo,MO wk,MO ba,MO mi,MO st,MO bu,MO ch,MO wi,MO ca,.slice D N cd,.slice T M ct,.slice R Q cr] 29)).alloc (.cells #[.slice A L c,MO sh,MO ra,MO mo,MO wk,MO ba,MO mi,MO st,MO bu,MO ch,MO wi,MO ca] 24)):=((LR _ w).alloc (LO _) _).alloc (by simp) _
 obtain ⟨W0,bo⟩:∃W0,W0=(w.alloc (.cells #[.slice A L c,MO sh,MO ra,MO mo,MO wk,MO ba,MO mi,MO st,MO bu,MO ch,MO wi,MO ca,.slice D N cd,.slice T M ct,.slice R Q cr] 29)).alloc (.cells #[.slice A L c,MO sh,MO ra,MO mo,MO wk,MO ba,MO mi,MO st,MO bu,MO ch,MO wi,MO ca] 24):=⟨_,rfl⟩
 rw [<-bo] at hz hy hB ⊢
 clear bo
 refine (cn.o _ hB).mono ?_
 rintro e w1 ⟨rfl,b0⟩
 have aR:=(b0.block _ (LN hz)).trans hz
 have a8:=(b0.block _ (LN hy)).trans hy
 have HB:=aa (hB.trans (b0.mono hB.size))
 obtain ⟨⟨z0,z1,z2,z3,z4,z5,z6,z7,z8,z9,Z,a1,U,a0,I⟩,zf⟩:=ki aR
 obtain ⟨⟨y0,y1,y2,y3,y4,y5,y6,y7,y8,y9,B,C⟩,yf⟩:=kl a8
 have lz:=LN aR;have ly:=LN a8
 obtain ⟨HZ,HY⟩:=ae aR a8;clear hz hy hB b0 aR a8
 by_cases h3:cc≠0
 ·have hq:(cc != 0)=true:=by rw [bne_iff_ne];exact h3
  have H3:=aa h3;clear h3
  go_wp2_with fail
  go_ret
  exact ⟨bj (Fc.o H3.o).symm,HB.o⟩
 obtain rfl:cc=0:=ap
 clear h3
 have hg:=c9.o.1 rfl
 have g1:=hg.w;have g2:=hg.ba;have g3:=hg.st;have gz:=hg.z
 have HG:=aa hg
 dsimp only at g1 g2 g3 gz
 clear hg
 have bv:=gz.1.1
 rw [HL.o] at bv
 have s0:=gz.1.at (k:=0) (by have:=HL.o;omega)
 have s1:=gz.1.at (k:=L-1) (by have:=HL.o;omega)
 obtain ⟨bz,oz,rfl,p0⟩:=bn.o.num (show 0<sz.length by have:=HL.o;omega)
 obtain ⟨_,_,e',p1⟩:=bn.o.num (show L-1<sz.length by have:=HL.o;omega)
 injection e' with e';injection e' with e1 e2 _;subst e1;subst e2
 rw [s0.2.2,Nat.add_zero] at p0
 rw [s1.2.2] at p1
 obtain ⟨n0,b9⟩:∃n0,szN sz 0=n0:=⟨_,rfl⟩
 obtain ⟨n1,b6⟩:∃n1,szN sz (L-1)=n1:=⟨_,rfl⟩
 have f5:=F5.o;have J:=F8.o;have O:=F0.o
 rw [b9,b6] at f5 J O
 rw [b9] at p0 s0
 rw [b6] at p1 s1
 obtain ⟨F5,F8,F0,cw⟩:=ag f5 J O gz
 have bO:bz<w.heap.size:=az p0
 obtain ⟨P0,P1⟩:=ae p0 p1;clear f5 J O gz b9 b6 p0 p1 s0 s1
 obtain ⟨bt,rfl⟩:∃bt:Nat,ba=bt:=⟨ba.toNat,by omega⟩
 go_wp2_with fail
 refine (bX.o _ HB.o).mono ?_
 rintro e w2 ⟨av,hs⟩
 obtain ⟨S,rfl,hS⟩:∃S,e=.returned (.tuple #[(au S),MO 0])/\cF 212 w2 S sz:=by
  rcases hs with ⟨_,S,he,hS,_⟩ | ⟨bV,_⟩
  ·exact ⟨S,he,hS⟩
  ·exact absurd cw.o bV
 clear hs
 have aM:=(av.block _ lz).trans HZ.o
 have ao:=(av.block _ ly).trans HY.o
 have a6:=aa (HB.o.trans (av.mono HB.o.size));clear z0 z1 z2 z3 z4 z5 z6 z7 z8 z9 Z a1 U a0 I zf y0 y1 y2 y3 y4 y5 y6 y7 y8 y9 B C yf lz ly
 obtain ⟨⟨z0,z1,z2,z3,z4,z5,z6,z7,z8,z9,Z,a1,U,a0,I⟩,zf⟩:=ki aM
 obtain ⟨⟨y0,y1,y2,y3,y4,y5,y6,y7,y8,y9,B,C⟩,yf⟩:=kl ao
 have lz:=LN aM;have ly:=LN ao
 obtain ⟨cb,cs,HS⟩:=af aM ao hS;clear av aM ao hS
 have p0:=(a6.o.cell (p:=(ar bz oz)) bO).trans P0.o
 have p1:=(a6.o.cell (p:=⟨bz,oz+(L-1),none⟩) bO).trans P1.o
 have c6:IntKind.i64.wrap ((L:Int)-1)=((L-1:Nat):Int):=by rw [LT _ ap];omega
 have cP:((L-1:Nat):Int)<L:=ap
 have cO:L-1<L:=ap
 have cL:0<L:=ap
 have cy:(0:Int)<L:=ap
 go_wp2_with fail
 have v:(fun u:World=>u.cell? (ar w.heap.size 12)=some (.slice D N cd)/\u.cell? (ar (w.heap.size+1) 0)=some (.slice (some (ar bz oz)) L c)/\u.cell? (ar bz oz)=some (MO n0)/\u.cell? ⟨bz,oz+(L-1),none⟩=some (MO n1)) w2.drew:=⟨U,y0,p0,p1⟩
 refine HA.g (fun u:World=>u.cell? (ar w.heap.size 12)=some (.slice D N cd)/\u.cell? (ar (w.heap.size+1) 0)=some (.slice (some (ar bz oz)) L c)/\u.cell? (ar bz oz)=some (MO n0)/\u.cell? ⟨bz,oz+(L-1),none⟩=some (MO n1)) ?_
 refine HA.t ?_ [0,1,2,3,4,5,6,7,8,9,10,11,12,13] v ?_
 refine HA.o 14 (fun K hK=>?_)
 go_simp
 refine (cx.o n0 n1 _ a6.o.drew).mono ?_
 rintro e w3 ⟨a3,d,hd⟩
 have bf:=LW (aw a3 v.1) (LW (aw a3 v.2.1) (LW (aw a3 v.2.2.1) (aw a3 v.2.2.2)))
 have H:aq w2 w3:=(LR w2.heap.size w2).drew.trans a3
 have a2:=(H.block _ lz).trans cb.o
 have a4:=(H.block _ ly).trans cs.o
 have bd:=HS.o.below H
 obtain ⟨aG,bI,bl,cf⟩:=ag (a6.o.trans (H.mono a6.o.size)) a2 a4 bd
 obtain ⟨ad,rfl,b4⟩:∃ad,e=.returned (.tuple #[MO d,.bool ad])/\decide (∀x∈data,fh n0 n1 x)=ad:=by
  rcases hd with ⟨ha,rfl⟩ | ⟨ha,rfl⟩
  ·exact ⟨true,rfl,MI ha⟩
  ·exact ⟨false,rfl,MJ ha⟩
 have a5:=aa b4;clear a3 H a2 a4 bd hd b4 v
 dsimp only
 refine hK.out _ _ bf (fun v=>?_)
 clear hK K bf
 refine HA.t ?_ [15,16,17,18,19] v ?_
 refine HA.d ?_
 clear v z0 z1 z2 z3 z4 z5 z6 z7 z8 z9 Z a1 U a0 I zf y0 y1 y2 y3 y4 y5 y6 y7 y8 y9 B C yf lz ly c6
 have a2:=bI.o;have a4:=bl.o
 obtain ⟨⟨z0,z1,z2,z3,z4,z5,z6,z7,z8,z9,Z,a1,U,a0,I⟩,zf⟩:=ki a2
 obtain ⟨⟨y0,y1,y2,y3,y4,y5,y6,y7,y8,y9,B,C⟩,yf⟩:=kl a4
 have lz:=LN a2;have ly:=LN a4
 clear a2 a4
 by_cases h7:N<bt
 ·have hq:(N:Int)<bt:=ap
  go_wp2_with fail
  go_ret
  exact ⟨bj (F7.o trivial (by rw [MK];omega)).symm,aG.o⟩
 have cY:¬((N:Int)<bt):=ap
 have cA:¬((1048576:Int)<N):=ap
 have G1:=aa (show decide ((bt:Int)<=N/\N<=1048576)=true by rw [ML];omega)
 rcases eh ad with rfl | rfl
 ·go_wp2_with fail
  go_quiet (fail)
  go_wp2_with fail
  go_ret
  exact ⟨bj (F5.o trivial G1.o (by rw [a5.o];rfl)).symm,LY aG.o _⟩
 have b1:=fun u (q:aq w3 u)=>cl.o S u (cf.o.below q)
 have b3:=aa b1;clear b1
 by_cases h5:M≠CN
 ·have hq:((M:Int) != (CN:Int))=true:=by rw [bne_iff_ne];omega
  have H5:=aa h5;clear h5
  go_wp2_with fail
  go_quiet ((go_at_call 79;refine Calls.quiet_of ((b3.o _ ?_).mono fun e u ⟨he,hw⟩=>⟨he,0,hw.symm⟩);exact am))
  go_wp2_with fail
  go_ret
  exact ⟨bj (F5.o trivial G1.o (by rw [a5.o,MJ H5.o];rfl)).symm,LY aG.o _⟩
 have hq:((M:Int) != (CN:Int))=false:=by rw [bne_eq_false_iff_eq];omega
 have G2:=aa (show (decide (∀x∈data,fh n0 n1 x)&&decide (M=CN))=true by rw [a5.o,MI (show M=CN by omega)];rfl);clear h5
 go_wp2_with fail
 go_quiet ((go_at_call 79;refine Calls.quiet_of ((b3.o _ ?_).mono fun e u ⟨he,hw⟩=>⟨he,0,hw.symm⟩);exact am))
 go_wp2_with fail
 obtain ⟨V,hV⟩:∃V,V=w3.drewN nq:=⟨_,rfl⟩
 have bN:aq w V:=by rw [hV];exact LY aG.o _
 have be:V.heap[w.heap.size]?=some (.cells #[.slice (some (ar bz oz)) L c,MO sh,MO ra,MO mo,MO wk,MO bt,MO mi,MO st,MO bu,MO ch,MO wi,MO ca,.slice D N cd,.slice T M ct,.slice R Q cr] 29 (0,0)):=by rw [hV];exact bI.o
 have bM:V.heap[w.heap.size+1]?=some (.cells #[.slice (some (ar bz oz)) L c,MO sh,MO ra,MO mo,MO wk,MO bt,MO mi,MO st,MO bu,MO ch,MO wi,MO ca] 24 (0,0)):=by rw [hV];exact bl.o
 clear z0 z1 z2 z3 z4 z5 z6 z7 z8 z9 Z a1 U a0 I zf y0 y1 y2 y3 y4 y5 y6 y7 y8 y9 B C yf
 rw [<-hV]
 clear hV
 obtain ⟨⟨z0,z1,z2,z3,z4,z5,z6,z7,z8,z9,Z,a1,U,a0,I⟩,zf⟩:=ki be
 obtain ⟨⟨y0,y1,y2,y3,y4,y5,y6,y7,y8,y9,B,C⟩,yf⟩:=kl bM
 have bb:=aa bN;clear bN be bM
 have Y:=cv.o HG.o ap V.drew bb.o.drew
 have bs:=aa Y;clear Y
 have v:(fun u:World=>u.cell? (ar w.heap.size 14)=some (.slice R Q cr)/\u.cell? (ar (w.heap.size+1) 0)=some (.slice (some (ar bz oz)) L c)/\u.cell? (ar (w.heap.size+1) 1)=some (MO sh)/\u.cell? (ar (w.heap.size+1) 2)=some (MO ra)/\u.cell? (ar (w.heap.size+1) 3)=some (MO mo)/\u.cell? (ar (w.heap.size+1) 4)=some (MO wk)/\u.cell? (ar (w.heap.size+1) 5)=some (MO bt)/\u.cell? (ar (w.heap.size+1) 6)=some (MO mi)/\u.cell? (ar (w.heap.size+1) 7)=some (MO st)/\u.cell? (ar (w.heap.size+1) 8)=some (MO bu)/\u.cell? (ar (w.heap.size+1) 9)=some (MO ch)/\u.cell? (ar (w.heap.size+1) 10)=some (MO wi)/\u.cell? (ar (w.heap.size+1) 11)=some (MO ca)) V.drew:=⟨I,y0,y1,y2,y3,y4,y5,y6,y7,y8,y9,B,C⟩
 refine HA.g (fun u:World=>u.cell? (ar w.heap.size 14)=some (.slice R Q cr)/\u.cell? (ar (w.heap.size+1) 0)=some (.slice (some (ar bz oz)) L c)/\u.cell? (ar (w.heap.size+1) 1)=some (MO sh)/\u.cell? (ar (w.heap.size+1) 2)=some (MO ra)/\u.cell? (ar (w.heap.size+1) 3)=some (MO mo)/\u.cell? (ar (w.heap.size+1) 4)=some (MO wk)/\u.cell? (ar (w.heap.size+1) 5)=some (MO bt)/\u.cell? (ar (w.heap.size+1) 6)=some (MO mi)/\u.cell? (ar (w.heap.size+1) 7)=some (MO st)/\u.cell? (ar (w.heap.size+1) 8)=some (MO bu)/\u.cell? (ar (w.heap.size+1) 9)=some (MO ch)/\u.cell? (ar (w.heap.size+1) 10)=some (MO wi)/\u.cell? (ar (w.heap.size+1) 11)=some (MO ca)) ?_
 refine HA.t ?_ [0,1,2,3,4] v ?_
 refine HA.o 5 (fun K hK=>?_)
 go_simp
 refine bs.o.mono ?_
 rintro e w4 ⟨rfl,y⟩
 have bw:=aa (bb.o.trans ((LR V.heap.size V).drew.trans y |>.mono bb.o.size))
 have bA:=LW (aw y v.1) (LW (aw y v.2.1) (LW (aw y v.2.2.1) (LW (aw y v.2.2.2.1) (LW (aw y v.2.2.2.2.1) (LW (aw y v.2.2.2.2.2.1) (LW (aw y v.2.2.2.2.2.2.1) (LW (aw y v.2.2.2.2.2.2.2.1) (LW (aw y v.2.2.2.2.2.2.2.2.1) (LW (aw y v.2.2.2.2.2.2.2.2.2.1) (LW (aw y v.2.2.2.2.2.2.2.2.2.2.1) (LW (aw y v.2.2.2.2.2.2.2.2.2.2.2.1) (aw y v.2.2.2.2.2.2.2.2.2.2.2.2))))))))))))
 clear y v
 dsimp only
 refine hK.out _ _ bA (fun v=>?_)
 clear hK K bA
 refine HA.t ?_ [6,7] v ?_
 refine HA.d ?_
 clear v z0 z1 z2 z3 z4 z5 z6 z7 z8 z9 Z a1 U a0 I zf y0 y1 y2 y3 y4 y5 y6 y7 y8 y9 B C yf
 by_cases h8:ND<=Q
 ·have c7:¬((Q:Int)<ND):=ap
  have cj:decide ((Q:Int)<ND)=false:=by simp;omega
  have c8:decide (Q<ND)=false:=by simp;omega
  have G8:=aa (MI h8)
  go_wp2_with fail
  go_ret
  exact ⟨bj (F0.o trivial G1.o G2.o G8.o).symm,bw.o⟩
 ·have c7:(Q:Int)<ND:=ap
  have cj:decide ((Q:Int)<ND)=true:=by simp;omega
  have c8:decide (Q<ND)=true:=by simp;omega
  have G8:=aa (MJ h8)
  go_wp2_with fail
  go_ret
  exact ⟨bj (F8.o trivial G1.o G2.o G8.o).symm,bw.o⟩
end Go.Proofs.YtgmajkppbhiopaaGreat
namespace Go.Proofs.YtgmajkppbhiopaaGreat
open Go.RowKit Go.Shelf
open Tryz
attribute [local go_sem] Oper.semAt_some
def qU (l:List Int):Int:=l.foldl (fun a x=>wrap64 (a+x)) 0
theorem BZ (l:List Int) (x:Int):qU (l++[x])=wrap64 (qU l+x):=by simp [qU]
def uQ (zs:List Int) {m:Nat} (k:Fin m):Array Value:=#[MO (nth zs k.1)]
theorem IF {zs:List Int} {m:Nat} (h:zs.length=m):((List.finRange m).map fun k=>nth zs k.1)=zs:=by
 refine iU (by simp [h]) fun k hk=>?_
 rw [dE _ _ hk]
 simp
theorem wR {β:Type} (B b:Nat) (o:List β->Obj) (i:∀p,(o p).isCells=true):OwnFrom B (fun (p:List β) W=>W.heap[b]?=some (o p)):=fun p W h row hs hg hr=>fS (β:=List β) B b (o p) (i p) p W h row hs hg hr
theorem D8 (n l Y n₀ m d:Nat) (A:Option Addr) (zs:List Int) (T:zs.length=m) (hm:m<=1048576) (a7:Y<n₀) (R:∀a,A=some a->a.block<n₀) (J Jx:List (Fin m)->World->Prop)
  (hY:∀u x W,J u W->u.length<m->YieldAt Fence.wide (n-1) prog l (uQ zs x) W fun e I=>
   (e=.returned (.bool true)/\J (u++[x]) I/\iJ n₀ Y W I)\/(e=.returned (.bool false)/\Jx (u++[x]) I))
  (W:World) (H:W.heap[Y]?=some (.cells #[.slice A m d] 26 (0,0))) (hA:Rd W A (aA .i64 zs)) (h0:J [] W):
  CallsIn Fence.wide n prog 276 #[.func (.yield l) #[] #[],(au Y)] W fun e I=>(∃v,e=.returned v)/\
   ((∃ys,ys=List.finRange m/\J ys I)\/(∃u,True/\Jx u I)):=by
 obtain ⟨e0,ef⟩:=bx1 H
 obtain ⟨a6,HA,Z,a3⟩:=ag H hA T R;clear H hA T R
 refine callsIn_of_wp func276 rfl trivial ?_ rfl
 simp only [ntmps276,List.size_toArray,List.length_cons,List.length_nil,Nat.reduceAdd,Nat.reduceSub,Array.replicate_succ,Array.replicate_zero,List.push_toArray,List.append_toArray,List.nil_append,List.cons_append]
 gi_wp2
 gi_loopw [7] (fun i wr=>∃k:Nat,k<=m/\i=MO k/\J ((List.finRange m).take k) wr/\Rd wr A (aA .i64 zs))
  (fun i _=>m-(intOf i).toNat)
 case atStart=>exact ⟨0,LS _,rfl,h0,HA.o⟩
 case round=>
  obtain ⟨k,hk,rfl,y,B⟩:=hrel
  clear e0 ef
  by_cases D:k<m
  ·have U:((List.finRange m).take k).length<m:=by simp;omega
   have a2:=aa B
   obtain ⟨b,o,rfl,p⟩:=B.num (show k<zs.length by rw [Z.o];exact D)
   obtain ⟨fn,tmps,V,a5,hy,hR⟩:=hY _ ⟨k,D⟩ wr y U
   unfold uQ at hy
   dsimp only at hy
   clear B y
   gi_wp2
   refine ⟨(fun h=>by cases h),?_⟩
   refine hR.mono ?_
   rintro e w5 (⟨rfl,L,Q⟩ | ⟨rfl,O⟩)
   ·have N:=a2.o.belowB Q.1 a3.o
    obtain ⟨a0,a4⟩:=ae N L;clear N L Q p
    gi_wp2
    go_roundw
    case rel=>exact ⟨k+1,by omega,by go_num,by rw [Bq D];exact a4.o,a0.o⟩
    case measure=>simp [intOf];omega
   ·gi_wp2
    refine L7 (results_none rfl _ _ _) rfl ?_
    exact ⟨⟨_,rfl⟩,.inr ⟨_,trivial,O⟩⟩
  ·obtain rfl:k=m:=ap
   have C:(List.finRange k).take k=List.finRange k:=List.take_of_length_le (by simp)
   rw [C] at y
   have a1:=aa y;clear y C B
   gi_wp2
   go_end0
   exact ⟨⟨_,rfl⟩,.inl ⟨_,rfl,a1.o⟩⟩
theorem yk (n i n₀ m d:Nat) (A:Option Addr) (zs:List Int) (u:zs.length=m) (hm:m<=1048576) (p:i<n₀) (o:∀a,A=some a->a.block<n₀) (w:World)
  (h:w.heap[i]?=some (.cells #[.slice A m d] 26 (0,0))) (hA:Rd w A (aA .i64 zs)):
  SeqStopsK Fence.wide n prog 276 #[(au i)] (uQ zs (m:=m)) (iJ n₀ i) (fun ys=>ys=List.finRange m) (fun _=>True) m w:=fun l J y W v _ _ B x=>
 D8 n l i n₀ m d A zs u hm p o J y B W ((v.block _ (LN h)).trans h) (hA.below v) x
theorem BT (L m d:Nat) (A:Option Addr) (zs:List Int) (w:World) (C:w.heap[L]?=some (.cells #[.slice A m d] 26 (0,0))) (hA:Rd w A (aA .i64 zs)) (y:zs.length=m) (hm:m<=1048576) (J:∀a,A=some a->a.block<w.heap.size):
  Calls prog 272 #[.func (.func 276) #[] #[(au L)]] w fun e w'=>e=.returned (MO (qU zs))/\aq w w':=by
 have N:=LN C
 have H:=yk 2 L w.heap.size m d A zs y hm N J (w.alloc (.cells #[MO 0] 2)) ((L0 w _ _ N).trans C) (hA.alloc _)
 obtain ⟨V,T⟩:=ae H y;clear H C hA y J
 refine (callsIn_wide (n:=3)).1 ?_
 refine callsIn_of_wp_marks func272 rfl trivial ?_ rfl
 simp only [ntmps272,List.size_toArray,List.length_cons,List.length_nil,Nat.reduceAdd,Nat.reduceSub,Array.replicate_succ,Array.replicate_zero,List.push_toArray,List.append_toArray,List.nil_append,List.cons_append]
 gi_wp2_with fail
 refine' wpIn_rangeFunc_ownG (F:=Fence.wide) (n:=3) rfl ap (gf:=276) (lb:=#[(au L)]) rfl trivial (enters_of func276 (by kernel_rfl) rfl)
  V.o kU (kY (by simp) (by simp;omega)) (LR _ _) (fun _=>rfl)
  (fun (p:List (Fin m)) W=>(W.heap[w.heap.size]?=some (.cells #[MO (qU (p.map fun k=>nth zs k.1))] 2 (0,0)))/\aq w W)
  (fun _ _ _=>False)
  (OwnFrom.and (wR _ _ (fun p:List (Fin m)=>.cells #[MO (qU (p.map fun k=>nth zs k.1))] 2 (0,0)) (fun _=>rfl)) (ownFrom_below (LO _) (by simp)))
  (fun _ _ _ _ _ hs _ _=>hs)
  ⟨LP w _,(LR _ w).alloc (LO _) _⟩
  _ ?assign ?body ?done ?stop
 case assign=>
  intro l x W K Q
  unfold uQ
  gi_wp2
  exact Q
 case body=>
  rintro l p x W ⟨u,i⟩ U
  obtain ⟨R,v⟩:∃R,qU (p.map fun k=>nth zs k.1)=R:=⟨_,rfl⟩
  obtain ⟨O,B⟩:∃O,nth zs x.1=O:=⟨_,rfl⟩
  rw [v] at u
  obtain ⟨p0,pf⟩:=bx1 u
  have a0:=LN u
  obtain ⟨HS,HB,Z,Y⟩:=ag u i v B;clear u i U v
  simp only [B]
  clear B
  gi_wp2_with fail
  have hk:Keep (fun j=>j=w.heap.size) W (W.setCell (ar w.heap.size 0) (MO (wrap64 (R+O)))):=Keep.setCell (S:=fun j=>j=w.heap.size) (Keep.refl _ _) (ar w.heap.size 0) (.inr rfl) _
  have hb:Below w.heap.size W (W.setCell (ar w.heap.size 0) (MO (wrap64 (R+O)))):=hk.toBelow HB.o.size (fun j hj=>ap)
  refine ⟨(ma hk (fun k o hs I=>by rw [hs,HS.o] at I;injection I with e;subst e;rfl)).from _,⟨hb,fun h=>hk.block L h ap⟩,?_,HB.o.trans hb⟩
  rw [List.map_append,List.map_cons,List.map_nil,BZ,Z.o,Y.o]
  exact MM W w.heap.size 0 _ _ _ HS.o
 case done=>
  rintro D ys W hD rfl ⟨u,i⟩ Q
  rw [IF T.o] at u
  obtain ⟨p0,pf⟩:=bx1 u
  gi_wp2
  refine ⟨by simp,.inl ⟨_,_,rfl,run_takeDeferred Q,?_⟩⟩
  exact ⟨MO (qU zs),by simp [results,results272,go_sem],rfl,i.trans (belowK_b (w:=w) (LO _) W D _ _ (by simp at hD;omega) Q rfl rfl)⟩
 case stop=>
  rintro D c p W _ _ h _
  exact h.elim
theorem D7 (A:Option Addr) (m d:Nat) (w:World):
  Calls prog 273 #[.slice A m d] w fun e h=>e=.returned (.func (.func 276) #[] #[(au w.heap.size)])/\h=w.alloc (.cells #[.slice A m d] 26):=by
 go_enter func273,ntmps273
 go_wp2
 go_ret
 exact ⟨rfl,rfl⟩
theorem Gu (A:Option Addr) (m d:Nat) (zs:List Int) (w:World) (hA:Rd w A (aA .i64 zs)) (i:zs.length=m) (hm:m<=1048576) (h:∀a,A=some a->a.block<w.heap.size):
  Calls prog 262 #[.slice A m d] w fun e u=>e=.returned (MO (qU zs))/\aq w u:=by
 have p:=BT w.heap.size m d A zs (w.alloc (.cells #[.slice A m d] 26)) (LP w _) (hA.alloc _) i hm (fun a v=>by have:=h a v;simp;omega)
 have x:=aa p;clear p hA i h
 go_enter func262,ntmps262
 go_wp2_with fail
 refine (D7 A m d w).mono ?_
 rintro e B ⟨rfl,rfl⟩
 go_wp2_with fail
 refine x.o.mono ?_
 rintro e C ⟨rfl,hb⟩
 have y:=aa (((LR _ w).alloc (LO _) _).trans (hb.mono (by simp)));clear hb
 go_wp2
 go_ret
 exact ⟨rfl,y.o⟩
end Go.Proofs.YtgmajkppbhiopaaGreat
namespace Go.Proofs.YtgmajkppbhiopaaGreat
open Go.RowKit
open Tryz
theorem Ej (a b:Int):qU [a,b]=wrap64 (a+b):=by
 show wrap64 (wrap64 (0+a)+b)=wrap64 (a+b)
 unfold wrap64
 omega
def eT (h q m g:Int):Int:=wrap64 (fm h m q+g)
def lO (ra q p m:Int):Int:=wrap64 (p-fm ra m q)
def apM (h q:Int) (ms g:List Int) (lo k:Nat):List Int:=dB ms.length fun j=>if lo<=j/\j<lo+k then eT h q (nth ms j) (nth g (j-lo)) else nth ms j
def apP (ra h q:Int) (ps ms g:List Int) (lo k:Nat):List Int:=dB ps.length fun j=>if lo<=j/\j<lo+k then lO ra q (nth ps j) (eT h q (nth ms j) (nth g (j-lo))) else nth ps j
theorem ya (h q:Int) (ms g:List Int) (lo:Nat):apM h q ms g lo 0=ms:=(fv rfl fun k _=>by rw [if_neg ap]).symm
theorem x6 (ra h q:Int) (ps ms g:List Int) (lo:Nat):apP ra h q ps ms g lo 0=ps:=(fv rfl fun k _=>by rw [if_neg ap]).symm
theorem mX (h q:Int) (ms g:List Int) (lo k:Nat):(apM h q ms g lo k).length=ms.length:=cC _ _
theorem mW (ra h q:Int) (ps ms g:List Int) (lo k:Nat):(apP ra h q ps ms g lo k).length=ps.length:=cC _ _
theorem KA (i q:Int) (ms g:List Int) (lo k:Nat) (h:lo+k<ms.length):nth (apM i q ms g lo k) (lo+k)=nth ms (lo+k):=by
 unfold apM;rw [bS _ h,if_neg ap]
theorem Kz (ra i q:Int) (ps ms g:List Int) (lo k:Nat) (h:lo+k<ps.length):nth (apP ra i q ps ms g lo k) (lo+k)=nth ps (lo+k):=by
 unfold apP;rw [bS _ h,if_neg ap]
theorem BE (i q:Int) (ms g:List Int) (lo k:Nat) (h:lo+k<ms.length):(apM i q ms g lo k).set (lo+k) (eT i q (nth ms (lo+k)) (nth g k))=apM i q ms g lo (k+1):=by
 refine iU (by simp [mX]) fun j o=>?_
 rw [List.length_set,mX] at o
 rw [ix,mX]
 unfold apM
 rw [bS _ o,bS _ o]
 by_cases h1:j=lo+k
 ·subst h1
  rw [if_pos ⟨rfl,h⟩,if_pos ap,show lo+k-lo=k by omega]
 ·rw [if_neg ap]
  by_cases p:lo<=j/\j<lo+k
  ·rw [if_pos p,if_pos ap]
  ·rw [if_neg p,if_neg ap]
theorem BC (ra i q:Int) (ps ms g:List Int) (lo k:Nat) (h:lo+k<ps.length):(apP ra i q ps ms g lo k).set (lo+k) (lO ra q (nth ps (lo+k)) (eT i q (nth ms (lo+k)) (nth g k)))=apP ra i q ps ms g lo (k+1):=by
 refine iU (by simp [mW]) fun j o=>?_
 rw [List.length_set,mW] at o
 rw [ix,mW]
 unfold apP
 rw [bS _ o,bS _ o]
 by_cases h1:j=lo+k
 ·subst h1
  rw [if_pos ⟨rfl,h⟩,if_pos ap,show lo+k-lo=k by omega]
 ·rw [if_neg ap]
  by_cases p:lo<=j/\j<lo+k
  ·rw [if_pos p,if_pos ap]
  ·rw [if_neg p,if_neg ap]
theorem vB {i q:Int} {ms g:List Int} {lo k:Nat} (h:W64 ms):W64 (apM i q ms g lo k):=fx fun j o=>by
 split
 ·exact fU _
 ·exact h j o
def rK (h q:Int) (ms g:List Int):List Int:=dB ms.length fun j=>eT h q (nth ms j) (nth g j)
def rJ (ra h q:Int) (ps ms g:List Int):List Int:=dB ps.length fun j=>lO ra q (nth ps j) (eT h q (nth ms j) (nth g j))
theorem JA (h q:Int) (ms g:List Int):apM h q ms g 0 ms.length=rK h q ms g:=eK fun k hk=>by rw [if_pos ap,Nat.sub_zero]
theorem Jz (ra h q:Int) (ps ms g:List Int):apP ra h q ps ms g 0 ps.length=rJ ra h q ps ms g:=eK fun k hk=>by rw [if_pos ap,Nat.sub_zero]
theorem Cv (lo i:Nat) (w:World) (h:lo<=i) (x:i<=17592186043904):Calls prog 175 #[.agg #[MO lo,MO i]] w fun e v=>e=.returned (MO ((i-lo:Nat):Int))/\aq w v:=by
 have h1:(0:Int)<=(i:Int)-lo:=ap
 have p:max ((i:Int)-lo) 0=((i-lo:Nat):Int):=ap
 have u:=aa p;clear p
 go_enter func175,ntmps175
 go_wp2
 all_goals
  go_ret
  exact ⟨bj (by have:=u.o;omega),(LR _ w).alloc (LO _) _⟩
theorem ym (ra I q g:Int) (base n i y cp x cm:Nat) (ps ms:List Int) (w:World) (hp:w.ownsRow base 2 1 (.slice (some (ar y 0)) n cp) n (aA .i64 ps)) (hm:w.ownsRow base 2 1 (.slice (some (ar x 0)) n cm) n (aA .i64 ms)) (b8:y≠x) (hi:i<n)
  (wr: -9223372036854775808<=ra/\ra<=9223372036854775807) (wo: -9223372036854775808<=I/\I<=9223372036854775807) (wm:W64 ms):
  Calls prog 253 #[.agg #[MO ra,MO I,MO q],.pointer (some (ar y i)),.pointer (some (ar x i)),MO g] w fun e u=>e=.returned (.tuple #[])/\
   u.ownsRow base 2 1 (.slice (some (ar y 0)) n cp) n (aA .i64 (ps.set i (lO ra q (nth ps i) (eT I q (nth ms i) g))))/\u.ownsRow base 2 1 (.slice (some (ar x 0)) n cm) n (aA .i64 (ms.set i (eT I q (nth ms i) g)))/\Keep (fun j=>j=y\/j=x) w u:=by
 have a8:=jX hm
 have p1:=cE hp hi
 have p2:=cE hm hi
 have f1:=hp.frozenAt i
 have f2:=hm.frozenAt i
 have l1:=(hp.lt y rfl).2
 have l2:=(hm.lt x rfl).2
 have Z:=fun u=>se I (nth ms i) q u wo (wm i ap)
 have R:=fun m' u (h: -9223372036854775808<=m'/\m'<=9223372036854775807)=>se ra m' q u wr h
 obtain ⟨m0,b1⟩:∃m0,nth ms i=m0:=⟨_,rfl⟩
 obtain ⟨p0,aG⟩:∃p0,nth ps i=p0:=⟨_,rfl⟩
 rw [b1] at p2 Z ⊢
 rw [aG] at p1 ⊢
 obtain ⟨m1,B⟩:∃m1,eT I q m0 g=m1:=⟨_,rfl⟩
 have b5: -9223372036854775808<=m1/\m1<=9223372036854775807:=by rw [<-B];exact fU _
 obtain ⟨mu,N⟩:∃mu,fm I m0 q=mu:=⟨_,rfl⟩
 have aR:qU [mu,g]=m1:=by rw [Ej,<-B,<-N];rfl
 rw [B]
 rw [N] at Z
 have R:=fun u=>R m1 u b5
 obtain ⟨pu,L⟩:∃pu,fm ra m1 q=pu:=⟨_,rfl⟩
 rw [L] at R
 obtain ⟨p9,a9⟩:∃p9,lO ra q p0 m1=p9:=⟨_,rfl⟩
 have a1:wrap64 (p0-pu)=p9:=by rw [<-a9,<-L];rfl
 rw [a9]
 have ab:=fun u=>AD p0 pu u
 rw [a1] at ab
 have a7:=fun A u (hA:Rd u A (aA .i64 [mu,g])) ha=>Gu A 2 2 [mu,g] u hA rfl ap ha
 rw [aR] at a7
 obtain ⟨bh,bl,bo,bi,HP,HM,bb,b2⟩:=ak Z R ab a7 hp hm aG b8;clear Z R ab a7 hp hm b1 aG B N aR L a9 a1 wr wo wm a8 b5
 go_enter func253,ntmps253
 go_wp2_with fail
 have hz:=LP w (.cells #[MO ra,MO I,MO q] 172)
 have D:aq w (w.alloc (.cells #[MO ra,MO I,MO q] 172)):=(LR _ w).alloc (LO _) _
 obtain ⟨W0,b3⟩:∃W0,W0=w.alloc (.cells #[MO ra,MO I,MO q] 172):=⟨_,rfl⟩
 rw [<-b3] at hz D ⊢
 clear b3
 have q1:=aw D p1
 have q2:=aw D p2
 obtain ⟨⟨y0,y1,y2⟩,yf⟩:=bx3 hz
 have a0:=ay HP.o D
 have a4:=ay HM.o D
 have b9:=LN hz
 obtain ⟨HZ,bs,bd,bz⟩:=ag hz D a0 a4;clear hz D a0 a4 p1 p2 f1 f2
 have p:(fun u:World=>u.cell? (ar w.heap.size 1)=some (MO I)/\u.cell? (ar w.heap.size 2)=some (MO q)/\u.cell? (ar x i)=some (MO m0)) W0.drew:=⟨y1,y2,q2⟩
 refine XA.g 12 (fun u:World=>u.cell? (ar w.heap.size 1)=some (MO I)/\u.cell? (ar w.heap.size 2)=some (MO q)/\u.cell? (ar x i)=some (MO m0)) ?_
 refine XA.t ?_ [0,1,2,3,4,5,6,7,9] p ?_
 refine XA.o 8 (fun K H=>?_)
 go_simp
 refine (bh.o _).mono ?_
 rintro e w1 ⟨rfl,v⟩
 have b0:=LW (aw v p.1) (LW (aw v p.2.1) (aw v p.2.2))
 have ad:=aa ((LR W0.heap.size W0).drew.trans v);clear v p
 dsimp only
 refine H.out _ _ b0 (fun p=>?_)
 clear H K b0
 refine XA.o 10 (fun K H=>?_)
 go_simp
 refine H.out _ _ ⟨aH p.1 _,aH p.2.1 _,aH p.2.2 _⟩ (fun p=>?_)
 clear H K
 refine XA.o 11 (fun K H=>?_)
 go_simp
 refine (bi.o _ _ ?_ ?_).mono ?_
 ·exact dD _ [MO mu,MO g] 2 _ (by simp)
 ·intro a ha;injection ha with ha;subst ha;simp
 rintro e w2 ⟨rfl,v⟩
 have av:=LW (aw v p.1) (LW (aw v p.2.1) (aw v p.2.2))
 have C:aq W0 w2:=(ad.o.alloc ad.o.size _).trans (v.mono (by have:=ad.o.size;simp;omega))
 have ao:=ay bd.o C
 have B:=ay bz.o C
 have bf:=aw C q1
 have g1:=B.frozenAt i
 have g2:=ao.frozenAt i
 have b7:=(C.block _ b9).trans HZ.o
 have bX:=C.size
 obtain ⟨bI,bN,b4,bM⟩:=ag ao B C b7;clear ao B C v b7 p y0 y1 y2 yf q1 q2
 dsimp only
 refine H.out _ _ av (fun p=>?_)
 clear H K
 have q3:=av.2.2
 refine XA.e ?_
 clear p av
 simp only [Mm,Mn]
 go_wp2_with fail
 have Q:Keep (fun j=>j=x) w2 (w2.setCell (ar x i) (MO m1)):=Keep.setCell (S:=fun j=>j=x) (Keep.refl _ _) (ar x i) (.inr rfl) _
 have U:=dS bN.o i m1
 have a2:∀j,(Value.slice (some (ar y 0)) n cp).ownBlock=some j->¬j=x:=fun j hj e=>by
  have h1:y=j:=by simpa [Value.ownBlock] using hj
  exact b2.o ap
 have a3:∀j,(Value.slice (some (ar x 0)) n cm).ownBlock=some j->¬j=y:=fun j hj e=>by
  have h1:x=j:=by simpa [Value.ownBlock] using hj
  exact b2.o ap
 have Y:=Q.own bI.o a2
 have aM:=aa a3;clear a2 a3
 have O:=(Q.block _ (by have:=b4.o.size;omega) ap).trans bM.o
 obtain ⟨V,hV⟩:∃V,V=w2.setCell (ar x i) (MO m1):=⟨_,rfl⟩
 rw [<-hV] at Q U Y O ⊢
 clear hV bf q3 g1 g2
 have r1:=cE Y hi
 have r2:=cE U hi
 have a8:=jX HM.o
 rw [ix,if_pos ⟨rfl,by omega⟩] at r2
 rw [bb.o] at r1
 obtain ⟨⟨y0,y1,y2⟩,yf⟩:=bx3 O
 have bO:=LN O
 obtain ⟨bw,bA,be,bV⟩:=ag Q U Y O;clear Q U Y O a8
 have p:(fun u:World=>u.cell? (ar w.heap.size 0)=some (MO ra)/\u.cell? (ar w.heap.size 2)=some (MO q)/\u.cell? (ar y i)=some (MO p0)/\u.cell? (ar x i)=some (MO m1)) V.drew:=⟨y0,y2,r1,r2⟩
 refine XA.g 13 (fun u:World=>u.cell? (ar w.heap.size 0)=some (MO ra)/\u.cell? (ar w.heap.size 2)=some (MO q)/\u.cell? (ar y i)=some (MO p0)/\u.cell? (ar x i)=some (MO m1)) ?_
 refine XA.t ?_ [0,1,2,3,4,5,6,7,8,9,10] p ?_
 refine XA.o 11 (fun K H=>?_)
 go_simp
 refine (bl.o _).mono ?_
 rintro e w3 ⟨rfl,J⟩
 have a6:=LW (aw J p.1) (LW (aw J p.2.1) (LW (aw J p.2.2.1) (aw J p.2.2.2)))
 have T:aq V w3:=(LR V.heap.size V).drew.trans J
 have a5:=ay be.o T
 have b6:=ay bA.o T
 have g2:=a5.frozenAt i
 have q3:=a6.2.2.1
 obtain ⟨bv,bn,bG⟩:=af T a5 b6;clear J T a5 b6 p
 dsimp only
 refine H.out _ _ a6 (fun p=>?_)
 clear H K a6
 refine XA.o 12 (fun K H=>?_)
 go_simp
 refine (bo.o _).mono ?_
 rintro e w4 ⟨rfl,rfl⟩
 dsimp only
 refine H.out _ _ p (fun p=>?_)
 clear H K
 refine XA.e ?_
 clear p y0 y1 y2 yf r1 r2
 simp only [Mm,Mn]
 go_wp2_with fail
 go_end0
 have aP:Keep (fun j=>j=y) w3 (w3.setCell (ar y i) (MO p9)):=Keep.setCell (S:=fun j=>j=y) (Keep.refl _ _) (ar y i) (.inr rfl) _
 refine ⟨rfl,dS bn.o i p9,aP.own bG.o aM.o,?_⟩
 have k1:Keep (fun j=>j=y\/j=x) w W0:=Keep.below bs.o
 have k2:Keep (fun j=>j=y\/j=x) W0 w2:=Keep.below b4.o
 have k3:Keep (fun j=>j=y\/j=x) w2 V:=bw.o.mono (fun _ _ h=>.inr h)
 have k4:Keep (fun j=>j=y\/j=x) V w3:=Keep.below bv.o
 exact (((k1.trans k2).trans k3).trans k4).trans (aP.mono (fun _ _ h=>.inl h))
theorem uC (ra p q:Int) (base n lo m c1 c2 cg:Nat) (A B G:Option Addr) (ps ms g:List Int) (w:World) (hp:w.ownsRow base 2 1 (.slice A n c1) n (aA .i64 ps)) (hm:w.ownsRow base 2 1 (.slice B n c2) n (aA .i64 ms)) (ad:∀i,(Value.slice A n c1).ownBlock=some i->(Value.slice B n c2).ownBlock≠some i)
  (hG:Rd w G (aA .i64 g)) (b1:g.length=m) (cr:lo+m<=n) (hn:n<=1048576) (ab:∀a,G=some a->(Value.slice A n c1).ownBlock≠some a.block) (b3:∀a,G=some a->(Value.slice B n c2).ownBlock≠some a.block)
  (wr: -9223372036854775808<=ra/\ra<=9223372036854775807) (wo: -9223372036854775808<=p/\p<=9223372036854775807) (wm:W64 ms):
  Calls prog 237 #[.agg #[MO ra,MO p,MO q],.agg #[.slice A n c1,.slice B n c2],.agg #[MO lo,MO ((lo+m:Nat):Int)],.slice G m cg] w fun e v=>e=.returned (.bool true)/\
   v.ownsRow base 2 1 (.slice A n c1) n (aA .i64 (apP ra p q ps ms g lo m))/\v.ownsRow base 2 1 (.slice B n c2) n (aA .i64 (apM p q ms g lo m))/\Keep (fun j=>(Value.slice A n c1).ownBlock=some j\/(Value.slice B n c2).ownBlock=some j) w v:=by
 have bd:=jX hp
 have b9:=jX hm
 have Z:=fun v=>Cv lo (lo+m) v ap ap
 rw [Nat.add_sub_cancel_left] at Z
 obtain ⟨H,b5⟩:∃H,lo+m=H:=⟨_,rfl⟩
 rw [b5] at Z ⊢
 have cn:lo<=H:=ap
 have cA:H<=n:=ap
 have cL:((n:Int) != (n:Int))=false:=by simp
 have cx:((m:Int) != (m:Int))=false:=by simp
 have cs:¬((n:Int)<(H:Int)):=ap
 have ct:¬((H:Int)<lo):=ap
 have a3:=hp.lt
 have a5:=hm.lt
 obtain ⟨av,HP,HM,bV,HG,bI,bf,ao⟩:=ak Z hp hm ad hG b1 ab b3;obtain ⟨aR,b6,Wr,Wo,Wm,a0,a1⟩:=aj bd b9 wr wo wm a3 a5;clear Z hp hm ad hG b1 ab b3 bd b9 wr wo wm a3 a5 b5
 go_enter func237,ntmps237
 go_wp2_with fail
 have a6:(((w.alloc (.cells #[MO ra,MO p,MO q] 172)).alloc (.cells #[.slice A n c1,.slice B n c2] 141)).alloc (.cells #[MO lo,MO H] 148)).heap.size=w.heap.size+3:=by simp
 have a8:aq w (((w.alloc (.cells #[MO ra,MO p,MO q] 172)).alloc (.cells #[.slice A n c1,.slice B n c2] 141)).alloc (.cells #[MO lo,MO H] 148)):=(((LR _ w).alloc (LO _) _).alloc (by simp) _).alloc (by simp;omega) _
 have a7:=(L0 ((w.alloc (.cells #[MO ra,MO p,MO q] 172)).alloc (.cells #[.slice A n c1,.slice B n c2] 141)) (.cells #[MO lo,MO H] 148) w.heap.size (by simp;omega)).trans ((L0 (w.alloc (.cells #[MO ra,MO p,MO q] 172)) (.cells #[.slice A n c1,.slice B n c2] 141) w.heap.size (by simp)).trans (LP w _))
 have D:=LP (w.alloc (.cells #[MO ra,MO p,MO q] 172)) (.cells #[.slice A n c1,.slice B n c2] 141)
 rw [show (w.alloc (.cells #[MO ra,MO p,MO q] 172)).heap.size=w.heap.size+1 by simp] at D
 have D:=(L0 ((w.alloc (.cells #[MO ra,MO p,MO q] 172)).alloc (.cells #[.slice A n c1,.slice B n c2] 141)) (.cells #[MO lo,MO H] 148) (w.heap.size+1) (by simp)).trans D
 have T:=LP ((w.alloc (.cells #[MO ra,MO p,MO q] 172)).alloc (.cells #[.slice A n c1,.slice B n c2] 141)) (.cells #[MO lo,MO H] 148)
 rw [show ((w.alloc (.cells #[MO ra,MO p,MO q] 172)).alloc (.cells #[.slice A n c1,.slice B n c2] 141)).heap.size=w.heap.size+1+1 by simp] at T
 obtain ⟨W0,bi⟩:∃W0,W0=((w.alloc (.cells #[MO ra,MO p,MO q] 172)).alloc (.cells #[.slice A n c1,.slice B n c2] 141)).alloc (.cells #[MO lo,MO H] 148):=⟨_,rfl⟩
 rw [<-bi] at a6 a8 a7 D T ⊢
 obtain ⟨co,L,aG,b0,V⟩:=ah a6 a8 a7 D T;clear a6 a8 a7 D T bi
 refine (av.o _).mono ?_
 rintro e w1 ⟨rfl,k1⟩
 have y:=(k1.block _ (LN V.o)).trans V.o
 have c7:=LN y
 obtain ⟨⟨x0,x1⟩,xf⟩:=bx2 y
 have K1:=aa k1;clear k1 y
 go_wp2_with fail
 refine (av.o _).mono ?_
 rintro e w2 ⟨rfl,k2⟩
 have K2:=aa (K1.o.trans (k2.mono K1.o.size));clear k2 x0 x1 xf c7
 have b8:=L.o.trans (K2.o.mono L.o.size)
 have bl:=ay (ay HP.o L.o) K2.o
 have b4:=ay (ay HM.o L.o) K2.o
 have bv:=(HG.o.below L.o).below K2.o
 have I:=(K2.o.block _ (LN aG.o)).trans aG.o
 have Q:=(K2.o.block _ (LN b0.o)).trans b0.o
 have y:=(K2.o.block _ (LN V.o)).trans V.o
 obtain ⟨bX,bN,cc,c8,bh,bb,bs⟩:=aj b8 bl b4 bv I Q y;clear b8 bl b4 bv I Q y
 go_wp2_with fail
 go_loopw [46] (fun x wr=>∃k:Nat,k<=m/\x=MO k/\wr.ownsRow base 2 1 (.slice A n c1) n (aA .i64 (apP ra p q ps ms g lo k))/\wr.ownsRow base 2 1 (.slice B n c2) n (aA .i64 (apM p q ms g lo k))/\Keep (fun j=>(Value.slice A n c1).ownBlock=some j\/(Value.slice B n c2).ownBlock=some j) w2 wr) (fun x _=>m-(intOf x).toNat)
 case atStart=>exact ⟨0,LS _,rfl,by rw [x6];exact bN.o,by rw [ya];exact cc.o,Keep.refl _ _⟩
 case round=>
  obtain ⟨k,hk,rfl,R,J,N⟩:=hrel
  by_cases bO:k<m
  ·have hG:=N.rd c8.o (fun a ha=>by
    rintro (h | h)
    ·exact bf.o a ha h
    ·exact ao.o a ha h)
   obtain ⟨bG,oG,rfl,pg⟩:=hG.num (show k<g.length by rw [bI.o];exact bO)
   obtain ⟨gk,O⟩:∃gk,nth g k=gk:=⟨_,rfl⟩
   rw [O] at pg
   have U:∀j,w.heap.size<=j->¬((Value.slice A n c1).ownBlock=some j\/(Value.slice B n c2).ownBlock=some j):=fun j hj=>by
    rintro (h | h)
    ·have:=(a0.o j h).2;omega
    ·have:=(a1.o j h).2;omega
   have I:=(N.block _ (LN bh.o) (U _ (LO _))).trans bh.o
   have Q:=(N.block _ (LN bb.o) (U _ ap)).trans bb.o
   have y:=(N.block _ (LN bs.o) (U _ ap)).trans bs.o
   obtain ⟨Y,e1,b2,_,_⟩:=R.form ap
   obtain ⟨gm,e2,be,_,_⟩:=J.form ap
   simp only [MC] at b2 be
   obtain ⟨rfl,_,rfl⟩:=b2
   obtain ⟨rfl,_,rfl⟩:=be
   have a4:Y≠gm:=fun e=>bV.o Y rfl (by rw [e];rfl)
   have a9:=ym ra p q gk base n (lo+k) Y c1 gm c2 (apP ra p q ps ms g lo k) (apM p q ms g lo k) wr.drew (bT R 1) (bT J 1) a4 ap Wr.o Wo.o (vB Wm.o)
   rw [Kz ra p q ps ms g lo k (by have:=aR.o;omega),KA p q ms g lo k (by have:=b6.o;omega),<-O,BC ra p q ps ms g lo k (by have:=aR.o;omega),BE p q ms g lo k (by have:=b6.o;omega),O] at a9
   obtain ⟨⟨y0,y1,y2⟩,yf⟩:=bx3 I
   obtain ⟨⟨z0,z1⟩,zf⟩:=bx2 Q
   obtain ⟨⟨t0,t1⟩,tf⟩:=bx2 y
   have cv:(k:Int)<m:=ap
   have bM:IntKind.i64.wrap ((lo:Int)+(k:Int))=(lo:Int)+k:=LT _ ap
   have cl:(0:Int)<=(lo:Int)+k:=ap
   have cy:(lo:Int)+k<n:=ap
   have bz:((lo:Int)+k).toNat=lo+k:=ap
   obtain ⟨HK,c9,cw⟩:=af N a9 O;clear N a9 R J hG I Q y U O a4
   go_wp2_with fail
   have u:(fun v:World=>v.cell? (ar w.heap.size 0)=some (MO ra)/\v.cell? (ar w.heap.size 1)=some (MO p)/\v.cell? (ar w.heap.size 2)=some (MO q)/\v.cell? (ar (w.heap.size+1) 0)=some (.slice (some (ar Y 0)) n c1)/\v.cell? (ar (w.heap.size+1) 1)=some (.slice (some (ar gm 0)) n c2)/\v.cell? (ar (w.heap.size+1+1) 0)=some (MO lo)/\v.cell? (ar bG (oG+k))=some (MO gk)) wr.drew:=⟨y0,y1,y2,z0,z1,t0,pg⟩
   have ci:Y<w.heap.size:=(a0.o Y rfl).2
   have cj:gm<w.heap.size:=(a1.o gm rfl).2
   have a2:¬(bG=Y\/bG=gm):=by
    rintro (h | h)
    ·exact bf.o _ rfl (by rw [h];rfl)
    ·exact ao.o _ rfl (by rw [h];rfl)
   refine HA.g (fun v:World=>v.cell? (ar w.heap.size 0)=some (MO ra)/\v.cell? (ar w.heap.size 1)=some (MO p)/\v.cell? (ar w.heap.size 2)=some (MO q)/\v.cell? (ar (w.heap.size+1) 0)=some (.slice (some (ar Y 0)) n c1)/\v.cell? (ar (w.heap.size+1) 1)=some (.slice (some (ar gm 0)) n c2)/\v.cell? (ar (w.heap.size+1+1) 0)=some (MO lo)/\v.cell? (ar bG (oG+k))=some (MO gk)) ?_
   refine HA.t ?_ [0,1,2,3,4,5,6,7,8,9,10,11,12,13,14,15,16,17,18] u ?_
   clear bM bz
   refine HA.o 19 (fun K N=>?_)
   go_simp
   refine c9.o.mono ?_
   rintro e w5 ⟨rfl,bo,aM,C⟩
   have aP:=LW (C.cell u.1 (by simp;omega)) (LW (C.cell u.2.1 (by simp;omega)) (LW (C.cell u.2.2.1 (by simp;omega)) (LW (C.cell u.2.2.2.1 (by simp;omega)) (LW (C.cell u.2.2.2.2.1 (by simp;omega)) (LW (C.cell u.2.2.2.2.2.1 (by simp;omega)) (C.cell u.2.2.2.2.2.2 a2))))))
   have b7:Keep (fun j=>(Value.slice (some (ar Y 0)) n c1).ownBlock=some j\/(Value.slice (some (ar gm 0)) n c2).ownBlock=some j) w2 w5:=HK.o.trans ((Keep.refl _ wr).drew.trans (C.mono (fun j _ h=>by
    rcases h with rfl | rfl
    ·exact .inl rfl
    ·exact .inr rfl)))
   obtain ⟨cb,bA,cd⟩:=af bo aM b7;clear bo aM C b7 u a2
   dsimp only
   refine N.out _ _ aP (fun u=>?_)
   clear N K aP u y0 y1 y2 yf z0 z1 zf t0 t1 tf pg
   refine HA.d ?_
   go_wp2_with fail
   go_roundw
   case rel=>exact ⟨k+1,by omega,by go_num,cb.o,bA.o,cd.o⟩
   case measure=>simp [intOf];omega
  ·obtain rfl:m=k:=ap
   have bn:Keep (fun j=>(Value.slice A n c1).ownBlock=some j\/(Value.slice B n c2).ownBlock=some j) w wr:=(Keep.below bX.o).trans N
   obtain ⟨bw,cf,c6⟩:=af R J bn;clear R J bn N
   go_wp2_with fail
   go_ret
   exact ⟨rfl,bw.o,cf.o,c6.o⟩
theorem lV {P:Program} {t e:TypeId} {z:Value} {h:Nat} (T:dt P t e z 1 h) (w:World) (A:z.cells=#[z]) (n:Nat) (C:h*n<=281474976710656) (b3:n<=maxLen):
  ∃u,Sem.run P (Instr.makeSlice t (MO (n:Int)) (MO (n:Int))) w=.ok (.slice (some (ar w.heap.size 0)) n n) u/\u.ownsRow w.heap.size e 1 (.slice (some (ar w.heap.size 0)) n n) n (List.replicate n z)/\aq w u:=by
 obtain ⟨i,D,x,y,v⟩:=T.info
 obtain ⟨u,p,B,o⟩:=run_make_full (P:=P) w w.heap.size t e i z 1 T.und D x y .i64 .i64 n (by rw [v];exact C) b3 (LO _)
 rw [A,Nat.mul_one,toList_madeCells_one] at B
 exact ⟨u,p,B,⟨o.os,o.tape,o.output,o.size,fun k hk=>o.block k hk (by simp)⟩⟩
end Go.Proofs.YtgmajkppbhiopaaGreat
