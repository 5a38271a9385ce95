/- No condition. -/
import Derived.Test.YtgmajkppbhiopaaGreatA00
import Derived.Test.YtgmajkppbhiopaaGreatA07
import Derived.Test.YtgmajkppbhiopaaGreatA02
import Derived.RegionTactic
import Derived.BigRegion
import Derived.Test.YtgmajkppbhiopaaGreatA01
import Derived.Test.YtgmajkppbhiopaaGreatA03
import Derived.Deep.DeepCutAuto
import Derived.Test.YtgmajkppbhiopaaGreatA05
set_option linter.unusedSimpArgs false
set_option linter.unusedVariables false
set_option maxRecDepth 100000
set_option maxHeartbeats 4000000
namespace Go.Proofs.YtgmajkppbhiopaaGreat
open Go.RowKit
def ja (n:Nat) (i:Int):Prop:=0≤i∧i<n
instance (n:Nat) (i:Int):Decidable (ja n i):=by unfold ja;exact inferInstance
def vn (l:List Ex) (h:List Int) (w:World) (e:Ending) (i:World):Prop:=Below w.heap.size w i∧
 (((∀k,k<h.length→ja l.length (nth h k))∧∃v,e=.returned (.tuple #[v,.bool true])∧fD w i (fF l h) h.length v)∨((¬∀k,k<h.length→ja l.length (nth h k))∧e=.returned (.tuple #[FR,.bool false])))
theorem uy (P c d:Nat) (A B:Option Addr) (l:List Ex) (u:List Int) (w:World) (hP:w.heap[P]?=some (.cells #[.slice A l.length c] 25 (0,0))) (h:cZ rEx 2 w A l) (hl:l.length≤1048576) (hB:Rd w B (ar .i64 u)) (hi:u.length≤1048576):
  Calls Tryz.prog 245 #[.slice B u.length d,.func (.func 246) #[] #[.pointer (some ⟨P,0,none⟩)]] w (vn l u w):=by
 obtain ⟨n,hn⟩:∃n,u.length=n:=⟨_,rfl⟩
 unfold vn
 rw [hn] at hi ⊢
 obtain ⟨N,hN⟩:∃N,l.length=N:=⟨_,rfl⟩
 have T:=jw l u
 have Y:=fun k (hk:k<u.length)=>rD l u hk
 rw [hn] at T Y
 have b2:=hP
 rw [hN] at hl hP ⊢
 obtain ⟨H,Hn,HN,HB,HP,b9,bb,b4⟩:=aj h hn hN hB hP b2 T Y;clear h hn hN hB hP b2 T Y
 go_enter Tryz.func245,Tryz.ntmps245
 go_wp2_with fail
 go_loopw [6,13] (fun v i wr=>∃k:Nat,k≤n∧i=FQ k∧fD w wr (fF l u) k v∧Hid (∀j,j<k→ja N (nth u j))) (fun _ i _=>n-(intOf i).toNat)
 case atStart=>exact ⟨0,EQ _,rfl,fD.zero w _,Lib.hid fun j hj=>by omega⟩
 case round=>
  obtain ⟨k,hk,rfl,L,Q⟩:=hrel
  obtain ⟨Al,cl,rfl⟩:=L.form
  by_cases R:k<n
  ·have hb:=L.b
   obtain ⟨b,o,rfl,p⟩:=(HB.out.below hb).num (show k<u.length by rw [Hn.out];exact R)
   obtain ⟨i,C⟩:∃i,nth u k=i:=⟨_,rfl⟩
   rw [C] at p
   have I:=(hb.block P (EL HP.out)).trans HP.out
   by_cases U:ja N i
   ·obtain ⟨j,rfl⟩:∃j:Nat,i=(j:Int):=⟨i.toNat,by have:=U.1;omega⟩
    have b7:j<N:=by have:=U.2;omega
    have J:=b4.out k R
    rw [C,Int.toNat_natCast] at J
    have a7:j<l.length:=by rw [HN.out];exact b7
    obtain ⟨x,hx⟩:∃x,l[j]?=some x:=⟨_,Fr a7⟩
    have a1:l.getD j ([],[])=x:=by simp [hx]
    rw [a1] at J
    have y:=uh P c j A l x wr (by rw [HN.out];exact I) (H.out.below dH hb) hx
    unfold qd at y
    obtain ⟨n1,a2⟩:∃n1,x.1.length=n1:=⟨_,rfl⟩
    obtain ⟨Z,b1⟩:∃Z,x.2.length=Z:=⟨_,rfl⟩
    rw [a2,b1] at y
    obtain ⟨V,O,Hx,Hg,Hi⟩:=ag y L J U C;clear y L hx a2 b1 hb U C J a1 I a7
    go_wp2_with fail
    refine V.out.mono ?_
    rintro e w3 ⟨B1,d1,B2,d2,rfl,ho,D⟩
    have a4:=(O.out.below D).below ((EP _ _).alloc (EM _) (.cells #[.slice B1 n1 d1,.slice B2 Z d2] 91))
    have a3:=(ho.base (base':=w.heap.size) O.out.b.size).below ((EP _ _).alloc (EM _) (.cells #[.slice B1 n1 d1,.slice B2 Z d2] 91))
    obtain ⟨b6,b8⟩:=ab a4 a3;clear a4 a3 ho D p
    obtain ⟨rows,h1,h2,h3,h4,h5⟩:=b6.out
    obtain ⟨R1,R2,R3,R4,R5⟩:=ag h1 h2 h3 h4 h5;clear h1 h2 h3 h4 h5;have b0:=aa (show (w3.alloc (.cells #[.slice B1 n1 d1,.slice B2 Z d2] 91)).heap.size=w3.heap.size+1 by simp)
    go_wp2_with (at_builtin;refine be BF _ rfl (.tmp 25) (.tmp 27) rfl w.heap.size (.slice Al k cl) k _ rfl R1.out [.slice B1 n1 d1,.slice B2 Z d2] (congrArg (fun b:Nat=>Value.slice (some ⟨b,0,none⟩) 1 1) b0.out.symm) rfl (by simp [Value.oneCell']) (by omega) (by unfold maxLen;omega) R5.out.size ?_)
    intro g6 c6 w6 a0 a8 ad
    have b3:=fD.push R1.out R2.out R3.out R4.out R5.out Hx.out b8.out a0 a8 ad
    have b5:=aa b3;clear a0 a8 ad b3
    go_wp2_with fail
    go_roundw
    case rel=>exact ⟨k+1,by omega,by go_num,b5.out,Lib.hid (p:=∀j,j<k+1→ja N (nth u j)) fun t ht=>by
     rcases Fa t k with h | h
     ·exact Q.out t h
     ·obtain rfl:t=k:=by omega
      rw [Hi.out];exact Hg.out⟩
    case measure=>simp [intOf];omega
   ·have a5:i<0∨(N:Int)≤i:=by unfold ja at U;omega
    have y:=xD P N c A i wr I a5
    obtain ⟨V,O,Hg,Hi⟩:=af y L U C;clear y L hb U a5 C I
    go_wp2_with fail
    refine V.out.mono ?_
    rintro e w3 ⟨rfl,D⟩
    have a6:=aa (O.out.b.trans (D.mono O.out.b.size));clear D p
    go_wp2_with fail
    go_ret2
    exact ⟨a6.out.alloc a6.out.size _,.inr ⟨fun h=>Hg.out (by have:=h k R;rwa [Hi.out] at this),rfl⟩⟩
  ·obtain rfl:n=k:=by omega
   have O:=aa L;clear L
   go_wp2_with fail
   go_ret2
   exact ⟨O.out.b,.inl ⟨Q.out,_,rfl,O.out⟩⟩
def dK (a b:Nat) (x:Ex):Prop:=x.1.length=a∧x.2.length=b
instance (a b:Nat) (x:Ex):Decidable (dK a b x):=by unfold dK;exact inferInstance
theorem vb (P1 P2 n m a b c d:Nat) (A B:Option Addr) (w:World) (x:w.heap[P1]?=some (.cells #[FQ a] 3 (0,0))) (v:w.heap[P2]?=some (.cells #[FQ b] 3 (0,0))):
  Calls Tryz.prog 116 #[.agg #[.slice A n c,.slice B m d],.pointer (some ⟨P1,0,none⟩),.pointer (some ⟨P2,0,none⟩)] w fun e C=>e=.returned (.bool (!decide (n=a∧m=b)))∧Below w.heap.size w C:=by
 obtain ⟨I,L⟩:=bx1 x
 obtain ⟨H,D⟩:=bx1 v
 have l1:=EL x
 have J:=EL v
 clear x v
 by_cases i:n=a
 ·by_cases u:m=b
  ·have o:((n:Int) != (a:Int))=false:=by rw [i];simp
   have y:((m:Int) != (b:Int))=false:=by rw [u];simp
   have h:(!decide (n=a∧m=b))=false:=by simp [i,u]
   rw [h]
   clear i u h
   go_enter Tryz.func116,Tryz.ntmps116
   go_wp2
   go_ret
   exact ⟨rfl,(EP _ w).alloc (EM _) _⟩
  ·have o:((n:Int) != (a:Int))=false:=by rw [i];simp
   have y:((m:Int) != (b:Int))=true:=by rw [bne_iff_ne];omega
   have h:(!decide (n=a∧m=b))=true:=by simp [u]
   rw [h]
   clear i u h
   go_enter Tryz.func116,Tryz.ntmps116
   go_wp2
   go_ret
   exact ⟨rfl,(EP _ w).alloc (EM _) _⟩
 ·have o:((n:Int) != (a:Int))=true:=by rw [bne_iff_ne];omega
  have h:(!decide (n=a∧m=b))=true:=by simp [i]
  rw [h]
  clear i h
  go_enter Tryz.func116,Tryz.ntmps116
  go_wp2
  go_ret
  exact ⟨rfl,(EP _ w).alloc (EM _) _⟩
def qQ (l:List Ex) (a b:Nat) (w:World) (e:Ending) (h:World):Prop:=∃d:Int,e=.returned (FQ d)∧ -1≤d∧d≤1048576∧(d<0↔∀x∈l,dK a b x)∧Below w.heap.size w h
theorem sG (P1 P2 a b c:Nat) (A:Option Addr) (l:List Ex) (w:World) (Y:w.heap[P1]?=some (.cells #[FQ a] 3 (0,0))) (T:w.heap[P2]?=some (.cells #[FQ b] 3 (0,0))) (h:cZ rEx 2 w A l) (hl:l.length≤1048576):
  Calls Tryz.prog 115 #[.slice A l.length c,.func (.func 116) #[] #[.pointer (some ⟨P1,0,none⟩),.pointer (some ⟨P2,0,none⟩)]] w (qQ l a b w):=by
 unfold qQ
 have N:=fun n m A c B d w' (k:Below w.heap.size w w')=>vb P1 P2 n m a b c d A B w' ((k.block _ (EL Y)).trans Y) ((k.block _ (EL T)).trans T)
 obtain ⟨n,hn⟩:∃n,l.length=n:=⟨_,rfl⟩
 rw [hn] at hl ⊢
 obtain ⟨H,Hn,U⟩:=ae h hn N;clear h hn N Y T
 go_enter Tryz.func115,Tryz.ntmps115
 go_wp2_with fail
 go_loopw [5,8] (fun _ i wr=>∃k:Nat,k≤n∧i=FQ k∧Hid (∀j x,j<k→l[j]?=some x→dK a b x)∧Below w.heap.size w wr) (fun _ i _=>n-(intOf i).toNat)
 case atStart=>exact ⟨0,EQ _,rfl,Lib.hid fun j x O=>by omega,EP _ _⟩
 case round=>
  obtain ⟨k,hk,rfl,v,hb⟩:=hrel
  by_cases Q:k<n
  ·obtain ⟨x,I⟩:∃x,l[k]?=some x:=⟨_,Fr (by rw [Hn.out];exact Q)⟩
   obtain ⟨b',o,A1,c1,A2,c2,rfl,a0,p1,p2,r1,r2⟩:=iy (H.out.below dH hb) I
   have hc:=U.out x.1.length x.2.length A1 c1 A2 c2 wr hb
   by_cases J:dK a b x
   ·have L:(!decide (x.1.length=a∧x.2.length=b))=false:=by
     have:=J;unfold dK at this;simp [this.1,this.2]
    rw [L] at hc
    obtain ⟨V,R,Z,C⟩:=af hc I J hb;clear hc I J L r1 r2 hb
    go_wp2_with fail
    refine V.out.mono ?_
    rintro e w1 ⟨rfl,u⟩
    have D:=aa (C.out.trans (u.mono C.out.size));clear u p1 p2
    go_wp2_with fail
    go_roundw
    case rel=>exact ⟨k+1,by omega,by go_num,Lib.hid (p:=∀j x,j<k+1→l[j]?=some x→dK a b x) fun j y O hy=>by
     rcases Fa j k with h | h
     ·exact v.out j y h hy
     ·obtain rfl:j=k:=by omega
      have:=R.out;rw [hy] at this;injection this with this;rw [this];exact Z.out,D.out⟩
    case measure=>simp [intOf];omega
   ·have L:(!decide (x.1.length=a∧x.2.length=b))=true:=by
     have:=J;unfold dK at this;simp only [Bool.not_eq_true',FL];exact this
    rw [L] at hc
    obtain ⟨V,R,Z,C⟩:=af hc I J hb;clear hc I J L r1 r2 hb
    go_wp2_with fail
    refine V.out.mono ?_
    rintro e w1 ⟨rfl,u⟩
    have D:=aa (C.out.trans (u.mono C.out.size));clear u p1 p2
    go_wp2_with fail
    go_ret
    exact ⟨k,rfl,by omega,by omega,⟨fun h=>by omega,fun h=>absurd (h x (List.mem_of_getElem? R.out)) Z.out⟩,D.out⟩
  ·obtain rfl:n=k:=by omega
   have C:=aa hb;clear hb
   go_wp2_with fail
   go_ret
   refine ⟨-1,rfl,by omega,by omega,⟨fun _ x I=>?_,fun _=>by omega⟩,C.out⟩
   obtain ⟨j,O⟩:=List.getElem?_of_mem I
   exact v.out j x (by have:=(Fq.1 O).1;have:=Hn.out;omega) O
def lH (l:List Ex) (a b:Nat) (w:World) (e:Ending) (h:World):Prop:=Below w.heap.size w h∧∃d:Int,((∀x∈l,dK a b x)∧e=.returned (.tuple #[FQ d,.bool true]))∨((¬∀x∈l,dK a b x)∧e=.returned (.tuple #[FQ d,.bool false]))
theorem uW (a b c:Nat) (A:Option Addr) (l:List Ex) (w:World) (h:cZ rEx 2 w A l) (hl:l.length≤1048576):
  Calls Tryz.prog 78 #[.slice A l.length c,FQ a,FQ b] w (lH l a b w):=by
 have v:∀(B y:Obj),Below w.heap.size w ((w.alloc B).alloc y):=fun B y=>((EP _ w).alloc (EM _) _).alloc (by simp) _
 have u:=sG w.heap.size (w.heap.size+1) a b c A l ((w.alloc (.cells #[FQ a] 3)).alloc (.cells #[FQ b] 3)) ((E0 _ _ _ (by simp)).trans (EN w _))
  (by have:=EN (w.alloc (.cells #[FQ a] 3)) (.cells #[FQ b] 3);rwa [show (w.alloc (.cells #[FQ a] 3)).heap.size=w.heap.size+1 by simp] at this) (h.below dH (v _ _)) hl
 obtain ⟨n,hn⟩:∃n,l.length=n:=⟨_,rfl⟩
 unfold qQ at u
 unfold lH
 rw [hn] at u ⊢
 obtain ⟨J,L⟩:=ab u v;clear u v h hn
 go_enter Tryz.func78,Tryz.ntmps78
 go_wp2_with fail
 refine J.out.mono ?_
 rintro e N ⟨d,rfl,D,C,o,hb⟩
 obtain ⟨x,i⟩:=ab ((L.out (.cells #[FQ a] 3) (.cells #[FQ b] 3)).trans (hb.mono (by simp;omega))) o;clear hb o
 by_cases I:d<0
 ·have H:decide (d<0)=true:=by simp;omega
  go_wp2_with fail
  all_goals
   go_ret2
   exact ⟨x.out,_,.inl ⟨i.out.1 I,rfl⟩⟩
 ·have H:decide (d<0)=false:=by simp;omega
  go_wp2_with fail
  all_goals
   go_ret2
   exact ⟨x.out,_,.inr ⟨fun h=>by have:=i.out.2 h;omega,rfl⟩⟩
def swp (p:List Int) (i j:Nat):List Int:=(p.set i (nth p j)).set j (nth p i)
theorem CB (p:List Int) (i j:Nat):(swp p i j).length=p.length:=by simp [swp]
theorem vy {p:List Int} {i j:Nat} (o:i<p.length) (h:j<p.length) (k:Nat):nth (swp p i j) k=if k=j then nth p i else if k=i then nth p j else nth p k:=by
 unfold swp
 rw [eN,eN,List.length_set]
 simp only [o,h,and_true]
theorem zl {p:List Int} {i j:Nat} (u:i<p.length) (o:j<p.length):(p.set j (nth p i)).set i (nth p j)=swp p i j:=by
 refine gW (by simp [swp]) fun k hk=>?_
 rw [vy u o,eN,eN,List.length_set]
 simp only [u,o,and_true]
 by_cases h:k=i
 ·subst h
  by_cases v:k=j
  ·subst v;simp
  ·simp [v]
 ·simp [h]
def sx (n:Nat):List Int:=di n fun k=>(k:Int)
theorem Bg (n:Nat):(sx n).length=n:=aU _ _
def iZ (n:Nat) (d:Nat→Nat):Nat→List Int
 | 0=>sx n
 | k+1=>swp (iZ n d k) (n-1-k) (d k)
theorem kR (n:Nat) (d:Nat→Nat) (k:Nat):(iZ n d k).length=n:=by
 induction k with
 | zero=>exact Bg n
 | succ k ih=>rw [iZ,CB,ih]
theorem zv {n:Nat} {d:Nat→Nat} (k:Nat) (u:∀j,j<k→d j<n-j) (hk:k≤n-1):∀i,i<n→0≤nth (iZ n d k) i∧nth (iZ n d k) i<n:=by
 induction k with
 | zero=>intro i o;unfold iZ sx;rw [cu _ o];omega
 | succ k h=>
  have h:=h (fun j v=>u j (by omega)) (by omega)
  have x:=u k (by omega)
  intro i o
  rw [iZ,vy (by rw [kR];omega) (by rw [kR];omega)]
  split
  ·exact h _ (by omega)
  ·split
   ·exact h _ (by omega)
   ·exact h _ o
def jb (l:List Int) (n i k:Nat):Nat:=(nth l (i+k)%((n-k:Nat):Int)).toNat
theorem sI (l:List Int) {n i k:Nat} (h:k<n):jb l n i k<n-k:=by
 unfold jb
 have o:=Int.emod_nonneg (nth l (i+k)) (show ((n-k:Nat):Int)≠0 by omega)
 have u:=Int.emod_lt_of_pos (nth l (i+k)) (show (0:Int)<((n-k:Nat):Int) by omega)
 omega
theorem yA (l:List Int) {n i k:Nat} (h:k<n):(jb l n i k:Int)=nth l (i+k)%((n-k:Nat):Int):=by
 unfold jb
 have o:=Int.emod_nonneg (nth l (i+k)) (show ((n-k:Nat):Int)≠0 by omega)
 omega
def im (l:List Int) (n i:Nat):List Int:=iZ n (jb l n i) (n-1)
theorem pE (l:List Int) (n i:Nat):(im l n i).length=n:=kR _ _ _
theorem Ar (l:List Int) (n i:Nat):∀k,k<n→0≤nth (im l n i) k∧nth (im l n i) k<n:=zv _ (fun j h=>sI l (by omega)) (EM _)
theorem Bd (n:Int) (w:World) (h:1≤n):Calls Tryz.prog 177 #[FQ n] w fun e i=>e=.returned (.bool false)∧w=i:=by
 have o:¬n<1:=by omega
 go_enter Tryz.func177,Tryz.ntmps177
 go_wp2
 go_ret
 exact ⟨bD (by first | rfl | (simp;omega) | (simp;done)),rfl⟩
theorem ut (A:Option Addr) (l:List Int) (c:Nat) (w:World) (x:Rd w A (ar .i64 l)) (hl:l.length≤17592186043904) (hb:∀k,k<l.length→1≤nth l k):
  Calls Tryz.prog 154 #[.slice A l.length c,.func (.func 177) #[] #[]] w fun e v=>e=.returned (FQ (-1))∧w=v:=by
 obtain ⟨n,hn⟩:∃n,l.length=n:=⟨_,rfl⟩
 have hw:=fun k (hk:k<l.length)=>Bd (nth l k) w (hb k hk)
 rw [hn] at hl hw ⊢
 obtain ⟨HA,B,y⟩:=ae x hn hw;clear x hn hw hb
 go_enter Tryz.func154,Tryz.ntmps154
 go_wp2_with fail
 go_loop [5,8] (fun _ i=>∃k:Nat,k≤n∧i=FQ k) (fun _ i=>n-(intOf i).toNat)
 case atStart=>exact ⟨0,EQ _,rfl⟩
 case round=>
  obtain ⟨k,hk,rfl⟩:=hrel
  by_cases h:k<n
  ·obtain ⟨b,o,rfl,p⟩:=HA.out.num (show k<l.length by rw [B.out];exact h)
   have hw:=y.out k h
   have u:=aa hw;clear hw
   go_wp2_with fail
   refine u.out.mono ?_
   rintro e v ⟨rfl,rfl⟩
   go_wp2_with fail
   go_round
   case rel=>exact ⟨k+1,by omega,by go_num⟩
   case measure=>simp [intOf];omega
  ·obtain rfl:k=n:=by omega
   go_wp2_with fail
   go_ret
   exact ⟨rfl,rfl⟩
theorem qy (A:Option Addr) (l:List Int) (c:Nat) (w:World) (i:Rd w A (ar .i64 l)) (hl:l.length≤17592186043904) (hb:∀k,k<l.length→1≤nth l k):
  Calls Tryz.prog 113 #[.slice A l.length c,.func (.func 177) #[] #[]] w fun e h=>e=.returned (.bool false)∧w=h:=by
 have o:=ut A l c w i hl hb
 have u:=aa o;clear o i hb
 go_enter Tryz.func113,Tryz.ntmps113
 go_wp2_with fail
 refine u.out.mono ?_
 rintro e h ⟨rfl,rfl⟩
 go_wp2
 go_ret
 exact ⟨rfl,rfl⟩
theorem yq (n:Nat) (w:World) (hn:n≤1048576):
  Calls Tryz.prog 157 #[FQ n] w fun e H=>∃v,e=.returned v∧H.ownsRow w.heap.size 3 1 v n (ar .i64 (sx n))∧Below w.heap.size w H:=by
 go_enter Tryz.func157,Tryz.ntmps157
 go_wp2_with fail
 go_loopw [3,6] (fun v i wr=>∃k:Nat,k≤n∧i=FQ k∧wr.ownsRow w.heap.size 3 1 v k (ar .i64 (sx k))∧Below w.heap.size w wr) (fun _ i _=>n-(intOf i).toNat)
 case atStart=>exact ⟨0,EQ _,rfl,EZ _ _ _ _,EP _ _⟩
 case round=>
  obtain ⟨k,hk,rfl,h,hb⟩:=hrel
  by_cases I:k<n
  ·obtain ⟨L,J,rfl,_⟩:=av h
   obtain ⟨o,A⟩:=ab h hb;clear h hb
   go_wp2_with (at_builtin;refine be fq _ rfl (.tmp 9) (.tmp 11) rfl w.heap.size (.slice L k J) k _ rfl o.out [FQ (k:Int)] rfl rfl (bj .i64 [_]) (by omega) (by unfold maxLen;omega) A.out.size ?_)
   intro N O Q x y D
   have u:=A.out.trans y
   obtain ⟨C,B⟩:=ab x u;clear x y D u
   go_wp2_with fail
   go_roundw
   case rel=>
    refine ⟨k+1,by omega,by go_num,?_,B.out⟩
    have:sx (k+1)=sx k++[(k:Int)]:=kO _ _
    rw [this,ez];exact C.out
   case measure=>simp [intOf];omega
  ·obtain rfl:k=n:=by omega
   obtain ⟨o,A⟩:=ab h hb;clear h hb
   go_wp2_with fail
   go_ret
   exact ⟨_,rfl,o.out,A.out⟩
theorem Bc (b c i:Nat) (A:Option Addr) (l:List Int) (B:Option Addr) (bs:List Int) (d:Nat) (w:World) (h:aV w b A c l i) (hi:i+bs.length≤l.length) (hl:l.length≤1048576) (hu:U64 l)
  (hB:Rd w B (ar .i64 bs)) (Z:∀a,B=some a→a.block≠b) (I:∀k,k<bs.length→1≤nth bs k∧nth bs k≤1048576):
  Calls Tryz.prog 156 #[.pointer (some ⟨b,0,none⟩),.slice B bs.length d] w fun e L=>∃v,e=.returned (.tuple #[v,.bool true])∧L.ownsRow w.heap.size 3 1 v bs.length (ar .i64 (di bs.length fun k=>nth l (i+k)%nth bs k))∧aV L b A c l (i+bs.length)∧Keep (fun j=>j=b) w L:=by
 have T:=lN b c i A l w h (by omega) (by omega)
 have O:=fun n=>qy B bs d (w.drewN n) (hB.drewN n) (by omega) (fun k hk=>(I k hk).1)
 have u:=fun j m L (h:aV L b A c l j) (hj:j<l.length)=>qX b c j m A l L h hj (by omega) hu
 obtain ⟨n,hn⟩:∃n,bs.length=n:=⟨_,rfl⟩
 rw [hn] at hi O I ⊢
 obtain ⟨N,hN⟩:∃N,l.length=N:=⟨_,rfl⟩
 rw [hN] at hi hl T u
 have b0:=h.lt
 obtain ⟨ad,a8,a7,H,HB,Hn,b6,b4⟩:=aj T O u h hB hn I Z;clear T O u h hB hn I hu Z hN
 have hq:decide (((N-i:Nat):Int)<(n:Int))=false:=by simp;omega
 have b9:decide (N-i<n)=false:=by simp;omega
 go_enter Tryz.func156,Tryz.ntmps156
 go_wp2_with fail
 refine ad.out.mono ?_
 rintro e L ⟨rfl,a,rfl⟩
 go_wp2_with fail
 refine (a8.out a).mono ?_
 rintro e L ⟨rfl,rfl⟩
 clear hq b9
 go_wp2_with fail
 go_loopw [6,26] (fun v x wr=>∃k:Nat,k≤n∧x=FQ k∧wr.ownsRow w.heap.size 3 1 v k (ar .i64 (di k fun k=>nth l (i+k)%nth bs k))∧aV wr b A c l (i+k)∧Keep (fun j=>j=b) w wr) (fun _ x _=>n-(intOf x).toNat)
 case atStart=>exact ⟨0,EQ _,rfl,EZ _ _ _ _,H.out.drewN a,(Keep.refl _ _).drewN a⟩
 case round=>
  obtain ⟨k,hk,rfl,o,hS,U⟩:=hrel
  by_cases Y:k<n
  ·obtain ⟨Al,cl,rfl,_⟩:=av o
   have a3:=U.rd HB.out (fun a ha e=>b4.out a ha e)
   obtain ⟨bB,oB,rfl,p⟩:=a3.num (show k<bs.length by rw [Hn.out];exact Y)
   have b8:=b6.out k Y
   obtain ⟨m,hm⟩:∃m:Nat,nth bs k=(m:Int):=⟨(nth bs k).toNat,by omega⟩
   rw [hm] at p b8
   have u:=a7.out (i+k) m wr hS (by omega) (by omega) (by omega)
   obtain ⟨y,hy⟩:∃y,nth l (i+k)%(m:Int)=y:=⟨_,rfl⟩
   rw [hy] at u
   have bd:=U.size
   have a5:=o.lt
   obtain ⟨C,HK,Hm,a4,Hy,b2⟩:=ah o U hm u hy a5;clear o U hS a3 hm u hy a5
   go_wp2_with fail
   refine a4.out.mono ?_
   rintro e w1 ⟨rfl,a2,J⟩
   have D:=J.own C.out (fun x hx e=>by have:=(b2.out x hx).1;omega)
   have bb:=J.size
   obtain ⟨b1,b3,R⟩:=ae a2 J D;clear a2 J D
   go_wp2_with (at_builtin;refine be fq _ rfl (.tmp 36) (.tmp 38) rfl w.heap.size (.slice Al k cl) k _ rfl R.out [FQ y] rfl rfl (bj .i64 [_]) (by omega) (by unfold maxLen;omega) (by omega) ?_)
   intro g6 c6 w6 V Q b7
   obtain ⟨b5,a6⟩:=ab V Q
   have a0:=(HK.out.trans b3.out).below2 Q
   have a1:=aa a0;clear V Q b7 a0
   go_wp2_with fail
   go_roundw
   case rel=>
    refine ⟨k+1,by omega,by go_num,?_,?_,a1.out⟩
    ·rw [kO,ez,Hm.out,Hy.out];exact b5.out
    ·exact ⟨(a6.out.block b b0).trans b1.out.blk,a1.out.rd H.out.rd (fun a ha e=>H.out.ne a ha e),H.out.ne⟩
   case measure=>simp [intOf];omega
  ·obtain rfl:k=n:=by omega
   obtain ⟨C,HK,HS⟩:=ae o U hS;clear o U hS
   go_wp2_with fail
   go_ret2
   exact ⟨_,rfl,C.out,HS.out,HK.out⟩
theorem gw {w:World} {p q:Addr} {x v:Value} (h:w.cell? q=some v):∃i,(w.setCell p x).cell? q=some i:=by
 by_cases e:p=q
 ·subst e;exact ⟨x,World.cell?_setCell_same w p x h⟩
 ·exact ⟨v,(World.cell?_setCell_other w p q x e).trans h⟩
theorem eg {w:World} {base size n c m:Nat} {e:TypeId} {A:Option Addr} {xs:List Value} (h:w.ownsRow base e size (.slice A n c) m xs):∀a,A=some a→base≤a.block∧a.block<w.heap.size:=fun a u=>by
 subst u
 rcases h.2 with ⟨hn,_⟩ | ⟨g,cap,o,i,_⟩
 ·cases hn
 ·simp only [FD,Option.some.injEq] at i
  obtain ⟨rfl,_,_⟩:=i
  exact h.lt g rfl
theorem zm (P g n c base i j:Nat) (p:List Int) (w:World) (y:w.heap[P]?=some (.cells #[.slice (some ⟨g,0,none⟩) n c] 22 (0,0))) (h:w.ownsRow base 3 1 (.slice (some ⟨g,0,none⟩) n c) n (ar .i64 p)) (T:i<n) (V:j<n) (hn:n≤1048576):
  Calls Tryz.prog 158 #[FQ i,FQ j,.pointer (some ⟨P,0,none⟩)] w fun e B=>e=.returned (.tuple #[])∧B.ownsRow base 3 1 (.slice (some ⟨g,0,none⟩) n c) n (ar .i64 (swp p i j))∧Keep (fun k=>k=g) w B:=by
 have v:=iO h
 have O:=cP h T
 have D:=cP h V
 have Z:=h.frozenAt i
 have f2:=h.frozenAt j
 have u:=zl (p:=p) (i:=i) (j:=j) (by omega) (by omega)
 obtain ⟨A,Y⟩:=bx1 y
 have R:(i:Int)<n:=by omega
 have N:(j:Int)<n:=by omega
 have o:g≠P:=fun e=>an y (by decide) h (by rw [←e];rfl)
 have L:=(World.cell?_setCell_other w ⟨g,i,none⟩ ⟨P,0,none⟩ (FQ (nth p j)) (by simp [o])).trans A
 have C:=(World.cell?_setCell_other w ⟨g,j,none⟩ ⟨P,0,none⟩ (FQ (nth p i)) (by simp [o])).trans A
 obtain ⟨v1,H⟩:=gw (w:=w) (p:=⟨g,i,none⟩) (x:=FQ (nth p j)) (q:=⟨g,j,none⟩) D
 obtain ⟨v2,I⟩:=gw (w:=w) (p:=⟨g,j,none⟩) (x:=FQ (nth p i)) (q:=⟨g,i,none⟩) O
 obtain ⟨Q,U,J⟩:=ae h v u;clear h v y u
 go_enter Tryz.func158,Tryz.ntmps158
 go_wp2_with fail
 go_region
 all_goals go_wp2_with fail
 all_goals
  go_end0
  refine ⟨rfl,?_,?_⟩
 ·exact bC (eL (eL Q.out i _) j _) 1
 ·exact (Keep.setCell (S:=fun k=>k=g) (Keep.setCell (S:=fun k=>k=g) (Keep.refl _ w) ⟨g,i,none⟩ (.inr rfl) _) ⟨g,j,none⟩ (.inr rfl) _).drew
theorem rg (n b c i:Nat) (A:Option Addr) (l:List Int) (w:World) (h:aV w b A c l i) (hn:1≤n) (bd:n≤1048576) (hi:i+(n-1)≤l.length) (hl:l.length≤1048576) (hu:U64 l):
  Calls Tryz.prog 122 #[FQ n,.pointer (some ⟨b,0,none⟩)] w fun e O=>∃v,e=.returned (.tuple #[v,.bool true])∧O.ownsRow w.heap.size 3 1 v n (ar .i64 (im l n i))∧aV O b A c l (i+(n-1))∧Keep (fun j=>j=b) w O:=by
 obtain ⟨m,hm⟩:∃m,n-1=m:=⟨_,rfl⟩
 rw [hm] at hi ⊢
 have bh:im l n i=iZ n (jb l n i) m:=by unfold im;rw [hm]
 rw [bh]
 have cq:m<n:=by omega
 have cj:n≤m+1:=by omega
 clear hm bh
 have Q:=fun B d O (h:aV O b A c l i) (hB:Rd O B (ar .i64 (di m fun k=>((n-k:Nat):Int)))) D=>Bc b c i A l B (di m fun k=>((n-k:Nat):Int)) d O h (by rw [aU];exact hi) hl hu hB D (fun k hk=>by rw [aU] at hk;rw [cu _ hk];omega)
 simp only [aU] at Q
 have he:(di m fun k=>nth l (i+k)%nth (di m fun k=>((n-k:Nat):Int)) k)=di m fun k=>(jb l n i k:Int):=fV fun k hk=>by rw [cu _ hk,yA l (by omega)]
 rw [he] at Q
 have b6:=fun O=>yq n O bd
 have cr:=h.lt
 obtain ⟨cd,ad,H⟩:=ae Q b6 h;clear Q he b6 h hu
 go_enter Tryz.func122,Tryz.ntmps122
 go_wp2_with fail
 go_loopw [6,7] (fun v x wr=>∃k:Nat,k≤m∧x=FQ ((n:Int)-k)∧wr.ownsRow w.heap.size 3 1 v k (ar .i64 (di k fun k=>((n-k:Nat):Int)))∧Below w.heap.size w wr) (fun _ x _=>(intOf x).toNat)
 case atStart=>exact ⟨0,EQ _,by go_num,EZ _ _ _ _,EP _ _⟩
 case round=>
  obtain ⟨k,hk,rfl,o,hb⟩:=hrel
  by_cases Y:k<m
  ·obtain ⟨Al,cl,rfl,_⟩:=av o
   obtain ⟨C,Hb⟩:=ab o hb;clear o hb
   go_wp2_with (at_builtin;refine be fq _ rfl (.tmp 29) (.tmp 31) rfl w.heap.size (.slice Al k cl) k _ rfl C.out [FQ ((n:Int)-k)] rfl rfl (bj .i64 [_]) (by omega) (by unfold maxLen;omega) Hb.out.size ?_)
   intro g6 c6 w6 b2 b4 c9
   have T:=Hb.out.trans b4
   obtain ⟨c8,bw⟩:=ab b2 T;clear b2 b4 c9 T
   go_wp2_with fail
   go_roundw
   case rel=>
    refine ⟨k+1,by omega,by go_num,?_,bw.out⟩
    rw [kO,ez,show ((n-k:Nat):Int)=(n:Int)-k by omega];exact c8.out
   case measure=>simp [intOf];omega
  ·obtain rfl:m=k:=by omega
   obtain ⟨Al,cl,rfl,_⟩:=av o
   have D:∀a,Al=some a→a.block≠b:=fun a ha e=>by
    subst ha
    have:=eg o a rfl
    omega
   have bi:=cd.out Al cl wr (H.out.below hb) (Rd.own o) D
   obtain ⟨c7,Hb⟩:=ab bi hb;clear o hb bi D
   obtain ⟨wq,rfl⟩:∃wq:World,wq=wr:=⟨_,rfl⟩
   go_wp2_with fail
   refine c7.out.mono ?_
   rintro e w1 ⟨v1,rfl,L,bb,U⟩
   obtain ⟨A1,c1,rfl,_⟩:=av L
   have a3:=eg L
   have a7:=Rd.own L
   have cs:=U.size
   have Z:=(Keep.below (S:=fun j=>j=b) Hb.out).trans U
   have co:=Z.size
   obtain ⟨bl,bn,bv,bo⟩:=af bb Z a7 a3;clear bb U a7 L a3 Z
   go_wp2_with fail
   refine (ad.out w1).mono ?_
   rintro e w2 ⟨v2,rfl,J,a1⟩
   obtain ⟨g,c2,rfl,_⟩:=J.form hn
   have bs:=a1.size
   have cn:=J.lt g rfl
   have N:=EN w2 (.cells #[.slice (some ⟨g,0,none⟩) n c2] 22)
   have V:=a1.alloc bs (.cells #[.slice (some ⟨g,0,none⟩) n c2] 22)
   have b8:=J.alloc (.cells #[.slice (some ⟨g,0,none⟩) n c2] 22)
   have b1:=bv.out.below V
   obtain ⟨HP,b3,a8,b7⟩:=af N V b8 b1;clear N V b8 b1 J a1
   go_wp2_with fail
   obtain ⟨R,y⟩:∃R,R=w2.alloc (.cells #[.slice (some ⟨g,0,none⟩) n c2] 22):=⟨_,rfl⟩
   have ci:w2.heap.size<R.heap.size:=by rw [y];simp
   have bG:Hid (R.heap[w2.heap.size]?=some (.cells #[.slice (some ⟨g,0,none⟩) n c2] 22 (0,0))):=Lib.hid (by rw [y];exact HP.out)
   have b5:Hid (Below w1.heap.size w1 R):=Lib.hid (by rw [y];exact b3.out)
   have bO:Hid (R.ownsRow w1.heap.size 3 1 (.slice (some ⟨g,0,none⟩) n c2) n (ar .i64 (sx n))):=Lib.hid (by rw [y];exact a8.out)
   have cf:Hid (Rd R A1 (ar .i64 (di m fun k=>(jb l n i k:Int)))):=Lib.hid (by rw [y];exact b7.out)
   rw [←y]
   clear HP b3 a8 b7 y
   go_loopw [46] (fun x wr=>∃k:Nat,k≤m∧x=FQ k∧wr.heap[w2.heap.size]?=some (.cells #[.slice (some ⟨g,0,none⟩) n c2] 22 (0,0))∧wr.ownsRow w1.heap.size 3 1 (.slice (some ⟨g,0,none⟩) n c2) n (ar .i64 (iZ n (jb l n i) k))∧Keep (fun j=>j=g) R wr) (fun x _=>m-(intOf x).toNat)
   case atStart=>exact ⟨0,EQ _,rfl,bG.out,bO.out,Keep.refl _ _⟩
   case round=>
    obtain ⟨k,hk,rfl,N,o,hK⟩:=hrel
    by_cases Y:k<m
    ·have hr:=hK.rd cf.out (fun a ha e=>by have:=(bo.out a ha).2;omega)
     obtain ⟨bA,oA,rfl,p⟩:=hr.num (show k<_ by rw [aU];exact Y)
     rw [cu _ Y] at p
     have bI:=sI l (n:=n) (i:=i) (k:=k) (by omega)
     have u:=zm w2.heap.size g n c2 w1.heap.size (n-1-k) (jb l n i k) (iZ n (jb l n i) k) wr N o (by omega) (by omega) bd
     rw [show ((n-1-k:Nat):Int)=(n:Int)-1-k by omega] at u
     have bM:=EL N
     obtain ⟨a4,HP,HK⟩:=ae u N hK;clear u N o hK hr
     obtain ⟨dk,I⟩:∃dk,jb l n i k=dk:=⟨_,rfl⟩
     rw [I] at p
     have u:=a4.out
     rw [I] at u bI
     obtain ⟨b0,bz⟩:=ab u I;clear a4 u I
     go_wp2_with fail
     refine b0.out.mono ?_
     rintro e w5 ⟨rfl,a5,a0⟩
     have a6:=(a0.block _ bM (by omega)).trans HP.out
     obtain ⟨cc,bX,cb⟩:=ae a6 a5 (HK.out.trans a0);clear a6 a5 a0 p
     go_wp2_with fail
     go_roundw
     case rel=>
      refine ⟨k+1,by omega,by go_num,cc.out,?_,cb.out⟩
      rw [iZ,bz.out];exact bX.out
     case measure=>simp [intOf];omega
    ·obtain rfl:m=k:=by omega
     obtain ⟨x0,xf⟩:=bx1 N
     have a2:Keep (fun j=>j=b) w wr:=bn.out.below2 ((b5.out.mono (by omega)).trans (hK.toBelow (by omega) (fun j hj=>by omega)))
     have b9:aV wr b A c l (i+m):=⟨(hK.block b (by omega) (by omega)).trans ((b5.out.block b (by omega)).trans bl.out.blk),a2.rd H.out.rd (fun a ha e=>H.out.ne a ha e),H.out.ne⟩
     obtain ⟨bN,bV,C⟩:=ae a2 b9 (aA (base':=w.heap.size) o (by omega));clear a2 b9 o hK N
     go_wp2_with fail
     go_ret2
     exact ⟨_,rfl,C.out,bV.out,bN.out⟩
theorem BE:cH Tryz.prog 126 22 (FR) 1 24:=⟨Tryz.underlying126,info_parts (by kernel_rfl),rfl,by decide⟩
def Dz (S n b c i k base:Nat) (A:Option Addr) (l:List Int) (x y B:Value) (vs:List Value) (w:World) (e:Ending) (h:World):Prop:=
 e=.returned (.bool true)∧∃A1 c1 u o,h.heap[S]?=some (.cells #[x,y,B,.slice u (k+1) o] 218 (0,0))∧
  h.ownsRow base 22 1 (.slice u (k+1) o) (k+1) (vs++[.slice A1 n c1])∧n≤c1∧h.ownsRow base 3 1 (.slice A1 n c1) n (ar .i64 (im l n i))∧
  h.heap[b]?=some (.cells #[.slice A l.length c,FQ ((i+(n-1):Nat):Int)] 270 (0,0))∧
  (∀base' m v xs,w.ownsRow base' 3 1 v m xs→h.ownsRow base' 3 1 v m xs)∧Keep (fun j=>j=b∨j=S∨base≤j) w h
theorem yy (N P1 P2 S n b c i k base:Nat) (A:Option Addr) (l:List Int) (Ao:Option Addr) (co:Nat) (x0 x1 x2:Value) (vs:List Value) (w:World)
  (hN:w.heap[N]?=some (.cells #[FQ n] 3 (0,0))) (b6:w.heap[P1]?=some (.cells #[.pointer (some ⟨b,0,none⟩)] 219 (0,0))) (O:w.heap[P2]?=some (.cells #[.pointer (some ⟨S,0,none⟩)] 162 (0,0)))
  (hS:w.heap[S]?=some (.cells #[x0,x1,x2,.slice Ao k co] 218 (0,0))) (h:aV w b A c l i) (a3:w.ownsRow base 22 1 (.slice Ao k co) k vs) (a1:base≤w.heap.size)
  (hk:k≤1048576) (hn:1≤n) (c6:n≤1048576) (hi:i+(n-1)≤l.length) (hl:l.length≤1048576) (hu:U64 l):
  Calls Tryz.prog 121 #[.pointer (some ⟨N,0,none⟩),.pointer (some ⟨P1,0,none⟩),.pointer (some ⟨P2,0,none⟩)] w (Dz S n b c i k base A l x0 x1 x2 vs w):=by
 have bd:=rg n b c i A l w h hn c6 hi hl hu
 have b5:b≠S:=fun e=>by
  have h1:=h.blk;rw [e,hS] at h1;simp at h1
 have b8:b≠P2:=fun e=>by
  have h1:=h.blk;rw [e,O] at h1;simp at h1
 have b0:∀j,(Value.slice Ao k co).ownBlock=some j→j≠b:=fun j J e=>an h.blk (by decide) a3 (by rw [←e,J])
 have T:∀base' m v xs,w.ownsRow base' 3 1 v m xs→∀j,v.ownBlock=some j→j≠b:=fun base' m v xs hr j J e=>an h.blk (by decide) hr (by rw [←e,J])
 obtain ⟨p0,pf⟩:=bx1 hN
 obtain ⟨q0,qf⟩:=bx1 b6
 have bn:=EL O
 have bw:=EL hS
 obtain ⟨bA,bs,HS,bN,bI,a8,b3,bz⟩:=aj bd O hS a3 b0 T b5 b8;clear bd O hS a3 b0 T b5 b8 hN b6 h hu
 go_enter Tryz.func121,Tryz.ntmps121
 go_wp2_with fail
 refine bA.out.mono ?_
 rintro e w1 ⟨v1,rfl,a4,b9,B⟩
 obtain ⟨A1,c1,rfl,bh⟩:=av a4
 have a0:=(B.block P2 bn (fun e=>bz.out e.symm)).trans bs.out
 have Z:=(B.block S bw (fun e=>b3.out e.symm)).trans HS.out
 have V:=B.own bN.out (fun j J e=>bI.out j J e)
 have cd:=B.size
 obtain ⟨t0,tf⟩:=bx1 a0
 obtain ⟨⟨y0,y1,y2,y3⟩,yf⟩:=bx4 Z
 obtain ⟨bV,bl,H,bX,bv,x,c9⟩:=ai a4 b9 B a0 Z V bh;clear a4 b9 B a0 Z V bh p0 pf q0 qf
 go_wp2_with fail
 have C:(fun w':World=>w'.cell? ⟨P2,0,none⟩=some (.pointer (some ⟨S,0,none⟩))∧w'.cell? ⟨S,3,none⟩=some (.slice Ao k co)) w1.drew:=⟨t0,y3⟩
 refine XA.g 8 (fun w':World=>w'.cell? ⟨P2,0,none⟩=some (.pointer (some ⟨S,0,none⟩))∧w'.cell? ⟨S,3,none⟩=some (.slice Ao k co)) ?_
 refine XA.t ?_ [0,1,2,3,4,5] C ?_
 refine XA.o 6 (fun K hK=>?_)
 go_simp
 refine hK.out _ _ ⟨ax C.1 _,ax C.2 _⟩ (fun C=>?_)
 clear hK K
 refine XA.o 7 (fun K hK=>?_)
 refine bS BE (.tmp 16) (.tmp 18) rfl rfl base (.slice Ao k co) k vs rfl (bC (x.out.alloc _) 1) (some ⟨w1.heap.size,0,none⟩) 1 1 [.slice A1 n c1] rfl (fk w1 _ _ _ rfl) rfl (by simp [Value.oneCell']) (by omega) (by unfold maxLen;omega) (by simp;omega) ?_
 intro A7 c7 Q b1 bb y _
 have y:=kw y
 have L:=cC (o:=.cells #[.slice A1 n c1] 22 (0,0)) bv.out (by decide) x.out y
 have b4:=cC (o:=.cells #[.slice A1 n c1] 22 (0,0)) bX.out (by decide) x.out y
 have U:=cC (o:=.cells #[.slice A1 n c1] 22 (0,0)) bl.out.blk (by decide) x.out y
 have i0:=EO Q _ 0 _ _ _ b4
 have i3:=EO Q _ 3 _ _ _ L
 have cc:=EV Q _ 3 _ _ L
 obtain ⟨b2,a5,bi,D,b7⟩:=ag b1 L y bb U;clear b1 L y bb b4 U
 dsimp only
 refine hK.out _ _ ⟨i0,i3⟩ (fun C=>?_)
 clear hK K C
 refine XA.e ?_
 simp only [Fm,Fo]
 go_wp2_with fail
 have a6:=FN Q S 3 _ _ (.slice A7 (k+1) c7) a5.out
 have u:Keep (fun j=>j=S) Q (Q.setCell ⟨S,3,none⟩ (.slice A7 (k+1) c7)):=Keep.setCell (S:=fun j=>j=S) (Keep.refl _ _) ⟨S,3,none⟩ (.inr rfl) _
 have a7:=u.own b2.out (fun j J e=>an a5.out (by decide) b2.out (by rw [J,e]))
 have ad:=(u.block b (by have:=EL b7.out;omega) (fun e=>b3.out e)).trans b7.out
 have Y:∀base' m v xs,w1.ownsRow base' 3 1 v m xs→(Q.setCell ⟨S,3,none⟩ (.slice A7 (k+1) c7)).ownsRow base' 3 1 v m xs:=fun base' m v xs h=>rG h x.out bi.out a5.out (by decide) (by decide)
 have I:Keep (fun j=>j=b∨j=S∨base≤j) w (Q.setCell ⟨S,3,none⟩ (.slice A7 (k+1) c7)):=by
  refine ⟨u.os.trans (D.out.os.trans H.out.os),u.tape.trans (D.out.tape.trans H.out.tape),u.output.trans (D.out.output.trans H.out.output),?_,fun j J hn=>?_⟩
  ·have:=D.out.size;have:=u.size;simp at *;omega
  ·have bG:¬j=b:=fun e=>hn (.inl e)
   have bO:¬j=S:=fun e=>hn (.inr (.inl e))
   have cb:j<base:=by rcases Fa j base with h | h;exact h;exact absurd (.inr (.inr h)) hn
   have h1:=H.out.block j J bG
   have h2:=D.out.block j cb
   have h3:=u.block j (by have:=D.out.size;simp at this;omega) bO
   refine h3.trans (h2.trans (Eq.trans ?_ h1))
   exact E0 w1 _ j (by omega)
 obtain ⟨bM,c8,bo,R,a2⟩:=ag a6 a7 ad Y I;clear a6 u a7 ad Y I
 go_ret
 refine ⟨rfl,A1,c1,A7,c7,bM.out,c8.out,c9.out,?_,bo.out,fun base' m v xs hr=>R.out _ _ _ _ (H.out.own hr (fun j J e=>a8.out _ _ _ _ hr j J e)),a2.out⟩
 exact R.out _ _ _ _ (aA bV.out a1)
def epN (n batch steps:Nat):Nat:=bT steps (n/batch)
def dB (w:World) (S n batch steps:Nat) (l:List Int):Prop:=
 ∃h v o x vs,w.heap[S]?=some (.cells #[FQ batch,FQ steps,.slice h (n/batch) v,.slice o (epN n batch steps) x] 218 (0,0))∧
  Rd w h (dS (n-n%batch) batch (n/batch))∧Rd w o vs∧vs.length=epN n batch steps∧
  ∀j,j<epN n batch steps→∃u i,vs[j]?=some (.slice u n i)∧n≤i∧Rd w u (ar .i64 (im l n (j*(n-1))))
theorem zc {B:Nat} {u v:World} {S n batch steps:Nat} {l:List Int} (h:dB (dX B u) S n batch steps l) (i:Agr B u v):dB v S n batch steps l:=by
 obtain ⟨x,y,R,O,vs,L,H,Q,I,N⟩:=h
 exact ⟨x,y,R,O,vs,mC L i,iE H i,iE Q i,I,fun j D=>by
  obtain ⟨T,J,o,A,C⟩:=N j D
  exact ⟨T,J,o,A,iE C i⟩⟩
theorem dB.below {w i:World} {S n batch steps:Nat} {l:List Int} (h:dB w S n batch steps l) (hb:Below w.heap.size w i):dB i S n batch steps l:=by
 obtain ⟨v,x,N,J,vs,o,C,L,D,I⟩:=h
 exact ⟨v,x,N,J,vs,(hb.block _ (EL o)).trans o,C.below hb,L.below hb,D,fun j B=>by
  obtain ⟨O,H,u,y,A⟩:=I j B
  exact ⟨O,H,u,y,A.below hb⟩⟩
theorem dB.lt {w:World} {S n batch steps:Nat} {l:List Int} (h:dB w S n batch steps l):S<w.heap.size:=by
 obtain ⟨o,u,x,v,vs,i,_⟩:=h
 exact EL i
def DF (h wr:World) (S n b c k:Nat) (A:Option Addr) (l:List Int) (x y B:Value):Prop:=
 ∃u o vs,wr.heap[S]?=some (.cells #[x,y,B,.slice u k o] 218 (0,0))∧wr.ownsRow h.heap.size 22 1 (.slice u k o) k vs∧
  (∀j,j<k→∃v i,vs[j]?=some (.slice v n i)∧n≤i∧wr.ownsRow h.heap.size 3 1 (.slice v n i) n (ar .i64 (im l n (j*(n-1)))))∧
  wr.heap[b]?=some (.cells #[.slice A l.length c,FQ ((k*(n-1):Nat):Int)] 270 (0,0))∧Keep (fun j=>j=b∨j=S) h wr
theorem qm (A:Option Addr) (l:List Int) (c n batch steps:Nat) (w:World) (hA:Rd w A (ar .u64 l)) (hl:l.length≤1048576) (hu:U64 l) (hb:1≤batch) (d6:batch≤n) (hn:n≤1048576) (b4:steps≤1048576) (hd:epN n batch steps*(n-1)≤l.length):
  Calls Tryz.prog 81 #[FQ n,FQ batch,FQ steps,.slice A l.length c] w fun e w'=>∃S,e=.returned (.tuple #[.pointer (some ⟨S,0,none⟩),FQ 0])∧dB (dX w.heap.size w') S n batch steps l∧w.heap.size≤S∧Below w.heap.size w w':=by
 have ew:¬((n:Int)<1):=by omega
 have en:¬((1048576:Int)<n):=by omega
 have ej:¬((steps:Int)<0):=by omega
 have ek:¬((1048576:Int)<steps):=by omega
 have eM:¬((batch:Int)<1):=by omega
 have eX:¬((n:Int)<batch):=by omega
 obtain ⟨N,hN⟩:∃N,l.length=N:=⟨_,rfl⟩
 have a6:=fun w'=>iX (n-n%batch) batch w' (by omega) hb (by omega)
 rw [uZ n batch hb d6] at a6
 obtain ⟨nb,a4⟩:∃nb,n/batch=nb:=⟨_,rfl⟩
 have d2:1≤nb:=by rw [←a4];exact Nat.div_pos d6 hb
 have eb:nb≤n:=by rw [←a4];exact Nat.div_le_self _ _
 obtain ⟨r,hr⟩:∃r,n%batch=r:=⟨_,rfl⟩
 have ec:r≤n:=by rw [←hr];exact Nat.mod_le _ _
 rw [hr,a4] at a6
 have ev:(n:Int).tmod (batch:Int)=(r:Int):=by rw [←hr];rfl
 have ee:(n:Int)%(batch:Int)=(r:Int):=by rw [←hr];rfl
 have eu:IntKind.i64.wrap (r:Int)=(r:Int):=ER _ (by omega)
 have ef:IntKind.i64.wrap ((n:Int)-(r:Int))=((n-r:Nat):Int):=by rw [ER _ (by omega)];omega
 have el:¬(batch=0):=by omega
 obtain ⟨HA,Hu,Hd,HN,d4,c7,Hr⟩:=ai hA hu hd hN a6 a4 hr
 rw [hN] at hl ⊢
 clear hA hu hd hN a6 a4 hr
 go_enter Tryz.func81,Tryz.ntmps81
 go_wp2_with fail
 go_cut [10] (fun v wx=>∃P2 S I J,v=.pointer (some ⟨P2,0,none⟩)∧wx.heap[P2]?=some (.cells #[.pointer (some ⟨S,0,none⟩)] 162 (0,0))∧wx.heap[S]?=some (.cells #[FQ batch,FQ steps,.slice I nb J,FR] 218 (0,0))∧
  wx.ownsRow (w.heap.size+1) 148 2 (.slice I nb J) nb (dS (n-r) batch nb)∧w.heap.size+1≤P2∧w.heap.size+1≤S∧Below (w.heap.size+1) (w.alloc (.cells #[FQ n] 3)) wx)
 case first=>
  have e3:=EO (w.alloc (.cells #[FQ n] 3)) w.heap.size 0 _ _ _ (EN w _)
  have i:(fun w':World=>w'.cell? ⟨w.heap.size,0,none⟩=some (FQ n)) (w.alloc (.cells #[FQ n] 3)).drew:=e3
  refine gI 12 (fun w':World=>w'.cell? ⟨w.heap.size,0,none⟩=some (FQ n)) (by kernel_rfl) ?_
  refine wX 0 i ?_
  refine wX 1 i ?_
  refine wX 2 i ?_
  refine wX 3 i ?_
  refine wX 4 i ?_
  refine wX 5 i ?_
  refine wX 6 i ?_
  refine wX 7 i ?_
  simp only [Fd,Fe,Ff,Act.put,Fg,Fh,Fi]
  refine a9 (rs:=[8,11]) (by kernel_rfl) (by simp) ?_
  refine aB.cons rfl (fun K o=>?_) (aB.cons rfl (fun K o=>?_) aB.nil)
  ·simp only [Fd,Fe,Ff]
   go_simp
   refine (d4.out _).mono ?_
   rintro e y ⟨v,rfl,ho,B⟩
   obtain ⟨I,J,rfl,_⟩:=av ho
   have ad:=am B i
   simp only [FC,Fb] at ho B
   obtain ⟨Ho,T⟩:=ab ho B;clear ho B i
   dsimp only
   refine o.out _ _ ad (fun i=>?_)
   clear o K ad
   refine wX 9 i ?_
   simp only [Fd,Fe,Ff,Act.put,Fg,Fh,Fi]
   refine a9 (rs:=[10,11]) (by kernel_rfl) (by simp) ?_
   refine aB.cons rfl (fun K o=>?_) (aB.cons rfl (fun K o=>?_) aB.nil)
   ·simp only [Fd,Fe,Ff]
    go_simp
    refine o.out _ _ (ax i _) (fun i=>?_)
    clear o K
    refine a9 (rs:=[11]) (by kernel_rfl) (by simp) ?_
    refine aB.cons rfl (fun K o=>?_) aB.nil
    simp only [Fd,Fe,Ff]
    go_simp
    refine o.out _ _ (ax i _) (fun i=>?_)
    clear o K i
    refine dg (by rfl) (by kernel_rfl) ?_
    simp only [Fm,Fo]
    go_wp2_with fail
    go_meet
    have a7:=T.out.size
    simp at a7
    refine ⟨y.heap.size+1,y.heap.size,I,J,rfl,?_,?_,(Ho.out.alloc _).alloc _,by omega,by omega,?_⟩
    ·have:=EN (y.alloc (.cells #[FQ batch,FQ steps,.slice I nb J,FR] 218)) (.cells #[.pointer (some ⟨y.heap.size,0,none⟩)] 162)
     simpa using this
    ·exact (E0 _ _ _ (by simp)).trans (EN y _)
    ·exact ((((EP _ _).drew).trans T.out).alloc (by omega) _).alloc (by simp;omega) _
   ·simp only [Fd,Fe,Ff]
    go_simp
    refine o.out _ _ (ax i _) (fun i=>?_)
    clear o K
    refine a9 (rs:=[10]) (by kernel_rfl) (by simp) ?_
    refine aB.cons rfl (fun K o=>?_) aB.nil
    simp only [Fd,Fe,Ff]
    go_simp
    refine o.out _ _ (ax i _) (fun i=>?_)
    clear o K i
    refine dg (by rfl) (by kernel_rfl) ?_
    simp only [Fm,Fo]
    go_wp2_with fail
    go_meet
    have a7:=T.out.size
    simp at a7
    refine ⟨y.heap.size,y.heap.size+1,I,J,rfl,?_,?_,(Ho.out.alloc _).alloc _,by omega,by omega,?_⟩
    ·exact (E0 _ _ _ (by simp)).trans (EN y _)
    ·have:=EN (y.alloc (.cells #[.pointer (some ⟨y.heap.size+1,0,none⟩)] 162)) (.cells #[FQ batch,FQ steps,.slice I nb J,FR] 218)
     simpa using this
    ·exact ((((EP _ _).drew).trans T.out).alloc (by omega) _).alloc (by simp;omega) _
  ·simp only [Fd,Fe,Ff]
   go_simp
   refine o.out _ _ (ax i _) (fun i=>?_)
   clear o K
   refine a9 (rs:=[8]) (by kernel_rfl) (by simp) ?_
   refine aB.cons rfl (fun K o=>?_) aB.nil
   simp only [Fd,Fe,Ff]
   go_simp
   refine (d4.out _).mono ?_
   rintro e y ⟨v,rfl,ho,B⟩
   have C:y.heap[w.heap.size+1]?=some (.cells #[.pointer none] 162 (0,0)):=(B.block (w.heap.size+1) (by simp)).trans (by rw [←show (w.alloc (.cells #[FQ n] 3)).heap.size=w.heap.size+1 by simp];exact EN _ _)
   obtain ⟨t0,tf⟩:=bx1 C
   have dc:=EL C
   have a1:=aa C;clear C
   obtain ⟨I,J,rfl,_⟩:=av ho
   have ad:=am B i
   simp only [FC,Fb] at ho B
   obtain ⟨Ho,T⟩:=ab ho B;clear ho B i
   dsimp only
   refine o.out _ _ ad (fun i=>?_)
   clear o K ad
   refine wX 9 i ?_
   simp only [Fd,Fe,Ff,Act.put,Fg,Fh,Fi]
   refine a9 (rs:=[10]) (by kernel_rfl) (by simp) ?_
   refine aB.cons rfl (fun K o=>?_) aB.nil
   simp only [Fd,Fe,Ff]
   go_simp
   refine o.out _ _ (ax i _) (fun i=>?_)
   clear o K i
   refine dg (by rfl) (by kernel_rfl) ?_
   simp only [Fm,Fo]
   go_wp2_with fail
   go_meet
   have a7:=T.out.size
   simp at a7
   have hk:Keep (fun j=>j=w.heap.size+1) y (y.setCell ⟨w.heap.size+1,0,none⟩ (.pointer (some ⟨y.heap.size,0,none⟩))):=Keep.setCell (S:=fun j=>j=w.heap.size+1) (Keep.refl _ _) ⟨w.heap.size+1,0,none⟩ (.inr rfl) _
   have h0:Below (w.heap.size+1) (w.alloc (.cells #[FQ n] 3)) y:=((EP _ _).alloc (by simp) _).drew.trans (T.out.mono (by omega))
   refine ⟨w.heap.size+1,y.heap.size,I,J,rfl,?_,?_,?_,by omega,by omega,?_⟩
   ·exact (E0 _ _ _ (by simpa using dc)).trans (FN y (w.heap.size+1) 0 _ _ _ a1.out)
   ·have:=EN (y.setCell ⟨w.heap.size+1,0,none⟩ (.pointer (some ⟨y.heap.size,0,none⟩))) (.cells #[FQ batch,FQ steps,.slice I nb J,FR] 218)
    rwa [show (y.setCell ⟨w.heap.size+1,0,none⟩ (.pointer (some ⟨y.heap.size,0,none⟩))).heap.size=y.heap.size by simp] at this
   ·exact aA ((hk.own Ho.out (fun j L e=>an a1.out (by decide) Ho.out (by rw [L,e]))).alloc _) (by omega)
   ·exact (h0.trans (hk.toBelow (by omega) (fun j L=>by omega))).alloc (by simp;omega) _
 case rest=>
  obtain ⟨P2,S,I,J,rfl,C,hS,cr,es,eo,bI⟩:=hcut
  have c6:Below w.heap.size w wc:=((EP _ w).alloc (EM _) _).trans (bI.mono (by omega))
  have cl:=(bI.block w.heap.size (by omega)).trans (EN w (.cells #[FQ n] 3))
  have bO:=BJ A l c wc (HA.out.below c6) (by have:=HN.out;omega)
  rw [HN.out] at bO
  obtain ⟨a1,HS,dv,bN,d0,dk⟩:=ah C hS cr c6 cl bO;clear C hS cr c6 cl bO bI
  go_wp2_with fail
  refine dk.out.mono ?_
  rintro e w3 ⟨b,A3,c3,rfl,bh,d1,e0,O⟩
  have b5:=(O.block _ (EL a1.out)).trans a1.out
  have b2:=(O.block _ (EL HS.out)).trans HS.out
  have cd:=(O.block _ (EL d0.out)).trans d0.out
  have bo:=aq dv.out O
  have b9:=bN.out.trans (O.mono bN.out.size)
  have ei:=O.size
  obtain ⟨t0,tf⟩:=bx1 b5
  obtain ⟨⟨y0,y1,y2,y3⟩,yf⟩:=bx4 b2
  have l1:=EL b5
  have l2:=EL b2
  obtain ⟨cq,cs,bX,b7,bz,bi,e2⟩:=ai b5 b2 cd bo b9 bh d1;clear b5 b2 cd bo b9 bh d1 O
  go_wp2_with fail
  have he:epN n batch steps=bT steps nb:=by unfold epN;rw [c7.out]
  have e1:=dR steps nb
  have hd:=Hd.out
  rw [he] at hd
  rw [HN.out] at hd
  obtain ⟨E,hE⟩:∃E,bT steps nb=E:=⟨_,rfl⟩
  rw [hE] at he e1 hd
  have bM:=lw steps nb (w3.alloc (.cells #[.pointer (some ⟨b,0,none⟩)] 219)) b4 d2 (by omega)
  rw [hE] at bM
  obtain ⟨He,e9,c9⟩:=ae he hd bM;clear he hd bM hE
  refine c9.out.mono ?_
  rintro e w' ⟨rfl,rfl⟩
  obtain ⟨Z,Q⟩:∃Z,Z=w3.alloc (.cells #[.pointer (some ⟨b,0,none⟩)] 219):=⟨_,rfl⟩
  have b6:Z.heap[w3.heap.size]?=some (.cells #[.pointer (some ⟨b,0,none⟩)] 219 (0,0)):=by rw [Q];exact EN w3 _
  have R:Below w3.heap.size w3 Z:=by rw [Q];exact (EP _ _).alloc (EM _) _
  have ds:w3.heap.size<Z.heap.size:=EL b6
  have a2:=(R.block _ l2).trans cs.out
  have a8:=(R.block _ l1).trans cq.out
  have b3:=(R.block _ (EL bX.out)).trans bX.out
  have H:=aq b7.out R
  have u:=bi.out.below R
  have bn:=bz.out.trans (R.mono bz.out.size)
  rw [←Q]
  have e7:=EL b3
  have a6:=u.lt
  have cx:b≠S:=fun e=>by
   have h1:=u.blk;rw [e,a2] at h1;simp at h1
  have U:∀{x t},Z.heap[x]?=some (.cells #[t] 3 (0,0))∨Z.heap[x]?=some (.cells #[t] 219 (0,0))∨Z.heap[x]?=some (.cells #[t] 162 (0,0))→¬(x=b∨x=S):=fun h=>by
   rintro (rfl | rfl)
   ·have h1:=u.blk;rcases h with h | h | h<;>(rw [h1] at h;simp at h)
   ·rcases h with h | h | h<;>(rw [a2] at h;simp at h)
  have d7:=U (.inl b3)
  have bA:=U (.inr (.inl b6))
  have bd:=U (.inr (.inr a8))
  have cf:=H.lt
  have cn:∀a,A3=some a→¬(a.block=b∨a.block=S):=fun a ha=>by
   rintro (h | h)
   ·exact u.ne a ha h
   ·have:=e2.out a ha;have:=EL HS.out;omega
  have bG:∀j,(Value.slice I nb J).ownBlock=some j→¬(j=b∨j=S):=fun j L=>by
   rintro (rfl | rfl)
   ·exact an u.blk (by decide) H L.symm
   ·exact an a2 (by decide) H L.symm
  obtain ⟨e8,dn,bb,da,cv,a5,b0,e5⟩:=aj b6 a2 a8 b3 H u bn d7;obtain ⟨cw,bw,ea,ct,em⟩:=ag bA bd cn bG cx;clear b6 a2 a8 b3 H u bn d7 bA bd cn bG cx U cf R Q c9 cq cs bX b7 bi t0 tf y0 y1 y2 y3 yf
  go_wp2_with fail
  go_loopw [57] (fun x wr=>∃k:Nat,k≤E∧x=FQ k∧DF Z wr S n b c3 k A3 l (FQ batch) (FQ steps) (.slice I nb J)) (fun x _=>E-(intOf x).toNat)
  case atStart=>
   refine ⟨0,EQ _,rfl,none,0,[],dn.out,EZ _ _ _ _,fun j L=>by omega,?_,Keep.refl _ _⟩
   rw [Nat.zero_mul];exact a5.out.blk
  case round=>
   obtain ⟨k,hk,rfl,Ao,co,vs,hS,a3,D,c8,o⟩:=hrel
   by_cases dp:k<E
   ·have dr:k*(n-1)+(n-1)≤N:=by
     have h1:(k+1)*(n-1)≤E*(n-1):=FO _ dp
     rw [FG] at h1
     have:=e9.out
     omega
    have b4:aV wr b A3 c3 l (k*(n-1)):=⟨c8,o.rd a5.out.rd (fun a ha e=>ea.out a ha e),a5.out.ne⟩
    have d3:=yy w.heap.size w3.heap.size P2 S n b c3 (k*(n-1)) k Z.heap.size A3 l Ao co (FQ batch) (FQ steps) (.slice I nb J) vs wr
     ((o.block _ e7 e5.out).trans da.out) ((o.block _ ds cw.out).trans e8.out) ((o.block _ (by omega) bw.out).trans bb.out) hS b4 a3 o.size (by omega) (by omega) hn (by rw [HN.out];exact dr) (by rw [HN.out];exact hl) Hu.out
    obtain ⟨dw,bV,HK⟩:=ae d3 D o;clear d3 D o b4 hS a3 c8
    go_wp2_with fail
    refine dw.out.mono ?_
    rintro e w5 ⟨rfl,A1,c1,e4,d9,ci,b1,d8,cc,d5,a0,Y⟩
    have b8:Keep (fun j=>j=b∨j=S) Z w5:=⟨Y.os.trans HK.out.os,Y.tape.trans HK.out.tape,Y.output.trans HK.out.output,ES HK.out.size Y.size,fun j L hn=>(Y.block j (ET L HK.out.size) (fun h=>by
     rcases h with h | h | h
     ·exact hn (.inl h)
     ·exact hn (.inr h)
     ·omega)).trans (HK.out.block j L hn)⟩
    have V:∀j,j<k+1→∃A' c',(vs++[Value.slice A1 n c1])[j]?=some (.slice A' n c')∧n≤c'∧w5.ownsRow Z.heap.size 3 1 (.slice A' n c') n (ar .i64 (im l n (j*(n-1)))):=fun j L=>by
     have e6:vs.length=k:=by have:=b1.1;simp at this;omega
     rcases Fa j k with h | h
     ·obtain ⟨A',c',k1,k2,k3⟩:=bV.out j h
      exact ⟨A',c',by rw [Ft (by omega)];exact k1,k2,a0 _ _ _ _ k3⟩
     ·obtain rfl:j=k:=by omega
      exact ⟨A1,c1,by rw [Fu (by omega),e6];simp,d8,cc⟩
    have bl:DF Z w5 S n b c3 (k+1) A3 l (FQ batch) (FQ steps) (.slice I nb J):=⟨e4,d9,_,ci,b1,V,by rw [FG];exact d5,b8⟩
    have dG:=aa bl;clear bl ci b1 d8 cc d5 a0 Y b8 V
    go_wp2_with fail
    go_roundw
    case rel=>exact ⟨k+1,by omega,by go_num,dG.out⟩
    case measure=>simp [intOf];omega
   ·obtain rfl:E=k:=by omega
    have C:=(o.block _ (by omega) bw.out).trans bb.out
    have Q:=b0.out.size
    have bv:dB (dX w.heap.size wr) S n batch steps l∧w.heap.size≤S:=by
     refine ⟨?_,by omega⟩
     refine ⟨I,J,Ao,co,vs,?_,?_,Rd.own (dC a3 Q),?_,?_⟩
     ·rw [He.out,c7.out,fh (by omega)];exact hS
     ·rw [Hr.out,c7.out];exact Rd.own (dC (o.own cv.out ct.out) (by omega))
     ·have:=a3.1;rw [He.out];omega
     ·intro j L
      rw [He.out] at L
      obtain ⟨A',c',k1,k2,k3⟩:=D j L
      exact ⟨A',c',k1,k2,Rd.own (dC k3 Q)⟩
    have cj:Below w.heap.size w wr:=b0.out.trans (o.toBelow b0.out.size (fun j L=>by have:=e0;have:=bN.out.size;rcases L with h | h<;>omega))
    obtain ⟨t0,tf⟩:=bx1 C
    obtain ⟨bs,dT⟩:=ab bv cj;clear bv cj hS a3 D c8 o C
    go_wp2_with fail
    go_ret2
    exact ⟨S,rfl,bs.out.1,bs.out.2,dT.out⟩
structure Inp where
 cfg:Cfg
 data:List Ex
 start:List Int
 draws:List Int
def jj (n b st:Nat):Nat:=epN n b st*(n-1)
theorem D3 (n b st:Nat):epN n b st≤st:=dR _ _
theorem rQ {n b st:Nat} (hn:n≤1048576) (o:st≤1048576):jj n b st≤1099511627776:=by
 have h:=D3 n b st
 have i:epN n b st*(n-1)≤1048576*1048576:=Nat.mul_le_mul (by omega) (by omega)
 unfold jj
 omega
def inN (i:Inp):Nat:=szN i.cfg.sizes 0
def ul (i:Inp):Nat:=szN i.cfg.sizes (i.cfg.sizes.length-1)
def cnt (i:Inp):Nat:=aZ i.cfg.sizes (i.cfg.sizes.length-1)
def jo (i:Inp):Bool:=decide (i.cfg.batch≤i.data.length∧i.data.length≤1048576)
def DX (i:Inp):Bool:=decide (∀x∈i.data,dK (inN i) (ul i) x)
def iF (i:Inp):Bool:=DX i&&decide (i.start.length=cnt i)
def lv (i:Inp):Bool:=decide (jj i.data.length i.cfg.batch.toNat i.cfg.steps.toNat≤i.draws.length)
noncomputable def cF (i:Inp):Int:=if aM i.cfg≠0 then aM i.cfg else if jo i=false then 7 else if iF i=false then 5 else if lv i=false then 8 else 0
theorem DS {i:Inp} (h:aM i.cfg≠0):cF i=aM i.cfg:=by unfold cF;rw [if_pos h]
theorem DU {i:Inp} (o:aM i.cfg=0) (h:jo i=false):cF i=7:=by unfold cF;rw [if_neg (by simp [o]),if_pos h]
theorem DV {i:Inp} (u:aM i.cfg=0) (o:jo i=true) (h:iF i=false):cF i=5:=by unfold cF;rw [if_neg (by simp [u]),if_neg (by simp [o]),if_pos h]
theorem DT {i:Inp} (v:aM i.cfg=0) (o:jo i=true) (u:iF i=true) (h:lv i=false):cF i=8:=by unfold cF;rw [if_neg (by simp [v]),if_neg (by simp [o]),if_neg (by simp [u]),if_pos h]
theorem DW {i:Inp} (v:aM i.cfg=0) (o:jo i=true) (u:iF i=true) (h:lv i=true):cF i=0:=by unfold cF;rw [if_neg (by simp [v]),if_neg (by simp [o]),if_neg (by simp [u]),if_neg (by simp [h])]
structure om (i:Inp):Prop where
 c:fL i.cfg
 b:i.cfg.batch≤i.data.length∧i.data.length≤1048576
 f:∀x∈i.data,dK (inN i) (ul i) x
 s:i.start.length=cnt i
 d:jj i.data.length i.cfg.batch.toNat i.cfg.steps.toNat≤i.draws.length
theorem qD {i:Inp}:cF i=0↔om i:=by
 constructor
 ·intro h
  by_cases o:aM i.cfg=0
  ·cases h1:jo i with
   | false=>rw [DU o h1] at h;omega
   | true=>
    cases h2:iF i with
    | false=>rw [DV o h1 h2] at h;omega
    | true=>
     cases h3:lv i with
     | false=>rw [DT o h1 h2 h3] at h;omega
     | true=>
      simp only [iF,Bool.and_eq_true] at h2
      exact ⟨dN.1 o,of_decide_eq_true h1,of_decide_eq_true h2.1,of_decide_eq_true h2.2,of_decide_eq_true h3⟩
  ·rw [DS o] at h;exact absurd h o
 ·intro h
  refine DW (dN.2 h.c) (FJ h.b) ?_ (FJ h.d)
  simp only [iF,Bool.and_eq_true]
  exact ⟨FJ h.f,FJ h.s⟩
theorem ij (n:Int) (w:World):Calls Tryz.prog 111 #[FQ n] w fun e h=>e=.returned (.bool (okB n))∧w=h:=by
 by_cases i:n<1
 ·go_enter Tryz.func111,Tryz.ntmps111
  go_wp2
  go_ret
  exact ⟨bD (by unfold okB;simp;omega),rfl⟩
 ·by_cases o:1048576<n
  ·go_enter Tryz.func111,Tryz.ntmps111
   go_wp2
   go_ret
   exact ⟨bD (by unfold okB;simp;omega),rfl⟩
  ·go_enter Tryz.func111,Tryz.ntmps111
   go_wp2
   go_ret
   exact ⟨bD (by unfold okB;simp;omega),rfl⟩
def Er (sz:List Int) (w:World) (e:Ending) (h:World):Prop:=Below w.heap.size w h∧((cO sz∧∃b,e=.returned (.tuple #[.pointer (some ⟨b,0,none⟩),FQ 0])∧aY 212 h b sz∧w.heap.size≤b)∨(¬cO sz∧e=.returned (.tuple #[.pointer none,FQ (cT sz)])))
def Ec (sz:List Int) (w:World) (e:Ending) (h:World):Prop:=Below w.heap.size w h∧((cO sz∧∃b,e=.returned (.tuple #[.pointer (some ⟨b,0,none⟩),FQ 0])∧aY 212 (dX w.heap.size h) b sz∧w.heap.size≤b)∨(¬cO sz∧e=.returned (.tuple #[.pointer none,FQ (cT sz)])))
theorem mQ (A:Option Addr) (sz:List Int) (c:Nat) (w:World) (x:Rd w A (ar .i64 sz)) (hc:sz.length≤c) (hm:c≤9223372036854775807):
  Calls Tryz.prog 77 #[.slice A sz.length c] w (Ec sz w):=by
 by_cases o:2≤sz.length∧sz.length≤16
 ·by_cases u:∀k,k<sz.length→1≤nth sz k∧nth sz k≤1048576
  ·refine (qZ A sz c w x hc hm ⟨o,u⟩).mono fun e v ⟨hb,h⟩=>⟨hb,?_⟩
   rcases h with ⟨h,he⟩ | ⟨h,b,he,y,B⟩
   ·have i:¬cO sz:=fun i=>by have:=i.2;omega
    exact .inr ⟨i,by rw [je i ⟨o,u⟩];exact he⟩
   ·exact .inl ⟨⟨⟨o,u⟩,h⟩,b,he,y,B⟩
  ·refine (tA A sz c w x hc hm o u).mono fun e v ⟨he,hw⟩=>?_
   subst hw
   exact ⟨EP _ _,.inr ⟨fun i=>u i.1.2,by rw [eI (fun hr=>u hr.2)];exact he⟩⟩
 ·refine (tB A sz c w hc hm o).mono fun e v ⟨he,hw⟩=>?_
  subst hw
  exact ⟨EP _ _,.inr ⟨fun i=>o i.1.1,by rw [eI (fun hr=>o hr.1)];exact he⟩⟩
theorem oY (A:Option Addr) (sz:List Int) (c:Nat) (w:World) (u:Rd w A (ar .i64 sz)) (hc:sz.length≤c) (hm:c≤9223372036854775807):
  Calls Tryz.prog 77 #[.slice A sz.length c] w (Er sz w):=by
 refine (mQ A sz c w u hc hm).mono ?_
 rintro e x ⟨hb,⟨o,b,he,i,v⟩ | h⟩
 ·exact ⟨hb,.inl ⟨o,b,he,jq i (Agr.refl _ _),v⟩⟩
 ·exact ⟨hb,.inr h⟩
abbrev bZ (A:Option Addr) (c:Nat) (k:Cfg):Array Value:=#[.slice A k.sizes.length c,FQ k.shift,FQ k.rate,FQ k.mom,FQ k.workers,FQ k.batch,FQ k.micros,FQ k.steps,FQ k.bucket,FQ k.chunk,FQ k.window,FQ k.cap]
structure fI (w:World) (A:Option Addr) (c:Nat) (k:Cfg):Prop where
 hc:k.sizes.length≤c
 hm:c≤9223372036854775807
 hl:k.sizes.length≤17592186043904
 hr:Rd w A (ar .i64 k.sizes)
theorem fI.below {w i:World} {A:Option Addr} {c:Nat} {k:Cfg} (h:fI w A c k) (hb:Below w.heap.size w i):fI i A c k:=⟨h.hc,h.hm,h.hl,h.hr.below hb⟩
theorem fU (A:Option Addr) (c:Nat) (k:Cfg) (w:World) (h:fI w A c k):
  Calls Tryz.prog 76 #[.agg (bZ A c k)] w fun e C=>e=.returned (FQ (aM k))∧Below w.heap.size w C:=by
 have I:=fun C (q:Below w.heap.size w C)=>oY A k.sizes c C (h.hr.below q) h.hc h.hm
 have f6:=@BV k;have f9:=@BT k;have fs:=@BS k;have f2:=@BY k;have f7:=@BU k;have f0:=@BZ k
 unfold wkB shB kq baB mN at *
 obtain ⟨B,y⟩:∃B,aM k=B:=⟨_,rfl⟩
 rw [y] at f6 f9 fs f2 f7 f0 ⊢
 clear y h
 obtain ⟨sz,sh,ra,mo,D,ba,mi,st,bu,ch,wi,ca⟩:=k
 dsimp only [bZ] at *
 obtain ⟨L,hL⟩:∃L,sz.length=L:=⟨_,rfl⟩
 rw [hL] at I ⊢
 obtain ⟨a2,F6,F9,Fs,V,F7,F0⟩:=ai I f6 f9 fs f2 f7 f0;clear I f6 f9 fs f2 f7 f0 hL
 go_enter Tryz.func76,Tryz.ntmps76
 go_wp2_with fail
 have hz:=EN w (.cells #[.slice A L c,FQ sh,FQ ra,FQ mo,FQ D,FQ ba,FQ mi,FQ st,FQ bu,FQ ch,FQ wi,FQ ca] 24)
 have hB:=(EP _ w).alloc (EM _) (.cells #[.slice A L c,FQ sh,FQ ra,FQ mo,FQ D,FQ ba,FQ mi,FQ st,FQ bu,FQ ch,FQ wi,FQ ca] 24)
 refine (a2.out _ hB).mono ?_
 rintro e w1 ⟨v,hs⟩
 have a1:=(v.block _ (EL hz)).trans hz
 have o:=aa (hB.trans (v.mono hB.size))
 obtain ⟨⟨z0,z1,z2,z3,z4,z5,z6,z7,z8,z9,a4,a7⟩,zf⟩:=fx a1
 clear hz hB v a1
 -- the sizes' B
 obtain ⟨p,Z,rfl,a0⟩:∃p Z,e=.returned (.tuple #[.pointer p,FQ Z])∧cT sz=Z:=by
  rcases hs with ⟨hg,b,rfl,_⟩ | ⟨hg,rfl⟩
  ·exact ⟨_,0,rfl,gL hg⟩
  ·exact ⟨_,_,rfl,rfl⟩
 have i:=aa a0;clear hs a0
 by_cases h1:D<1
 ·go_wp2_with fail
  go_ret
  exact ⟨aF (F6.out (by rw [FL];omega)).symm,o.out⟩
 by_cases a6:64<D
 ·go_wp2_with fail
  go_ret
  exact ⟨aF (F6.out (by rw [FL];omega)).symm,o.out⟩
 have u:=aa (show decide (1≤D∧D≤64)=true by rw [FM];omega)
 by_cases h2:sh<1
 ·go_wp2_with fail
  go_ret
  exact ⟨aF (F9.out u.out (by rw [FL];omega)).symm,o.out⟩
 by_cases a5:62<sh
 ·go_wp2_with fail
  go_ret
  exact ⟨aF (F9.out u.out (by rw [FL];omega)).symm,o.out⟩
 have x:=aa (show decide (1≤sh∧sh≤62)=true by rw [FM];omega)
 by_cases h3:Z≠0
 ·have hq:(Z != 0)=true:=by rw [bne_iff_ne];exact h3
  have H3:=aa h3;clear h3
  go_wp2_with fail
  go_ret
  exact ⟨aF (by rw [Fs.out u.out x.out (by rw [i.out];exact H3.out)];exact i.out.symm),o.out⟩
 obtain rfl:Z=0:=by omega
 clear h3
 go_wp2_with fail
 refine (ij mi _).mono ?_
 rintro e C ⟨rfl,rfl⟩
 obtain ⟨b0,N⟩:∃b,okB mi=b:=⟨_,rfl⟩
 have H:=aa N
 rw [N]
 clear N
 rcases cQ b0 with rfl | rfl
 ·go_wp2_with fail
  go_ret
  exact ⟨aF (V.out u.out x.out i.out (by simp [H.out])).symm,o.out⟩
 go_wp2_with fail
 refine (ij bu _).mono ?_
 rintro e C ⟨rfl,rfl⟩
 obtain ⟨b1,v⟩:∃b,okB bu=b:=⟨_,rfl⟩
 have U:=aa v
 rw [v]
 clear v
 rcases cQ b1 with rfl | rfl
 ·go_wp2_with fail
  go_ret
  exact ⟨aF (V.out u.out x.out i.out (by simp [H.out,U.out])).symm,o.out⟩
 go_wp2_with fail
 refine (ij ch _).mono ?_
 rintro e C ⟨rfl,rfl⟩
 obtain ⟨b2,O⟩:∃b,okB ch=b:=⟨_,rfl⟩
 have Y:=aa O
 rw [O]
 clear O
 rcases cQ b2 with rfl | rfl
 ·go_wp2_with fail
  go_ret
  exact ⟨aF (V.out u.out x.out i.out (by simp [H.out,U.out,Y.out])).symm,o.out⟩
 go_wp2_with fail
 refine (ij wi _).mono ?_
 rintro e C ⟨rfl,rfl⟩
 obtain ⟨b3,Q⟩:∃b,okB wi=b:=⟨_,rfl⟩
 have O3:=aa Q
 rw [Q]
 clear Q
 rcases cQ b3 with rfl | rfl
 ·go_wp2_with fail
  go_ret
  exact ⟨aF (V.out u.out x.out i.out (by simp [H.out,U.out,Y.out,O3.out])).symm,o.out⟩
 go_wp2_with fail
 refine (ij ca _).mono ?_
 rintro e C ⟨rfl,rfl⟩
 obtain ⟨b4,T⟩:∃b,okB ca=b:=⟨_,rfl⟩
 have O4:=aa T
 rw [T]
 clear T
 rcases cQ b4 with rfl | rfl
 ·go_wp2_with fail
  go_ret
  exact ⟨aF (V.out u.out x.out i.out (by simp [H.out,U.out,Y.out,O3.out,O4.out])).symm,o.out⟩
 by_cases h4:st=0
 ·have hq:(st != 0)=false:=by rw [h4];rfl
  have J:=aa (show (okB mi&&okB bu&&okB ch&&okB wi&&okB ca&&decide (0≤st∧st≤1048576))=true by rw [H.out,U.out,Y.out,O3.out,O4.out];simp;omega);clear h4
  by_cases h5:ba<D
  ·go_wp2_with fail
   go_ret
   exact ⟨aF (F7.out u.out x.out i.out J.out (by rw [FL];omega)).symm,o.out⟩
  by_cases a3:1048576<ba
  ·go_wp2_with fail
   go_ret
   exact ⟨aF (F7.out u.out x.out i.out J.out (by rw [FL];omega)).symm,o.out⟩
  go_wp2_with fail
  go_ret
  exact ⟨aF (F0.out u.out x.out i.out J.out (by rw [FM];omega)).symm,o.out⟩
 ·have hq:(st != 0)=true:=by rw [bne_iff_ne];exact h4
  have H4:=aa h4;clear h4
  go_wp2_with fail
  refine (ij st _).mono ?_
  rintro e C ⟨rfl,rfl⟩
  obtain ⟨b5,R⟩:∃b,okB st=b:=⟨_,rfl⟩
  have O5:=aa R
  rw [R]
  clear R
  rcases cQ b5 with rfl | rfl
  ·go_wp2_with fail
   go_ret
   exact ⟨aF (V.out u.out x.out i.out (by rw [H.out,U.out,Y.out,O3.out,O4.out];have:=xU O5.out;have:=H4.out;simp;omega)).symm,o.out⟩
  have J:=aa (show (okB mi&&okB bu&&okB ch&&okB wi&&okB ca&&decide (0≤st∧st≤1048576))=true by rw [H.out,U.out,Y.out,O3.out,O4.out];have:=iq O5.out;simp;omega)
  by_cases h5:ba<D
  ·go_wp2_with fail
   go_ret
   exact ⟨aF (F7.out u.out x.out i.out J.out (by rw [FL];omega)).symm,o.out⟩
  by_cases a3:1048576<ba
  ·go_wp2_with fail
   go_ret
   exact ⟨aF (F7.out u.out x.out i.out J.out (by rw [FL];omega)).symm,o.out⟩
  go_wp2_with fail
  go_ret
  exact ⟨aF (F0.out u.out x.out i.out J.out (by rw [FM];omega)).symm,o.out⟩
end Go.Proofs.YtgmajkppbhiopaaGreat
