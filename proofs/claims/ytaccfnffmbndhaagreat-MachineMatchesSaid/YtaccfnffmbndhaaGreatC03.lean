/- No condition. -/
import Derived.Test.YtaccfnffmbndhaaGreatC00
import Derived.Test.YtaccfnffmbndhaaGreatC01
import Derived.Test.YtaccfnffmbndhaaGreatC02
import Derived.Maps.AppendAt
import Derived.RangeFuncNested
import Derived.RangeFuncBound
import Derived.RangeFuncCalls
import Derived.RangeFuncLeaves
import Derived.RangeFuncBox
import Derived.Shelf.Abstract
import Derived.WalkKit
import Derived.OwnWalkIn
import Derived.TacticsInMore
import Derived.LoopNIn
import Derived.LoopIn
import Derived.Deep.RegionHeld
set_option linter.unusedSimpArgs false
set_option linter.unusedVariables false
set_option maxRecDepth 100000
set_option maxHeartbeats 4000000
namespace Go.Proofs.YtaccfnffmbndhaaGreat
open Go.RowKit
theorem tu (n size:Nat) (w:World) (hn:n≤1048576) (hs:1≤size) (u:size≤1048576):
  Calls Tryz.prog 98 #[KL n,KL size] w fun e q=>e=.returned (KL (cZ n size:Int))∧w=q:=by
 have A:¬((size:Int)<1):=by omega
 by_cases p:n=0
 ·subst p
  go_enter Tryz.func98,Tryz.ntmps98
  go_wp2
  go_ret
  exact ⟨rfl,rfl⟩
 ·have v:¬((n:Int)<1):=by omega
  have j:(0:Int)≤(n:Int)-1:=by omega
  have he:=CE n size (by omega)
  have o:=Nat.div_le_self (n-1) size
  have hc:cZ n size=(n-1)/size+1:=by unfold cZ;rw [if_neg p]
  rw [hc]
  obtain ⟨y,i⟩:∃y,(n-1)/size=y:=⟨_,rfl⟩
  rw [i] at he o ⊢
  have x:((n:Int)-1).tdiv size=y:=by rw [Int.tdiv_eq_ediv_of_nonneg j,he]
  obtain ⟨C,B⟩:=ae i hc;clear i hc p
  go_enter Tryz.func98,Tryz.ntmps98
  go_wp2
  go_ret
  exact ⟨rfl,rfl⟩
theorem kH (n size:Nat) (w:World) (hn:n≤1048576) (hs:1≤size) (Q:size≤1048576):
  Calls Tryz.prog 94 #[KL n,KL size] w fun e N=>∃v,e=.returned v∧N.ownsRow w.heap.size 52 2 v (cZ n size) (fy n size (cZ n size))∧Below w.heap.size w N:=by
 have A:=tu n size w hn hs Q
 have U:=fu n size
 have p:=fun k (h:k<cZ n size)=>iI h
 obtain ⟨m,hm⟩:∃m,cZ n size=m:=⟨_,rfl⟩
 rw [hm] at A U p ⊢
 obtain ⟨O,R⟩:=ae A p;clear A hm p
 go_enter Tryz.func94,Tryz.ntmps94
 go_wp2_with fail
 refine O.out.mono ?_
 rintro e N ⟨rfl,rfl⟩
 go_wp2_with fail
 go_loopw [5,11] (fun v x wr=>∃k:Nat,k≤m∧x=KL k∧wr.ownsRow w.heap.size 52 2 v k (fy n size k)∧Below w.heap.size w wr) (fun _ x _=>m-(intOf x).toNat)
 case atStart=>exact ⟨0,JH _,rfl,JO _ _ _ _,JG _ _⟩
 case round=>
  obtain ⟨k,hk,rfl,i,I⟩:=hrel
  by_cases L:k<m
  ·have T:=R.out k L
   obtain ⟨y,J⟩:∃y,k*size=y:=⟨_,rfl⟩
   rw [J] at T
   have X:(k:Int)*(size:Int)=(y:Int):=by rw [←J];push_cast;rfl
   obtain ⟨V,Y,rfl,_⟩:=aw i
   obtain ⟨Z,j,D⟩:=af J i I;clear i I J
   by_cases a0:(size:Int)≤(n:Int)-y
   ·have H:(y:Int)+size≤n:=by omega
    go_wp2_with (at_builtin;refine aQ kF _ rfl (.tmp 17) (.tmp 27) rfl w.heap.size (.slice V k Y) k _ rfl j.out [KL (y:Int),KL ((y:Int)+size)] rfl rfl (bP .i64 [_,_]) (by omega) (by unfold maxLen;omega) D.out.size ?_)
    intro g6 c6 w6 o q C
    obtain ⟨B,u⟩:=ae o (D.out.trans q);clear o q C
    go_wp2_with fail
    go_roundw
    case rel=>
     refine ⟨k+1,by omega,by go_num,?_,u.out⟩
     rw [iJ,Z.out,show ((min (y+size) n:Nat):Int)=(y:Int)+size by omega]
     exact B.out
    case measure=>simp [intOf];omega
   ·have H:(n:Int)-y<size:=by omega
    go_wp2_with (at_builtin;refine aQ kF _ rfl (.tmp 17) (.tmp 27) rfl w.heap.size (.slice V k Y) k _ rfl j.out [KL (y:Int),KL ((y:Int)+((n:Int)-y))] rfl rfl (bP .i64 [_,_]) (by omega) (by unfold maxLen;omega) D.out.size ?_)
    intro g6 c6 w6 o q C
    obtain ⟨B,u⟩:=ae o (D.out.trans q);clear o q C
    go_wp2_with fail
    go_roundw
    case rel=>
     refine ⟨k+1,by omega,by go_num,?_,u.out⟩
     rw [iJ,Z.out,show ((min (y+size) n:Nat):Int)=(y:Int)+((n:Int)-y) by omega]
     exact B.out
    case measure=>simp [intOf];omega
  ·obtain rfl:m=k:=by omega
   obtain ⟨j,D⟩:=ae i I;clear i I
   go_wp2_with fail
   go_ret
   exact ⟨_,rfl,j.out,D.out⟩
theorem qF (a b:Nat) (w:World) (o:a≤1048576) (p:b≤1048576):
  Calls Tryz.prog 181 #[.agg #[KL a,KL b]] w fun e j=>e=.returned (KL ((b-a:Nat):Int))∧Below w.heap.size w j:=by
 have hB:Below w.heap.size w (w.alloc (.cells #[KL a,KL b] 52)):=(br w).alloc (JD _) _
 by_cases h:a≤b
 ·have h1:¬((b:Int)-a<0):=by omega
  have i:((b-a:Nat):Int)=(b:Int)-a:=by omega
  rw [i]
  clear i
  go_enter Tryz.func181,Tryz.ntmps181
  go_wp2
  go_ret
  exact ⟨aV (by first | rfl | omega | (simp;omega)),hB⟩
 ·have h1:(b:Int)-a<0:=by omega
  have i:((b-a:Nat):Int)=0:=by omega
  rw [i]
  clear i
  go_enter Tryz.func181,Tryz.ntmps181
  go_wp2
  go_ret
  exact ⟨aV (by first | rfl | omega | (simp;omega)),hB⟩
theorem CK (i n k U bk:Nat) (w:World) (hn:w.heap[U]?=some (.cells #[KL n] 3 (0,0))) (V:w.heap[bk]?=some (.cells #[KL k] 3 (0,0))) (h1:1≤k) (h2:k≤1048576) (h3:n≤1048576) (hi:i≤k):
  Calls Tryz.prog 213 #[KL i,.pointer (some ⟨U,0,none⟩),.pointer (some ⟨bk,0,none⟩)] w fun e o=>e=.returned (KL (bdN n k i:Int))∧Below w.heap.size w o:=by
 have tn:=fun o q=>bx1 (sb hn o q)
 have tk:=fun o q=>bx1 (sb V o q)
 have I:=br w
 have Z:¬(k=0):=by omega
 have v:(n:Int).tdiv (k:Int)=((n/k:Nat):Int):=rfl
 have H:(n:Int)/(k:Int)=((n/k:Nat):Int):=rfl
 have C:(n:Int).tmod (k:Int)=((n%k:Nat):Int):=rfl
 have x:(n:Int)%(k:Int)=((n%k:Nat):Int):=rfl
 have D:=fD n k i (by omega) hi
 have j:bdN n k i=i*(n/k)+min i (n%k):=rfl
 have R:n/k≤n:=Nat.div_le_self _ _
 obtain ⟨q,X⟩:∃q,n/k=q:=⟨_,rfl⟩
 obtain ⟨r,hr⟩:∃r,n%k=r:=⟨_,rfl⟩
 obtain ⟨p,O⟩:∃p,i*q=p:=⟨_,rfl⟩
 have hm:(i:Int)*(q:Int)=(p:Int):=by rw [←O];push_cast;rfl
 rw [X] at v H j R
 rw [hr] at C x j
 rw [O] at j
 have Y:p≤1048576:=by omega
 have Q:IntKind.i64.wrap (p:Int)=p:=JI _ (by omega)
 have N:IntKind.i64.wrap (q:Int)=q:=JI _ (by omega)
 obtain ⟨d,T⟩:∃d,bdN n k i=d:=⟨_,rfl⟩
 rw [T] at D j ⊢
 have y:=aa j;clear hn V X hr O T j D
 go_enter Tryz.func213,Tryz.ntmps213
 go_wp2_with fail
 refine HA.g (fun o:World=>Below w.heap.size w o) ?_
 refine HA.t ?_ [0,1,2,3,4,5,6,7,8] I.drew ?_
 obtain ⟨u,B⟩:∃u:Nat,min i r=u:=⟨_,rfl⟩
 have A:(if r<i then (r:Int) else (i:Int))=(u:Int):=by rw [←B];split<;>omega
 have L:IntKind.i64.wrap ((p:Int)+(u:Int))=(p:Int)+u:=JI _ (by omega)
 refine HA.t ?_ [9] I.drew ?_
 refine HA.t ?_ [10,11] I.drew ?_
 refine HA.d ?_
 have hB:=I.drew
 have J:=aa (show (p:Int)+u=(d:Int) by have:=y.out;omega);clear B A Q N L v H C x hm
 go_wp2_with fail
 go_ret
 exact ⟨aV J.out,hB⟩
theorem wF (n k:Nat) (w:World) (h1:1≤k) (h2:k≤1048576) (h3:n≤1048576):
  Calls Tryz.prog 195 #[KL n,KL k] w fun e o=>∃v,e=.returned v∧o.ownsRow w.heap.size 52 2 v k (aF (fA n k))∧Below w.heap.size w o:=by
 have a0:¬((n:Int)<0):=by omega
 have a5:¬((k:Int)<1):=by omega
 obtain ⟨j,hW0⟩:∃j,(w.alloc (.cells #[KL n] 3)).alloc (.cells #[KL k] 3)=j:=⟨_,rfl⟩
 have hn:j.heap[w.heap.size]?=some (.cells #[KL n] 3 (0,0)):=by
  rw [←hW0,JP _ _ _ (by simp)];exact JE w _
 have R:j.heap[w.heap.size+1]?=some (.cells #[KL k] 3 (0,0)):=by
  rw [←hW0];have:=JE (w.alloc (.cells #[KL n] 3)) (.cells #[KL k] 3);simpa using this
 have C:j.heap.size=w.heap.size+1+1:=by rw [←hW0];simp
 have I:Below w.heap.size w j:=by rw [←hW0];exact ((br w).alloc (JD _) _).alloc (by simp) _
 have tn:=fun o q=>bx1 (sb hn o q)
 have tk:=fun o q=>bx1 (sb R o q)
 have L:=fun i o (q:Below j.heap.size j o) (Y:i≤k)=>CK i n k w.heap.size (w.heap.size+1) o (sb hn o q) (sb R o q) h1 h2 h3 Y
 have J:=fun i (Y:i≤k)=>fD n k i (by omega) Y
 obtain ⟨T,B,a2,Q,y⟩:=ah hW0 L J C I;clear hW0 hn R L J C I
 go_enter Tryz.func195,Tryz.ntmps195
 have q0:=br j
 go_wp2_with fail
 rw [T.out]
 go_loopw [6,16] (fun v x wr=>∃m:Nat,m≤k∧x=KL m∧wr.ownsRow j.heap.size 52 2 v m (aF ((List.range m).map fun i=>(bdN n k i,bdN n k (i+1))))∧Below j.heap.size j wr) (fun _ x _=>k-(intOf x).toNat)
 case atStart=>exact ⟨0,JH _,rfl,JO _ _ _ _,q0⟩
 case round=>
  obtain ⟨m,hm,rfl,H,q⟩:=hrel
  by_cases a1:m<k
  ·have a3:(m:Int)<k:=by omega
   obtain ⟨A,c,rfl,_⟩:=aw H
   have N:=aa H;clear H
   go_wp2_with fail
   refine (B.out m wr q (by omega)).mono ?_
   rintro e w1 ⟨rfl,O⟩
   have q1:=bt q O
   have O1:=aa (ap N.out O)
   have a4:IntKind.i64.wrap ((m:Int)+1)=((m+1:Nat):Int):=by rw [JI _ (by omega)];push_cast;rfl
   clear O q
   go_wp2_with fail
   have p:=B.out (m+1) w1 q1 (by omega)
   rw [show ((m+1:Nat):Int)=(m:Int)+1 from by omega] at p
   refine p.mono ?_
   rintro e w2 ⟨rfl,Z⟩
   have q2:=bt q1 Z
   have O2:=aa (ap O1.out Z)
   have U:=q2.size
   clear p Z q1 O1 N
   go_wp2_with (at_builtin;refine aQ kF _ rfl (.tmp 19) (.tmp 28) rfl j.heap.size (.slice A m c) m _ rfl O2.out [KL (bdN n k m:Nat),KL (bdN n k (m+1):Nat)] rfl rfl (bP .i64 [_,_]) (by omega) (by unfold maxLen;omega) U ?_)
   intro g6 c6 w6 u D X
   have V:=aa u
   have q6:=q2.trans D
   clear u D X q2
   go_wp2_with fail
   go_roundw
   case rel=>exact ⟨m+1,by omega,by go_num,by rw [rx,gN];exact V.out,q6⟩
   case measure=>simp [intOf];omega
  ·obtain rfl:k=m:=by omega
   have N:=aa (ax (base':=w.heap.size) H (by have:=Q.out;omega))
   have hB:=y.out.trans (q.mono y.out.size)
   have HB:=aa hB;clear H hB
   go_wp2_with fail
   go_ret
   exact ⟨_,rfl,N.out,HB.out⟩
theorem cF (l:List Rg) (j:Nat) (h:j<l.length):aO l j=l[j]:=by simp [aO,List.getD,h]
theorem dH {l:List Rg} {j:Nat} (h:j<l.length):(aF l)[j*2]?=some (KL ((aO l j).1:Int))∧(aF l)[j*2+1]?=some (KL ((aO l j).2:Int)):=lQ (by rw [cF l j h];simp [h])
theorem qG:∀(l:List Rg) (j:Nat) (r:Rg),((aF l).set (j*2) (KL (r.1:Int))).set (j*2+1) (KL (r.2:Int))=aF (l.set j r)
 | [],_,_=>rfl
 | x::l,0,r=>rfl
 | x::l,j+1,r=>by
  have i:=qG l j r
  have e:∀y (m:List Rg),aF (y::m)=KL (y.1:Int)::KL (y.2:Int)::aF m:=fun y m=>by simp [aF]
  rw [e,J0,e,←i,show (j+1)*2=j*2+1+1 by omega,show j*2+1+1+1=(j*2+1)+1+1 by omega]
  simp only [J0]
theorem DM {w:World} {base n g c:Nat} {l:List Rg} {e:TypeId} (h:w.ownsRow base e 2 (.slice (some ⟨g,0,none⟩) n c) n (aF l)) (j:Nat) (r:Rg):
  ((w.setCell ⟨g,j*2,none⟩ (KL (r.1:Int))).setCell ⟨g,j*2+1,none⟩ (KL (r.2:Int))).ownsRow base e 2 (.slice (some ⟨g,0,none⟩) n c) n (aF (l.set j r)):=by
 have:=((h.stored (j*2) (KL (r.1:Int))).1.stored (j*2+1) (KL (r.2:Int))).1
 rwa [qG] at this
theorem ie {w:World} {base n g c:Nat} {l:List Rg} {e:TypeId} (h:w.ownsRow base e 2 (.slice (some ⟨g,0,none⟩) n c) n (aF l)) {j:Nat} (i:j<n):
  w.cell? ⟨g,j*2,none⟩=some (KL ((aO l j).1:Int))∧w.cell? ⟨g,j*2+1,none⟩=some (KL ((aO l j).2:Int)):=by
 have hl:=h.1
 rw [mO] at hl
 have:=dH (l:=l) (j:=j) (by omega)
 exact ⟨by rw [h.cellAt _ (by omega)];exact this.1,by rw [h.cellAt _ (by omega)];exact this.2⟩
def nv (l:List Rg) (k:Nat):List Rg:=(List.range l.length).map fun t=>if t<k∨l.length-1-t<k then aO l (l.length-1-t) else aO l t
theorem fX (l:List Rg) (k:Nat):(nv l k).length=l.length:=by simp [nv]
theorem lR {l:List Rg} {k t:Nat} (h:t<l.length):aO (nv l k) t=if t<k∨l.length-1-t<k then aO l (l.length-1-t) else aO l t:=by
 rw [cF _ _ (by rw [fX];exact h)];simp [nv]
theorem xZ {a b:List Rg} (h:a.length=b.length) (hn:∀k,k<a.length→aO a k=aO b k):a=b:=List.ext_getElem h fun k h1 i=>by
 have:=hn k h1;rwa [cF _ _ h1,cF _ _ i] at this
theorem Bf (l:List Rg):nv l 0=l:=xZ (fX l 0) fun k i=>by
 rw [fX] at i;rw [lR i,if_neg (by omega)]
theorem vf {l:List Rg} {i j:Nat} {r:Rg} (o:i<l.length):aO (l.set j r) i=if j=i then r else aO l i:=by
 rw [cF _ _ (by simpa using o),List.getElem_set,cF _ _ o]
theorem Bg {l:List Rg} {k:Nat} (h:2*k+1<l.length):((nv l k).set k (aO (nv l k) (l.length-1-k))).set (l.length-1-k) (aO (nv l k) k)=nv l (k+1):=by
 refine xZ (by simp [fX]) fun t p=>?_
 have i:t<l.length:=by simpa [fX] using p
 rw [vf (by simpa [fX] using i),vf (by rw [fX];exact i),lR i,lR (by omega),lR (by omega),lR i]
 by_cases h1:l.length-1-k=t
 ·subst h1
  rw [if_pos rfl,if_neg (by omega),if_pos (by omega),show l.length-1-(l.length-1-k)=k by omega]
 ·rw [if_neg h1]
  by_cases j:k=t
  ·subst j
   rw [if_pos rfl,if_neg (by omega),if_pos (by omega)]
  ·rw [if_neg j]
   by_cases o:t<k∨l.length-1-t<k
   ·rw [if_pos o,if_pos (by omega)]
   ·rw [if_neg o,if_neg (by omega)]
theorem DQ {l:List Rg} {k:Nat} (h:l.length≤2*k+1):nv l k=l.reverse:=by
 refine xZ (by simp [fX]) fun t j=>?_
 have i:t<l.length:=by simpa [fX] using j
 rw [lR i,cF l.reverse t (by simpa using i),List.getElem_reverse,←cF l _ (by omega)]
 by_cases h1:t<k∨l.length-1-t<k
 ·rw [if_pos h1]
 ·rw [if_neg h1,show l.length-1-t=t by omega]
theorem DO (A:Option Addr) (l:List Rg) (n c base:Nat) (w:World) (Y:w.ownsRow base 52 2 (.slice A n c) n (aF l)) (hn:l.length=n) (hl:n≤1048576):
  Calls Tryz.prog 142 #[.slice A n c] w fun e q=>e=.returned (.tuple #[])∧q.ownsRow base 52 2 (.slice A n c) n (aF l.reverse)∧Keep (fun j=>(Value.slice A n c).ownBlock=some j) w q:=by
 have X:w.ownsRow base 52 2 (.slice A n c) n (aF (nv l 0)):=by rw [Bf];exact Y
 have u:=fun k (h:2*k+1<n)=>Bg (l:=l) (k:=k) (by omega)
 have p:=fun k (h:n≤2*k+1)=>DQ (l:=l) (k:=k) (by omega)
 rw [hn] at u
 obtain ⟨H0,N,C,Hn⟩:=ag X u p hn;clear Y X u p hn
 go_enter Tryz.func142,Tryz.ntmps142
 go_wp2_with fail
 go_loopw [2,3] (fun i j wr=>∃k:Nat,2*k≤n+1∧i=KL k∧j=KL ((n:Int)-1-k)∧wr.ownsRow base 52 2 (.slice A n c) n (aF (nv l k))∧Keep (fun j=>(Value.slice A n c).ownBlock=some j) w wr) (fun i _ _=>n-(intOf i).toNat)
 case atStart=>exact ⟨0,by omega,rfl,by go_num,H0.out,Keep.refl _ _⟩
 case round=>
  obtain ⟨k,hk,rfl,rfl,hr,H⟩:=hrel
  by_cases L:2*k+1<n
  ·obtain ⟨g,rfl⟩:∃g,A=some ⟨g,0,none⟩:=by
    obtain ⟨g,e,hv,_⟩:=hr.form (by omega)
    simp only [Ku] at hv
    exact ⟨g,hv.1⟩
   have I:=ie hr (show k<n by omega)
   have y:=ie hr (show n-1-k<n by omega)
   have f1:=fun j=>hr.frozenAt j
   have B:(k:Int)<(n:Int)-1-k:=by omega
   have J:(n:Int)-1-k=((n-1-k:Nat):Int):=by omega
   have T:n-1-k<n:=by omega
   have Z:k<n:=by omega
   have Q:n-1-k≠k:=by omega
   have x:¬((n-1-k)*2=k*2)∧¬((n-1-k)*2=k*2+1)∧¬((n-1-k)*2+1=k*2)∧¬((n-1-k)*2+1=k*2+1):=by omega
   obtain ⟨O,v⟩:∃r,aO (nv l k) k=r:=⟨_,rfl⟩
   obtain ⟨V,o⟩:∃r,aO (nv l k) (n-1-k)=r:=⟨_,rfl⟩
   obtain ⟨j,D⟩:∃j,n-1-k=j:=⟨_,rfl⟩
   have hs:=N.out k L
   rw [v,o] at hs
   rw [v] at I
   rw [o] at y
   rw [D] at y J T Q x hs
   rw [J] at B ⊢
   obtain ⟨R,U,Hj,Hs⟩:=ag hr H J hs;clear hr H J D hs v o
   go_wp2_with fail
   refine XA.g 13 (fun q:World=>(q.cell? ⟨g,k*2,none⟩=some (KL (O.1:Int))∧q.cell? ⟨g,k*2+1,none⟩=some (KL (O.2:Int)))∧(q.cell? ⟨g,j*2,none⟩=some (KL (V.1:Int))∧q.cell? ⟨g,j*2+1,none⟩=some (KL (V.2:Int)))) ?_
   refine XA.t0 ?_ [0,1,2,3,4,5,6,8,9,10] ⟨I,y⟩ ?_
   refine XA.t ?_ [7,11] ⟨I,y⟩ ?_
   refine XA.t0 ?_ [12] ⟨I,y⟩ ?_
   refine XA.e ?_
   simp only [Kc,Ke]
   go_wp2_with fail
   go_roundw
   case rel=>exact ⟨k+1,by omega,by go_num,by have:=Hj.out;go_num,by rw [←Hs.out];exact DM (DM R.out k V) j O,Keep.setCell (S:=fun j=>(Value.slice (some ⟨g,0,none⟩) n c).ownBlock=some j) (Keep.setCell (S:=fun j=>(Value.slice (some ⟨g,0,none⟩) n c).ownBlock=some j) (Keep.setCell (S:=fun j=>(Value.slice (some ⟨g,0,none⟩) n c).ownBlock=some j) (Keep.setCell (S:=fun j=>(Value.slice (some ⟨g,0,none⟩) n c).ownBlock=some j) U.out.drew ⟨g,k*2,none⟩ (.inr rfl) _) ⟨g,k*2+1,none⟩ (.inr rfl) _) ⟨g,j*2,none⟩ (.inr rfl) _) ⟨g,j*2+1,none⟩ (.inr rfl) _⟩
   case measure=>simp [intOf];omega
  ·have B:¬((k:Int)<(n:Int)-1-k):=by omega
   have o:=C.out k (by omega)
   rw [o] at hr
   obtain ⟨R,U⟩:=ae hr H;clear hr H o
   go_wp2_with fail
   go_end0
   exact ⟨rfl,R.out,U.out⟩
theorem wW (n s:Nat) (w:World) (hn:n≤1048576) (hs:1≤s) (B:s≤1048576):
  Calls Tryz.prog 99 #[KL n,KL s] w fun e o=>∃v,e=.returned v∧o.ownsRow w.heap.size 52 2 v (m6 n s).length (aF (m6 n s))∧Below w.heap.size w o:=by
 have q:=kH n s w hn hs B
 have hl:=fu n s
 rw [←pd,←dU] at q
 have i:=jY n s
 rw [dU] at q
 rw [i]
 have p:=fun (A:Option Addr) c base o (N:o.ownsRow base 52 2 (.slice A (cZ n s) c) (cZ n s) (aF (eR n s)))=>DO A (eR n s) (cZ n s) c base o N (dU n s) (by omega)
 obtain ⟨J,x⟩:=ae q p;clear q p i hl
 go_enter Tryz.func99,Tryz.ntmps99
 go_wp2_with fail
 refine J.out.mono ?_
 rintro e I ⟨v,rfl,y,u⟩
 obtain ⟨A,c,rfl,_⟩:=aw y
 have C:=aa y;clear y
 go_wp2_with fail
 refine (x.out A c _ I C.out).mono ?_
 rintro e Q ⟨rfl,D,H⟩
 have hB:=u.trans (H.toBelow u.size (fun j O=>(C.out.lt j O).1))
 have L:=aa D;clear D u H C
 go_wp2_with fail
 go_ret
 exact ⟨_,rfl,L.out,hB⟩
theorem yO (n s:Nat) (w:World) (hn:n≤1048576) (hs:1≤s) (i:s≤1048576):
  Calls Tryz.prog 100 #[KL n,KL s] w fun e o=>∃v,e=.returned v∧o.ownsRow w.heap.size 52 2 v (eR n s).length (aF (eR n s))∧Below w.heap.size w o:=by
 have j:=kH n s w hn hs i
 rw [←pd,←dU] at j
 have x:=aa j;clear j
 go_enter Tryz.func100,Tryz.ntmps100
 go_wp2_with fail
 refine x.out.mono ?_
 rintro e y ⟨v,rfl,p,q⟩
 have u:=aa p;clear p
 go_wp2_with fail
 go_ret
 exact ⟨_,rfl,u.out,q⟩
end Go.Proofs.YtaccfnffmbndhaaGreat
namespace Go.Proofs.YtaccfnffmbndhaaGreat
open Go.RowKit Go.Shelf
theorem kA {w i:World} (h:Below w.heap.size w i):w.grownBy i none:=⟨h.os,h.tape,h.output,h.size,fun k j _=>h.block k j⟩
theorem fH {β:Type} (B b:Nat) (o:Obj) (i:o.isCells=true):OwnFrom B (fun (_:β) W=>W.heap[b]?=some o):=fun _ W j row hs hg hr=>
 (hg.block b (JC hs) fun e=>by
  obtain ⟨p,h,hc⟩:=(hr b e.symm).2
  rw [hs] at h
  cases h
  rw [i] at hc
  cases hc).trans hs
theorem mt {F:Fence} {m:Nat} {P:Program} {t e:TypeId} {z:Value} {size p:Nat} (T:dq P t e z size p) (W:World) {ops:Array Oper} {rest:List Oper} {o:Oper} {a:Act} {Q:Exit→Act→World→Prop}
  (J:o.guard=none) (s x:Operand) (Z:o.op=.call {callee:=.builtin .append,args:=#[s,x],argTypes:=#[t,t]})
  (n₀ B:Nat) (v:Value) (n:Nat) (xs:List Value) (hs:a.eval s=v) (hbx:Boxed W B t v) (hte:t≠e) (hown:W.ownsRow n₀ e size v n xs)
  (us:List Value) (hx:a.eval x=.slice (some ⟨W.heap.size,0,none⟩) 1 1) (hus:us.length=size) (h1:∀u∈us,u.oneCell'=true)
  (hb:(n+1)*p≤140737488355328) (h63:n+1≤maxLen) (hbase:n₀≤W.heap.size) (hB:n₀≤B)
  (h:∀g c q,Boxed q B t v→Boxed (q.setCell ⟨B,0,none⟩ (.slice (some ⟨g,0,none⟩) (n+1) c)) B t (.slice (some ⟨g,0,none⟩) (n+1) c)→
   (q.setCell ⟨B,0,none⟩ (.slice (some ⟨g,0,none⟩) (n+1) c)).ownsRow n₀ e size (.slice (some ⟨g,0,none⟩) (n+1) c) (n+1) (xs++us)→
   KeepsOthers W (q.setCell ⟨B,0,none⟩ (.slice (some ⟨g,0,none⟩) (n+1) c))→Below n₀ W (q.setCell ⟨B,0,none⟩ (.slice (some ⟨g,0,none⟩) (n+1) c))→
   (∀b D A H,b≠B→A≠e→W.heap[b]?=some (.cells D A H)→(q.setCell ⟨B,0,none⟩ (.slice (some ⟨g,0,none⟩) (n+1) c)).heap[b]?=some (.cells D A H))→
   wpListIn F m P ops Q rest (a.put o.dst (.slice (some ⟨g,0,none⟩) (n+1) c)) q):wpListIn F m P ops Q (o::rest) a (W.alloc (.cells us.toArray e)):=by
 obtain ⟨i,hi,L,O,R⟩:=T.info
 refine wpListIn_append_own (W.alloc (.cells us.toArray e)) J s x t Z n₀ e i z size p T.und hi L O R T.zs T.pos v n xs hs (hown.alloc _) ⟨W.heap.size,0,none⟩ 1 1 us hx (by simpa using hus) ?_ h1 h63 hb
  (by simp;omega) ?_
 ·intro j u hu
  rw [Addr.add_lit,Kz,JF _ W.heap.size j us.toArray e (0,0) (JE W _)]
  simpa using hu
 ·intro v' q y hg _
  obtain ⟨g,c,rfl⟩:=ownsRow_succ y
  obtain ⟨V,k2,X,k4,Y⟩:=hbx.appended hte hown hbase hB y hg
  refine h g c q V k2 X k4 Y fun b D A H U C I=>?_
  have N:(W.alloc (.cells us.toArray e)).heap[b]?=some (.cells D A H):=(JP W _ b (JC I)).trans I
  have h1:q.heap[b]?=some (.cells D A H):=(hg.block b (JC N) (an N C (hown.alloc _))).trans N
  exact (Below.heap_setCell q _ _ b (fun e=>U e)).trans h1
theorem vA {W p:World} {B base:Nat} {e:TypeId} {size n:Nat} {v:Value} {xs:List Value} {row:Option Nat} (h:W.ownsRow base e size v n xs) (hg:W.grownBy p row) (hr:∀r,row=some r→B≤r∧∃o:Obj,W.heap[r]?=some o∧o.isCells=false):p.ownsRow base e size v n xs:=by
 refine h.kept hg ?_
 rcases h.2 with ⟨rfl,_⟩ | ⟨g,cap,q,rfl,_,i,_⟩
 ·exact .inl rfl
 ·refine .inr fun u=>?_
  obtain ⟨o,j,hc⟩:=(hr g (by simpa [Value.ownBlock] using u.symm)).2
  rw [i] at j;cases j;cases hc
theorem dK {W i:World} {B b:Nat} {o:Obj} (p:o.isCells=true) {row:Option Nat} (h:W.heap[b]?=some o) (hg:W.grownBy i row) (hr:∀r,row=some r→B≤r∧∃o:Obj,W.heap[r]?=some o∧o.isCells=false):i.heap[b]?=some o:=
 (hg.block b (JC h) fun e=>by
  obtain ⟨q,j,hc⟩:=(hr b e.symm).2
  rw [h] at j
  cases j
  rw [p] at hc
  cases hc).trans h
theorem lh {S:Nat→Prop} {W j:World} (h:Keep S W j) (q:∀k o,S k→W.heap[k]?=some o→o.isCells=true):KeepsOthers W j:=
 ⟨h.size,fun k o i p=>(h.block k (JC i) fun hs=>by rw [q k o hs i] at p;cases p).trans i⟩
theorem uM {F:Fence} {m:Nat} {P:Program} {t e:TypeId} {z:Value} {j:Nat} (T:dq P t e z 1 j) (w:World) {ops:Array Oper} {rest:List Oper} {o:Oper} {a:Act} {Q:Exit→Act→World→Prop}
  (hg:o.guard=none) (l c:Operand) (hop:o.op=Op.makeSlice t l c) (B:z.cells=#[z])
  (n:Nat) (hl:a.eval l=KL (n:Int)) (hc:a.eval c=KL (n:Int)) (J:j*n≤281474976710656) (b3:n≤maxLen)
  (I:∀u,u.ownsRow w.heap.size e 1 (.slice (some ⟨w.heap.size,0,none⟩) n n) n (List.replicate n z)→Below w.heap.size w u→
   wpListIn F m P ops Q rest (a.put o.dst (.slice (some ⟨w.heap.size,0,none⟩) n n)) u):wpListIn F m P ops Q (o::rest) a w:=by
 obtain ⟨i,L,y,A,v⟩:=T.info
 refine wpListIn_plain hg fun K C=>?_
 obtain ⟨u,q,D,p⟩:=run_make_full (P:=P) w w.heap.size t e i z 1 T.und L y A .i64 .i64 n (by rw [v];exact J) b3 (JD _)
 rw [B,Nat.mul_one,toList_madeCells_one] at D
 unfold Oper.wpIn
 refine ⟨by simp [Oper.about,hop],?_⟩
 rw [Oper.semAt_plain F _ _ (by rw [hop];intro c x;cases x)]
 simp [execOp,hop,hl,hc,q,Result.andThen]
 exact C _ _ (I u D ⟨p.os,p.tape,p.output,p.size,fun k H=>p.block k H (by simp)⟩)
end Go.Proofs.YtaccfnffmbndhaaGreat
namespace Go.Proofs.YtaccfnffmbndhaaGreat
open Go.RowKit Go.Shelf
attribute [local go_sem] Oper.semAt_some
theorem qA (P:Program) (w:World) (a:Addr) (j:Fn) (i ca:Array Value) (m:Mode):(store a (.func j i ca) m).run P w=stored P w a (.func j i ca) m:=run_store P w a _ m rfl
attribute [local go_sem] qA
structure jF (w:World) (L S B:Nat) (A:Option Addr) (rs:List Rg) (c d:Nat) (tf:TypeId):Prop where
 l:w.heap[L]?=some (.cells #[.slice A rs.length c] 120 (0,0))
 s:w.heap[S]?=some (.cells #[.func (.func 225) #[] #[.pointer (some ⟨B,0,none⟩)]] tf (0,0))
 b:w.heap[B]?=some (.cells #[KL d] 3 (0,0))
 r:Rd w A (aF rs)
theorem jF.below {w j:World} {L S B:Nat} {A:Option Addr} {rs:List Rg} {c d:Nat} {o:TypeId} (h:jF w L S B A rs c d o) (i:Below w.heap.size w j):jF j L S B A rs c d o:=
 ⟨sb h.l _ i,sb h.s _ i,sb h.b _ i,h.r.below i⟩
theorem yL (lo i d B:Nat) (w:World) (hB:w.heap[B]?=some (.cells #[KL d] 3 (0,0))) (h1:lo≤1048576) (A:i≤1048576) (C:d≤1048576):
  Calls Tryz.prog 225 #[.agg #[KL lo,KL i],.pointer (some ⟨B,0,none⟩)] w fun e y=>e=.returned (.agg #[KL ((lo+d:Nat):Int),KL ((i+d:Nat):Int)])∧Below w.heap.size w y:=by
 have D:=bx1 hB
 have hl:=JC hB
 have o:((lo+d:Nat):Int)=(lo:Int)+d:=by omega
 have u:((i+d:Nat):Int)=(i:Int)+d:=by omega
 rw [o,u]
 clear o u hB
 go_enter Tryz.func225,Tryz.ntmps225
 go_wp2_with fail
 have o:=JE (w.alloc (.cells #[KL lo,KL i] 52)) (.cells #[KL ((lo:Int)+d),KL ((i:Int)+d)] 52)
 obtain ⟨q,j⟩:∃q,q=(w.alloc (.cells #[KL lo,KL i] 52)).alloc (.cells #[KL ((lo:Int)+d),KL ((i:Int)+d)] 52):=⟨_,rfl⟩
 have p:Below w.heap.size w q:=by rw [j];exact ((JG _ w).alloc (JD _) _).alloc (by simp) _
 rw [←j,JS] at o
 rw [←j]
 have x:=bx2 o
 exact JQ (v:=.agg #[KL ((lo:Int)+d),KL ((i:Int)+d)]) (by simp [results,Tryz.results225,go_sem,x]) rfl ⟨rfl,p⟩
def zE (r:Rg):Array Value:=#[.agg #[KL (r.1:Int),KL (r.2:Int)]]
theorem AI {α:Type} {l:List α} {k:Nat} {x:α} (h:l[k]?=some x):l.take (k+1)=l.take k++[x]:=by
 rw [List.take_add_one,h];rfl
theorem s9 (A:Option Addr) (rs:List Rg) (c d:Nat) (w:World) (hr:Rd w A (aF rs)):
  Calls Tryz.prog 210 #[.slice A rs.length c,KL d] w fun e p=>∃L S B,e=.returned (.func (.func 226) #[] #[.pointer (some ⟨L,0,none⟩),.pointer (some ⟨S,0,none⟩)])∧jF p L S B A rs c d 335∧(w.heap.size≤L∧w.heap.size≤S∧w.heap.size≤B)∧Below w.heap.size w p:=by
 obtain ⟨n,hn⟩:∃n,n=rs.length:=⟨_,rfl⟩
 rw [←hn]
 obtain ⟨H,D⟩:=ae hn hr;clear hn hr
 go_enter Tryz.func210,Tryz.ntmps210
 go_wp2_with fail
 have C:=JE w (.cells #[.slice A n c] 120)
 have o:Below w.heap.size w (w.alloc (.cells #[.slice A n c] 120)):=(JG _ w).alloc (JD _) _
 have x:=JS w (.cells #[.slice A n c] 120)
 generalize w.alloc (.cells #[.slice A n c] 120)=W1 at *
 have q:=JE W1 (.cells #[KL d] 3)
 have u:Below W1.heap.size W1 (W1.alloc (.cells #[KL d] 3)):=(JG _ W1).alloc (JD _) _
 have s2:=JS W1 (.cells #[KL d] 3)
 generalize W1.alloc (.cells #[KL d] 3)=W2 at *
 have y:=JE W2 (.cells #[.func (.func 225) #[] #[.pointer (some ⟨w.heap.size+1,0,none⟩)]] 335)
 have b3:Below W2.heap.size W2 (W2.alloc (.cells #[.func (.func 225) #[] #[.pointer (some ⟨w.heap.size+1,0,none⟩)]] 335)):=(JG _ W2).alloc (JD _) _
 generalize W2.alloc (.cells #[.func (.func 225) #[] #[.pointer (some ⟨w.heap.size+1,0,none⟩)]] 335)=W3 at *
 have j:=u.trans (b3.mono u.size)
 have i:=o.trans (j.mono o.size)
 rw [s2,x] at y
 rw [x] at q
 exact JQ (v:=.func (.func 226) #[] #[.pointer (some ⟨w.heap.size,0,none⟩),.pointer (some ⟨w.heap.size+1+1,0,none⟩)]) (by simp [results,Tryz.results210,go_sem]) rfl
  ⟨w.heap.size,w.heap.size+1+1,w.heap.size+1,rfl,⟨by rw [←H.out];exact sb C _ j,y,sb q _ b3,D.out.below i⟩,⟨JD _,by omega,by omega⟩,i⟩
theorem Cm (n l L S B:Nat) (A:Option Addr) (rs:List Rg) (c d:Nat) (Kp:World→World→Prop) (R:∀W u,jF W L S B A rs c d 335→Kp W u→jF u L S B A rs c d 335) (q:rs.length≤1048576) (hd:d≤1048576) (a2:∀r∈rs,r.1≤1048576∧r.2≤1048576)
  (J Jx:List Rg→World→Prop) (Bx:Nat) (hJ:AbidesFrom Bx J)
  (hY:∀j x W,J j W→x∈shR d rs→j.length<rs.length→YieldAt Fence.wide (n-1) Tryz.prog l (zE x) W fun e u=>
   (e=.returned (.bool true)∧J (j++[x]) u∧Kp W u)∨(e=.returned (.bool false)∧Jx (j++[x]) u))
  (W:World) (hA:jF W L S B A rs c d 335) (h0:J [] W):
  CallsIn Fence.wide n Tryz.prog 226 #[.func (.yield l) #[] #[],.pointer (some ⟨L,0,none⟩),.pointer (some ⟨S,0,none⟩)] W fun e u=>(∃v,e=.returned v)∧
   ((∃ys,ys=shR d rs∧J ys u)∨(∃j,True∧Jx j u)):=by
 have xL:=bx1 hA.l
 obtain ⟨H,N⟩:∃H,H=rs.length:=⟨_,rfl⟩
 rw [←N] at hY q xL
 obtain ⟨O,HA,HK⟩:=af N hA R;clear N hA R
 refine callsIn_of_wp Tryz.func226 rfl trivial ?_ rfl
 simp only [Tryz.ntmps226,List.size_toArray,List.length_cons,List.length_nil,Nat.reduceAdd,Nat.reduceSub,Array.replicate_succ,Array.replicate_zero,List.push_toArray,List.append_toArray,List.nil_append,List.cons_append]
 gi_wp2
 gi_loopw [8] (fun i wr=>∃k:Nat,k≤H∧i=KL k∧J ((shR d rs).take k) wr∧jF wr L S B A rs c d 335) (fun i _=>H-(intOf i).toNat)
 case atStart=>exact ⟨0,JH _,rfl,h0,HA.out⟩
 case round=>
  obtain ⟨k,hk,rfl,p,hL⟩:=hrel
  clear xL h0 HA W
  by_cases a1:k<H
  ·obtain ⟨r,hr⟩:∃r,rs[k]?=some r:=⟨_,Kh (by rw [←O.out];exact a1)⟩
   have Q:=a2 r (List.mem_of_getElem? hr)
   have C:=lQ hr
   obtain ⟨g,o,rfl,c0⟩:=hL.r _ _ C.1
   obtain ⟨g',o',e',c1⟩:=hL.r _ _ C.2
   obtain ⟨rfl,rfl⟩:g'=g∧o'=o:=by simpa using e'.symm
   rw [←Ky] at c1
   have xS:=bx1 hL.s
   have lS:=ar xS.1
   obtain ⟨I,Hr,HL⟩:=af p hr hL;clear p hr C e' hL
   have q:((shR d rs).take k).length<H:=by rw [Kk,j6];omega
   have hx:(shR d rs)[k]?=some (r.1+d,r.2+d):=by simp [shR,Hr.out]
   have Hx:=aa hx
   have qa:Below wr.heap.size wr (wr.alloc (.cells #[KL (r.1:Int),KL (r.2:Int)] 52)):=(JG _ wr).alloc (JD _) _
   clear hx
   gi_wp2_with fail
   refine ⟨trivial,(fun h=>by cases h),?_⟩
   refine (callsIn_wide.2 (yL r.1 r.2 d B _ (HL.out.below qa).b Q.1 Q.2 hd)).mono ?_
   rintro e w3 ⟨rfl,Y⟩
   have D:=qa.trans (Y.mono qa.size)
   have X:=hJ _ _ _ none I.out (kA D) (fun _ h=>by cases h)
   obtain ⟨fn,tmps,Z,a5,hy,hR⟩:=hY _ (r.1+d,r.2+d) w3 X (List.mem_of_getElem? Hx.out) q
   unfold zE at hy
   dsimp only at hy
   rw [Int.natCast_add,Int.natCast_add] at hy
   have a0:=aa (HL.out.below D);clear X Y D qa xS lS c0 c1
   gi_wp2
   refine ⟨(fun h=>by cases h),?_⟩
   refine hR.mono ?_
   rintro e w5 (⟨rfl,T,V⟩ | ⟨rfl,U⟩)
   ·obtain ⟨a4,a3⟩:=ae T V;clear T V
    gi_wp2
    go_roundw
    case rel=>exact ⟨k+1,by omega,by go_num,by rw [AI Hx.out];exact a4.out,HK.out _ _ a0.out a3.out⟩
    case measure=>simp [intOf];omega
   ·gi_wp2
    refine JQ (results_none rfl _ _ _) rfl ?_
    exact ⟨⟨_,rfl⟩,.inr ⟨_,trivial,U⟩⟩
  ·obtain rfl:k=H:=by omega
   have y:(shR d rs).take k=shR d rs:=List.take_of_length_le (by rw [j6,O.out];exact JD _)
   rw [y] at p
   have I:=aa p;clear p y
   gi_wp2
   go_end0
   exact ⟨⟨_,rfl⟩,.inl ⟨_,rfl,I.out⟩⟩
structure Kd (n₁ n₂:Nat) (W W':World):Prop where
 size:W.heap.size≤W'.heap.size
 block:∀k,n₁≤k→k<n₂→W'.heap[k]?=W.heap[k]?
theorem Kd.trans {o i:Nat} {A B C:World} (h:Kd o i A B) (k:Kd o i B C):Kd o i A C:=⟨JJ h.size k.size,fun j h1 p=>(k.block j h1 p).trans (h.block j h1 p)⟩
theorem Jq {u p:Nat} {w:World} (hn:p≤w.heap.size) (W:World) (l:Nat) (o i:Obj) (hl:w.heap.size≤l) (h:W.heap[l]?=some o) (h1:o.isCells=false) (j:o.isWalk=false):Kd u p W (W.putObj l i):=
 ⟨(belowK_b hn W l o i hl h h1 j).size,fun k _ q=>(belowK_b hn W l o i hl h h1 j).block k q⟩
theorem wt {p i:Nat} {W j:World} (h:Below i W j):Kd p i W j:=⟨h.size,fun k _ o=>h.block k o⟩
structure C0 (n₁ n₂ L S B:Nat) (A:Option Addr):Prop where
 l:n₁≤L∧L<n₂
 s:n₁≤S∧S<n₂
 b:n₁≤B∧B<n₂
 a:∀x,A=some x→n₁≤x.block∧x.block<n₂
theorem jF.kd {q p:Nat} {W v:World} {L S B:Nat} {A:Option Addr} {rs:List Rg} {c d:Nat} {u:TypeId} (h:jF W L S B A rs c d u) (i:C0 q p L S B A) (k:Kd q p W v):jF v L S B A rs c d u:=
 ⟨(k.block _ i.l.1 i.l.2).trans h.l,(k.block _ i.s.1 i.s.2).trans h.s,(k.block _ i.b.1 i.b.2).trans h.b,fun j x hx=>by
  obtain ⟨b,o,e,hc⟩:=h.r j x hx
  refine ⟨b,o,e,?_⟩
  have:=i.a _ e
  rw [World.cell?] at hc ⊢
  rw [k.block b this.1 this.2]
  exact hc⟩
theorem wh (n q p L S B:Nat) (A:Option Addr) (rs:List Rg) (c d:Nat) (w:World) (hA:jF w L S B A rs c d 335) (hB:C0 q p L S B A) (i:rs.length≤1048576) (u:d≤1048576) (j:∀r∈rs,r.1≤1048576∧r.2≤1048576):
  SeqStopsK Fence.wide n Tryz.prog 226 #[.pointer (some ⟨L,0,none⟩),.pointer (some ⟨S,0,none⟩)] zE (Kd q p) (fun ys=>ys=shR d rs) (fun _=>True) rs.length w:=fun l J D W v y _ H C=>
 Cm n l L S B A rs c d (Kd q p) (fun _ _ h k=>h.kd hB k) i u j J D _ y (fun o x W h _=>H o x W h) W (hA.below v) C
theorem jc {w:World} {base:Nat} {e:TypeId} {size n c:Nat} {A:Option Addr} {xs:List Value} (h:w.ownsRow base e size (.slice A n c) n xs):∀x,A=some x→base≤x.block∧x.block<w.heap.size:=fun x hx=>by
 rcases h.2 with ⟨hv,_⟩ | ⟨g,cap,i,hv,j,hg,_⟩
 ·simp only [Ku] at hv;rw [hx] at hv;cases hv.1
 ·simp only [Ku] at hv;rw [hx] at hv;cases hv.1;exact ⟨j,JC hg⟩
end Go.Proofs.YtaccfnffmbndhaaGreat
namespace Go.Proofs.YtaccfnffmbndhaaGreat
open Go.RowKit Go.Shelf
attribute [local go_sem] Oper.semAt_some
theorem ve (l:List Rg) (x:Rg):aF (l++[x])=aF l++[KL (x.1:Int),KL (x.2:Int)]:=by simp [aF]
theorem FG (L S B:Nat) (A:Option Addr) (rs:List Rg) (c d:Nat) (w:World) (hA:jF w L S B A rs c d 335) (hB:C0 0 w.heap.size L S B A) (H:rs.length≤1048576) (hd:d≤1048576) (R:∀r∈rs,r.1≤1048576∧r.2≤1048576):
  Calls Tryz.prog 224 #[KN,.func (.func 226) #[] #[.pointer (some ⟨L,0,none⟩),.pointer (some ⟨S,0,none⟩)]] w fun e V=>∃v,e=.returned v∧V.ownsRow w.heap.size 52 2 v rs.length (aF (shR d rs))∧Below w.heap.size w V:=by
 have y:=fun n=>wh n 0 w.heap.size L S B A rs c d w hA hB H hd R
 have Q:=aa y;clear y
 refine (callsIn_wide (n:=3)).1 ?_
 refine callsIn_of_wp_marks Tryz.func224 rfl trivial ?_ rfl
 simp only [Tryz.ntmps224,List.size_toArray,List.length_cons,List.length_nil,Nat.reduceAdd,Nat.reduceSub,Array.replicate_succ,Array.replicate_zero,List.push_toArray,List.append_toArray,List.nil_append,List.cons_append]
 gi_wp2_with fail
 have p:Below w.heap.size w (w.alloc (.cells #[KN] 120)):=(JG _ w).alloc (JD _) _
 refine' wpIn_rangeFunc_ownH (F:=Fence.wide) (n:=3) rfl (by omega) (gf:=226) (lb:=#[.pointer (some ⟨L,0,none⟩),.pointer (some ⟨S,0,none⟩)]) rfl trivial (enters_of Tryz.func226 (by kernel_rfl) rfl)
  (Q.out _) Kd.trans (Jq p.size) p (fun _=>rfl)
  (fun (j:List Rg) W=>(∃v,Boxed W w.heap.size 120 v∧W.ownsRow w.heap.size 52 2 v j.length (aF j)∧True)∧Below w.heap.size w W)
  (fun _ _ _=>False)
  (OwnFrom.and (Own.from (holdsRow_own w.heap.size w.heap.size 120 52 2 (fun j:List Rg=>j.length) (fun j=>aF j) (fun _ _=>True)) _) (ownFrom_below (JD _) p.size))
  (fun _ _ _ _ _ hs _ _=>hs)
  ⟨⟨_,Boxed.new w 120 (KN),JO _ _ _ _,trivial⟩,p⟩
  (fun (x:Rg) T W=>∃b,T={tmps:=#[KN,.func (.func 226) #[] #[.pointer (some ⟨L,0,none⟩),.pointer (some ⟨S,0,none⟩)],.pointer (some ⟨w.heap.size,0,none⟩),undef,KN,.pointer (some ⟨b,0,none⟩),.func (.func 226) #[] #[.pointer (some ⟨L,0,none⟩),.pointer (some ⟨S,0,none⟩)],.agg #[KL (x.1:Int),KL (x.2:Int)],undef,undef,undef,undef,undef],defers:=[]}∧W.heap[b]?=some (.cells #[KL (x.1:Int),KL (x.2:Int)] 52 (0,0)))
  (fun x T _ W W' row h hg hr=>by obtain ⟨b,e,u⟩:=h;exact ⟨b,e,fH _ b _ rfl () W W' row u hg hr⟩)
  ?assign ?body ?done ?stop
 case assign=>
  rintro l j x W K ⟨⟨v,hv,i,_⟩,o⟩ C
  unfold zE
  have N:Below W.heap.size W (W.alloc (.cells #[KL (x.1:Int),KL (x.2:Int)] 52)):=(JG _ W).alloc (JD _) _
  gi_wp2
  refine C _ _ ((KeepsOthers.of_grownBy (row:=none) (kA N) (fun _ _ h=>by cases h)).from _) (wt (N.mono o.size)) ⟨⟨v,hv.alloc _,i.alloc _,trivial⟩,o.trans (N.mono o.size)⟩ ⟨_,rfl,JE _ _⟩
 case body=>
  rintro l j x T W _ _ ⟨⟨v,hv,i,_⟩,o⟩ ⟨b,rfl,u⟩ q
  have hc:=hv.cell
  have X:=o.size
  have a0:=ar hc
  have xb:=bx2 u
  have lb:=JC u
  have N:Below W.heap.size W (W.alloc (.cells #[KL (x.1:Int),KL (x.2:Int)] 52)):=(JG _ W).alloc (JD _) _
  obtain ⟨Hv,I,U,J,HW⟩:=ah hv i o q X;clear hv i o q X u
  gi_wp2_with (gi_at_builtin;refine mt kF W rfl (.tmp 8) (.tmp 10) rfl w.heap.size w.heap.size v j.length _ rfl Hv.out (by decide) I.out [KL (x.1:Int),KL (x.2:Int)] rfl rfl (by simp [Value.oneCell']) (by have:=J.out;omega) (by have:=J.out;unfold maxLen;omega) HW.out (JD _) ?_)
  intro g1 c1 w1 O k2 Y k4 k5 k6
  have a2:=O.cell;have a1:=O.frozen
  obtain ⟨K2,K3,K4,Z⟩:=ag k2 Y k4 k5;clear O k2 Y k4 k5 k6 hc xb
  gi_wp2_with fail
  exact ⟨K4.out.from _,wt Z.out,⟨⟨_,K2.out,by rw [Kf,ve];exact K3.out,trivial⟩,U.out.trans Z.out⟩⟩
 case done=>
  rintro D ys W hD rfl ⟨⟨v,hv,i,_⟩,o⟩ C
  have hc:=hv.cell
  gi_wp2
  refine ⟨by simp,.inl ⟨_,_,rfl,run_takeDeferred C,?_⟩⟩
  rw [j6] at i
  refine ⟨v,by simp [results,Tryz.results224,go_sem],v,rfl,ownsRow_putObj i _ C rfl,o.trans (belowK_b (w:=w) (JD _) W D _ _ (by simp at hD;omega) C rfl rfl)⟩
 case stop=>
  rintro D c j W _ _ h _
  exact h.elim
theorem wR (L S B:Nat) (A:Option Addr) (rs:List Rg) (c d:Nat) (w:World) (hA:jF w L S B A rs c d 335) (hB:C0 0 w.heap.size L S B A) (i:rs.length≤1048576) (o:d≤1048576) (j:∀r∈rs,r.1≤1048576∧r.2≤1048576):
  Calls Tryz.prog 209 #[.func (.func 226) #[] #[.pointer (some ⟨L,0,none⟩),.pointer (some ⟨S,0,none⟩)]] w fun e p=>∃v,e=.returned v∧p.ownsRow w.heap.size 52 2 v rs.length (aF (shR d rs))∧Below w.heap.size w p:=by
 have h:=FG L S B A rs c d w hA hB i o j
 have H:=aa h;clear h hA hB i o j
 go_enter Tryz.func209,Tryz.ntmps209
 go_wp2_with fail
 refine H.out.mono ?_
 rintro e y ⟨v,rfl,q,u⟩
 have x:=aa q;clear q
 go_wp2_with fail
 go_ret
 exact ⟨_,rfl,x.out,u⟩
end Go.Proofs.YtaccfnffmbndhaaGreat
namespace Go.Proofs.YtaccfnffmbndhaaGreat
open Go.RowKit
theorem wH {n k:Nat} (h1:1≤k) (hn:n≤1048576):∀r∈fA n k,r.1≤1048576∧r.2≤1048576:=by
 intro r hr
 simp only [fA,List.mem_map,List.mem_range] at hr
 obtain ⟨i,j,rfl⟩:=hr
 have a:=fD n k i h1 (by omega)
 have b:=fD n k (i+1) h1 (by omega)
 exact ⟨by simp only;omega,by simp only;omega⟩
theorem Ar {n s:Nat} (hn:n≤1048576):∀r∈eR n s,r.1≤1048576∧r.2≤1048576:=by
 intro r hr
 simp only [eR,List.mem_map,List.mem_range] at hr
 obtain ⟨i,j,rfl⟩:=hr
 have:=iI j
 exact ⟨by simp only;omega,by simp only;omega⟩
theorem Dw (lo i k:Nat) (w:World) (h1:1≤k) (V:k≤1048576) (Z:lo≤1048576) (h4:i≤1048576):
  Calls Tryz.prog 190 #[.agg #[KL lo,KL i],KL k] w fun e p=>∃v,e=.returned v∧p.ownsRow w.heap.size 52 2 v k (aF (dR (lo,i) k))∧Below w.heap.size w p:=by
 obtain ⟨j,hW0⟩:∃j,w.alloc (.cells #[KL lo,KL i] 52)=j:=⟨_,rfl⟩
 have Y:j.heap[w.heap.size]?=some (.cells #[KL lo,KL i] 52 (0,0)):=by rw [←hW0];exact JE w _
 have y:Below w.heap.size w j:=by rw [←hW0];exact (br w).alloc (JD _) _
 have t0:=fun p q=>bx2 (sb Y p q)
 obtain ⟨I,o⟩:=ae hW0 y;clear hW0 Y y
 have N:Hid (dR (lo,i) k=shR lo (fA (i-lo) k)):=Lib.hid rfl
 go_enter Tryz.func190,Tryz.ntmps190
 have U:=br j
 go_wp2_with fail
 rw [I.out]
 refine HA.g (fun p:World=>Below j.heap.size j p) ?_
 refine HA.t ?_ [0,2,4,5] U.drew ?_
 refine HA.c 1 (qF lo i _ Z h4) ?_
 rintro e w1 ⟨rfl,T⟩
 have q1:=bt U.drew T
 refine ⟨_,rfl,q1,fun _=>?_⟩
 refine HA.c 3 (wF (i-lo) k _ h1 V (by omega)) ?_
 rintro e w2 ⟨v2,rfl,D,k2⟩
 obtain ⟨A,c,rfl,_⟩:=aw D
 have Q:=bt q1 k2
 have hl:=s9 A (fA (i-lo) k) c lo w2 (Rd.own D)
 rw [ft] at hl
 refine ⟨_,rfl,Q,fun _=>?_⟩
 refine HA.c 6 hl ?_
 rintro e X ⟨L,S,B,rfl,hA,R,J⟩
 have u:C0 0 X.heap.size L S B A:=⟨⟨JH _,JC hA.l⟩,⟨JH _,JC hA.s⟩,⟨JH _,JC hA.b⟩,fun x hx=>⟨JH _,JK (jc D x hx).2 J.size⟩⟩
 clear R
 have C:=bt Q J
 refine ⟨_,rfl,C,fun _=>?_⟩
 refine HA.c 7 (wR L S B A _ c lo X hA u (by rw [ft];exact V) Z (wH h1 (by omega))) ?_
 rintro e w4 ⟨v4,rfl,O,k4⟩
 have H:=bt C k4
 refine ⟨_,rfl,H,fun _=>?_⟩
 refine HA.t ?_ [8] H ?_
 refine HA.d ?_
 have hB:=aa (o.out.trans (H.mono o.out.size))
 rw [ft,←N.out] at O
 have O4:=aa (ax (base':=w.heap.size) O (JJ o.out.size C.size));clear O D hl hA u T k2 J k4 q1 Q C H t0
 go_wp2_with fail
 go_ret
 exact ⟨_,rfl,O4.out,hB.out⟩
theorem wT (lo i k:Nat) (w:World) (h1:1≤k) (h2:k≤1048576) (h3:lo≤1048576) (h4:i≤1048576):
  Calls Tryz.prog 191 #[.agg #[KL lo,KL i],KL k] w fun e u=>∃v,e=.returned v∧u.ownsRow w.heap.size 52 2 v (chR (lo,i) k).length (aF (chR (lo,i) k))∧Below w.heap.size w u:=by
 obtain ⟨j,hW0⟩:∃j,w.alloc (.cells #[KL lo,KL i] 52)=j:=⟨_,rfl⟩
 have h0:j.heap[w.heap.size]?=some (.cells #[KL lo,KL i] 52 (0,0)):=by rw [←hW0];exact JE w _
 have C:Below w.heap.size w j:=by rw [←hW0];exact (br w).alloc (JD _) _
 have t0:=fun u q=>bx2 (sb h0 u q)
 obtain ⟨Q,p⟩:=ae hW0 C;clear hW0 h0 C
 have D:Hid (chR (lo,i) k=shR lo (eR (i-lo) k)):=Lib.hid rfl
 go_enter Tryz.func191,Tryz.ntmps191
 have Y:=br j
 go_wp2_with fail
 rw [Q.out]
 refine HA.g (fun u:World=>Below j.heap.size j u) ?_
 refine HA.t ?_ [0,2,4,5] Y.drew ?_
 refine HA.c 1 (qF lo i _ h3 h4) ?_
 rintro e w1 ⟨rfl,X⟩
 have q1:=bt Y.drew X
 refine ⟨_,rfl,q1,fun _=>?_⟩
 have o:=kH (i-lo) k w1 (by omega) h1 h2
 have I:=fu (i-lo) k
 rw [←pd,←dU] at o
 rw [←dU] at I
 refine HA.c 3 o ?_
 rintro e w2 ⟨v2,rfl,N,k2⟩
 obtain ⟨A,c,rfl,_⟩:=aw N
 have U:=bt q1 k2
 have hl:=s9 A (eR (i-lo) k) c lo w2 (Rd.own N)
 refine ⟨_,rfl,U,fun _=>?_⟩
 refine HA.c 6 hl ?_
 rintro e Z ⟨L,S,B,rfl,hA,V,R⟩
 have y:C0 0 Z.heap.size L S B A:=⟨⟨JH _,JC hA.l⟩,⟨JH _,JC hA.s⟩,⟨JH _,JC hA.b⟩,fun x hx=>⟨JH _,JK (jc N x hx).2 R.size⟩⟩
 clear V
 have J:=bt U R
 refine ⟨_,rfl,J,fun _=>?_⟩
 refine HA.c 7 (wR L S B A _ c lo Z hA y (by omega) h3 (Ar (by omega))) ?_
 rintro e w4 ⟨v4,rfl,T,k4⟩
 have O:=bt J k4
 refine ⟨_,rfl,O,fun _=>?_⟩
 refine HA.t ?_ [8] O ?_
 refine HA.d ?_
 have hB:=aa (p.out.trans (O.mono p.out.size))
 have H:(chR (lo,i) k).length=(eR (i-lo) k).length:=by rw [D.out,j6]
 rw [←D.out,←H] at T
 have O4:=aa (ax (base':=w.heap.size) T (JJ p.out.size J.size));clear T N hl hA y o I H X k2 R k4 q1 U J O t0
 go_wp2_with fail
 go_ret
 exact ⟨_,rfl,O4.out,hB.out⟩
end Go.Proofs.YtaccfnffmbndhaaGreat
namespace Go.Proofs.YtaccfnffmbndhaaGreat
open Go.RowKit Go.Shelf
theorem tY {l n:Nat} {P:Program} {row:String} {args:Array Value} {w:World} {R:Value→World→Prop} (h:Rows P row args w R):RowsIn (Fence.wide.inRound l) n P row args w R:=
 fun c i _=>let ⟨v,w',r,s⟩:=h c i;⟨v,w',r,(stepsIn_wide (P:=P)).2 s⟩
theorem uh {l n:Nat} {P:Program} {o:Oper} {a:Act} {w:World} {K:Act→World→Prop} {Q:Exit→Act→World→Prop} (i:∀c,o.op≠.defer c) (h:o.wp P a w K Q):o.wpIn (Fence.wide.inRound l) n P a w K Q:=by
 unfold Oper.wp at h
 unfold Oper.wpIn
 refine ⟨fun _ _=>trivial,?_⟩
 rw [Oper.semAt_plain _ _ _ i]
 generalize (execOp a.eval o).run P w=r at *
 cases r with
 | ok x w'=>
  cases x<;>simp only [Oper.upon,Oper.uponIn] at h ⊢<;>
   first
    | exact h
    | exact ⟨fun j=>(by cases j),CallsIn.inRound l (callsIn_wide.2 h)⟩
    | exact ⟨fun j=>(by cases j),tY h⟩
    | exact h.elim
 | halt x w'=>cases x<;>simp only [Oper.upon,Oper.uponIn] at h ⊢<;>exact h
theorem tI {l n:Nat} {P:Program} {ops:Array Oper} {Q:Exit→Act→World→Prop} (q:∀(i:Nat) (o:Oper),ops[i]?=some o→∀c,o.op≠.defer c) (p:¬LetsOut Q) {i:Nat} {K:Act→World→Prop} {a:Act} {w:World}
  (h:wpOp P ops Q i K a w):wpOpIn (Fence.wide.inRound l) n P ops Q i K a w:=by
 unfold wpOp at h
 unfold wpOpIn
 split at h
 ·rename_i j;simp only [j];exact h
 ·rename_i o j
  simp only [j]
  split at h
  ·rename_i hw
   rw [if_pos hw]
   rcases h with h | ⟨_,h⟩
   ·exact uh (q i o j) h
   ·exact absurd h p
  ·rename_i hw
   rw [if_neg hw]
   exact ⟨fun _ _=>trivial,h⟩
theorem jH {l n:Nat} {P:Program} {v:Region.Mode} {ops:Array Oper} {Q:Exit→Act→World→Prop} (u:∀(i:Nat) (o:Oper),ops[i]?=some o→∀c,o.op≠.defer c) (q:¬LetsOut Q):∀(j:Nat) (p:Array Bool) (a:Act) (w:World),
  wpAny P v ops Q j p a w→wpAnyIn (Fence.wide.inRound l) n P v ops Q j p a w
 | 0,_,_,_,h=>h
 | j+1,_,_,_,h=>⟨h.1,fun i B=>wpOpIn_mono (fun A y x=>jH u q j _ A y x) (tI u q (h.2 i B))⟩
def JA:Op→Bool
 | .defer _=>true
 | _=>false
theorem zT {ops:Array Oper} (h:ops.all (fun o=> !JA o.op)=true):∀(i:Nat) (o:Oper),ops[i]?=some o→∀c,o.op≠.defer c:=fun i o j c e=>by
 have:=(Array.all_eq_true.1 h) i (Array.getElem?_eq_some_iff.1 j).1
 rw [(Array.getElem?_eq_some_iff.1 j).2,e] at this
 cases this
theorem iZ {l n:Nat} {P:Program} {ops:Array Oper} {Q:Exit→Act→World→Prop} (S:World→Prop) {id:Nat} {a:Act} {w:World} (hm:P.follows .mixedOrders=true) (j:ops.all (fun o=> !JA o.op)=true) (i:¬LetsOut Q)
  (h:wpAnyH P .any ops Q S ops.size (Array.replicate ops.size false) a w.drew):(Code.region id ops true).wpIn (Fence.wide.inRound l) n P Q a w:=
 wpIn_region_any hm (jH (zT j) i _ _ _ _ (wpAny_of_held _ _ _ _ h))
theorem HA.r {P:Program} {ops:Array Oper} {Q:Exit→Act→World→Prop} {l n id:Nat} {a:Act} {w:World} (S:World→Prop) (h:HA P ops Q S [] a w.drew) (hm:P.follows .mixedOrders=true:=by kernel_rfl) (hnd:ops.all (fun o=> !JA o.op)=true:=by kernel_rfl) (hno:¬LetsOut Q:=by (rintro ⟨_,_,h⟩;exact h)):
  (Code.region id ops true).wpIn (Fence.wide.inRound l) n P Q a w:=by
 have i:=h.out
 rw [j2] at i
 exact iZ S hm hnd hno i
theorem XA.r {P:Program} {ops:Array Oper} {Q:Exit→Act→World→Prop} {l m id:Nat} {a:Act} {w:World} (n:Nat) (S:World→Prop) (h:XA P ops Q S n [] a w.drew) (hm:P.follows .mixedOrders=true:=by kernel_rfl) (hnd:ops.all (fun o=> !JA o.op)=true:=by kernel_rfl) (hno:¬LetsOut Q:=by (rintro ⟨_,_,h⟩;exact h)):
  (Code.region id ops true).wpIn (Fence.wide.inRound l) m P Q a w:=by
 have i:=h.out
 rw [j2] at i
 exact wpIn_region_any hm (jH (zT hnd) hno _ _ _ _ (mJ _ _ _ _ i))
end Go.Proofs.YtaccfnffmbndhaaGreat
namespace Go.Proofs.YtaccfnffmbndhaaGreat
open Go.RowKit Go.Shelf
attribute [local go_sem] Oper.semAt_some
theorem uA (s:Rg) (c:Nat):(chR s c).length=cZ (s.2-s.1) c:=by rw [chR,j6,dU]
theorem FY {b:Rg} {k:Nat} (h1:1≤k) (j:b.1≤1048576) (p:b.2≤1048576):∀r∈dR b k,r.1≤1048576∧r.2≤1048576:=by
 intro r hr
 simp only [dR,shR,fA,List.map_map,List.mem_map,List.mem_range,Function.comp] at hr
 obtain ⟨i,o,rfl⟩:=hr
 have a:=fD (b.2-b.1) k i h1 (by omega)
 have c:=fD (b.2-b.1) k (i+1) h1 (by omega)
 exact ⟨by simp only;omega,by simp only;omega⟩
end Go.Proofs.YtaccfnffmbndhaaGreat
namespace Go.Proofs.YtaccfnffmbndhaaGreat
open Go.RowKit
theorem AH (n:Int) (W:Nat) (h:1≤W):n%(W:Int)=if n.tmod W<0 then n.tmod W+W else n.tmod W:=by
 rw [Int.tmod_eq_emod]
 have h1:=Int.emod_nonneg n (show (W:Int)≠0 by omega)
 have j:=Int.emod_lt_of_pos n (show (0:Int)<W by omega)
 have i:((W:Int).natAbs:Int)=W:=by simp
 split<;>split<;>omega
theorem FU (n:Int) (W:Nat) (h:1≤W): -(W:Int)<n.tmod W∧n.tmod W<W:=by
 rw [Int.tmod_eq_emod]
 have h1:=Int.emod_nonneg n (show (W:Int)≠0 by omega)
 have o:=Int.emod_lt_of_pos n (show (0:Int)<W by omega)
 have i:((W:Int).natAbs:Int)=W:=by simp
 split
 ·omega
 ·rename_i j
  have:n%(W:Int)≠0:=fun e=>j (.inr (Int.dvd_of_emod_eq_zero e))
  omega
theorem m8 (st bk lo q W c:Nat) (n:Int) (w:World) (h1:1≤W) (u:W≤1048576) (hn: -(W:Int)≤n) (p:n≤2*W):
  Calls Tryz.prog 208 #[.agg #[KL (st:Nat),KL (bk:Nat),KL (lo:Nat),KL (q:Nat),KL (W:Nat),KL (c:Nat)],KL n] w fun e j=>e=.returned (KL (n%(W:Int)))∧Below w.heap.size w j:=by
 have v:¬((W:Int)=0):=by omega
 have hm:=FU n W h1
 have he:=AH n W h1
 obtain ⟨r,hr⟩:∃r,n.tmod (W:Int)=r:=⟨_,rfl⟩
 rw [hr] at hm he
 by_cases i:r<0
 ·rw [if_pos i] at he
  rw [he]
  have o:=aa he;clear he
  go_enter Tryz.func208,Tryz.ntmps208
  go_wp2_with fail
  go_ret
  exact ⟨rfl,(br w).alloc (JD _) _⟩
 ·rw [if_neg i] at he
  rw [he]
  have o:=aa he;clear he
  go_enter Tryz.func208,Tryz.ntmps208
  go_wp2_with fail
  go_ret
  exact ⟨rfl,(br w).alloc (JD _) _⟩
theorem pJ (st bk lo p W c x r:Nat) (w:World) (h1:1≤W) (v:W≤1048576) (hx:x<W) (hr:r<W):
  Calls Tryz.prog 206 #[.agg #[KL (st:Nat),KL (bk:Nat),KL (lo:Nat),KL (p:Nat),KL (W:Nat),KL (c:Nat)],KL x,KL r] w fun e i=>e=.returned (KL (((x:Int)-r)%(W:Int)))∧Below w.heap.size w i:=by
 have o:=fun i=>m8 st bk lo p W c ((x:Int)-r) i h1 v (by omega) (by omega)
 have u:=aa o;clear o
 go_enter Tryz.func206,Tryz.ntmps206
 go_wp2_with fail
 refine (u.out _).mono ?_
 rintro e q ⟨rfl,j⟩
 have hB:Below w.heap.size w q:=((br w).alloc (JD _) _).trans (j.mono (by simp))
 clear j
 go_wp2_with fail
 go_ret
 exact ⟨rfl,hB⟩
theorem ro (st bk lo p W c x r:Nat) (w:World) (h1:1≤W) (v:W≤1048576) (hx:x<W) (hr:r<W):
  Calls Tryz.prog 207 #[.agg #[KL (st:Nat),KL (bk:Nat),KL (lo:Nat),KL (p:Nat),KL (W:Nat),KL (c:Nat)],KL x,KL r] w fun e i=>e=.returned (KL (((x:Int)+1-r)%(W:Int)))∧Below w.heap.size w i:=by
 have o:=fun i=>m8 st bk lo p W c ((x:Int)+1-r) i h1 v (by omega) (by omega)
 have u:=aa o;clear o
 go_enter Tryz.func207,Tryz.ntmps207
 go_wp2_with fail
 refine (u.out _).mono ?_
 rintro e q ⟨rfl,j⟩
 have hB:Below w.heap.size w q:=((br w).alloc (JD _) _).trans (j.mono (by simp))
 clear j
 go_wp2_with fail
 go_ret
 exact ⟨rfl,hB⟩
theorem xE {W x ph r:Nat} (hr:r<W) (n:Int) (hn:n=(x:Int)+ph-r):n%(W:Int)=((eZ W x ph r:Nat):Int):=by
 unfold eZ
 rw [Int.natCast_emod,show ((x+(2*W+ph-r):Nat):Int)=n+2*W by omega,Int.add_mul_emod_self_right]
theorem sx {W x ph r:Nat} (hr:r+1≤W) (n:Int) (hn:n=((x:Int)-1)%(W:Int)+ph-r):n%(W:Int)=((fV W x ph r:Nat):Int):=by
 unfold fV
 rw [Int.natCast_emod,show ((x+(2*W+ph-r-1):Nat):Int)=((x:Int)-1+ph-r)+2*W by omega,Int.add_mul_emod_self_right,hn,Int.add_sub_assoc,Int.emod_add_emod,Int.add_sub_assoc]
end Go.Proofs.YtaccfnffmbndhaaGreat
namespace Go.Proofs.YtaccfnffmbndhaaGreat
open Go.RowKit
theorem EH (w:World) (f g:Fn):(Instr.index 320 (.agg #[.func f #[] #[],.func g #[] #[]]) (KL 0)).run Tryz.prog w=.ok (.func f #[] #[]) w:=by
 simp [Instr.index,run_underlying Tryz.underlying320,asIntOf,go_sem]
theorem GQ (w:World) (f g:Fn):(Instr.index 320 (.agg #[.func f #[] #[],.func g #[] #[]]) (KL 1)).run Tryz.prog w=.ok (.func g #[] #[]) w:=by
 simp [Instr.index,run_underlying Tryz.underlying320,asIntOf,go_sem]
attribute [local go_sem] EH GQ
theorem Dy (st bk lo u W c x ph r:Nat) (w:World) (h1:1≤W) (v:W≤1048576) (hx:x<W) (y:ph<2) (hr:r+1<W):
  Calls Tryz.prog 189 #[.agg #[KL (st:Nat),KL (bk:Nat),KL (lo:Nat),KL (u:Nat),KL (W:Nat),KL (c:Nat)],KL x,KL ph,KL r,.bool true] w fun e o=>e=.returned (.tuple #[KL (eZ W x ph r:Nat),.bool true])∧Below w.heap.size w o:=by
 have B:(x:Int)<W:=by omega
 have A:(r:Int)<(W:Int)-1:=by omega
 have hs:=xE (W:=W) (x:=x) (ph:=ph) (r:=r) (by omega) _ rfl
 obtain rfl | rfl:ph=0∨ph=1:=by omega
 ·have i:=fun o=>pJ st bk lo u W c x r o h1 v hx (by omega)
  rw [show ((x:Int)+(0:Nat)-r)=(x:Int)-r by omega] at hs
  rw [hs] at i
  have q:=aa i;clear i hs
  go_enter Tryz.func189,Tryz.ntmps189
  go_wp2_with fail
  refine (q.out _).mono ?_
  rintro e p ⟨rfl,j⟩
  have hB:Below w.heap.size w p:=((br w).alloc (JD _) _).trans (j.mono (by simp))
  clear j
  go_wp2_with fail
  go_ret2
  exact ⟨rfl,hB⟩
 ·have i:=fun o=>ro st bk lo u W c x r o h1 v hx (by omega)
  rw [show ((x:Int)+(1:Nat)-r)=(x:Int)+1-r by omega] at hs
  rw [hs] at i
  have q:=aa i;clear i hs
  go_enter Tryz.func189,Tryz.ntmps189
  go_wp2_with fail
  refine (q.out _).mono ?_
  rintro e p ⟨rfl,j⟩
  have hB:Below w.heap.size w p:=((br w).alloc (JD _) _).trans (j.mono (by simp))
  clear j
  go_wp2_with fail
  go_ret2
  exact ⟨rfl,hB⟩
theorem Dz (st bk lo C W c x ph r:Nat) (w:World) (h1:1≤W) (O:W≤1048576) (hx:x<W) (Y:ph<2) (hr:r+1<W):
  Calls Tryz.prog 189 #[.agg #[KL (st:Nat),KL (bk:Nat),KL (lo:Nat),KL (C:Nat),KL (W:Nat),KL (c:Nat)],KL x,KL ph,KL r,.bool false] w fun e j=>e=.returned (.tuple #[KL (fV W x ph r:Nat),.bool true])∧Below w.heap.size w j:=by
 have Z:(x:Int)<W:=by omega
 have X:(r:Int)<(W:Int)-1:=by omega
 obtain ⟨o,hW0⟩:∃o,w.alloc (.cells #[KL (st:Nat),KL (bk:Nat),KL (lo:Nat),KL (C:Nat),KL (W:Nat),KL (c:Nat)] 275)=o:=⟨_,rfl⟩
 have R:o.heap[w.heap.size]?=some (.cells #[KL (st:Nat),KL (bk:Nat),KL (lo:Nat),KL (C:Nat),KL (W:Nat),KL (c:Nat)] 275 (0,0)):=by rw [←hW0];exact JE w _
 have L:Below w.heap.size w o:=by rw [←hW0];exact (br w).alloc (JD _) _
 have t0:=fun j q=>bx6 (sb R j q)
 have A:=fun j=>m8 st bk lo C W c ((x:Int)-1) j h1 O (by omega) (by omega)
 have U:IntKind.i64.wrap ((x:Int)-1)=(x:Int)-1:=JI _ (by omega)
 obtain ⟨y,Q⟩:∃y:Nat,(y:Int)=((x:Int)-1)%(W:Int):=⟨(((x:Int)-1)%(W:Int)).toNat,Int.toNat_of_nonneg (Int.emod_nonneg _ (by omega))⟩
 have H:y<W:=by have:=Int.emod_lt_of_pos ((x:Int)-1) (show (0:Int)<W by omega);omega
 rw [←Q] at A
 obtain ⟨I,p,J⟩:=af hW0 L A;clear hW0 R L A
 obtain rfl | rfl:ph=0∨ph=1:=by omega
 ·have hs:=sx (W:=W) (x:=x) (ph:=0) (r:=r) (by omega) ((y:Int)-r) (by rw [Q];omega)
  have i:=fun j=>pJ st bk lo C W c y r j h1 O H (by omega)
  rw [hs] at i
  have B:=aa i;clear i hs
  go_enter Tryz.func189,Tryz.ntmps189
  have v:=br o
  go_wp2_with fail
  rw [I.out]
  refine HA.g (fun j:World=>Below o.heap.size o j) ?_
  refine HA.t ?_ [0,1,2,3,4,6] v.drew ?_
  refine HA.c 5 (J.out _) ?_
  rintro e T ⟨rfl,D⟩
  have q1:=bt v.drew D
  refine ⟨_,rfl,q1,fun _=>?_⟩
  refine HA.c 7 (B.out _) ?_
  rintro e V ⟨rfl,N⟩
  have u:=bt q1 N
  refine ⟨_,rfl,u,fun _=>?_⟩
  refine HA.t ?_ [8,9] u ?_
  refine HA.d ?_
  have hB:=p.out.trans (u.mono p.out.size)
  clear D N v q1 u t0
  go_wp2_with fail
  go_ret2
  exact ⟨rfl,hB⟩
 ·have hs:=sx (W:=W) (x:=x) (ph:=1) (r:=r) (by omega) ((y:Int)+1-r) (by rw [Q];omega)
  have i:=fun j=>ro st bk lo C W c y r j h1 O H (by omega)
  rw [hs] at i
  have B:=aa i;clear i hs
  go_enter Tryz.func189,Tryz.ntmps189
  have v:=br o
  go_wp2_with fail
  rw [I.out]
  refine HA.g (fun j:World=>Below o.heap.size o j) ?_
  refine HA.t ?_ [0,1,2,3,4,6] v.drew ?_
  refine HA.c 5 (J.out _) ?_
  rintro e T ⟨rfl,D⟩
  have q1:=bt v.drew D
  refine ⟨_,rfl,q1,fun _=>?_⟩
  refine HA.c 7 (B.out _) ?_
  rintro e V ⟨rfl,N⟩
  have u:=bt q1 N
  refine ⟨_,rfl,u,fun _=>?_⟩
  refine HA.t ?_ [8,9] u ?_
  refine HA.d ?_
  have hB:=p.out.trans (u.mono p.out.size)
  clear D N v q1 u t0
  go_wp2_with fail
  go_ret2
  exact ⟨rfl,hB⟩
end Go.Proofs.YtaccfnffmbndhaaGreat
