/- No condition. -/
import Derived.Test.YtgmajkppbhiopaaGreatE13
import Derived.Maps.OwnSet
import Derived.Maps.OwnOps
set_option linter.unusedSimpArgs false
set_option linter.unusedVariables false
set_option maxRecDepth 100000
set_option maxHeartbeats 4000000
namespace Go.Proofs.YtgmajkppbhiopaaGreat
open Go.RowKit
open Tryz
theorem Cg {X:Value} {z:Int} {w:World} (i:∀h,aq w h->Calls prog 47 #[X,MO z] h fun e u=>e=.returned (.tuple #[.nilIface,.pointer none,.pointer none,.bool false])/\aq h u):
  Calls prog 34 #[X,MO z] w fun e h=>e=.returned (MP)/\aq w h:=by
 have p:=aa i
 have y:=br w
 clear i
 go_enter func34,ntmps34
 go_wp2_with fail
 refine (p.o _ y).mono ?_
 rintro e A ⟨rfl,v⟩
 have x:=aa v;clear v
 go_wp2_with fail
 go_ret
 exact ⟨rfl,x.o⟩
theorem Cf {X:Value} {z b:Nat} {D lb:Value} {R:Ending->World->Prop} {w:World} (p:Calls prog 47 #[X,MO (z:Nat)] w fun e h=>e=.returned (.tuple #[.iface 97 ((au b)),D,lb,.bool true])/\aq w h)
  (i:∀x,aq w x->Calls prog 219 #[(au b)] x fun e h=>(∃v,e=.returned v)/\R e h):
  Calls prog 34 #[X,MO (z:Nat)] w R:=by
 have hm:∀(w:World),(method 496 97 ((au b)) "Open").run prog w=.ok (219,(au b)) w:=fun _=>by kernel_rfl
 obtain ⟨u,B⟩:=ae p i;clear p i
 go_enter func34,ntmps34
 go_wp2_with fail
 refine u.o.mono ?_
 rintro e A ⟨rfl,y⟩
 have C:=aa (B.o A y);clear y
 go_wp2_with fail
 refine C.o.mono ?_
 rintro e I ⟨⟨v,rfl⟩,hr⟩
 have H:=aa hr;clear hr
 go_wp2_with fail
 exact H.o
theorem Cc {X:Value} {z:Int} {w:World} (i:∀h,aq w h->Calls prog 47 #[X,MO z] h fun e u=>e=.returned (.tuple #[.nilIface,.pointer none,.pointer none,.bool false])/\aq h u):
  Calls prog 26 #[X,MO z] w fun e h=>e=.returned (MP)/\aq w h:=by
 have p:=aa i
 have y:=br w
 clear i
 go_enter func26,ntmps26
 go_wp2_with fail
 refine (p.o _ y).mono ?_
 rintro e A ⟨rfl,v⟩
 have x:=aa v;clear v
 go_wp2_with fail
 go_ret
 exact ⟨rfl,x.o⟩
theorem Cb {X:Value} {z b:Nat} {D lb:Value} {R:Ending->World->Prop} {w:World} (p:Calls prog 47 #[X,MO (z:Nat)] w fun e h=>e=.returned (.tuple #[.iface 97 ((au b)),D,lb,.bool true])/\aq w h)
  (i:∀x,aq w x->Calls prog 220 #[(au b)] x fun e h=>(∃v,e=.returned v)/\R e h):
  Calls prog 26 #[X,MO (z:Nat)] w R:=by
 have hm:∀(w:World),(method 496 97 ((au b)) "Trajectory").run prog w=.ok (220,(au b)) w:=fun _=>by kernel_rfl
 obtain ⟨u,B⟩:=ae p i;clear p i
 go_enter func26,ntmps26
 go_wp2_with fail
 refine u.o.mono ?_
 rintro e A ⟨rfl,y⟩
 have C:=aa (B.o A y);clear y
 go_wp2_with fail
 refine C.o.mono ?_
 rintro e I ⟨⟨v,rfl⟩,hr⟩
 have H:=aa hr;clear hr
 go_wp2_with fail
 exact H.o
theorem Ci {X:Value} {z:Int} {w:World} (i:∀h,aq w h->Calls prog 47 #[X,MO z] h fun e u=>e=.returned (.tuple #[.nilIface,.pointer none,.pointer none,.bool false])/\aq h u):
  Calls prog 35 #[X,MO z] w fun e h=>e=.returned (.tuple #[MP,MO 0])/\aq w h:=by
 have p:=aa i
 have y:=br w
 clear i
 go_enter func35,ntmps35
 go_wp2_with fail
 refine (p.o _ y).mono ?_
 rintro e A ⟨rfl,v⟩
 have x:=aa v;clear v
 go_wp2_with fail
 go_ret2
 exact ⟨rfl,x.o⟩
theorem Ch {X:Value} {z b l pk:Nat} {J:Value} {R:Value->World->Prop} {w:World} (x:Calls prog 47 #[X,MO (z:Nat)] w fun e h=>e=.returned (.tuple #[.iface 97 ((au b)),J,(au l),.bool true])/\aq w h)
  (i:∀p,aq w p->Calls prog 69 #[(au l)] p fun e h=>∃v,e=.returned v/\R v h)
  (u:∀v p,R v p->Calls prog 70 #[(au l)] p fun e h=>e=.returned (MO (pk:Nat))/\R v h):
  Calls prog 35 #[X,MO (z:Nat)] w fun e p=>∃v,e=.returned (.tuple #[v,MO (pk:Nat)])/\R v p:=by
 obtain ⟨A,H,N⟩:=af x i u;clear x i u
 go_enter func35,ntmps35
 go_wp2_with fail
 refine A.o.mono ?_
 rintro e D ⟨rfl,B⟩
 have C:=aa (H.o D B);clear B
 go_wp2_with fail
 refine C.o.mono ?_
 rintro e L ⟨v,rfl,hr⟩
 have I:=aa hr;clear hr
 go_wp2_with fail
 refine (N.o v L I.o).mono ?_
 rintro e O ⟨rfl,hr⟩
 have y:=aa hr;clear hr
 go_wp2_with fail
 go_ret2
 exact ⟨v,rfl,y.o⟩
def dJ (mv:Nat->Array Value) (n:Nat):List Value:=((List.range n).map fun x=>(mv x).toList).flatten
theorem kZ (mv:Nat->Array Value) (n:Nat):dJ mv (n+1)=dJ mv n++(mv n).toList:=by simp [dJ,ME]
theorem vY {mv mv':Nat->Array Value} {n:Nat} (h:∀x,x<n->mv x=mv' x):dJ mv n=dJ mv' n:=by
 unfold dJ
 congr 1
 exact List.map_congr_left fun x i=>by rw [h x (List.mem_range.1 i)]
section
variable {mv:Nat->Array Value} {n k x:Nat}
theorem ks (h:∀x,x<n->(mv x).size=k):(dJ mv n).length=n*k:=by
 induction n with
 | zero=>simp [dJ]
 | succ n ih=>rw [kZ,Mo,ih (fun x i=>h x ap),Array.length_toList,h n ap,MF]
theorem oh (h:∀x,x<n->(mv x).size=k) (i:x<n) {f:Nat} (o:f<k):(dJ mv n)[x*k+f]?=(mv x)[f]?:=by
 induction n with
 | zero=>omega
 | succ n ih=>
  have hl:=ks (n:=n) (fun x i=>h x ap)
  rw [kZ]
  by_cases e:x=n
  ·subst e
   rw [Ms ap,hl,Nat.add_sub_cancel_left,Array.getElem?_toList]
  ·have:x*k+k<=n*k:=by rw [<-MF];exact MN k ap
   rw [Mr ap]
   exact ih (fun x i=>h x ap) ap
theorem tB (h:∀x,x<n->(mv x).toList.all (·.oneCell')=true):∀u∈dJ mv n,u.oneCell'=true:=by
 intro u i
 simp only [dJ,List.mem_flatten,List.mem_map,List.mem_range] at i
 obtain ⟨l,⟨x,o,rfl⟩,i⟩:=i
 exact List.all_eq_true.1 (h x o) u i
theorem iC {w:World} {A:Option Addr} (hr:Rd w A (dJ mv n)) (h:∀x,x<n->(mv x).size=k) (hk:0<k) (i:x<n):∃b o,A=some (ar b o)/\w.rangeAt b (o+x*k) (mv x).toList:=by
 have y:=oh h i hk
 rw [Nat.add_zero] at y
 obtain ⟨v,C⟩:∃v,(mv x)[0]?=some v:=⟨_,Array.getElem?_eq_getElem (by rw [h x i];exact hk)⟩
 obtain ⟨b,o,rfl,_⟩:=hr _ _ (y.trans C)
 refine ⟨b,o,rfl,fun j u p=>?_⟩
 have B:j<k:=by have:=(Mp.1 p).1;rw [Array.length_toList,h x i] at this;exact this
 obtain ⟨D,H,e,hc⟩:=hr (x*k+j) u (by rw [oh h i B,<-Array.getElem?_toList];exact p)
 injection e with e;injection e with e1 e2 _
 subst e1;subst e2
 rw [MG]
 exact hc
end
def Cm:List Value->Nat->List Value->List Value
 | xs,_,[]=>xs
 | xs,o,v::r=>Cm (xs.set o v) (o+1) r
theorem AF:∀(ys xs:List Value) (o j:Nat),o+ys.length<=xs.length->(Cm xs o ys)[j]?=if o<=j/\j<o+ys.length then ys[j-o]? else xs[j]?
 | [],xs,o,j,_=>by rw [if_neg (by simp [List.length_nil];try omega)];rfl
 | v::r,xs,o,j,h=>by
  rw [List.length_cons] at h
  rw [Cm,AF r (xs.set o v) (o+1) j (by rw [List.length_set];omega),List.length_cons]
  by_cases h1:j=o
  ·subst h1
   rw [if_neg ap,if_pos ap,Nat.sub_self,List.getElem?_set_self ap]
   rfl
  ·by_cases i:o+1<=j/\j<o+1+r.length
   ·rw [if_pos i,if_pos ap,show j-o=(j-(o+1))+1 by omega,Mj]
   ·rw [if_neg i,if_neg ap,List.getElem?_set_ne ap]
theorem Cz {mv mv':Nat->Array Value} {n k x:Nat} (h:∀x,x<n->(mv x).size=k) (i:∀x,x<n->(mv' x).size=k) (B:x<n) (hm:∀y,y≠x->mv' y=mv y):Cm (dJ mv n) (x*k) (mv' x).toList=dJ mv' n:=by
 have hl:=ks h
 have v:=ks i
 have A:x*k+k<=n*k:=by rw [<-MF];exact MN k ap
 have o:(mv' x).toList.length=k:=by rw [Array.length_toList,i x B]
 refine List.ext_getElem? fun j=>?_
 rw [AF _ _ _ _ ap,o]
 by_cases C:j<n*k
 ·by_cases hk:k=0
  ·subst hk;omega
  obtain ⟨y,f,rfl,p⟩:∃y f,j=y*k+f/\f<k:=⟨j/k,j%k,by rw [Nat.mul_comm,Nat.div_add_mod],Nat.mod_lt _ ap⟩
  have u:y<n:=by
   refine Classical.byContradiction fun hc=>?_
   have:=MN k (show n<=y by omega)
   omega
  rw [oh i u p]
  by_cases e:y=x
  ·subst e
   rw [if_pos ap,Nat.add_sub_cancel_left,Array.getElem?_toList]
  ·rw [if_neg ?_,oh h u p,hm y e]
   rintro ⟨h1,D⟩
   rcases Nat.lt_or_gt_of_ne e with e | e
   ·have:=MN k (show y+1<=x by omega)
    rw [MF] at this
    omega
   ·have:=MN k (show x+1<=y by omega)
    rw [MF] at this
    omega
 ·rw [if_neg ap,List.getElem?_eq_none ap,List.getElem?_eq_none ap]
theorem oC:∀(ys:List Value) {w:World} {base g c n o:Nat} {e:TypeId} {size:Nat} {xs:List Value},w.ownsRow base e size (.slice (some (ar g 0)) n c) n xs->(w.setCells g o ys).ownsRow base e size (.slice (some (ar g 0)) n c) n (Cm xs o ys)
 | [],_,_,_,_,_,_,_,_,_,h=>h
 | v::r,w,base,g,c,n,o,e,size,xs,h=>oC r (h.stored o v).1
theorem iv:∀(ys:List Value) (w:World) (g o:Nat),Keep (fun j=>j=g) w (w.setCells g o ys)
 | [],w,_,_=>Keep.refl _ w
 | v::r,w,g,o=>(Keep.setCell (S:=fun j=>j=g) (Keep.refl _ w) (ar g o) (.inr rfl) v).trans (iv r _ g (o+1))
theorem mM {w:World} {base g c n:Nat} {e:TypeId} {size:Nat} {xs:List Value} (h:w.ownsRow base e size (.slice (some (ar g 0)) n c) n xs) {x:Nat} (B:x<n):w.there g (x*size) size:=fun j v=>by
 rcases h.2 with ⟨p,_⟩ | ⟨C,cap,i,p,hb,hg,h1,y,u,A⟩
 ·cases p
 ·injection p with e1;injection e1 with e1;injection e1 with e1 _ _
  subst e1
  have o:x*size+j<i.size:=by
   rw [u]
   have:=MN size (show x+1<=cap by omega)
   rw [MF] at this
   omega
  exact ⟨by rw [LQ w g _ _ _ _ hg,Array.getElem?_eq_getElem o];rfl,LX w g _ _ _ hg⟩
theorem cX:cW prog 39 3:=⟨⟨_,underlying39,rfl⟩,by kernel_rfl⟩
theorem lW:cW prog 106 22:=⟨⟨_,underlying106,rfl⟩,by kernel_rfl⟩
theorem iL:cW prog 75 4:=⟨⟨_,underlying75,rfl⟩,by kernel_rfl⟩
structure RWv (u:World) (vs:Array Value) (n:Nat) (mv lv:Nat->Array Value) (cnt:Nat):Prop where
 ex:∃AM cm AL cl,vs=#[.slice AM n cm,.slice AL n cl,MO (cnt:Nat)]/\Rd u AM (dJ mv n)/\Rd u AL (dJ lv n)/\n<=cm/\n<=cl
 sm:∀x,x<n->(mv x).size=22/\(mv x).toList.all (·.oneCell')=true
 sl:∀x,x<n->(lv x).size=4/\(lv x).toList.all (·.oneCell')=true
def KD (R:Array Value->Array Value->Array Value->World->Prop) (C:Int) (w:World) (e:Ending) (i:World):Prop:=∃m1 h v1:Array Value,e=Ending.returned (.tuple #[.agg m1,.agg h,.agg v1,MO C])/\(m1.size=22/\h.size=4/\v1.size=4)/\(m1.toList.all (·.oneCell')=true/\h.toList.all (·.oneCell')=true/\v1.toList.all (·.oneCell')=true)/\R m1 h v1 i/\aq w i
theorem EH {w:World} {vs:Array Value} {n x p cnt:Nat} {mv N:Nat->Array Value} {C:Int} {R:Array Value->Array Value->Array Value->World->Prop} (h:RWv w vs n mv N cnt) (A:x<n) (hn:n<=1000) (hp:(x+n-1)%n=p)
  (a0:∀i,w.heap.size+4<=i.heap.size->aq w i->Calls prog 89 #[.agg (mv x),.agg (N p),.agg (N x)] i (KD R C (i))) (hR:∀m1 u1 v1 w1 w2,R m1 u1 v1 w1->Keep (fun k=>w.heap.size<=k/\k<w.heap.size+4) w1 w2->R m1 u1 v1 w2):
  Calls prog 48 #[.agg vs,MO (x:Nat)] w (KD R C (w)):=by
 obtain ⟨⟨AM,cm,AL,cl,rfl,hM,hL, -, -⟩,D,u⟩:=h
 have ab:p<n:=by rw [<-hp];exact Nat.mod_lt _ ap
 obtain ⟨L,o1,rfl,r1⟩:=iC hM (fun x A=>(D x A).1) (by decide) A
 obtain ⟨V,Z,rfl,r2⟩:=iC hL (fun x A=>(u x A).1) (by decide) ab
 obtain ⟨b3,o3,e3,r3⟩:=iC hL (fun x A=>(u x A).1) (by decide) A
 cases e3
 obtain ⟨B,H⟩:∃B,(((w.alloc (.cells #[.slice (some (ar L o1)) n cm,.slice (some (ar V Z)) n cl,MO (cnt:Nat)] 39)).alloc (.cells MR 106)).alloc (.cells #[MO 0,MP,MO 0,MO 0] 75)).alloc (.cells #[MO 0,MP,MO 0,MO 0] 75)=B:=⟨_,rfl⟩
 have a4:sL w [.cells #[.slice (some (ar L o1)) n cm,.slice (some (ar V Z)) n cl,MO (cnt:Nat)] 39,.cells MR 106,.cells #[MO 0,MP,MO 0,MO 0] 75,.cells #[MO 0,MP,MO 0,MO 0] 75]=B:=H
 have q0:=eP [.cells #[.slice (some (ar L o1)) n cm,.slice (some (ar V Z)) n cl,MO (cnt:Nat)] 39,.cells MR 106,.cells #[MO 0,MP,MO 0,MO 0] 75,.cells #[MO 0,MP,MO 0,MO 0] 75] w
 have g0:=bZ [.cells #[.slice (some (ar L o1)) n cm,.slice (some (ar V Z)) n cl,MO (cnt:Nat)] 39,.cells MR 106,.cells #[MO 0,MP,MO 0,MO 0] 75,.cells #[MO 0,MP,MO 0,MO 0] 75] w 0 rfl
 have g1:=bZ [.cells #[.slice (some (ar L o1)) n cm,.slice (some (ar V Z)) n cl,MO (cnt:Nat)] 39,.cells MR 106,.cells #[MO 0,MP,MO 0,MO 0] 75,.cells #[MO 0,MP,MO 0,MO 0] 75] w 1 rfl
 have g2:=bZ [.cells #[.slice (some (ar L o1)) n cm,.slice (some (ar V Z)) n cl,MO (cnt:Nat)] 39,.cells MR 106,.cells #[MO 0,MP,MO 0,MO 0] 75,.cells #[MO 0,MP,MO 0,MO 0] 75] w 2 rfl
 have g3:=bZ [.cells #[.slice (some (ar L o1)) n cm,.slice (some (ar V Z)) n cl,MO (cnt:Nat)] 39,.cells MR 106,.cells #[MO 0,MP,MO 0,MO 0] 75,.cells #[MO 0,MP,MO 0,MO 0] 75] w 3 rfl
 have a6:B.heap.size=w.heap.size+4:=by rw [<-H];simp
 rw [a4] at q0 g0 g1 g2 g3
 rw [Nat.add_zero] at g0
 have l1:L<w.heap.size:=by
  obtain ⟨v,hv⟩:∃v,(mv x).toList[0]?=some v:=⟨_,Mq (by rw [Array.length_toList,(D x A).1];decide)⟩
  exact az (r1 0 v hv)
 have l2:V<w.heap.size:=by
  obtain ⟨v,hv⟩:∃v,(N x).toList[0]?=some v:=⟨_,Mq (by rw [Array.length_toList,(u x A).1];decide)⟩
  exact az (r3 0 v hv)
 have rg:∀{b o cs},b<w.heap.size->w.rangeAt b o cs->∀i,Keep (fun k=>w.heap.size<k/\k<w.heap.size+4) B i->i.rangeAt b o cs:=fun hb hr i k j v hv=>by
  have h1:=hr j v hv
  exact (World.cell?_of_block ((k.block _ (LV hb q0.size) (fun e=>ap)).trans (q0.block _ hb))).trans h1
 obtain ⟨R1,R2,R3⟩:=af (fun i q=>rg l1 r1 i q) (fun i q=>rg l2 r2 i q) (fun i q=>rg l2 r3 i q)
 have t:∀i,Keep (fun k=>w.heap.size<k/\k<w.heap.size+4) B i->_:=fun i q=>bx3 ((q.block _ (LN g0) (fun e=>ap)).trans g0)
 have O:((x:Int)+(n:Int)-1).tmod (n:Int)=(p:Int):=by
  rw [<-hp,Int.tmod_eq_emod_of_nonneg ap,Int.natCast_emod,show ((x+n-1:Nat):Int)=(x:Int)+n-1 by omega]
 have aG:((x:Int)+(n:Int)-1)%(n:Int)=(p:Int):=by rw [<-Int.tmod_eq_emod_of_nonneg ap];exact O
 have b0:¬(n=0):=ap
 have h1:0<=(x:Int):=ap
 have h2:(x:Int)<(n:Int):=ap
 have h3:0<=(p:Int):=ap
 have h4:(p:Int)<(n:Int):=ap
 have w1:IntKind.i64.wrap ((x:Int)+n)=(x:Int)+n:=LT _ ap
 have w2:IntKind.i64.wrap ((x:Int)+n-1)=(x:Int)+n-1:=LT _ ap
 have w3:IntKind.i64.wrap (p:Int)=(p:Int):=LT _ ap
 have w5:IntKind.i64.wrap (((x:Int)+n-1).tmod n)=(p:Int):=by rw [O];exact w3
 have w6:IntKind.i64.wrap (((x:Int)+n-1)%n)=(p:Int):=by rw [aG];exact w3
 have a8:=D x A;have ad:=u p ab;have a5:=u x A
 obtain ⟨aM,HR,aR,Q0,G1,G2,G3,Hm⟩:=ak a0 hR H q0 g1 g2 g3 a8;obtain ⟨Hl,ao⟩:=ae ad a5
 have s0:Keep (fun k=>w.heap.size<k/\k<w.heap.size+4) B B.drew:=(Keep.refl _ _).drew
 have av:=aa a6
 have tl:=sl g3
 clear a0 hR H a4 q0 g0 g1 g2 g3 a8 ad a5 D u hM hL r1 r2 r3 rg hp a6
 go_enter func48,ntmps48
 go_wp2_with fail
 rw [aR.o]
 refine HA.g (fun i:World=>Keep (fun k=>w.heap.size<k/\k<w.heap.size+4) B i) ?_
 refine HA.t ?_ [0,1,2,3] s0 ?_
 refine HA.lr 4 R1.o (by rw [Array.length_toList,Hm.o.1];exact lW) s0 ?_
 refine HA.t ?_ [5,6,7,8,9,10,11,12,13] s0 ?_
 refine HA.lr 14 R2.o (by rw [Array.length_toList,Hl.o.1];exact iL) s0 ?_
 refine HA.t ?_ [15,16,17,18] s0 ?_
 refine HA.lr 19 R3.o (by rw [Array.length_toList,ao.o.1];exact iL) s0 ?_
 have ea:(mv x).toList.toArray=mv x:=Array.toArray_toList
 have eb:(N p).toList.toArray=N p:=Array.toArray_toList
 have ec:(N x).toList.toArray=N x:=Array.toArray_toList
 rw [ea,eb,ec]
 refine HA.c 20 (aM.o _ (by rw [MB,av.o];omega) (Q0.o.drew)) ?_
 rintro _ w7 ⟨m1,u1,v1,rfl,⟨z1,z2,z3⟩,⟨a1,a2,a3⟩,hr,k7⟩
 have b7:=bt (br B).drew k7
 have s1:=s0.trans (Keep.below (S:=fun k=>w.heap.size<k/\k<w.heap.size+4) k7)
 refine ⟨_,rfl,s1,fun _=>?_⟩
 refine HA.t ?_ [21,22,23,24] s1 ?_
 refine HA.st 25 (sb G1.o _ b7) lW (fun w8 e8 J=>⟨s1.trans (J.mono fun k _ e=>ap),?_⟩) (hn:=z1) (hs:=by rw [z1];rfl) (h1:=a1)
 refine HA.st 26 ((J.block _ (LN (sb G2.o _ b7)) ap).trans (sb G2.o _ b7)) iL (fun w9 e9 T=>⟨(s1.trans (J.mono fun k _ e=>ap)).trans (T.mono fun k _ e=>ap),?_⟩) (hn:=z2) (hs:=by rw [z2];rfl) (h1:=a2)
 have a7:=(T.block _ (LV (LN (sb G3.o _ b7)) J.size) ap).trans ((J.block _ (LN (sb G3.o _ b7)) ap).trans (sb G3.o _ b7))
 refine HA.st 27 a7 iL (fun I a9 y=>⟨((s1.trans (J.mono fun k _ e=>ap)).trans (T.mono fun k _ e=>ap)).trans (y.mono fun k _ e=>ap),?_⟩) (hn:=z3) (hs:=by rw [z3];rfl) (h1:=a3)
 have Y:=((s1.trans (J.mono fun k _ e=>ap)).trans (T.mono fun k _ e=>ap)).trans (y.mono fun k _ (e:k=w.heap.size+3)=>by omega:Keep (fun k=>w.heap.size<k/\k<w.heap.size+4) w9 I)
 refine HA.t ?_ [28] Y ?_
 refine HA.d ?_
 have f8:I.heap[w.heap.size+1]?=_:=(y.block _ (by have:=LN e8;have:=T.size;omega) ap).trans ((T.block _ (LN e8) ap).trans e8)
 have f9:I.heap[w.heap.size+1+1]?=_:=(y.block _ (LN e9) ap).trans e9
 have U:=HR.o _ _ _ _ _ hr (((J.mono fun k _ (e:k=w.heap.size+1)=>by omega:Keep (fun k=>w.heap.size<=k/\k<w.heap.size+4) w7 w8).trans (T.mono fun k _ (e:k=w.heap.size+2)=>ap)).trans (y.mono fun k _ (e:k=w.heap.size+3)=>ap))
 have Q:aq w I:=Q0.o.trans (Y.toBelow Q0.o.size (fun j e=>ap))
 obtain ⟨HF,F8,F9,aP,Z1,Z2,Z3,A1⟩:=ak (LW U Q) f8 f9 a9 z1 z2 z3 a1;obtain ⟨A2,A3⟩:=ae a2 a3;clear U Q f8 f9 e8 e9 a9 z1 z2 z3 a1 a2 a3 J T y Y s1 b7 a7 k7 hr t
 go_wp2_with fail
 try simp only [Exit.inBlock,Exit.then]
 refine L7 (fk rfl rfl rfl rfl F8.o F9.o aP.o (by rw [Z1.o];exact lW) (by rw [Z2.o];exact iL) (by rw [Z3.o];exact iL)) rfl ?_
 exact ⟨m1,u1,v1,rfl,⟨Z1.o,Z2.o,Z3.o⟩,⟨A1.o,A2.o,A3.o⟩,HF.o.1,HF.o.2⟩
theorem GF:dt prog 36 106 (.agg MR) 22 320:=⟨underlying36,info_parts (by kernel_rfl),rfl,by decide⟩
theorem GG:dt prog 37 75 (.agg #[MO 0,MP,MO 0,MO 0]) 4 48:=⟨underlying37,info_parts (by kernel_rfl),rfl,by decide⟩
section
variable {P:Program} {ops:Array Oper} {Q:Exit->Act->World->Prop} {S:World->Prop} {n:Nat}
theorem XA.sole {L:List Nat} {a:Act} {w:World} (i:Nat) (p:XAS P ops Q S n i L a w) (hr:cZ ops L=[i]:=by decide +kernel):XA P ops Q S n L a w:=by
 obtain ⟨o,u,h⟩:=p
 exact XA.one i u hr h
theorem XA.three {L:List Nat} {a:Act} {w:World} (i j k:Nat) (B:XAS P ops Q S n i L a w) (y:XAS P ops Q S n j L a w) (hk:XAS P ops Q S n k L a w) (hr:cZ ops L=[i,j,k]:=by decide +kernel):XA P ops Q S n L a w:=by
 obtain ⟨N,A,B⟩:=B
 obtain ⟨O,x,y⟩:=y
 obtain ⟨ok,v,hk⟩:=hk
 have D:unl (bF ops.size L)=unl (bF ops.size (i::L))+1:=cI (by rw [hr];simp)
 have I:unl (bF ops.size L)=unl (bF ops.size (j::L))+1:=cI (by rw [hr];simp)
 have J:unl (bF ops.size L)=unl (bF ops.size (k::L))+1:=cI (by rw [hr];simp)
 have H:unl (bF ops.size (j::L))=unl (bF ops.size (i::L)):=ap
 have C:unl (bF ops.size (k::L))=unl (bF ops.size (i::L)):=ap
 refine ⟨?_⟩
 rw [D]
 refine cz (by rw [dN];exact hr) (by simp) (aQ.cons A (fun u p=>B u fun a w o hw=>p.out a w o fun h=>(hw h).out) (aQ.cons x (fun u p=>y u fun a w o hw=>p.out a w o fun h=>?_) (aQ.cons v (fun u p=>hk u fun a w o hw=>p.out a w o fun h=>?_) aQ.nil)))
 ·have:=(hw h).out
  rw [H] at this
  exact this
 ·have:=(hw h).out
  rw [C] at this
  exact this
end
def Ln (S:Nat->Prop) (R:Array Value->Array Value->Array Value->World->Prop) (vs:Array Value) (n:Nat) (mv u:Nat->Array Value) (cnt x p:Nat) (C:Int) (w:World) (e:Ending) (i:World):Prop:=
 (C≠0/\e=.returned (.tuple #[.agg vs,.bool false])/\aq w i)\/(C=0/\∃m1 o v1 h:Array Value,e=.returned (.tuple #[.agg h,.bool true])/\RWv (aF S i) h n (aZ mv x m1) (if 1<n then aZ (aZ u p o) x v1 else u) (cnt+1)/\R m1 o v1 i/\aq w i)
theorem Cy {w:World} {vs:Array Value} {n cnt:Nat} {mv T:Nat->Array Value} {z:Int} (h:RWv w vs n mv T cnt) (Y:z<0\/(n:Int)<=z):
  Calls prog 16 #[.agg vs,MO z] w fun e H=>e=.returned (.tuple #[.agg vs,.bool false])/\aq w H:=by
 obtain ⟨⟨D,cm,v,C,rfl, -, -, -, -⟩, -, -⟩:=h
 obtain ⟨u,i⟩:∃u,(w.alloc (.cells #[.slice D n cm,.slice v n C,MO (cnt:Nat)] 39)).alloc (.cells #[MP,MP,MO 0] 39)=u:=⟨_,rfl⟩
 have J:u.heap[w.heap.size]?=some (.cells #[.slice D n cm,.slice v n C,MO (cnt:Nat)] 39 (0,0)):=by rw [<-i];exact sb (LP w _) _ ((br _).alloc (LO _) _)
 have g1:u.heap[w.heap.size+1]?=some (.cells #[MP,MP,MO 0] 39 (0,0)):=by rw [<-i];have:=LP (w.alloc (.cells #[.slice D n cm,.slice v n C,MO (cnt:Nat)] 39)) (.cells #[MP,MP,MO 0] 39);rwa [Mb] at this
 have N:aq w u:=by rw [<-i];exact ((br w).alloc (LO _) _).alloc (by rw [Mb];omega) _
 have tl:=sl g1
 have t0:=fun H q=>bx3 (sb J H q)
 have V:=br u
 obtain ⟨y,Q,R,G0⟩:=ag i g1 N J;clear i J g1 N
 have p:∀x,Keep (fun j=>j=w.heap.size+1) u x->aq w x:=fun x k=>R.o.trans (k.toBelow R.o.size (fun j e=>ap))
 have O:=aa p;clear p
 by_cases h1:z<0
 ·go_enter func16,ntmps16
  go_upto_region 1 with (fail)
  rw [y.o]
  go_wp2_with (first | (refine aS #[.slice D n cm,.slice v n C,MO (cnt:Nat)] (b:=w.heap.size) G0.o cX rfl rfl rfl rfl ?_) | (refine aJ (b:=w.heap.size+1) Q.o cX rfl rfl rfl rfl rfl rfl rfl ?_;intro x A B;obtain ⟨L,I⟩:=ae A B;clear A B))
  try simp only [Exit.inBlock,Exit.then]
  refine L7 (dC rfl rfl L.o cX) rfl ?_
  exact ⟨rfl,O.o _ I.o⟩
 ·have U:(n:Int)<=z:=ap
  go_enter func16,ntmps16
  go_upto_region 1 with (fail)
  rw [y.o]
  go_wp2_with (first | (refine aS #[.slice D n cm,.slice v n C,MO (cnt:Nat)] (b:=w.heap.size) G0.o cX rfl rfl rfl rfl ?_) | (refine aJ (b:=w.heap.size+1) Q.o cX rfl rfl rfl rfl rfl rfl rfl ?_;intro x A B;obtain ⟨L,I⟩:=ae A B;clear A B))
  try simp only [Exit.inBlock,Exit.then]
  refine L7 (dC rfl rfl L.o cX) rfl ?_
  exact ⟨rfl,O.o _ I.o⟩
theorem wI {S:Nat->Prop} {R:Array Value->Array Value->Array Value->World->Prop} {w B i W h:World} {n cnt I C cm A b:Nat} {mv u:Nat->Array Value} {m1 p v1:Array Value} (Y:∀k,S k->k<w.heap.size) (L:aq w B) (Q:aq B i) (q:aq i W) (k:Keep (fun j=>j=b) W h) (hb:w.heap.size<=b/\b<w.heap.size+2) (V:b<i.heap.size)
  (oM:W.ownsRow i.heap.size 106 22 (.slice (some (ar I 0)) n cm) n (dJ mv n)) (oL:W.ownsRow i.heap.size 75 4 (.slice (some (ar C 0)) n A) n (dJ u n)) (hm:∀x,x<n->(mv x).size=22/\(mv x).toList.all (·.oneCell')=true) (hl:∀x,x<n->(u x).size=4/\(u x).toList.all (·.oneCell')=true)
  (hr:R m1 p v1 B) (Z:∀m1 p v1 D T,R m1 p v1 D->Keep (fun k=>w.heap.size<=k/\k<w.heap.size+6) D T->R m1 p v1 T):
  RWv (aF S h) #[.slice (some (ar I 0)) n cm,.slice (some (ar C 0)) n A,MO ((cnt+1:Nat):Int)] n mv u (cnt+1)/\R m1 p v1 h/\aq w h:=by
 have hz:=L.size;have U:=Q.size
 have y:=k.own oM (fun j h1 H=>by have:=(oM.lt j h1).1;omega)
 have v:=k.own oL (fun j h1 H=>by have:=(oL.lt j h1).1;omega)
 have hc:n<=cm/\n<=A:=by
  obtain ⟨_,_,O,h1⟩:=aD oM
  obtain ⟨_,_,J,H⟩:=aD oL
  injection O with _ _ O;injection J with _ _ J
  omega
 have o:∀k,S k->k<i.heap.size:=fun k e=>by have:=Y k e;omega
 have N:=bt Q q
 exact ⟨⟨⟨_,_,_,_,rfl,gu y o,gu v o,hc⟩,hm,hl⟩,Z _ _ _ _ _ hr ((Keep.below N).trans (k.mono fun j _ e=>ap)),(bt L N).trans (k.toBelow (by have:=q.size;omega) (fun j e=>ap))⟩
theorem RWv.upd {mv:Nat->Array Value} {n k x:Nat} {u:Array Value} (h:∀x,x<n->(mv x).size=k/\(mv x).toList.all (·.oneCell')=true) (p:u.size=k) (i:u.toList.all (·.oneCell')=true):∀y,y<n->(aZ mv x u y).size=k/\(aZ mv x u y).toList.all (·.oneCell')=true:=fun y o=>by
 by_cases e:y=x
 ·subst e;rw [bJ];exact ⟨p,i⟩
 ·rw [bC _ _ e];exact h y o
theorem pH {mv:Nat->Array Value} {n k x:Nat} {u:Array Value} (h:∀x,x<n->(mv x).size=k/\(mv x).toList.all (·.oneCell')=true) (v:u.size=k) (p:u.toList.all (·.oneCell')=true) (o:x<n):Cm (dJ mv n) (x*k) u.toList=dJ (aZ mv x u) n:=by
 have:=Cz (mv:=mv) (mv':=aZ mv x u) (fun x o=>(h x o).1) (fun y i=>(RWv.upd h v p y i).1) o (fun y i=>bC _ _ i)
 rwa [bJ] at this
theorem EQ {S:Nat->Prop} {R:Array Value->Array Value->Array Value->World->Prop} {w:World} {vs:Array Value} {n cnt x p:Nat} {mv lv:Nat->Array Value} {C:Int} (hS:∀k,S k->k<w.heap.size) (h:RWv w vs n mv lv cnt) (Z:x<n) (hn:n<=1000) (hp:(x+n-1)%n=p) (f6:cnt<=1000000000)
  (bX:∀u,w.heap.size+6<=u.heap.size->aq w u->Calls prog 89 #[.agg (mv x),.agg (lv p),.agg (lv x)] u (KD R C u)) (hR:∀m1 I v1 w1 w2,R m1 I v1 w1->Keep (fun k=>w.heap.size<=k/\k<w.heap.size+6) w1 w2->R m1 I v1 w2):
  Calls prog 16 #[.agg vs,MO (x:Nat)] w (Ln S R vs n mv lv cnt x p C w):=by
 have bG:p<n:=by rw [<-hp];exact Nat.mod_lt _ ap
 have b4:=fun u (q:aq w u) (hz:u.heap.size=w.heap.size+2)=>EH (R:=R) (C:=C) (show RWv u vs n mv lv cnt from by
  obtain ⟨⟨AM,cm,AL,cl,h1,L,h3,h4⟩,h5,h6⟩:=h
  exact ⟨⟨AM,cm,AL,cl,h1,L.below q,h3.below q,h4⟩,h5,h6⟩) Z hn hp (fun eG h1 q'=>bX eG ap (bt q q')) (fun m1 I v1 w1 w2 hr k=>hR m1 I v1 w1 w2 hr (k.mono fun j _ e=>ap))
 obtain ⟨⟨AM,cm,AL,cl,rfl,hM,hL,fd,fr⟩,aR,b1⟩:=h
 obtain ⟨W0,a5⟩:∃W0,(w.alloc (.cells #[.slice AM n cm,.slice AL n cl,MO (cnt:Nat)] 39)).alloc (.cells #[MP,MP,MO 0] 39)=W0:=⟨_,rfl⟩
 have g0:W0.heap[w.heap.size]?=some (.cells #[.slice AM n cm,.slice AL n cl,MO (cnt:Nat)] 39 (0,0)):=by rw [<-a5];exact sb (LP w _) _ ((br _).alloc (LO _) _)
 have g1:W0.heap[w.heap.size+1]?=some (.cells #[MP,MP,MO 0] 39 (0,0)):=by rw [<-a5];have:=LP (w.alloc (.cells #[.slice AM n cm,.slice AL n cl,MO (cnt:Nat)] 39)) (.cells #[MP,MP,MO 0] 39);rwa [Mb] at this
 have q0:aq w W0:=by rw [<-a5];exact ((br w).alloc (LO _) _).alloc (by rw [Mb];omega) _
 have cO:W0.heap.size=w.heap.size+2:=by rw [<-a5];simp
 have tl:=sl g1
 have t0:=fun u q=>bx3 (sb g0 u q)
 have q1:=br W0
 have fb:(x:Int)<n:=ap
 have f9:¬((x:Int)<0):=ap
 have cy:∀u,aq w u->Rd u AM (dJ mv n):=fun u q=>hM.below q
 have hrl:∀u,aq w u->Rd u AL (dJ lv n):=fun u q=>hL.below q
 have d5:=ks (fun x Z=>(aR x Z).1);have dG:=ks (fun x Z=>(b1 x Z).1)
 have cb:=tB (fun x Z=>(aR x Z).2);have cA:=tB (fun x Z=>(b1 x Z).2)
 obtain ⟨f1,G1,Q0,G0,da,HR,ei,e5⟩:=ak a5 g1 q0 g0 b4 hR cO aR;obtain ⟨bw,cj,e1,f2,eY,ee,ec,HS⟩:=ak b1 cy hrl d5 dG cb cA hS;have Hp:=aa hp;clear a5 g0 g1 q0 b4 hR cO aR b1 hM hL cy hrl d5 dG cb cA bX hS hp
 go_enter func16,ntmps16
 go_upto_region 1 with (fail)
 rw [f1.o]
 go_wp2_with (refine aS #[.slice AM n cm,.slice AL n cl,MO (cnt:Nat)] (b:=w.heap.size) G0.o cX rfl rfl rfl rfl ?_)
 refine (da.o _ Q0.o (by rw [ei.o])).mono ?_
 rintro e D ⟨m1,I,v1,rfl,⟨z1,z2,z3⟩,⟨a1,a2,a3⟩,hr,k5⟩
 have q5:=bt q1 k5
 obtain ⟨Z1,Z2,J,O1,O2,O3,e2⟩:=aj z1 z2 z3 a1 a2 a3 hr;clear z1 z2 z3 a1 a2 a3 hr k5 q1
 have b5:aq D (((D.alloc (.cells MR 106)).alloc (.cells #[MO 0,MP,MO 0,MO 0] 75)).alloc (.cells #[MO 0,MP,MO 0,MO 0] 75)):=eP [Obj.cells MR 106,.cells #[MO 0,MP,MO 0,MO 0] 75,.cells #[MO 0,MP,MO 0,MO 0] 75] D
 obtain ⟨bO,bs,aP,B5⟩:=ag (show (((D.alloc (.cells MR 106)).alloc (.cells #[MO 0,MP,MO 0,MO 0] 75)).alloc (.cells #[MO 0,MP,MO 0,MO 0] 75)).heap[D.heap.size]?=_ from bZ [Obj.cells MR 106,.cells #[MO 0,MP,MO 0,MO 0] 75,.cells #[MO 0,MP,MO 0,MO 0] 75] D 0 rfl) (show (((D.alloc (.cells MR 106)).alloc (.cells #[MO 0,MP,MO 0,MO 0] 75)).alloc (.cells #[MO 0,MP,MO 0,MO 0] 75)).heap[D.heap.size+1]?=_ from bZ [Obj.cells MR 106,.cells #[MO 0,MP,MO 0,MO 0] 75,.cells #[MO 0,MP,MO 0,MO 0] 75] D 1 rfl) (show (((D.alloc (.cells MR 106)).alloc (.cells #[MO 0,MP,MO 0,MO 0] 75)).alloc (.cells #[MO 0,MP,MO 0,MO 0] 75)).heap[D.heap.size+1+1]?=_ from bZ [Obj.cells MR 106,.cells #[MO 0,MP,MO 0,MO 0] 75,.cells #[MO 0,MP,MO 0,MO 0] 75] D 2 rfl) b5;clear b5
 go_upto_region 5 with (first
  | (refine aJ (b:=D.heap.size) bO.o lW rfl rfl rfl rfl Z1.o (by rw [Z1.o];rfl) O1.o ?_;intro w6 e6 k6;obtain ⟨E6,K6⟩:=ae e6 k6;clear e6 k6)
  | (refine aJ (b:=D.heap.size+1) ((K6.o.block _ (LN bs.o) ap).trans bs.o) iL rfl rfl rfl rfl Z2.o (by rw [Z2.o];rfl) O2.o ?_;intro w7 e7 k7;obtain ⟨E7,K7⟩:=ae e7 k7;clear e7 k7)
  | (refine aJ (b:=D.heap.size+1+1) ((K7.o.block _ (LV (LN aP.o) K6.o.size) ap).trans ((K6.o.block _ (LN aP.o) ap).trans aP.o)) iL rfl rfl rfl rfl J.o (by rw [J.o];rfl) O3.o ?_;intro y e8 k8;obtain ⟨E8,K8⟩:=ae e8 k8;clear e8 k8))
 have bf:aq D y:=B5.o.trans (((K6.o.toBelow B5.o.size (fun j e=>ap)).trans (K7.o.toBelow (Nat.le_trans B5.o.size K6.o.size) (fun j e=>ap))).trans (K8.o.toBelow (Nat.le_trans (Nat.le_trans B5.o.size K6.o.size) K7.o.size) (fun j e=>ap)))
 have e3:y.heap[D.heap.size]?=_:=(K8.o.block _ (LV (LN E6.o) K7.o.size) ap).trans ((K7.o.block _ (LN E6.o) ap).trans E6.o)
 have dw:y.heap[D.heap.size+1]?=_:=(K8.o.block _ (LN E7.o) ap).trans E7.o
 obtain ⟨ew,cn⟩:=ae e3 dw
 have q8:=bt q5 bf
 obtain ⟨Q5,d6⟩:=ae q5 bf;clear e3 dw bf B5 bO bs aP E6 E7 K6 K7 K8 q5
 by_cases hC:C=0
 rotate_left
 ·have fe:(C != 0)=true:=by rw [bne_iff_ne];exact hC
  have HC:=aa hC
  have h1:=sb G1.o _ q8
  obtain ⟨H1,Q8⟩:=ae h1 q8;clear h1 hC
  go_wp2_with (first | (refine aS #[.slice AM n cm,.slice AL n cl,MO (cnt:Nat)] (b:=w.heap.size) (sb G0.o _ Q8.o) cX rfl rfl rfl rfl ?_) | (refine aJ (b:=w.heap.size+1) H1.o cX rfl rfl rfl rfl rfl rfl rfl ?_;intro w9 e9 k9;obtain ⟨E9,K9⟩:=ae e9 k9;clear e9 k9))
  try simp only [Exit.inBlock,Exit.then]
  refine L7 (dC rfl rfl E9.o cX) rfl ?_
  exact .inl ⟨HC.o,rfl,(Q0.o.trans (Q8.o.mono Q0.o.size)).trans (K9.o.toBelow (Nat.le_trans Q0.o.size Q8.o.size) (fun j e=>ap))⟩
 subst hC
 go_upto_region 7 with (fail)
 have cv:=sb G0.o _ q8
 have dv:=sb G1.o _ q8
 obtain ⟨ct,a7,Q8⟩:=af cv dv q8
 have bh:IntKind.i64.wrap ((cnt:Int)+1)=((cnt+1:Nat):Int):=by rw [LT _ ap];push_cast;rfl
 have em:=aa bh;clear cv dv q8 t0 tl bh
 go_cut [11] (fun v wx=>∃N A3 c3 A7 c7,v=(au N)/\wx.heap[N]?=some (.cells #[.slice A3 n c3,.slice A7 n c7,MO ((cnt+1:Nat):Int)] 39 (0,0))/\y.heap.size<=N/\wx.ownsRow y.heap.size 106 22 (.slice A3 n c3) n (dJ mv n)/\wx.ownsRow y.heap.size 75 4 (.slice A7 n c7) n (dJ lv n)/\aq y wx)
 case first=>
  have t8:=fun u q=>bx3 (sb ct.o u q)
  obtain ⟨ej,en⟩:=ae (fun u (q:aq y u)=>cj.o u (Q0.o.trans ((bt Q8.o q).mono Q0.o.size))) (fun u (q:aq y u)=>e1.o u (Q0.o.trans ((bt Q8.o q).mono Q0.o.size)))
  have bh:=em.o
  have tl:=fun u (q:aq y u)=>LV (LN ct.o) q.size
  have q:=(br y).drew
  refine XA.g 13 (fun u:World=>aq y u) ?_
  refine XA.t ?_ [1,2,5,6,8,9,10] q ?_
  obtain ⟨U,hU⟩:∃U,y.drew=U:=⟨_,rfl⟩
  rw [hU] at q ⊢
  clear hU
  repeat' first
   | (refine XA.three 0 4 12 ?_ ?_ ?_)
   | (refine XA.three 3 4 12 ?_ ?_ ?_)
   | (refine XA.two 0 4 ?_ ?_)
   | (refine XA.two 0 12 ?_ ?_)
   | (refine XA.two 3 4 ?_ ?_)
   | (refine XA.two 3 12 ?_ ?_)
   | (refine XA.two 4 12 ?_ ?_)
   | (refine XA.two 7 12 ?_ ?_)
   | (refine XA.sole 0 ?_)
   | (refine XA.sole 3 ?_)
   | (refine XA.sole 4 ?_)
   | (refine XA.sole 7 ?_)
   | (refine XA.sole 12 ?_)
   | (refine XAS.v (i:=0) (U.alloc (.cells #[] 106)) (.slice (some (ar U.heap.size 0)) 0 0) (q.alloc q.size _) ?_;have nM:(U.alloc (.cells #[] 106)).ownsRow y.heap.size 106 22 (.slice (some (ar U.heap.size 0)) 0 0) 0 []:=aE (ey U 106 22) q.size;have B:=(br U).alloc (LO _) (.cells #[] 106);obtain ⟨V,hv⟩:∃V,U.alloc (.cells #[] 106)=V:=⟨_,rfl⟩;rw [hv] at nM B ⊢;clear hv;(try replace oM:=ay oM B);(try replace oL:=ay oL B);(try replace A:=sb A _ B);replace q:=bt q B;have oM:=nM;obtain ⟨bM,cY⟩:∃b,U.heap.size=b:=⟨_,rfl⟩;rw [cY] at oM ⊢;clear nM B cY;obtain ⟨U,rfl⟩:∃U,U=V:=⟨_,rfl⟩)
   | (refine XAS.v (i:=4) (U.alloc (.cells #[] 75)) (.slice (some (ar U.heap.size 0)) 0 0) (q.alloc q.size _) ?_;have nL:(U.alloc (.cells #[] 75)).ownsRow y.heap.size 75 4 (.slice (some (ar U.heap.size 0)) 0 0) 0 []:=aE (ey U 75 4) q.size;have B:=(br U).alloc (LO _) (.cells #[] 75);obtain ⟨V,hv⟩:∃V,U.alloc (.cells #[] 75)=V:=⟨_,rfl⟩;rw [hv] at nL B ⊢;clear hv;(try replace oM:=ay oM B);(try replace oL:=ay oL B);(try replace A:=sb A _ B);replace q:=bt q B;have oL:=nL;obtain ⟨bL,dn⟩:∃b,U.heap.size=b:=⟨_,rfl⟩;rw [dn] at oL ⊢;clear nL B dn;obtain ⟨U,rfl⟩:∃U,U=V:=⟨_,rfl⟩)
   | (refine XAS.v (i:=12) (U.alloc (.cells #[MP,MP,MO 0] 39)) ((au U.heap.size)) (q.alloc q.size _) ?_;have nN:=LP U (.cells #[MP,MP,MO 0] 39);have lN:=q.size;have B:=(br U).alloc (LO _) (.cells #[MP,MP,MO 0] 39);obtain ⟨V,hv⟩:∃V,U.alloc (.cells #[MP,MP,MO 0] 39)=V:=⟨_,rfl⟩;rw [hv] at nN B ⊢;clear hv;(try replace oM:=ay oM B);(try replace oL:=ay oL B);(try replace A:=sb A _ B);replace q:=bt q B;have A:=nN;obtain ⟨N,hN⟩:∃b,U.heap.size=b:=⟨_,rfl⟩;rw [hN] at A lN ⊢;clear nN B hN;obtain ⟨U,rfl⟩:∃U,U=V:=⟨_,rfl⟩)
   | (refine XAS.o (i:=3) (fun K' hK=>?_);refine bR GF (.tmp 34) (.tmp 36) rfl rfl y.heap.size (.slice (some (ar bM 0)) 0 0) 0 [] rfl oM AM n cm (dJ mv n) rfl (ej.o _ q) f2.o ee.o ap (by unfold maxLen;omega) q.size ?_;intro A3 c3 V o3 b3 g3 n3;rw [MH,List.nil_append] at o3;have kG:Keep (fun j=>(Value.slice (some (ar bM 0)) 0 0).ownBlock=some j) U V:=(Keep.refl _ U).grown g3 (fun k hk=>.inr hk);(try replace oL:=kG.own oL (fun j h1 L=>fA oL oM (by decide) j h1 L));(try replace A:=(kG.block _ (LN A) (fun e=>ax A (by decide) oM e.symm)).trans A);rw [MH];refine hK.out _ _ (q.trans b3) fun _=>?_;replace q:=q.trans b3;clear hK K' n3 g3 b3 kG oM;have oM:=o3;clear o3;obtain ⟨U,rfl⟩:∃U,U=V:=⟨_,rfl⟩)
   | (refine XAS.o (i:=7) (fun K' hK=>?_);refine bR GG (.tmp 38) (.tmp 40) rfl rfl y.heap.size (.slice (some (ar bL 0)) 0 0) 0 [] rfl oL AL n cl (dJ lv n) rfl (en.o _ q) eY.o ec.o ap (by unfold maxLen;omega) q.size ?_;intro A7 c7 V o7 b7 g7 n7;rw [MH,List.nil_append] at o7;have kG:Keep (fun j=>(Value.slice (some (ar bL 0)) 0 0).ownBlock=some j) U V:=(Keep.refl _ U).grown g7 (fun k hk=>.inr hk);(try replace oM:=kG.own oM (fun j h1 L=>fA oM oL (by decide) j h1 L));(try replace A:=(kG.block _ (LN A) (fun e=>ax A (by decide) oL e.symm)).trans A);rw [MH];refine hK.out _ _ (q.trans b7) fun _=>?_;replace q:=q.trans b7;clear hK K' n7 g7 b7 kG oL;have oL:=o7;clear o7;obtain ⟨U,rfl⟩:∃U,U=V:=⟨_,rfl⟩)
   | (refine XA.t ?_ [11] q ?_)
   | fail
  all_goals
   refine XA.e ?_
   simp only [Mm,Mn]
   obtain ⟨GN,OM,OL,QQ⟩:=ag A oM oL q;clear A oM oL q t8
   go_wp2_with (refine aJ (b:=N) GN.o cX rfl rfl rfl rfl rfl rfl rfl ?_;intro w9 e9 k9;obtain ⟨E9,K9⟩:=ae e9 k9;clear e9 k9)
   go_meet
   exact ⟨N,_,_,_,_,rfl,E9.o,lN,K9.o.own OM.o (fun j h1 L=>ax GN.o (by decide) OM.o (by rw [h1,L])),K9.o.own OL.o (fun j h1 L=>ax GN.o (by decide) OL.o (by rw [h1,L])),QQ.o.trans (K9.o.toBelow QQ.o.size (fun j e=>ap))⟩
 case rest=>
  obtain ⟨N,A3,c3,A7,c7,rfl,A,lN,oM,oL,kc⟩:=hcut
  obtain ⟨gm,cM,eM,_⟩:=oM.form ap
  injection eM with eM _ eM2
  subst eM;subst eM2
  obtain ⟨gl,cL,eL,_⟩:=oL.form ap
  injection eL with eL _ eL2
  subst eL;subst eL2
  have tm:=mM oM Z
  have d4:=sb ew.o _ kc;have d1:=sb cn.o _ kc;have d9:=sb E8.o _ kc;have cc:=sb a7.o _ kc
  have tN:=bx3 A
  have e0:=oM.lt gm rfl;have cd:=oL.lt gl rfl
  have fi:¬(n=0):=ap
  have h1:0<=(x:Int):=ap
  have ds:(m1.toList.drop 0).take m1.toList.length=m1.toList:=by rw [Mn,Mz]
  have d7:(I.toList.drop 0).take I.toList.length=I.toList:=by rw [Mn,Mz]
  have c6:(v1.toList.drop 0).take v1.toList.length=v1.toList:=by rw [Mn,Mz]
  obtain ⟨f3,ef,f8,f7,fn,bz,a9,bd⟩:=ak tm d4 d1 d9 cc A oM oL;obtain ⟨KC,ek,es,eX,dk,ci⟩:=ai kc ds d7 c6 e0 cd;clear tm d4 d1 d9 cc A oM oL kc ds d7 c6 e0 cd
  have hI:(prog.info? 106).map (·.size)=some m1.size:=by rw [Z1.o];exact lW.s
  have hJ:m1.all (·.oneCell')=true:=by rw [<-Array.all_toList];exact O1.o
  obtain ⟨HI,HJ⟩:=ae hI hJ;clear hI hJ
  go_upto_region 9 with (first | (refine aS m1 ef.o (by rw [Z1.o];exact lW) rfl rfl rfl ek.o ?_) | (refine wpList_store_mid rfl 106 _ _ rfl gm (x*22) m1 rfl rfl (by rw [Z1.o];exact f3.o) HI.o HJ.o ?_))
  have H:=iv m1.toList wc gm (x*22)
  have b0:=oC m1.toList (o:=x*22) a9.o
  have bl:=H.own bd.o (fun j h1 L=>fA bd.o a9.o (by decide) j h1 (by rw [L];rfl))
  have b2:=(H.block N (LN bz.o) (fun e=>(ax bz.o (by decide) a9.o) (by rw [e];rfl))).trans bz.o
  obtain ⟨W9,dp⟩:∃W9,wc.setCells gm (x*22) m1.toList=W9:=⟨_,rfl⟩
  rw [dp] at H b0 bl b2 ⊢
  have eV:Keep (fun j=>y.heap.size<=j) y W9:=(Keep.below KC.o).trans (H.mono fun j _ e=>by have:=dk.o.1;omega)
  rw [pH e5.o Z1.o O1.o Z] at b0
  have d8:=RWv.upd (x:=x) e5.o Z1.o O1.o
  have q9:aq y W9:=KC.o.trans (H.toBelow KC.o.size (fun j e=>by have:=dk.o.1;omega))
  have co:=sb cn.o _ q9;have cf:=sb E8.o _ q9;have cr:=sb a7.o _ q9
  have ea:=bx3 b2
  obtain ⟨bi,a0,a4,Q9,eb,fc,eu,dT⟩:=ak b0 bl b2 q9 co cf cr d8;clear dp H b0 bl b2 eV q9 co cf cr d8 tN
  by_cases cx:1<n
  ·have d3:(1:Int)<n:=ap
   have dc:(prog.info? 75).map (·.size)=some I.size:=by rw [Z2.o];exact iL.s
   have cP:I.all (·.oneCell')=true:=by rw [<-Array.all_toList];exact O2.o
   have d2:(prog.info? 75).map (·.size)=some v1.size:=by rw [J.o];exact iL.s
   have e4:v1.all (·.oneCell')=true:=by rw [<-Array.all_toList];exact O3.o
   have c8:=mM a0.o bG
   obtain ⟨ev,eo,eB,f0,fa⟩:=ah dc cP d2 e4 c8;clear dc cP d2 e4 c8
   go_upto_region 10 with (fail)
   have ab:((x:Int)+(n:Int)-1).tmod (n:Int)=(p:Int):=by
    rw [<-Hp.o,Int.tmod_eq_emod_of_nonneg ap,Int.natCast_emod,show ((x+n-1:Nat):Int)=(x:Int)+n-1 by omega]
   have cs:((x:Int)+(n:Int)-1)%(n:Int)=(p:Int):=by rw [<-Int.tmod_eq_emod_of_nonneg ap];exact ab
   have h3:0<=(p:Int):=ap
   have h4:(p:Int)<(n:Int):=ap
   have w1:IntKind.i64.wrap ((x:Int)+n)=(x:Int)+n:=LT _ ap
   have w2:IntKind.i64.wrap ((x:Int)+n-1)=(x:Int)+n-1:=LT _ ap
   have w3:IntKind.i64.wrap (p:Int)=(p:Int):=LT _ ap
   have el:IntKind.i64.wrap (((x:Int)+n-1).tmod n)=(p:Int):=by rw [ab];exact w3
   have w6:IntKind.i64.wrap (((x:Int)+n-1)%n)=(p:Int):=by rw [cs];exact w3
   have tq:=fun u q=>bx3 (sb a4.o u q)
   have tl:=sl a4.o
   have q:=(br W9).drew
   refine XA.g 10 (fun u:World=>aq W9 u) ?_
   refine XA.t ?_ [0,1,2,3,4,5,6,7] q ?_
   refine XA.ld 8 I (fun u q=>sb eb.o u q) (by rw [Z2.o];exact iL) q ?_ (hcs:=es.o)
   refine XA.t ?_ [9] q ?_
   refine XA.e ?_
   simp only [Mm,Mn]
   clear tq tl q ab cs h3 h4 w1 w2 w3 el w6 ea
   go_upto_region 11 with (refine wpList_store_mid rfl 75 _ _ rfl gl (p*4) I rfl rfl (by rw [Z2.o];exact mM a0.o.drew bG) ev.o eo.o ?_)
   have H:=(Keep.refl (fun j=>j=gl) W9).drew.trans (iv I.toList W9.drew gl (p*4))
   have Y:=oC I.toList (o:=p*4) a0.o.drew
   have av:=H.own bi.o (fun j h1 L=>fA bi.o a0.o (by decide) j h1 (by rw [L];rfl))
   have Q:=(H.block N (LN a4.o) (fun e=>(ax a4.o (by decide) a0.o) (by rw [e];rfl))).trans a4.o
   obtain ⟨aM,b6⟩:∃aM,W9.drew.setCells gl (p*4) I.toList=aM:=⟨_,rfl⟩
   rw [b6] at H av Y Q ⊢
   rw [pH bw.o Z2.o O2.o bG] at Y
   have cw:=RWv.upd (x:=p) bw.o Z2.o O2.o
   have bN:aq y aM:=Q9.o.trans (H.toBelow Q9.o.size (fun j e=>by have:=ci.o.1;omega))
   have bb:=sb E8.o _ bN
   have c9:=bx3 Q
   obtain ⟨b8,O,a8,bV,dr,d0⟩:=ai av Y Q bN bb cw;clear b6 H av Y Q bN bb cw
   go_upto_region 12 with (first | (refine aS v1 dr.o (by rw [J.o];exact iL) rfl rfl rfl eX.o ?_) | (refine wpList_store_mid rfl 75 _ _ rfl gl (x*4) v1 rfl rfl (by rw [J.o];exact mM O.o Z) eB.o f0.o ?_))
   have H:=iv v1.toList aM gl (x*4)
   have T:=oC v1.toList (o:=x*4) O.o
   have ad:=H.own b8.o (fun j h1 L=>fA b8.o O.o (by decide) j h1 (by rw [L];rfl))
   have a6:=(H.block N (LN a8.o) (fun e=>(ax a8.o (by decide) O.o) (by rw [e];rfl))).trans a8.o
   obtain ⟨bn,b9⟩:∃bn,aM.setCells gl (x*4) v1.toList=bn:=⟨_,rfl⟩
   rw [b9] at H ad T a6 ⊢
   rw [pH d0.o J.o O3.o Z] at T
   have bA:aq y bn:=bV.o.trans (H.toBelow bV.o.size (fun j e=>by have:=ci.o.1;omega))
   obtain ⟨be,bv,eS,f4,Qe⟩:=ah (sb a7.o _ bA) a6 ad T bA;clear b9 H ad T a6 bA c9
   go_wp2_with (first | (refine aS #[.slice (some (ar gm 0)) n c3,.slice (some (ar gl 0)) n c7,MO ((cnt+1:Nat):Int)] (b:=N) bv.o cX rfl rfl rfl rfl ?_) | (refine aJ (b:=w.heap.size+1) be.o cX rfl rfl rfl rfl rfl rfl rfl ?_;intro f5 ao aG;obtain ⟨bI,bo⟩:=ae ao aG;clear ao aG))
   try simp only [Exit.inBlock,Exit.then]
   refine L7 (dC rfl rfl bI.o cX) rfl ?_
   exact .inr ⟨rfl,m1,I,v1,_,rfl,by
    rw [if_pos cx]
    exact wI HS.o (Q0.o.trans ((show aq W0 D from Q5.o).mono Q0.o.size)) d6.o Qe.o bo.o ap (LN a7.o) eS.o f4.o dT.o (RWv.upd d0.o J.o O3.o) e2.o HR.o⟩
  ·have d3:¬((1:Int)<n):=ap
   obtain ⟨be,bv⟩:=ae eu.o a4.o;clear ea
   go_wp2_with (first | (refine aS #[.slice (some (ar gm 0)) n c3,.slice (some (ar gl 0)) n c7,MO ((cnt+1:Nat):Int)] (b:=N) bv.o cX rfl rfl rfl rfl ?_) | (refine aJ (b:=w.heap.size+1) be.o cX rfl rfl rfl rfl rfl rfl rfl ?_;intro f5 ao aG;obtain ⟨bI,bo⟩:=ae ao aG;clear ao aG))
   try simp only [Exit.inBlock,Exit.then]
   refine L7 (dC rfl rfl bI.o cX) rfl ?_
   exact .inr ⟨rfl,m1,I,v1,_,rfl,by
    rw [if_neg cx]
    exact wI HS.o (Q0.o.trans ((show aq W0 D from Q5.o).mono Q0.o.size)) d6.o Q9.o bo.o ap (LN a7.o) bi.o a0.o dT.o bw.o e2.o HR.o⟩
section
variable {P:Program} {ops:Array Oper} {Q:Exit->Act->World->Prop} {S:World->Prop} {n:Nat}
theorem XAS.c {L:List Nat} {a:Act} {w:World} {i:Nat} {f:FuncId} {args:Array Value} {R:Ending->World->Prop} {o:Oper} (hc:Calls P f args w R)
  (k:∀e p,R e p->∃v,e=.returned v/\S p/\(S p->XA P ops Q S n (i::L) (a.put o.dst v) p)) (u:ops[i]?=some o:=by (simp only [Mi,Mj,Mk];rfl))
  (hw:Region.wanted o (yielded ops a.tmps)=true:=by rfl) (he:(execOp a.eval o).run P w=.ok (.enter f args) w:=by go_simp):XAS P ops Q S n i L a w:=by
 refine ⟨o,u,fun B A=>?_⟩
 rw [if_pos hw]
 unfold Oper.wp
 rw [he]
 refine hc.mono fun e p y=>?_
 obtain ⟨v,rfl,x,h⟩:=k e p y
 exact A.out _ _ x h
end
theorem KR {w:World} {vs:Array Value} {n cnt:Nat} {mv lv:Nat->Array Value} {D C:Nat->Nat} {B:Bool} (h:RWv w vs n mv lv cnt) (hn:n<=1000) (hc:∀x,x<n->∃I c,(mv x)[20]?=some (.slice I (C x) c)/\(mv x)[21]?=some (MO (D x:Nat))) (hB:B=true↔∀x,x<n->C x<=D x):
  Calls prog 33 #[.agg vs] w fun e i=>e=.returned (.bool B)/\aq w i:=by
 obtain ⟨⟨AM,cm,AL,cl,rfl,hM,hL, -, -⟩,N,Y⟩:=h
 obtain ⟨u,y⟩:∃u,w.alloc (.cells #[.slice AM n cm,.slice AL n cl,MO (cnt:Nat)] 39)=u:=⟨_,rfl⟩
 have Z:u.heap[w.heap.size]?=some (.cells #[.slice AM n cm,.slice AL n cl,MO (cnt:Nat)] 39 (0,0)):=by rw [<-y];exact LP w _
 have H:aq w u:=by rw [<-y];exact (br w).alloc (LO _) _
 have t0:=fun i q=>bx3 (sb Z i q)
 have tl:=sl Z
 have p:∀x,x<n->∃b o I c,AM=some (ar b o)/\(∀i,aq u i->i.cell? (ar b (o+x*22+20))=some (.slice I (C x) c))/\∀i,aq u i->i.cell? (ar b (o+x*22+21))=some (MO (D x:Nat)):=fun x R=>by
  obtain ⟨b,o,e,hr⟩:=iC hM (fun x R=>(N x R).1) (by decide) R
  obtain ⟨I,c,h1,h2⟩:=hc x R
  have c1:=hr 20 _ (by rw [Array.getElem?_toList];exact h1)
  have c2:=hr 21 _ (by rw [Array.getElem?_toList];exact h2)
  exact ⟨b,o,I,c,e,fun i q=>(World.cell?_of_block ((H.trans (q.mono H.size)).block _ (az c1))).trans c1,fun i q=>(World.cell?_of_block ((H.trans (q.mono H.size)).block _ (az c2))).trans c2⟩
 obtain ⟨HC,HB,V,T⟩:=ag p hB y H
 have q:=br u
 clear p hB y H Z hM hL N Y hc
 go_enter func33,ntmps33
 go_wp2_with fail
 rw [V.o]
 go_loopw [3] (fun v wr=>∃k:Nat,k<=n/\v=MO k/\(∀j,j<k->C j<=D j)/\aq u wr) (fun v _=>n-(intOf v).toNat)
 case atStart=>exact ⟨0,LS _,rfl,fun j hj=>absurd hj (Nat.not_lt_zero j),q⟩
 case round=>
  clear q
  obtain ⟨k,hk,rfl,A,q⟩:=hrel
  have Q:=aa A;clear A
  by_cases J:k<n
  ·have U:(k:Int)<n:=ap
   have a1:0<=(k:Int):=ap
   obtain ⟨b,o,I,c,rfl,c1,c2⟩:=HC.o k J
   by_cases O:C k<=D k
   ·have hd:¬((D k:Int)<C k):=ap
    go_upto_region 4 with (fail)
    refine HA.g (fun i:World=>aq u i) ?_
    refine HA.t ?_ [0,1,2,3,4,5,6,7,8,9,10,11,12,13] q.drew ?_
    refine HA.d ?_
    have L:=aa q.drew;clear c1 c2 q
    go_wp2_with fail
    go_roundw
    case rel=>
     refine ⟨k+1,by omega,by go_num,fun j hj=>?_,L.o⟩
     rcases Ma j k with h1 | h1
     ·exact Q.o j h1
     ·obtain rfl:j=k:=ap
      exact O
    case measure=>simp [intOf];omega
   ·have hd:(D k:Int)<C k:=ap
    go_upto_region 4 with (fail)
    refine HA.g (fun i:World=>aq u i) ?_
    refine HA.t ?_ [0,1,2,3,4,5,6,7,8,9,10,11,12,13] q.drew ?_
    refine HA.d ?_
    have L:=aa q.drew;clear c1 c2 q
    go_wp2_with fail
    go_ret
    have a0:B=false:=by
     cases hBB:B with
     | false=>rfl
     | true=>exact absurd (HB.o.1 hBB k J) O
    exact ⟨by rw [a0];rfl,T.o.trans (L.o.mono T.o.size)⟩
  ·obtain rfl:k=n:=ap
   have L:=aa q
   have U:¬((k:Int)<k):=ap
   go_wp2_with fail
   go_ret
   exact ⟨by rw [HB.o.2 Q.o];rfl,T.o.trans (L.o.mono T.o.size)⟩
def Lk {σ:Type} (J:World->Array Value->σ->Prop) (S:Nat->Prop) (s:σ) (k:Nat) (w:World) (e:Ending) (i:World):Prop:=
 ∃h:Array Value,e=.returned (.tuple #[.agg h,MO (k:Nat)])/\h.size=3/\h.toList.all (·.oneCell')=true/\J (aF S i) h s/\aq w i
def JQ {σ:Type} (J:World->Array Value->σ->Prop) (S:Nat->Prop) (s:σ) (b:Bool) (w:World) (e:Ending) (i:World):Prop:=
 ∃h:Array Value,e=.returned (.tuple #[.agg h,.bool b])/\h.size=3/\h.toList.all (·.oneCell')=true/\J (aF S i) h s/\aq w i
theorem EP {σ:Type} {st:σ->Int->σ×Bool} {J:World->Array Value->σ->Prop} {S:Nat->Prop} {A:Option Addr} {c:Nat} {l:List Int} {s:σ} {w:World} {vs:Array Value} (hS:∀k,S k->k<w.heap.size) (hl:l.length<=1000000) (hA:Rd w A (aA .i64 l)) (hJ:∀u v vs s,J u vs s->Ext u v->J v vs s)
  (hp:∀(S:Nat->Prop) w vs s z,(∀k,S k->k<w.heap.size)->J (aF S w) vs s->z∈l->Calls prog 16 #[.agg vs,MO z] w (JQ J S (st s z).1 (st s z).2 w)) (h0:J (aF S w) vs s) (hz:vs.size=3) (ho:vs.toList.all (·.oneCell')=true):
  Calls prog 20 #[.agg vs,.slice A l.length c] w (Lk J S (pE st s l).1 (pE st s l).2 w):=by
 obtain ⟨n,hn⟩:∃n,l.length=n:=⟨_,rfl⟩
 rw [hn] at hl ⊢
 obtain ⟨W0,B⟩:∃W0,(w.alloc (.cells vs 39)).alloc (.cells #[MP,MP,MO 0] 39)=W0:=⟨_,rfl⟩
 have g0:W0.heap[w.heap.size]?=some (.cells vs 39 (0,0)):=by rw [<-B];exact sb (LP w _) _ ((br _).alloc (LO _) _)
 have g1:W0.heap[w.heap.size+1]?=some (.cells #[MP,MP,MO 0] 39 (0,0)):=by rw [<-B];have:=LP (w.alloc (.cells vs 39)) (.cells #[MP,MP,MO 0] 39);rwa [Mb] at this
 have q0:aq w W0:=by rw [<-B];exact ((br w).alloc (LO _) _).alloc (by rw [Mb];omega) _
 have a1:W0.heap.size=w.heap.size+2:=by rw [<-B];simp
 have j0:J (aF (fun k=>S k\/k=w.heap.size\/k=w.heap.size+1) W0) vs s:=hJ _ _ _ _ h0 (bE (Keep.below q0) fun k hk e=>e.elim id fun e=>ap)
 obtain ⟨ad,HP,HJ,Hn,ao,G0,G1,Q0⟩:=ak hA hp hJ hn B g0 g1 q0;obtain ⟨J0,HZ,HO,HS,a7⟩:=ah j0 hz ho hS a1;clear hA hp hJ h0 hn B g0 g1 q0 j0 hz ho hS a1
 go_enter func20,ntmps20
 go_wp2_with fail
 rw [ao.o]
 go_loopw [6,7] (fun v i wr=>∃k:Nat,k<=n/\i=MO k/\v=MO ((pE st s (l.take k)).2:Nat)/\∃x,wr.heap[w.heap.size]?=some (.cells x 39 (0,0))/\wr.heap[w.heap.size+1]?=some (.cells #[MP,MP,MO 0] 39 (0,0))/\x.size=3/\x.toList.all (·.oneCell')=true/\J (aF (fun k=>S k\/k=w.heap.size\/k=w.heap.size+1) wr) x (pE st s (l.take k)).1/\aq w wr/\w.heap.size+2<=wr.heap.size) (fun _ i _=>n-(intOf i).toNat)
 case atStart=>exact ⟨0,LS _,rfl,rfl,vs,G0.o,G1.o,HZ.o,HO.o,J0.o,Q0.o,by rw [a7.o];omega⟩
 case round=>
  obtain ⟨k,hk,rfl,rfl,x,gx,gy,zz,oo,jj,qq,ss⟩:=hrel
  obtain ⟨GX,GY,ZZ,OO,JJ,QQ⟩:=ai gx gy zz oo jj qq;clear gx gy zz oo jj qq
  by_cases a8:k<n
  ·have O:k<l.length:=by rw [Hn.o];exact a8
   obtain ⟨b,o,rfl,p⟩:=(ad.o.below QQ.o).num O
   have aG:(k:Int)<n:=ap
   have aM:0<=(k:Int):=ap
   have a9:=AJ st s l k
   obtain ⟨M,hM⟩:∃M,pE st s (l.take k)=M:=⟨_,rfl⟩
   have a4:pE st s (l.take (k+1))=((st M.1 (nth l k)).1,M.2+if (st M.1 (nth l k)).2 then 1 else 0):=by
    rw [List.take_add_one,Mq O,Option.toList_some,tz,hM,dE _ _ O]
   rw [hM] at JJ a9 ⊢
   have Z:nth l k∈l:=by rw [dE _ _ O];exact List.getElem_mem O
   obtain ⟨HX,HM,T⟩:=af a4 hM Z
   have p':=fun w' (q:aq wr w')=>(World.cell?_of_block (q.block b (az p))).trans p
   have P':=aa p';clear a4 hM Z p p'
   go_upto_region 5 with (fail)
   go_cut [8,9] (fun v u wx=>∃N h,v=(au N)/\u=.bool (st M.1 (nth l k)).2/\wx.heap[N]?=some (.cells h 39 (0,0))/\wr.heap.size<=N/\h.size=3/\h.toList.all (·.oneCell')=true/\J (aF (fun k=>S k\/k=w.heap.size\/k=w.heap.size+1) wx) h (st M.1 (nth l k)).1/\aq wr wx)
   case first=>
    have p':=P'.o
    have s0:=(br wr).drew
    have j1:=HJ.o _ _ _ _ JJ.o (bE (S':=(fun k=>S k\/k=w.heap.size\/k=w.heap.size+1)) ((Keep.refl (fun k=>S k\/k=w.heap.size\/k=w.heap.size+1) wr).drew) (fun _ _ e=>e))
    have tl:=fun w' (q:aq wr w')=>LV (LN GX.o) q.size
    refine XA.g 10 (fun w':World=>aq wr w') ?_
    refine XA.ld 0 x (fun w' q=>sb GX.o w' q) (by rw [ZZ.o];exact cX) s0 ?_ (hcs:=by rw [Mn,Mz])
    refine XA.t ?_ [1,2,3,4] s0 ?_
    have Q:∀k,(fun k=>S k\/k=w.heap.size\/k=w.heap.size+1) k->k<wr.heap.size:=fun k e=>by
     rcases e with e | e | e
     ·have:=HS.o k e;omega
     ·omega
     ·omega
    refine XA.two 5 9 ?_ ?_
    ·refine XAS.c (HP.o (fun k=>S k\/k=w.heap.size\/k=w.heap.size+1) wr.drew x M.1 (nth l k) Q j1 T.o) ?_
     rintro e V ⟨h,rfl,z2,Y,j2,k6⟩
     have y:=bt s0 k6
     refine ⟨_,rfl,y,fun _=>?_⟩
     refine XA.t ?_ [6,7] y ?_
     refine XA.t0 ?_ [8] y ?_
     refine XA.v 9 (V.alloc (.cells #[MP,MP,MO 0] 39)) ((au V.heap.size)) (y.alloc y.size _) ?_
     refine XA.e ?_
     simp only [Mm,Mn]
     obtain ⟨GN,S6,J2,C,R⟩:=ah (LP V (.cells #[MP,MP,MO 0] 39)) y j2 z2 Y;clear j2 z2 Y y k6 p' s0 j1 tl Q
     go_wp2_with (refine aJ (b:=V.heap.size) GN.o cX rfl rfl rfl rfl C.o (by rw [C.o];rfl) R.o ?_;intro w7 H I;obtain ⟨U,D⟩:=ae H I;clear H I)
     go_meet
     have a6:aq V w7:=((br V).alloc (LO _) _).trans (D.o.toBelow (by rw [Mb];omega) (fun j e=>ap))
     exact ⟨V.heap.size,h,rfl,rfl,U.o,S6.o.size,C.o,R.o,HJ.o _ _ _ _ J2.o (ik a6),S6.o.trans (a6.mono S6.o.size)⟩
    ·refine XAS.v (wr.drew.alloc (.cells #[MP,MP,MO 0] 39)) ((au wr.drew.heap.size)) (s0.alloc (LO _) _) ?_
     have s5:aq wr (wr.drew.alloc (.cells #[MP,MP,MO 0] 39)):=s0.alloc (LO _) _
     have gN:=LP wr.drew (.cells #[MP,MP,MO 0] 39)
     have a3:(wr.drew.alloc (.cells #[MP,MP,MO 0] 39)).heap.size=wr.heap.size+1:=by simp
     have j5:=HJ.o _ _ _ _ j1 (bE (S':=fun k=>(fun k=>S k\/k=w.heap.size\/k=w.heap.size+1) k\/k=wr.heap.size) (Keep.below ((br wr.drew).alloc (LO _) (.cells #[MP,MP,MO 0] 39))) (fun k hk e=>e.elim id (fun e=>absurd hk (by rw [MB];omega))))
     refine XA.c 5 (HP.o (fun k=>(fun k=>S k\/k=w.heap.size\/k=w.heap.size+1) k\/k=wr.heap.size) _ x M.1 (nth l k) (fun k e=>by
      rw [a3]
      rcases e with e | e
      ·have:=Q k e;omega
      ·omega) j5 T.o) ?_
     rintro e V ⟨h,rfl,z2,Y,j2,k6⟩
     have y:=bt s5 k6
     refine ⟨_,rfl,y,fun _=>?_⟩
     refine XA.t ?_ [6,7] y ?_
     refine XA.t0 ?_ [8] y ?_
     refine XA.e ?_
     simp only [Mm,Mn]
     obtain ⟨GN,S6,J2,C,R⟩:=ah (sb gN _ k6) y j2 z2 Y;clear j2 z2 Y y k6 p' s0 j1 tl Q s5 gN a3 j5
     go_wp2_with (refine aJ (b:=wr.heap.size) GN.o cX rfl rfl rfl rfl C.o (by rw [C.o];rfl) R.o ?_;intro w7 H I;obtain ⟨U,D⟩:=ae H I;clear H I)
     go_meet
     exact ⟨wr.heap.size,h,rfl,rfl,U.o,LO _,C.o,R.o,HJ.o _ _ _ _ J2.o (bE (D.o.mono fun k _ e=>.inr e) (fun k _ e=>.inl e)),S6.o.trans (D.o.toBelow S6.o.size (fun j e=>ap))⟩
   case rest=>
    obtain ⟨N,h,rfl,rfl,gN,lN,z2,Y,j2,kc⟩:=hcut
    obtain ⟨GN,C,R,J2,KC,ab,a0⟩:=aj gN z2 Y j2 kc (sb GX.o wc kc) (sb GY.o wc kc)
    have L:(h.toList.drop 0).take h.toList.length=h.toList:=by rw [Mn,Mz]
    have EM:=aa L;clear gN z2 Y j2 kc L
    have w1:IntKind.i64.wrap ((M.2:Int)+1)=(M.2:Int)+1:=LT _ ap
    have w2:IntKind.i64.wrap ((k:Int)+1)=(k:Int)+1:=LT _ ap
    go_upto_region 7 with (first | (refine aS h GN.o (by rw [C.o];exact cX) rfl rfl rfl EM.o ?_) | (refine aJ (b:=w.heap.size) ab.o cX rfl rfl rfl rfl C.o (by rw [C.o,ZZ.o]) R.o ?_;intro w7 H I;obtain ⟨U,D⟩:=ae H I;clear H I))
    have a2:=aa ((D.o.block _ (LN a0.o) ap).trans a0.o)
    have qc:=QQ.o.trans (KC.o.mono (by have:=QQ.o.size;omega))
    have Q7:=aa (qc.trans (D.o.toBelow qc.size (fun j e=>ap)))
    have J7:=aa (HJ.o _ _ _ _ J2.o (bE (S':=(fun k=>S k\/k=w.heap.size\/k=w.heap.size+1)) (D.o.mono fun k _ e=>.inr (.inl e)) (fun _ _ e=>e)))
    have a5:w.heap.size+2<=w7.heap.size:=by have:=KC.o.size;have:=D.o.size;omega
    clear qc
    cases hb:(st M.1 (nth l k)).2 with
    | true=>
     have HB:=aa hb;clear hb
     go_wp2_with fail
     go_roundw
     case rel=>exact ⟨k+1,by omega,by go_num,by rw [HX.o,HB.o];simp,h,U.o,a2.o,C.o,R.o,by rw [HX.o];exact J7.o,Q7.o,a5⟩
     case measure=>simp [intOf];omega
    | false=>
     have HB:=aa hb;clear hb
     go_wp2_with fail
     go_roundw
     case rel=>exact ⟨k+1,by omega,by go_num,by rw [HX.o,HB.o];simp,h,U.o,a2.o,C.o,R.o,by rw [HX.o];exact J7.o,Q7.o,a5⟩
     case measure=>simp [intOf];omega
  ·obtain rfl:k=n:=ap
   have ht:l.take k=l:=by rw [<-Hn.o,Mz]
   have HT:=aa ht
   have L:(x.toList.drop 0).take x.toList.length=x.toList:=by rw [Mn,Mz]
   have EM:=aa L
   have av:¬((k:Int)<k):=ap
   clear ht L
   go_wp2_with (first | (refine aS x GX.o (by rw [ZZ.o];exact cX) rfl rfl rfl EM.o ?_) | (refine aJ (b:=w.heap.size+1) GY.o cX rfl rfl rfl rfl ZZ.o (by rw [ZZ.o];rfl) OO.o ?_;intro w7 H I;obtain ⟨U,D⟩:=ae H I;clear H I))
   try simp only [Exit.inBlock,Exit.then]
   refine L7 (dC rfl rfl U.o (by rw [ZZ.o];exact cX)) rfl ?_
   refine ⟨x,by rw [HT.o];rfl,ZZ.o,OO.o,?_,QQ.o.trans (D.o.toBelow QQ.o.size (fun j e=>ap))⟩
   have:=JJ.o
   rw [HT.o] at this
   exact HJ.o _ _ _ _ this (bE (D.o.mono fun k _ e=>.inr (.inr e)) (fun _ _ e=>.inl e))
theorem AP:cW prog 29 15:=⟨⟨_,underlying29,rfl⟩,by kernel_rfl⟩
theorem Lh {m:Array Value} (h:m.size=22):∃U a1 V N Q O T L J R v x D I p y u A o C H B,m=#[U,a1,V,N,Q,O,T,L,J,R,v,x,D,I,p,y,u,A,o,C,H,B]:=by
 obtain ⟨l⟩:=m
 have i:l.length=22:=h
 clear h
 obtain _ | ⟨U,l⟩:=l
 ·simp at i
 obtain _ | ⟨a1,l⟩:=l
 ·simp at i
 obtain _ | ⟨V,l⟩:=l
 ·simp at i
 obtain _ | ⟨N,l⟩:=l
 ·simp at i
 obtain _ | ⟨Q,l⟩:=l
 ·simp at i
 obtain _ | ⟨O,l⟩:=l
 ·simp at i
 obtain _ | ⟨T,l⟩:=l
 ·simp at i
 obtain _ | ⟨L,l⟩:=l
 ·simp at i
 obtain _ | ⟨J,l⟩:=l
 ·simp at i
 obtain _ | ⟨R,l⟩:=l
 ·simp at i
 obtain _ | ⟨v,l⟩:=l
 ·simp at i
 obtain _ | ⟨x,l⟩:=l
 ·simp at i
 obtain _ | ⟨D,l⟩:=l
 ·simp at i
 obtain _ | ⟨I,l⟩:=l
 ·simp at i
 obtain _ | ⟨p,l⟩:=l
 ·simp at i
 obtain _ | ⟨y,l⟩:=l
 ·simp at i
 obtain _ | ⟨u,l⟩:=l
 ·simp at i
 obtain _ | ⟨A,l⟩:=l
 ·simp at i
 obtain _ | ⟨o,l⟩:=l
 ·simp at i
 obtain _ | ⟨C,l⟩:=l
 ·simp at i
 obtain _ | ⟨H,l⟩:=l
 ·simp at i
 obtain _ | ⟨B,l⟩:=l
 ·simp at i
 obtain _ | ⟨b,l⟩:=l
 ·exact ⟨U,a1,V,N,Q,O,T,L,J,R,v,x,D,I,p,y,u,A,o,C,H,B,rfl⟩
 ·simp at i
theorem fC {S T:Nat->Prop} {a b c:World} (h:Keep S a b) (k:Keep T b c) (hs:∀j,j<a.heap.size->T j->S j):Keep S a c:=
 ⟨k.os.trans h.os,k.tape.trans h.tape,k.output.trans h.output,LU h.size k.size,fun i o hn=>(k.block i (LV o h.size) (fun e=>hn (hs i o e))).trans (h.block i o hn)⟩
structure Iz (Rm:Nat->Array Value->World->Prop) (w:World) (X cap k:Nat) (wr:World) (mv:Nat->Array Value) (AM AL:Option Addr) (cm cl:Nat):Prop where
 box:wr.heap[X]?=some (.cells #[.slice AM k cm,.slice AL k cl,MO 0] 39 (0,0))
 oM:wr.ownsRow (X+1) 106 22 (.slice AM k cm) k (dJ mv k)
 oL:wr.ownsRow (X+1) 75 4 (.slice AL k cl) k (dJ (fun _=>#[MO (cap:Nat),MP,MO 0,MO 0]) k)
 sm:∀x,x<k->(mv x).size=22/\(mv x).toList.all (·.oneCell')=true
 g:∀x,x<k->∀w2,Keep (fun j=>j=w.heap.size+1\/j=X\/lR (.slice AM k cm) (.slice AL k cl) j) wr w2->Rm x (mv x) w2
 lo:w.heap.size+2<=X
 q:aq w wr
def Ll (S:Nat->Prop) (Rm:Nat->Array Value->World->Prop) (N cap:Nat) (w:World) (e:Ending) (h:World):Prop:=
 ∃(vs':Array Value) (mv:Nat->Array Value),e=.returned (.tuple #[.agg vs',MO 0])/\RWv (aF S h) vs' N mv (fun _=>#[MO (cap:Nat),MP,MO 0,MO 0]) 0/\(∀x,x<N->Rm x (mv x) h)/\aq w h
theorem ET {S:Nat->Prop} {Rm:Nat->Array Value->World->Prop} {i0 i1 i2 i3 i5 i6 i7 i8 i9 U ab T L:Value} {N cap:Nat} {w:World} (hS:∀k,S k->k<w.heap.size) (hN:N<=1000) (cr:cap<=1048576)
  (c7:∀i,aq w i->Calls prog 18 #[.agg #[i0,i1,i2,i3,MO (N:Nat),i5,i6,i7,i8,i9,U,MO (cap:Nat),ab,T,L]] i fun e b5=>e=.returned (MO 0)/\aq i b5)
  (hm:∀k i,k<N->aq w i->Calls prog 46 #[.agg #[i0,i1,i2,i3,MO (N:Nat),i5,i6,i7,i8,i9,U,MO (cap:Nat),ab,T,L],MO (k:Nat)] i fun e b5=>∃m:Array Value,e=.returned (.tuple #[.agg m,MO 0])/\(m.size=22/\m.toList.all (·.oneCell')=true)/\aq i b5/\∀p,aq w p->Keep (fun j=>j<i.heap.size) b5 p->Rm k m p):
  Calls prog 14 #[.agg #[i0,i1,i2,i3,MO (N:Nat),i5,i6,i7,i8,i9,U,MO (cap:Nat),ab,T,L]] w (Ll S Rm N cap w):=by
 obtain ⟨W1,ao⟩:∃W1,(w.alloc (.cells #[i0,i1,i2,i3,MO (N:Nat),i5,i6,i7,i8,i9,U,MO (cap:Nat),ab,T,L] 29)).alloc (.cells #[MP,MP,MO 0] 39)=W1:=⟨_,rfl⟩
 have g0:W1.heap[w.heap.size]?=some (.cells #[i0,i1,i2,i3,MO (N:Nat),i5,i6,i7,i8,i9,U,MO (cap:Nat),ab,T,L] 29 (0,0)):=by rw [<-ao];exact sb (LP w _) _ ((br _).alloc (LO _) _)
 have g1:W1.heap[w.heap.size+1]?=some (.cells #[MP,MP,MO 0] 39 (0,0)):=by rw [<-ao];have:=LP (w.alloc (.cells #[i0,i1,i2,i3,MO (N:Nat),i5,i6,i7,i8,i9,U,MO (cap:Nat),ab,T,L] 29)) (.cells #[MP,MP,MO 0] 39);rwa [Mb] at this
 have q0:aq w W1:=by rw [<-ao];exact ((br w).alloc (LO _) _).alloc (by rw [Mb];omega) _
 have bN:W1.heap.size=w.heap.size+2:=by rw [<-ao];simp
 have t4:∀i,aq W1 i->i.cell? (ar w.heap.size 4)=some (MO (N:Nat)):=fun i q=>LQ i w.heap.size 4 _ _ _ (sb g0 i q)
 have cx:∀i,aq W1 i->i.cell? (ar w.heap.size 11)=some (MO (cap:Nat)):=fun i q=>LQ i w.heap.size 11 _ _ _ (sb g0 i q)
 have tl:=sl g1
 obtain ⟨co,Hm,bO,G0,G1,Q0,HS,aR⟩:=ak c7 hm ao g0 g1 q0 hS bN
 have q1:=br W1
 clear c7 hm ao g0 g1 q0 hS bN
 go_enter func14,ntmps14
 go_wp2_with (refine aS #[i0,i1,i2,i3,MO (N:Nat),i5,i6,i7,i8,i9,U,MO (cap:Nat),ab,T,L] (b:=w.heap.size) (by rw [bO.o];exact G0.o) AP rfl rfl rfl rfl ?_)
 rw [bO.o]
 refine (co.o _ Q0.o).mono ?_
 rintro e p ⟨rfl,k2⟩
 have q2:=bt q1 k2
 clear k2
 go_wp2_with fail
 obtain ⟨X,hX⟩:∃X,p.heap.size=X:=⟨_,rfl⟩
 obtain ⟨W3,bd⟩:∃W3,p.alloc (.cells #[MP,MP,MO 0] 39)=W3:=⟨_,rfl⟩
 have g3:W3.heap[X]?=some (.cells #[MP,MP,MO 0] 39 (0,0)):=by rw [<-bd,<-hX];exact LP p _
 have q3:aq W1 W3:=by rw [<-bd];exact q2.alloc q2.size _
 have gX:w.heap.size+2<=X:=by rw [<-hX,<-aR.o];exact q2.size
 have m3:Iz Rm w X cap 0 W3 (fun _=>#[]) none none 0 0:=⟨g3,LZ ..,LZ ..,fun x hx=>absurd hx (Nat.not_lt_zero _),fun x hx=>absurd hx (Nat.not_lt_zero _),gX,Q0.o.trans (q3.mono Q0.o.size)⟩
 rw [hX,bd]
 obtain ⟨M3,Q3⟩:=ae m3 q3;clear m3 g3 bd hX q2 q1 q3
 go_loopw [6] (fun v wr=>∃k:Nat,k<=N/\v=MO k/\∃mv AM AL cm cl,Iz Rm w X cap k wr mv AM AL cm cl/\aq W1 wr) (fun v _=>N-(intOf v).toNat)
 case atStart=>exact ⟨0,LS _,rfl,_,_,_,_,_,M3.o,Q3.o⟩
 case round=>
  obtain ⟨k,hk,rfl,mv,AM,AL,cm,cl,m,q⟩:=hrel
  have h:=aa m
  have tb:=bx3 m.box
  have bv:=LN m.box
  have QR:=aa q;clear m
  by_cases cb:k<N
  ·have cY:(k:Int)<N:=ap
   have cs:IntKind.i64.wrap ((k:Int)+1)=(k:Int)+1:=LT _ ap
   go_wp2_with (refine aS #[i0,i1,i2,i3,MO (N:Nat),i5,i6,i7,i8,i9,U,MO (cap:Nat),ab,T,L] (b:=w.heap.size) (sb G0.o _ QR.o) AP rfl rfl rfl rfl ?_)
   refine (Hm.o k wr cb h.o.q).mono ?_
   rintro e w5 ⟨m1,rfl,⟨z,o⟩,k5,hR⟩
   obtain ⟨a0,a1,a2,a3,a4,a5,a6,a7,a8,a9,D,I,H,Z,B,Y,C,V,A,Q,R,J,rfl⟩:=Lh z
   obtain ⟨O,K5,HR⟩:=af o k5 hR;clear z o hR k5 tb q
   go_upto_region 9 with (refine aJ (LP _ _) lW rfl rfl rfl rfl rfl rfl O.o ?_;intro w6 e6 k6;obtain ⟨E6,K6⟩:=ae e6 (aU k6);clear e6 k6)
   have k6:=bt K5.o K6.o
   have b6:=sb h.o.box w6 k6
   have ci:=bx3 b6
   obtain ⟨B6,bo,bG⟩:=af b6 (ay h.o.oM k6) (ay h.o.oL k6)
   have cw:=k6.size;have b4:=aa k6
   clear b6 k6
   go_wp2_with (first | (refine aS #[a0,a1,a2,a3,a4,a5,a6,a7,a8,a9,D,I,H,Z,B,Y,C,V,A,Q,R,J] E6.o lW rfl rfl rfl rfl ?_) | (at_builtin;refine dy GF _ rfl (.tmp 29) (.tmp 31) rfl (X+1) (.slice AM k cm) k _ rfl (bo.o.alloc _) (some (ar w6.heap.size 0)) 1 1 #[a0,a1,a2,a3,a4,a5,a6,a7,a8,a9,D,I,H,Z,B,Y,C,V,A,Q,R,J].toList rfl (dD w6 _ _ w6.heap.size rfl) rfl (fun u hu=>List.all_eq_true.1 O.o u hu) ap (by unfold maxLen;omega) (by simp;omega) ?_))
   intro A2 c2 w7 o7 b7 g7 n7
   have kA:aq w6 (w6.alloc (.cells #[a0,a1,a2,a3,a4,a5,a6,a7,a8,a9,D,I,H,Z,B,Y,C,V,A,Q,R,J] 106)):=(br w6).alloc (LO _) _
   have bb:w7.heap[X]?=_:=(b7.block X ap).trans (sb B6.o _ kA)
   have kM:Keep (fun j=>(Value.slice AM k cm).ownBlock=some j) w6 w7:=((Keep.refl _ w6).alloc _).grown g7 (fun k hk=>.inr hk)
   have bV:=kM.own bG.o (fun j h1 h2=>fA bG.o bo.o (by decide) j h1 h2)
   have cM:=kM.size
   have cj:=bx3 bb
   have cL:=LN bb
   obtain ⟨cc,KM,bX,O7,N7⟩:=ah bb kM bV o7 n7;clear kA bb kM bV o7 n7 b7 g7 ci
   go_upto_region 10 with (fail)
   obtain ⟨W8,be⟩:∃W8,w7.setCell (ar X 0) (.slice A2 (k+1) c2)=W8:=⟨_,rfl⟩
   have k8:Keep (fun j=>j=X) w7 W8:=by rw [<-be];exact Keep.setCell (S:=fun j=>j=X) (Keep.refl _ _) _ (.inr rfl) _
   have b8:W8.heap[X]?=some (.cells #[.slice A2 (k+1) c2,.slice AL k cl,MO 0] 39 (0,0)):=by rw [<-be];exact ss cc.o
   have bM:=k8.own O7.o (fun j h1 h2=>by have:=(O7.o.lt j h1).1;omega)
   have bz:=k8.own bX.o (fun j h1 h2=>by have:=(bX.o.lt j h1).1;omega)
   rw [be]
   have q8:aq W1 W8:=(bt QR.o b4.o).trans ((KM.o.toBelow (by have:=QR.o.size;omega) (fun j e=>by have:=(bo.o.lt j e).1;have:=h.o.lo;have:=aR.o;omega)).trans (k8.toBelow (by have:=QR.o.size;omega) (fun j e=>by have:=h.o.lo;have:=aR.o;omega)))
   have cA:=k8.size
   have cP:=LN b8
   have cd:=bx3 b8
   obtain ⟨cn,K8,c8,c6,Q8⟩:=ah b8 k8 bM bz q8;clear b8 k8 bM bz be cj
   go_wp2_with (at_builtin;refine dy GG _ rfl (.tmp 35) (.tmp 40) rfl (X+1) (.slice AL k cl) k _ rfl (c6.o.alloc _) (some (ar W8.heap.size 0)) 1 1 #[MO (cap:Nat),MP,MO 0,MO 0].toList rfl (dD W8 _ _ W8.heap.size rfl) rfl (by simp [Value.oneCell']) ap (by unfold maxLen;omega) (by simp;omega) ?_)
   intro A3 c3 w9 o9 b9 g9 n9
   have kA:aq W8 (W8.alloc (.cells #[MO (cap:Nat),MP,MO 0,MO 0] 75)):=(br W8).alloc (LO _) _
   have bf:w9.heap[X]?=_:=(b9.block X ap).trans (sb cn.o _ kA)
   have kL:Keep (fun j=>(Value.slice AL k cl).ownBlock=some j) W8 w9:=((Keep.refl _ W8).alloc _).grown g9 (fun k hk=>.inr hk)
   have bn:=kL.own c8.o (fun j h1 h2=>fA c8.o c6.o (by decide) j h1 h2)
   have cO:=bx3 bf
   have cv:=LN bf
   have av:Keep (fun j=>j=X) w9 (w9.setCell (ar X 1) (.slice A3 (k+1) c3)):=Keep.setCell (S:=fun j=>j=X) (Keep.refl _ _) _ (.inr rfl) _
   have bh:(w9.setCell (ar X 1) (.slice A3 (k+1) c3)).heap[X]?=some (.cells #[.slice A2 (k+1) c2,.slice A3 (k+1) c3,MO 0] 39 (0,0)):=ss bf
   have b3:=av.own bn (fun j h1 h2=>by have:=(bn.lt j h1).1;omega)
   have bi:=av.own o9 (fun j h1 h2=>by have:=(o9.lt j h1).1;omega)
   have b0:dJ mv k++(#[a0,a1,a2,a3,a4,a5,a6,a7,a8,a9,D,I,H,Z,B,Y,C,V,A,Q,R,J]:Array Value).toList=dJ (aZ mv k #[a0,a1,a2,a3,a4,a5,a6,a7,a8,a9,D,I,H,Z,B,Y,C,V,A,Q,R,J]) (k+1):=by
    rw [kZ,bJ,vY fun y hy=>(bC (f:=mv) (v:=#[a0,a1,a2,a3,a4,a5,a6,a7,a8,a9,D,I,H,Z,B,Y,C,V,A,Q,R,J]) (show y≠k by omega)).symm]
   have ad:dJ (fun _=>#[MO (cap:Nat),MP,MO 0,MO 0]) k++(#[MO (cap:Nat),MP,MO 0,MO 0]:Array Value).toList=dJ (fun _=>#[MO (cap:Nat),MP,MO 0,MO 0]) (k+1):=(kZ _ _).symm
   have aP:Keep (fun j=>j=w.heap.size+1\/j=X\/lR (.slice AM k cm) (.slice AL k cl) j) wr (w9.setCell (ar X 1) (.slice A3 (k+1) c3)):=
    fC (Keep.below b4.o) (fC (S:=(fun j=>j=w.heap.size+1\/j=X\/lR (.slice AM k cm) (.slice AL k cl) j)) (KM.o.mono fun j _ e=>.inr (.inr (.inl e))) (fC (S:=(fun j=>j=w.heap.size+1\/j=X\/lR (.slice AM k cm) (.slice AL k cl) j)) (K8.o.mono fun j _ e=>.inr (.inl e)) (fC (S:=(fun j=>j=w.heap.size+1\/j=X\/lR (.slice AM k cm) (.slice AL k cl) j)) (kL.mono fun j _ e=>.inr (.inr (.inr e))) (av.mono fun j _ (e:j=X)=>(.inr (.inl e):(fun j=>j=w.heap.size+1\/j=X\/lR (.slice AM k cm) (.slice AL k cl) j) j)) (fun _ _ e=>e)) (fun _ _ e=>e)) (fun _ _ e=>e)) (fun _ _ e=>e)
   have b2:∀j,j<wr.heap.size->(fun j=>j=w.heap.size+1\/j=X\/lR (.slice A2 (k+1) c2) (.slice A3 (k+1) c3) j) j->(fun j=>j=w.heap.size+1\/j=X\/lR (.slice AM k cm) (.slice AL k cl) j) j:=fun j hj e=>by
    rcases e with e | e | e | e
    ·exact .inl e
    ·exact .inr (.inl e)
    ·rcases N7.o with h1 | h1
     ·rw [h1] at e;exact .inr (.inr (.inl e))
     ·rw [h1] at e;simp at e;have:=b4.o.size;omega
    ·rcases n9 with h1 | h1
     ·rw [h1] at e;exact .inr (.inr (.inr e))
     ·rw [h1] at e;simp at e;have:=b4.o.size;omega
   have aM:∀p,Keep (fun j=>j=w.heap.size+1\/j=X\/lR (.slice A2 (k+1) c2) (.slice A3 (k+1) c3) j) (w9.setCell (ar X 1) (.slice A3 (k+1) c3)) p->aq w p:=fun p kk=>by
    have h1:=fC aP kk b2
    exact h.o.q.trans (h1.toBelow h.o.q.size (fun j e=>by
     rcases e with e | e | e | e
     ·omega
     ·have:=h.o.lo;omega
     ·have:=(h.o.oM.lt j e).1;have:=h.o.lo;omega
     ·have:=(h.o.oL.lt j e).1;have:=h.o.lo;omega))
   have hg:∀x,x<k+1->∀p,Keep (fun j=>j=w.heap.size+1\/j=X\/lR (.slice A2 (k+1) c2) (.slice A3 (k+1) c3) j) (w9.setCell (ar X 1) (.slice A3 (k+1) c3)) p->Rm x (aZ mv k #[a0,a1,a2,a3,a4,a5,a6,a7,a8,a9,D,I,H,Z,B,Y,C,V,A,Q,R,J] x) p:=fun x hx p kk=>by
    by_cases aG:x=k
    ·subst aG
     rw [bJ]
     refine HR.o p (aM p kk) ?_
     have cf:Keep (fun j=>j<wr.heap.size) w5 (w9.setCell (ar X 1) (.slice A3 (x+1) c3)):=
      fC (Keep.below K6.o) (fC (S:=fun j=>j<wr.heap.size) (KM.o.mono fun j _ e=>(h.o.oM.lt j e).2) (fC (S:=fun j=>j<wr.heap.size) (K8.o.mono fun j _ (e:j=X)=>by rw [e];exact bv) (fC (S:=fun j=>j<wr.heap.size) (kL.mono fun j _ e=>(h.o.oL.lt j e).2) (av.mono fun j _ (e:j=X)=>by rw [e];exact bv) (fun _ _ e=>e)) (fun _ _ e=>e)) (fun _ _ e=>e)) (fun _ _ e=>e)
     refine fC cf kk fun j hj e=>?_
     refine Classical.byContradiction fun hc=>?_
     rcases e with e | e | e | e
     ·have:=h.o.q.size;have:=h.o.lo;omega
     ·omega
     ·rcases N7.o with h1 | h1
      ·rw [h1] at e;exact hc (h.o.oM.lt j e).2
      ·rw [h1] at e;simp at e;have:=K6.o.size;omega
     ·rcases n9 with h1 | h1
      ·rw [h1] at e;exact hc (h.o.oL.lt j e).2
      ·rw [h1] at e;simp at e;have:=K6.o.size;omega
    ·rw [bC _ _ aG]
     exact h.o.g x ap p (fC aP kk b2)
   rw [b0] at b3
   have bl:=bi
   rw [ad] at bl
   have b1:Iz Rm w X cap (k+1) (w9.setCell (ar X 1) (.slice A3 (k+1) c3)) (aZ mv k #[a0,a1,a2,a3,a4,a5,a6,a7,a8,a9,D,I,H,Z,B,Y,C,V,A,Q,R,J]) A2 A3 c2 c3:=⟨bh,b3,bl,fun x hx=>by
    by_cases aG:x=k
    ·subst aG;rw [bJ];exact ⟨rfl,O.o⟩
    ·rw [bC _ _ aG];exact h.o.sm x ap,hg,h.o.lo,aM _ (Keep.refl _ _)⟩
   have qn:=Q8.o.trans ((kL.toBelow (by have:=Q8.o.size;omega) (fun j e=>by have:=(h.o.oL.lt j e).1;have:=h.o.lo;have:=aR.o;omega)).trans (av.toBelow (by have:=Q8.o.size;have:=kL.size;omega) (fun j e=>by have:=h.o.lo;have:=aR.o;omega)))
   obtain ⟨bs,QN⟩:=ae b1 qn;clear b1 qn hg aM b2 aP b0 ad bl b3 bi bh av bn kL bf kA n9 g9 b9 o9 cd
   go_wp2_with fail
   go_roundw
   case rel=>exact ⟨k+1,by omega,by go_num,_,_,_,_,_,bs.o,QN.o⟩
   case measure=>simp [intOf];omega
  ·obtain rfl:k=N:=ap
   have ct:¬((k:Int)<k):=ap
   obtain ⟨GX,c9⟩:=ae h.o.box (sb G1.o _ q)
   go_wp2_with (first | (refine aS #[.slice AM k cm,.slice AL k cl,MO 0] (b:=X) GX.o cX rfl rfl rfl rfl ?_) | (refine aJ (b:=w.heap.size+1) c9.o cX rfl rfl rfl rfl rfl rfl rfl ?_;intro w9 e9 k9;obtain ⟨E9,K9⟩:=ae e9 k9;clear e9 k9))
   try simp only [Exit.inBlock,Exit.then]
   refine L7 (dC rfl rfl E9.o cX) rfl ?_
   have cy:=h.o.lo
   have bA:=K9.o.own h.o.oM (fun j h1 h2=>by have:=(h.o.oM.lt j h1).1;omega)
   have bI:=K9.o.own h.o.oL (fun j h1 h2=>by have:=(h.o.oL.lt j h1).1;omega)
   have hc:k<=cm/\k<=cl:=by
    obtain ⟨_,_,e1,h1⟩:=aD bA
    obtain ⟨_,_,e2,h2⟩:=aD bI
    injection e1 with _ _ e1;injection e2 with _ _ e2
    omega
   have bw:∀j,S j->j<X+1:=fun j e=>by have:=HS.o j e;omega
   exact ⟨_,mv,rfl,⟨⟨AM,cm,AL,cl,rfl,gu bA bw,gu bI bw,hc⟩,h.o.sm,fun x hx=>⟨rfl,rfl⟩⟩,fun x hx=>h.o.g x hx _ (K9.o.mono fun j _ e=>.inl e),h.o.q.trans (K9.o.toBelow h.o.q.size (fun j e=>ap))⟩
theorem RWv.ext {u o:World} {vs:Array Value} {n:Nat} {mv i:Nat->Array Value} {cnt:Nat} (h:RWv u vs n mv i cnt) (hb:Ext u o):RWv o vs n mv i cnt:=by
 obtain ⟨⟨B,cm,p,v,h1,y,D,A⟩,C,x⟩:=h
 exact ⟨⟨B,cm,p,v,h1,aV y hb,aV D hb,A⟩,C,x⟩
structure RWm (u:World) (vs:Array Value) (i:Inp) (M:WSt):Prop where
 ex:∃mv lv,RWv u vs (aB i).W mv lv (M.sum i)/\(∀x,x<(aB i).W->fY u (mv x) i x (M.m x))/\∀x,x<(aB i).W->RL u (lv x) (M.s x)
 al:jM i M
theorem RWm.ext {u p:World} {vs:Array Value} {i:Inp} {M:WSt} (h:RWm u vs i M) (hb:Ext u p):RWm p vs i M:=by
 obtain ⟨⟨mv,A,h1,v,B⟩,y⟩:=h
 exact ⟨⟨mv,A,h1.ext hb,fun x o=>ky (v x o) hb,fun x o=>lD (B x o) hb⟩,y⟩
theorem RWm.sz {u:World} {vs:Array Value} {i:Inp} {M:WSt} (h:RWm u vs i M):vs.size=3/\vs.toList.all (·.oneCell')=true:=by
 obtain ⟨⟨mv,x,⟨⟨v,cm,o,p,rfl, -⟩, -, -⟩, -, -⟩, -⟩:=h
 exact ⟨rfl,rfl⟩
theorem Kc {i:Inp} {M:WSt} {x:Nat} (h:x<(aB i).W):pkZ i M x=pkF i M x:=by
 unfold pkZ;rw [if_pos ⟨by omega,by omega⟩,Int.toNat_natCast]
theorem I5 {i:Inp} {M:WSt} {z:Int} (h:¬(0<=z/\z<((aB i).W:Int))):pkZ i M z=(M,false):=by
 unfold pkZ;rw [if_neg h]
theorem jM.msgs_le {i:Inp} {M:WSt} (h:jM i M) (hs:cK i) {x:Nat} (o:x<(aB i).W):(M.s x).msgs.length<=1000000000:=by
 have h1:=h.ok.sn x o
 have C:sN i x (M.pos i x)<=M.pos i x:=JM i x _
 have A:M.pos i x<=M.sum i:=AY o
 have B:=h.sum_le hs
 have u:=uU hs.ok
 have p:=uT hs.ok
 have y:=hs.s
 have v:vI (aB i)*i.cfg.steps.toNat<=810000*6:=Nat.mul_le_mul p ap
 omega
theorem jM.sum_lt {i:Inp} {M:WSt} (h:jM i M) (hs:cK i):M.sum i<=1000000000:=by
 have x:=h.sum_le hs
 have p:=uU hs.ok
 have o:=uT hs.ok
 have v:=hs.s
 have u:vI (aB i)*i.cfg.steps.toNat<=810000*6:=Nat.mul_le_mul o ap
 omega
theorem J1 {S:Nat->Prop} {w:World} {vs:Array Value} {i:Inp} {M:WSt} (hs:cK i) (hS:∀k,S k->k<w.heap.size) (h:RWm (aF S w) vs i M) (z:Int):
  Calls prog 16 #[.agg vs,MO z] w (JQ (fun u vs M=>RWm u vs i M) S (pkZ i M z).1 (pkZ i M z).2 w):=by
 have H:=h.sz
 have ao:=hs.ok.W8
 obtain ⟨⟨mv,lv,h1,h2,N⟩,D⟩:=h
 have Z:=h1.ext (eC S w)
 by_cases T:0<=z/\z<((aB i).W:Int)
 rotate_left
 ·rw [I5 T]
  refine (Cy Z ap).mono ?_
  rintro e o ⟨rfl,hb⟩
  exact ⟨vs,rfl,H.1,H.2,(⟨⟨mv,lv,h1,h2,N⟩,D⟩:RWm (aF S w) vs i M).ext (ik hb),hb⟩
 obtain ⟨x,rfl⟩:∃x:Nat,z=x:=⟨z.toNat,by omega⟩
 have A:x<(aB i).W:=ap
 have hp:pvW (aB i).W x<(aB i).W:=lZ ap
 rw [Kc A]
 obtain ⟨C,a6,hb⟩:=zk D hs A
 obtain ⟨hA, -,Y,a0⟩:=Ft D hs A
 obtain ⟨m1,s1,t1,U,Q⟩:=a6
 have a9:=fun o (q:aq w o) (hl:w.heap.size+6<=o.heap.size)=>by
  have he:Ext (aF S w) (aF (fun k=>S k\/(w.heap.size<=k/\k<w.heap.size+6)) o):=bE (Keep.below q) (fun k hk e=>e.elim id (fun e=>absurd hk ap))
  exact IW (S:=(fun k=>S k\/(w.heap.size<=k/\k<w.heap.size+6))) (w:=o) (fun k e=>e.elim (fun e=>by have:=hS k e;omega) (fun e=>ap)) (ky (h2 x A) he) (lD (N _ hp) he) (lD (N x A) he) hs (D.ok.mok x A) (D.ok.msgI A) (D.ok.lok x A).2.1 (by have:=D.msgs_le hs hp;omega) (by have:=D.msgs_le hs A;omega) A U
 refine (EQ (S:=S) (R:=fun m u v o=>fY (aF (fun k=>S k\/(w.heap.size<=k/\k<w.heap.size+6)) o) m i x m1/\RL (aF (fun k=>S k\/(w.heap.size<=k/\k<w.heap.size+6)) o) u s1/\RL (aF (fun k=>S k\/(w.heap.size<=k/\k<w.heap.size+6)) o) v t1) (C:=(C:Nat)) (p:=pvW (aB i).W x) hS Z A ap rfl (D.sum_lt hs) (fun o hl q=>(a9 o q hl).mono ?_) (fun m u v w1 w2 hr k=>?_)).mono ?_
 ·rintro e ad ⟨v1,v2,v3,he,z1,o1,r1,⟨B2,c2,rfl,r2⟩,⟨B3,c3,rfl,r3⟩,a8⟩
  exact ⟨v1,_,_,he,⟨z1,rfl,rfl⟩,⟨o1,rfl,rfl⟩,⟨r1,⟨B2,c2,rfl,r2⟩,⟨B3,c3,rfl,r3⟩⟩,a8⟩
 ·have he:Ext (aF (fun k=>S k\/(w.heap.size<=k/\k<w.heap.size+6)) w1) (aF (fun k=>S k\/(w.heap.size<=k/\k<w.heap.size+6)) w2):=bE (k.mono fun j _ e=>.inr e) (fun _ _ e=>e)
  exact ⟨ky hr.1 he,lD hr.2.1 he,lD hr.2.2 he⟩
 ·rintro e o (⟨hC,he,B⟩ | ⟨hC,a1,a2,a3,V,he,hv,hr,B⟩)
  ·have hf:(pkF i M x).2=false:=by rw [hb];simp;omega
   rw [hf,a0 hf]
   exact ⟨vs,he,H.1,H.2,(⟨⟨mv,lv,h1,h2,N⟩,D⟩:RWm (aF S w) vs i M).ext (ik B),B⟩
  ·have a4:C=0:=ap
   have ht:(pkF i M x).2=true:=by rw [hb];simp [a4]
   rw [ht]
   have O:=(Y ht).2.2
   have L:Ext (aF (fun k=>S k\/(w.heap.size<=k/\k<w.heap.size+6)) o) (aF S o):=bE (Keep.refl _ _) (fun k _ e=>.inl e)
   have J:Ext (aF S w) (aF S o):=ik B
   have I:RWm (aF S o) V i (pkF i M x).1:=by
    refine ⟨⟨_,_,by rw [O];exact hv,fun y hy=>?_,fun y hy=>?_⟩,hA⟩
    ·rw [Q]
     show fY _ (aZ mv x a1 y) i y (aZ M.m x m1 y)
     by_cases e:y=x
     ·subst e;rw [bJ,bJ];exact ky hr.1 L
     ·rw [bC _ _ e,bC _ _ e];exact ky (h2 y hy) J
    ·rw [Q]
     show RL _ ((if 1<(aB i).W then aZ (aZ lv (pvW (aB i).W x) a2) x a3 else lv) y) (aZ (aZ M.s (pvW (aB i).W x) s1) x t1 y)
     by_cases hW:1<(aB i).W
     ·rw [if_pos hW]
      by_cases e:y=x
      ·subst e;rw [bJ,bJ];exact lD hr.2.2 L
      ·rw [bC _ _ e,bC _ _ e]
       by_cases e2:y=pvW (aB i).W x
       ·rw [e2,bJ,bJ];exact lD hr.2.1 L
       ·rw [bC _ _ e2,bC _ _ e2];exact lD (N y hy) J
     ·rw [if_neg hW]
      have a5:y=x:=ap
      have ab:=FH A ap
      subst a5
      rw [bJ]
      have a7:t1=M.s y:=by
       cases U with
       | own=>rfl
       | fin=>rfl
       | full=>rfl
       | none=>rfl
       | other=>rfl
       | send z ac T ha=>exact (nE ap T ha).elim
       | recv z ac T ha=>exact (nE ap T ha).elim
      rw [a7]
      exact lD (N y hy) J
   exact ⟨V,he,I.sz.1,I.sz.2,I,B⟩
theorem KY {S:Nat->Prop} {w:World} {vs:Array Value} {i:Inp} {M:WSt} (hs:cK i) (v:∀k,S k->k<w.heap.size) (h:RWm (aF S w) vs i M) {A:Option Addr} {c:Nat} {l:List Int} (hl:l.length<=1000000) (hA:Rd w A (aA .i64 l)):
  Calls prog 20 #[.agg vs,.slice A l.length c] w (Lk (fun u vs M=>RWm u vs i M) S (pF i M l).1 (pF i M l).2 w):=
 EP (st:=pkZ i) v hl hA (fun _ _ _ _ h e=>h.ext e) (fun _ _ _ _ z o p _=>J1 hs o p z) h h.sz.1 h.sz.2
theorem KZ {S:Nat->Prop} {w:World} (A:Option Addr) (c:Nat) (D:Option Addr) (C:Nat) (T:Option Addr) (y:Nat) (R:Option Addr) (B:Nat) (i:Inp) (L:∀k,S k->k<w.heap.size) (h:ge w A c D T y R i) (hI:∀o,aq w o->ge (aF S o) A c D T y R i) (hs:cK i):
  Calls prog 14 #[.agg (aO A c D C T y R B i)] w fun e o=>∃p:Array Value,e=.returned (.tuple #[.agg p,MO 0])/\p.size=3/\p.toList.all (·.oneCell')=true/\RWm (aF S o) p i (kK i)/\aq w o:=by
 have hg:=hs.g.c
 have V:=hg.w;have Q:=hg.ca
 have Y:((aB i).W:Int)=i.cfg.workers:=by simp only [aB];omega
 have U:((i.cfg.cap.toNat:Nat):Int)=i.cfg.cap:=ap
 have a1:=hs.ok.W8
 have v:=fun o (q:aq w o)=>jr A c D C T y R B i o (h.below q)
 have H:=fun (x:Nat) o (q:aq w o) (J:x<(aB i).W)=>yP A c D C T y R B i x o (h.below q) hs J
 have hv:aO A c D C T y R B i=#[.slice A i.cfg.sizes.length c,MO i.cfg.shift,MO i.cfg.rate,MO i.cfg.mom,MO ((aB i).W:Nat),MO i.cfg.batch,MO i.cfg.micros,MO i.cfg.steps,MO i.cfg.bucket,MO i.cfg.chunk,MO i.cfg.window,MO (i.cfg.cap.toNat:Nat),.slice D i.data.length C,.slice T i.start.length y,.slice R i.draws.length B]:=by rw [Y,U]
 rw [oV.2 hs.g] at v
 rw [hv] at v H ⊢
 refine (ET (S:=S) (Rm:=fun x m o=>fY (aF S o) m i x (fB i)) (N:=(aB i).W) (cap:=i.cfg.cap.toNat) L ap ap v (fun k o hk q=>(H k o q hk).mono ?_)).mono ?_
 ·rintro e a0 ⟨m,rfl,Z,ho,hb,hr⟩
  refine ⟨m,rfl,⟨Z,ho⟩,hb,fun O q2 k2=>hr _ (fC k2 (DE S O) fun j _ e=>by have:=L j e;have:=q.size;omega) (hI O q2)⟩
 ·rintro e o ⟨p,mv,rfl,I,hm,hb⟩
  have u:RWm (aF S o) p i (kK i):=⟨⟨mv,_,by rw [vL];exact I,hm,fun x J=>⟨none,0,rfl,fz.nil _ _ none,LO _⟩⟩,jM.zero hs⟩
  exact ⟨p,rfl,u.sz.1,u.sz.2,u,hb⟩
section
variable {E:Nat->Prop} {i:Inp} {V w w':World} {X:Nat} {M:WSt}
theorem FS (hs:cK i) {x:Nat} {m:Mst} (h:MOk i x m):m.op.length<=60:=by
 rw [h.op]
 exact LU (vk hs.ok x m.st m.nx).2 hs.ok.buks
theorem Dk (hs:cK i) {x:Nat} {m:Mst} (h:MOk i x m):m.rc.length<=100:=by
 have h1:=h.rc
 have p:=hs.s
 rcases h.ps with o | o<;>omega
theorem WIn.openIn (h:WIn E i V X M w) (hs:cK i) {x:Nat} (p:x<(aB i).W):
  Calls prog 34 #[(au X),MO (x:Nat)] w fun e w'=>∃v,e=.returned v/\w'.ownsRow w.heap.size 3 1 v (M.m x).op.length (aA .i64 (eJ (M.m x).op))/\aq w w':=by
 obtain ⟨⟨D,B,rfl,o,H⟩,C⟩:=h
 refine (Cf (R:=fun e w'=>∃v,e=.returned v/\w'.ownsRow w.heap.size 3 1 v (M.m x).op.length (aA .i64 (eJ (M.m x).op))/\aq w w') (o.at hs p) fun A q=>?_).mono fun e w' hr=>hr
 refine (Dj ((o.below q).mem.mach x p) (FS hs (o.al.ok.mok x p))).mono ?_
 rintro e I ⟨v,rfl,u,y⟩
 exact ⟨⟨v,rfl⟩,v,rfl,aE u q.size,bt q y⟩
theorem WIn.openOut (h:WIn E i V X M w) {z:Int} (J:¬(0<=z/\z<((aB i).W:Int))):Calls prog 34 #[(au X),MO z] w fun e w'=>e=.returned (MP)/\aq w w':=by
 obtain ⟨⟨D,B,rfl,p,H⟩,C⟩:=h
 obtain ⟨y,I,u,v,o,x,A⟩:=p.rows
 exact Cg fun w' q=>qD (sb o w' q) ap
theorem WIn.trajIn (h:WIn E i V X M w) (hs:cK i) {x:Nat} (p:x<(aB i).W):
  Calls prog 26 #[(au X),MO (x:Nat)] w fun e w'=>∃v,e=.returned v/\StL w.heap.size w' (M.m x).rc v/\aq w w':=by
 obtain ⟨⟨D,B,rfl,u,O⟩,N⟩:=h
 refine (Cb (R:=fun e w'=>∃v,e=.returned v/\StL w.heap.size w' (M.m x).rc v/\aq w w') (u.at hs p) fun L q=>?_).mono fun e w' hr=>hr
 have o:=u.al.ok.mok x p
 refine (Dh ((u.below q).mem.mach x p) o.rl hs.n (Dk hs o)).mono ?_
 rintro e Q ⟨v,rfl,C,J⟩
 obtain ⟨rows,H,y,I,A⟩:=C
 exact ⟨⟨v,rfl⟩,v,rfl,⟨rows,aE H q.size,y,I,fun j x p=>(A j x p).base q.size⟩,bt q J⟩
theorem WIn.trajOut (h:WIn E i V X M w) {z:Int} (J:¬(0<=z/\z<((aB i).W:Int))):Calls prog 26 #[(au X),MO z] w fun e w'=>e=.returned (MP)/\aq w w':=by
 obtain ⟨⟨D,B,rfl,p,H⟩,C⟩:=h
 obtain ⟨y,I,u,v,o,x,A⟩:=p.rows
 exact Cc fun w' q=>qD (sb o w' q) ap
end
def j6 (w:World) (base:Nat) (v:Value) (ms:List Msg):Prop:=
 ∃rows,w.ownsRow base 79 6 v ms.length (List.flatten rows)/\rows.length=ms.length/\(∀r∈rows,r.length=6)/\∀j,j<ms.length->vE w base (et rows j) (aK ms j)
theorem Ke {w:World} {base base':Nat} {e B:TypeId} {size o n D:Nat} {v v':Value} {xs u:List Value} (h:w.ownsRow base e size v n xs) (H:w.ownsRow base' B o v' D u) (x:e≠B):∀k,v.ownBlock=some k->v'.ownBlock≠some k:=fun k hk p=>by
 rcases h.2 with ⟨hn,_⟩ | ⟨g,cap,C,rfl,_,hg,_⟩
 ·rw [hn] at hk;cases hk
 ·obtain rfl:g=k:=by simpa [Value.ownBlock] using hk
  rcases H.2 with ⟨hn,_⟩ | ⟨I,y,A,rfl,_,i,_⟩
  ·rw [hn] at p;cases p
  ·obtain rfl:I=g:=by simpa [Value.ownBlock] using p
   rw [hg] at i;injection i with i;injection i with _ i;exact x i
theorem Di {wr y u:World} {base hb:Nat} {A x:Option Addr} {k c c2 Q L:Nat} {rows:List (List Value)} {ms:List Msg} {t0 t1 t2 C D:Int} {zs:List Int} (hk:ms.length=k) (H:base<=wr.heap.size)
  (N:wr.ownsRow base 79 6 (.slice A k c) k (List.flatten rows)) (J:rows.length=ms.length) (V:∀r∈rows,r.length=6) (hm:∀j,j<ms.length->vE wr base (et rows j) (aK ms j))
  (hB:aq wr y) (o:y.ownsRow hb 2 1 (.slice x zs.length c2) zs.length (aA .i64 zs)) (Y:wr.heap.size<hb) {v:Value} (hg:(y.setCell (ar wr.heap.size 5) v).grownBy u (Value.slice A k c).ownBlock)
  (I:u.ownsRow base 79 6 (.slice (some (ar Q 0)) (k+1) L) (k+1) (List.flatten rows++[MO t0,MO t1,MO t2,MO C,MO D,.slice x zs.length c2])):
  j6 u base (.slice (some (ar Q 0)) (k+1) L) (ms++[⟨⟨t0,t1,t2,C,D⟩,zs⟩]):=by
 have U:Keep (fun i=>(Value.slice A k c).ownBlock=some i) wr u:=((Keep.below hB).setCell _ (.inl (LO _)) _).grown hg fun i p=>.inr p
 have R:Keep (fun i=>i=wr.heap.size\/(Value.slice A k c).ownBlock=some i) y u:=((Keep.refl _ _).setCell _ (.inr (.inl rfl)) _).grown hg fun i p=>.inr (.inr p)
 refine ⟨rows++[[MO t0,MO t1,MO t2,MO C,MO D,.slice x zs.length c2]],?_,by simp [J],?_,?_⟩
 ·rw [My,List.flatten_cons,List.flatten_nil,List.append_nil,Mo,Mx,hk]
  exact I
 ·intro r hr
  rcases MD.1 hr with hr | hr
  ·exact V r hr
  ·rw [List.mem_singleton.1 hr];rfl
 ·intro j Z
  rcases Ma j ms.length with h | h
  ·rw [jn _ _ _ ap,jx _ _ _ h]
   obtain ⟨B,d,e,O⟩:=hm j h
   exact ⟨B,d,e,U.own O fun i p=>Ke O N (by decide) i p⟩
  ·obtain rfl:j=ms.length:=by simp at Z;omega
   rw [jy,<-J,jo]
   refine ⟨x,c2,rfl,aE (base:=hb) (R.own o fun i p=>?_) ap⟩
   have:=(o.lt i p).1
   rintro (rfl | T)
   ·omega
   ·have:=(N.lt i T).2;omega
theorem Gi (base b:Nat) (g:Option Nat) (s:LSt) (w:World) (h:aW w base b g s):
  Calls prog 69 #[(.pointer (some ⟨b,0,none⟩))] w fun e x=>∃A c,e=.returned (.slice A (s.msgs.length-s.recv) c)/\j6 x w.heap.size (.slice A (s.msgs.length-s.recv) c) (s.msgs.drop s.recv)/\aq w x:=by
 have B:=h.ok
 obtain ⟨ring,rows,hc,_⟩:=h.ex
 have hl:=mN b _ _ _ _ _ _ hc B.rs (by have:=B.many;omega)
 obtain ⟨n,hn⟩:∃n,s.msgs.length-s.recv=n:=⟨_,rfl⟩
 have a1:(s.msgs.length:Int)-s.recv=(n:Int):=by have:=B.rs;omega
 rw [a1] at hl
 rw [hn]
 obtain ⟨H,Hl,J,Hn⟩:=ag h hl B hn;clear h hl B hn a1 hc
 go_enter func69,ntmps69
 go_wp2_with fail
 refine Hl.o.mono ?_
 rintro e x ⟨rfl,k,rfl⟩
 go_wp2_with fail
 go_loopw [8,3] (fun i out wr=>∃k A c,k<=n/\i=MO (k:Int)/\out=.slice A k c/\j6 wr w.heap.size (.slice A k c) ((s.msgs.drop s.recv).take k)/\aq w wr) (fun i _ _=>n-(intOf i).toNat)
 case atStart=>
  refine ⟨0,none,0,LS _,rfl,rfl,⟨[],?_,rfl,by simp,by simp⟩,LY (LR _ _) _⟩
  exact ⟨rfl,.inl ⟨rfl,rfl⟩⟩
 case round=>
  obtain ⟨k,A,c,hk,rfl,rfl,hM,hW⟩:=hrel
  by_cases b7:k<n
  ·have b3:=(H.o.below (hW.mono (LO _))).at_ (s.recv+k) ap (by have:=Hn.o;omega)
   obtain ⟨Q,rc,A',c',_,y,hi,h6,v⟩:=b3
   have Y:=J.o.cap1
   have a2:=J.o.cap2
   have aG:=J.o.many
   have a1:=Hn.o
   obtain ⟨m,hm⟩:∃m,aK s.msgs (s.recv+k)=m:=⟨_,rfl⟩
   have a4:m.vals.length<=17592186043904:=by
    refine J.o.vals m ?_
    rw [<-hm,aK,List.getD,Mq ap]
    exact List.getElem_mem _
   rw [hm] at h6 v
   obtain ⟨i,T⟩:∃i,(s.recv+k)%s.cap=i:=⟨_,rfl⟩
   rw [T] at hi h6
   obtain ⟨L,hL⟩:∃L,min s.msgs.length s.cap=L:=⟨_,rfl⟩
   rw [hL] at hi y
   obtain ⟨⟨t0,t1,t2,t3,t4⟩,zs⟩:=m
   have hp:=fun W' b1=>jB b (.slice (some ⟨Q,0,none⟩) L rc) s.cap s.msgs.length s.recv s.peak (s.recv+k) i W' b1 Y a2 T
   have c0:=y.c0
   have c3:=y.c3
   obtain ⟨d0,d1,d2,d3,d4,d5⟩:=h6
   dsimp only at d0 d1 d2 d3 d4 d5 v a4
   have b9:IntKind.i64.wrap ((s.recv:Int)+(k:Int))=((s.recv+k:Nat):Int):=by rw [LT _ ap];omega
   have b8:=LN y
   have b6:=az d0
   obtain ⟨Hp,b4,a5,HM,HW,Hm⟩:=ai hp y v hM hW hm;clear hp y v hM hW hm T hL
   go_wp2_with fail
   go_region_held3 (fun x=>x.cell? ⟨b,0,none⟩=some (.slice (some ⟨Q,0,none⟩) L rc)/\x.cell? ⟨b,3,none⟩=some (MO (s.recv:Int))/\x.cell? ⟨Q,(i*6),none⟩=some (MO t0)/\x.cell? ⟨Q,(i*6+1),none⟩=some (MO t1)/\
     x.cell? ⟨Q,(i*6+2),none⟩=some (MO t2)/\x.cell? ⟨Q,(i*6+3),none⟩=some (MO t3)/\x.cell? ⟨Q,(i*6+4),none⟩=some (MO t4)/\x.cell? ⟨Q,(i*6+5),none⟩=some (.slice A' zs.length c')) (simp [go_sem, *])
    ((go_at_call 105;refine (Hp.o _ ?_).mono ?_;(focus (repeat' (first | (with_reducible exact b4.o) | (with_reducible refine aC.drew ?_) | (with_reducible refine aC.drewN ?_ _) | (with_reducible refine aC.alloc ?_ _) | (with_reducible refine aC.set0 (ring:=.slice RA L rc) ?_ _) | (with_reducible refine aC.set2 (sent:=s.msgs.length) ?_ _ _ ?_) | (with_reducible refine aC.set4 (peak:=s.peak) ?_ _ _ ?_) | (with_reducible refine aC.far ?_ _ _ ?_) | omega | (push_cast;omega))));rintro e x ⟨rfl,rfl⟩))
   all_goals
    go_wp2_with fail
    refine (mp A' zs c' _ ?_ a4).mono ?_
    ·repeat' (first | exact Rd.own a5.o | (with_reducible refine Rd.alloc ?_ _) | (with_reducible refine Rd.drewN ?_ _) | (with_reducible refine Rd.drew ?_))
    rintro e I ⟨v2,rfl,u,p⟩
    have e0:I.cell? ⟨wr.heap.size,0,none⟩=some (MO t0):=by rw [p.cell (by simp)];simp [go_sem]
    have e1:I.cell? ⟨wr.heap.size,1,none⟩=some (MO t1):=by rw [p.cell (by simp)];simp [go_sem]
    have e2:I.cell? ⟨wr.heap.size,2,none⟩=some (MO t2):=by rw [p.cell (by simp)];simp [go_sem]
    have e3:I.cell? ⟨wr.heap.size,3,none⟩=some (MO t3):=by rw [p.cell (by simp)];simp [go_sem]
    have e4:I.cell? ⟨wr.heap.size,4,none⟩=some (MO t4):=by rw [p.cell (by simp)];simp [go_sem]
    have e5:I.cell? ⟨wr.heap.size,5,none⟩=some (.slice A' zs.length c'):=by rw [p.cell (by simp)];simp [go_sem]
    have f5:I.frozen? ⟨wr.heap.size,5,none⟩=false:=by rw [p.frozen (by simp)];simp [go_sem]
    obtain ⟨A2,c2,rfl,_⟩:=aD u
    have V:aq wr I:=by
     refine Below.trans ?_ (p.mono (by simp))
     exact am
    obtain ⟨U,D,a6,ad,a3⟩:=HM.o
    have R:((s.msgs.drop s.recv).take k).length=k:=by simp;omega
    rw [R] at D
    have O:=(ay D V)
    have N:(I.setCell ⟨wr.heap.size,5,none⟩ (.slice A2 zs.length c2)).ownsRow w.heap.size 79 6 (.slice A k c) k (List.flatten U):=ownsRow_setCell_other O (fun e=>by have:=(D.lt _ e).2;simp at this) _
    have b5:wr.heap.size<I.heap.size:=by have:=p.size;simp at this;omega
    obtain ⟨a0,a7,b2,av,a8,aR,aM,b0⟩:=ak u V R a3 N D a6 ad;clear u p V R a3 D O N a6 ad
    go_wp2_with (at_builtin;refine aY j3 _ rfl (.tmp 30) (.tmp 32) rfl w.heap.size _ k _ rfl a8.o [MO t0,MO t1,MO t2,MO t3,MO t4,.slice A2 zs.length c2] (by simp [go_sem]) rfl (oK _ _ _ _ _ _ rfl) ap (by unfold maxLen;omega) (by have:=HW.o.size;simp;omega) ?_)
    intro gO cO w5 C a9 ab
    obtain ⟨Z,aP,ao⟩:=af C a9 ab;clear C a9 ab
    go_wp2_with fail
    go_roundw
    case rel=>
     refine ⟨k+1,some ⟨gO,0,none⟩,cO,by omega,by go_num,rfl,?_,?_⟩
     ·rw [show (s.msgs.drop s.recv).take (k+1)=(s.msgs.drop s.recv).take k++[⟨⟨t0,t1,t2,t3,t4⟩,zs⟩] by
       rw [<-Hm.o,List.take_add_one,aK,List.getD]
       simp [List.getElem?_drop,Mq (show s.recv+k<s.msgs.length by omega)]]
      exact Di b2.o HW.o.size aR.o aM.o b0.o av.o a7.o a0.o (by simp) ao.o Z.o
     ·have hs:=HW.o.size
      refine HW.o.trans (Below.trans (a7.o.mono hs) (Below.trans ((LR _ _).setCell ?_ _) aP.o))
      exact hs
    case measure=>simp [intOf];omega
  ·obtain rfl:k=n:=ap
   obtain ⟨HM,HW⟩:=ae hM hW;clear hM hW
   go_wp2_with fail
   go_ret
   refine ⟨A,c,rfl,?_,HW.o⟩
   have:=HM.o
   rwa [List.take_of_length_le (by simp;have:=Hn.o;omega)] at this
section
variable {E:Nat->Prop} {i:Inp} {V w w':World} {X:Nat} {M:WSt}
theorem j6.base {w:World} {b i:Nat} {v:Value} {ms:List Msg} (h:j6 w b v ms) (hb:i<=b):j6 w i v ms:=by
 obtain ⟨rows,h1,p,y,u⟩:=h
 refine ⟨rows,aE h1 hb,p,y,fun j x=>?_⟩
 obtain ⟨B,d,e,o⟩:=u j x
 exact ⟨B,d,e,aE o hb⟩
def LJ (s:LSt) (w:World) (e:Ending) (w':World):Prop:=∃A c,e=.returned (.tuple #[.slice A (s.msgs.length-s.recv) c,MO (s.peak:Nat)])/\j6 w' w.heap.size (.slice A (s.msgs.length-s.recv) c) (s.msgs.drop s.recv)/\aq w w'
theorem WIn.linkIn (h:WIn E i V X M w) (hs:cK i) {x:Nat} (u:x<(aB i).W):Calls prog 35 #[(au X),MO (x:Nat)] w (LJ (M.s x) w):=by
 obtain ⟨⟨D,B,rfl,p,J⟩,I⟩:=h
 refine (Ch (R:=fun v w'=>∃A c,v=.slice A ((M.s x).msgs.length-(M.s x).recv) c/\j6 w' w.heap.size (.slice A ((M.s x).msgs.length-(M.s x).recv) c) ((M.s x).msgs.drop (M.s x).recv)/\aq w w') (pk:=(M.s x).peak) (p.at hs u) (fun C q=>?_) (fun v C hr=>?_)).mono ?_
 ·refine (Gi _ _ _ _ _ ((p.below q).mem.lnk x u)).mono ?_
  rintro e y ⟨A,c,rfl,o,H⟩
  exact ⟨_,rfl,A,c,rfl,o.base q.size,bt q H⟩
 ·obtain ⟨A,c,rfl,o,q⟩:=hr
  obtain ⟨ring,rows,hc,_⟩:=((p.below q).mem.lnk x u).ex
  refine (Gh _ _ _ _ _ _ _ hc).mono ?_
  rintro e y ⟨rfl,rfl⟩
  exact ⟨rfl,A,c,rfl,o,q⟩
 ·rintro e y ⟨v,rfl,A,c,rfl,o,q⟩
  exact ⟨A,c,rfl,o,q⟩
theorem WIn.linkOut (h:WIn E i V X M w) {z:Int} (J:¬(0<=z/\z<((aB i).W:Int))):Calls prog 35 #[(au X),MO z] w fun e w'=>e=.returned (.tuple #[MP,MO 0])/\aq w w':=by
 obtain ⟨⟨D,B,rfl,p,H⟩,C⟩:=h
 obtain ⟨y,I,u,v,o,x,A⟩:=p.rows
 exact Ci fun w' q=>qD (sb o w' q) ap
theorem WIn.openZ (h:WIn E i V X M w) (hs:cK i) (z:Int):Calls prog 34 #[(au X),MO z] w fun e w'=>(∃A n c,e=.returned (.slice A n c)/\(n:Int)<=i.cfg.window)/\aq w w':=by
 by_cases u:0<=z/\z<((aB i).W:Int)
 ·obtain ⟨x,rfl⟩:∃x:Nat,z=x:=⟨z.toNat,by omega⟩
  have o:x<(aB i).W:=ap
  refine (h.openIn hs o).mono ?_
  rintro e w' ⟨v,rfl,p,q⟩
  obtain ⟨A,c,rfl, -⟩:=aD p
  refine ⟨⟨A,_,c,rfl,?_⟩,q⟩
  have h1:=(vk hs.ok x (M.m x).st (M.m x).nx).1
  rw [<-(h.al.ok.mok x o).op] at h1
  have y:((aB i).wi:Int)=i.cfg.window:=by have:=hs.g.c.wi;simp only [aB];omega
  omega
 ·refine (h.openOut u).mono ?_
  rintro e w' ⟨rfl,q⟩
  exact ⟨⟨none,0,0,rfl,by have:=hs.g.c.wi;omega⟩,q⟩
end
structure lK (P:World->Prop) (E:Nat->Prop) (i:Inp) (V:World) (X:Nat) (M:WSt) (w:World):Prop where
 ex:∃D B,D.X=X/\WAt E i w D B M/\(∀j,D.all (aB i).W j->V.heap.size<=j)/\P (aF (D.hid (aB i).W E) w)
 q:Keep E V w
def JF (P:World->Prop):Prop:=∀u h,Ext u h->P u->P h
theorem rT {E:Nat->Prop} {V w w':World} (h:Keep E V w) (hb:aq w w'):Keep E V w':=h.trans (Keep.below hb)
theorem Bs {S:Nat->Prop} {u w:World} (hb:aq u w) (h:∀k,S k->u.heap.size<=k):Ext u (aF S w):=fun k hk=>.inr (by
 rw [gD (fun e=>by have:=h k e;omega)]
 exact hb.block k hk)
theorem Jo {u v:World} {b:Nat} {c:List Value} {e:TypeId} {y:Value} (h:u.heap[b]?=some (.cells (y::c).toArray e (0,0))) (p:Ext u v):v.heap[b]?=some (.cells (y::c).toArray e (0,0)):=by
 rcases p _ (LN h) with o | o
 ·rw [o] at h
  simp at h
 ·rw [o];exact h
section
variable {P:World->Prop} {E:Nat->Prop} {i:Inp} {V w w':World} {X:Nat} {M:WSt}
theorem lK.win (h:lK P E i V X M w):WIn E i {w with heap:=#[]} X M w:=by
 obtain ⟨⟨D,B,h1,o,v,p⟩,u⟩:=h
 exact ⟨⟨D,B,h1,o,fun _ _=>LS _⟩,⟨rfl,rfl,rfl,LS _,fun k hk=>absurd hk (Nat.not_lt_zero k)⟩⟩
theorem lK.al (h:lK P E i V X M w):jM i M:=by
 obtain ⟨⟨D,B,h1,o,v,p⟩,u⟩:=h
 exact o.al
theorem lK.p (h:lK P E i V X M w) (hP:JF P):P w:=by
 obtain ⟨⟨D,B,h1,u,x,o⟩,v⟩:=h
 exact hP _ _ (eC _ _) o
theorem lK.below (h:lK P E i V X M w) (hP:JF P) (hb:aq w w'):lK P E i V X M w':=by
 obtain ⟨⟨D,B,h1,o,v,p⟩,u⟩:=h
 exact ⟨⟨D,B,h1,o.below hb,v,hP _ _ (ik hb) p⟩,rT u hb⟩
theorem lK.ref (h:lK P E i V X M w):∃S:Nat->Prop,(∀k,S k->k<w.heap.size)/\P (aF S w)/\(∀k,S k->V.heap.size<=k\/E k)/\∀(p:World->Prop) w',aq w w'->p (aF S w')->lK p E i V X M w':=by
 obtain ⟨⟨D,B,h1,o,u,x⟩,y⟩:=h
 refine ⟨D.hid (aB i).W E,fun k e=>e.elim (o.mem.lt k) (o.mem.ex k),x,fun k e=>e.imp (u k) id,fun p w' hb v=>⟨⟨D,B,h1,o.below hb,u,v⟩,rT y hb⟩⟩
theorem At.q {e:Ending} (h:At E i w e w'):aq w w':=by
 obtain ⟨D,B,h1,p,o,u⟩:=h
 exact o
theorem At.winP {e:Ending} (h:At E i w e w') (hP:∀S:Nat->Prop,(∀k,S k->w.heap.size<=k\/E k)->P (aF S w')):∃X,e=.returned (.tuple #[(au X),MO 0])/\lK P E i w X (kK i) w'/\w.heap.size<=X/\aq w w':=by
 obtain ⟨D,B,h1,u,p,o⟩:=h
 exact ⟨D.X,h1,⟨⟨D,B,rfl,u,o,hP _ fun k e=>e.imp (o k) id⟩,Keep.below p⟩,o _ (.inl rfl),p⟩
theorem lK.pick (h:lK P E i V X M w) (hP:JF P) (hs:cK i) (o: -9223372036854775808<=i.cfg.rate/\i.cfg.rate<=9223372036854775807) (p: -9223372036854775808<=i.cfg.mom/\i.cfg.mom<=9223372036854775807) (z:Int):
  Calls prog 15 #[(au X),MO z] w fun e w'=>e=.returned (.bool (pkZ i M z).2)/\lK P E i V X (pkZ i M z).1 w':=by
 obtain ⟨⟨D,B,rfl,H,y,I⟩,x⟩:=h
 refine (BQ H hs o p z).mono ?_
 rintro e w' ⟨he,J,A,L,u,v⟩
 have N:=x.size
 refine ⟨he,⟨J,B,A,L,fun j C=>(v j C).elim (y j) fun h=>ap,hP _ _ (bE (u.mono fun k _ e=>.inl e) fun k hk e=>e.imp (fun e=>(v k e).elim id fun e=>absurd hk ap) id) I⟩,?_⟩
 exact fC x u fun k hk e=>absurd (y k e) ap
end
def smJ:Inp:=⟨⟨[1,1],1,0,0,2,2,1,0,1,1,1,1⟩,[([1],[1]),([1],[1])],[5,6],[]⟩
theorem Er:lL smJ:=by
 refine ⟨⟨by decide,by decide,⟨⟨by decide,fun k hk=>?_⟩,by decide⟩,by decide,by decide,by decide,by decide,by decide,by decide,by decide⟩,by decide,fun x h=>?_,by decide,by decide⟩
 ·have:k=0\/k=1:=by have:k<2:=hk;omega
  rcases this with rfl | rfl<;>decide
 ·have:x=([1],[1]):=by simpa [smJ] using h
  subst this;decide
theorem yA:cK smJ:=⟨Er,by decide,by decide,by decide,by decide,by decide⟩
theorem IO:(kK smJ).fin smJ:=fun x i=>by
 have:x=0\/x=1:=by have h:(aB smJ).W=2:=rfl;omega
 rcases this with rfl | rfl<;>rfl
theorem JX {w:World} {b:Nat} (y:w.heap[b]?=some (.cells #[MO 1,MO 1] 3 (0,0))) {b3 b4 b5 b6:Nat} (A:w.heap[b3]?=some (.cells #[MO 1] 2 (0,0))) (u:w.heap[b4]?=some (.cells #[MO 1] 2 (0,0)))
  (v:w.heap[b5]?=some (.cells #[.slice (some (ar b3 0)) 1 1,.slice (some (ar b4 0)) 1 1,.slice (some (ar b3 0)) 1 1,.slice (some (ar b4 0)) 1 1] 91 (0,0))) (p:w.heap[b6]?=some (.cells #[MO 5,MO 6] 2 (0,0))):
  ge w (some (ar b 0)) 2 (some (ar b5 0)) (some (ar b6 0)) 2 none smJ:=by
 refine ⟨⟨by decide,by decide,by decide,wB y⟩,?_,by decide,⟨by decide,by decide,wB p,uO (by simp [smJ])⟩,by decide,Rd.nil _ _,by decide,fun k hk=>absurd hk (by simp [smJ]),by decide,by decide⟩
 refine ⟨[[.slice (some (ar b3 0)) 1 1,.slice (some (ar b4 0)) 1 1],[.slice (some (ar b3 0)) 1 1,.slice (some (ar b4 0)) 1 1]],wB v,rfl,by simp,fun j x o=>?_⟩
 have i:j=0\/j=1:=by have:=(Mp.1 o).1;simp [smJ] at this;omega
 have h:x=([1],[1]):=by rcases i with rfl | rfl<;>simpa [smJ] using o.symm
 subst h
 exact ⟨_,_,_,_,by rcases i with rfl | rfl<;>rfl,⟨by decide,by decide,wB A,uO (by simp)⟩,⟨by decide,by decide,wB u,uO (by simp)⟩⟩
theorem qz (w:World):Calls prog 12 #[] w fun e h=>e=.returned (.bool true)/\aq w h:=by
 go_enter func12,ntmps12
 go_wp2_with fail
 have i:=JX (bZ [.cells #[MO 1,MO 1] 3,.cells #[.slice (some (ar w.heap.size 0)) 2 2,MO 1,MO 0,MO 0,MO 2,MO 2,MO 1,MO 0,MO 1,MO 1,MO 1,MO 1] 24,.cells #[MO 1] 2,.cells #[MO 1] 2,.cells #[.slice (some (ar (w.heap.size+1+1) 0)) 1 1,.slice (some (ar (w.heap.size+1+1+1) 0)) 1 1] 91,.cells #[.slice (some (ar (w.heap.size+1+1) 0)) 1 1,.slice (some (ar (w.heap.size+1+1+1) 0)) 1 1,.slice (some (ar (w.heap.size+1+1) 0)) 1 1,.slice (some (ar (w.heap.size+1+1+1) 0)) 1 1] 91,.cells #[MO 5,MO 6] 2] w 0 rfl) (b3:=w.heap.size+1+1) (b4:=w.heap.size+1+1+1) (b5:=w.heap.size+1+1+1+1+1) (b6:=w.heap.size+1+1+1+1+1+1) (bZ [.cells #[MO 1,MO 1] 3,.cells #[.slice (some (ar w.heap.size 0)) 2 2,MO 1,MO 0,MO 0,MO 2,MO 2,MO 1,MO 0,MO 1,MO 1,MO 1,MO 1] 24,.cells #[MO 1] 2,.cells #[MO 1] 2,.cells #[.slice (some (ar (w.heap.size+1+1) 0)) 1 1,.slice (some (ar (w.heap.size+1+1+1) 0)) 1 1] 91,.cells #[.slice (some (ar (w.heap.size+1+1) 0)) 1 1,.slice (some (ar (w.heap.size+1+1+1) 0)) 1 1,.slice (some (ar (w.heap.size+1+1) 0)) 1 1,.slice (some (ar (w.heap.size+1+1+1) 0)) 1 1] 91,.cells #[MO 5,MO 6] 2] w 2 rfl) (bZ [.cells #[MO 1,MO 1] 3,.cells #[.slice (some (ar w.heap.size 0)) 2 2,MO 1,MO 0,MO 0,MO 2,MO 2,MO 1,MO 0,MO 1,MO 1,MO 1,MO 1] 24,.cells #[MO 1] 2,.cells #[MO 1] 2,.cells #[.slice (some (ar (w.heap.size+1+1) 0)) 1 1,.slice (some (ar (w.heap.size+1+1+1) 0)) 1 1] 91,.cells #[.slice (some (ar (w.heap.size+1+1) 0)) 1 1,.slice (some (ar (w.heap.size+1+1+1) 0)) 1 1,.slice (some (ar (w.heap.size+1+1) 0)) 1 1,.slice (some (ar (w.heap.size+1+1+1) 0)) 1 1] 91,.cells #[MO 5,MO 6] 2] w 3 rfl) (bZ [.cells #[MO 1,MO 1] 3,.cells #[.slice (some (ar w.heap.size 0)) 2 2,MO 1,MO 0,MO 0,MO 2,MO 2,MO 1,MO 0,MO 1,MO 1,MO 1,MO 1] 24,.cells #[MO 1] 2,.cells #[MO 1] 2,.cells #[.slice (some (ar (w.heap.size+1+1) 0)) 1 1,.slice (some (ar (w.heap.size+1+1+1) 0)) 1 1] 91,.cells #[.slice (some (ar (w.heap.size+1+1) 0)) 1 1,.slice (some (ar (w.heap.size+1+1+1) 0)) 1 1,.slice (some (ar (w.heap.size+1+1) 0)) 1 1,.slice (some (ar (w.heap.size+1+1+1) 0)) 1 1] 91,.cells #[MO 5,MO 6] 2] w 5 rfl) (bZ [.cells #[MO 1,MO 1] 3,.cells #[.slice (some (ar w.heap.size 0)) 2 2,MO 1,MO 0,MO 0,MO 2,MO 2,MO 1,MO 0,MO 1,MO 1,MO 1,MO 1] 24,.cells #[MO 1] 2,.cells #[MO 1] 2,.cells #[.slice (some (ar (w.heap.size+1+1) 0)) 1 1,.slice (some (ar (w.heap.size+1+1+1) 0)) 1 1] 91,.cells #[.slice (some (ar (w.heap.size+1+1) 0)) 1 1,.slice (some (ar (w.heap.size+1+1+1) 0)) 1 1,.slice (some (ar (w.heap.size+1+1) 0)) 1 1,.slice (some (ar (w.heap.size+1+1+1) 0)) 1 1] 91,.cells #[MO 5,MO 6] 2] w 6 rfl)
 have hc:=tp (E:=fun _=>False) (some (ar w.heap.size 0)) 2 (some (ar (w.heap.size+1+1+1+1+1) 0)) 2 (some (ar (w.heap.size+1+1+1+1+1+1) 0)) 2 none 0 smJ (sL w [.cells #[MO 1,MO 1] 3,.cells #[.slice (some (ar w.heap.size 0)) 2 2,MO 1,MO 0,MO 0,MO 2,MO 2,MO 1,MO 0,MO 1,MO 1,MO 1,MO 1] 24,.cells #[MO 1] 2,.cells #[MO 1] 2,.cells #[.slice (some (ar (w.heap.size+1+1) 0)) 1 1,.slice (some (ar (w.heap.size+1+1+1) 0)) 1 1] 91,.cells #[.slice (some (ar (w.heap.size+1+1) 0)) 1 1,.slice (some (ar (w.heap.size+1+1+1) 0)) 1 1,.slice (some (ar (w.heap.size+1+1) 0)) 1 1,.slice (some (ar (w.heap.size+1+1+1) 0)) 1 1] 91,.cells #[MO 5,MO 6] 2]) i yA (fun _ e=>e.elim)
 have hb:=eP [.cells #[MO 1,MO 1] 3,.cells #[.slice (some (ar w.heap.size 0)) 2 2,MO 1,MO 0,MO 0,MO 2,MO 2,MO 1,MO 0,MO 1,MO 1,MO 1,MO 1] 24,.cells #[MO 1] 2,.cells #[MO 1] 2,.cells #[.slice (some (ar (w.heap.size+1+1) 0)) 1 1,.slice (some (ar (w.heap.size+1+1+1) 0)) 1 1] 91,.cells #[.slice (some (ar (w.heap.size+1+1) 0)) 1 1,.slice (some (ar (w.heap.size+1+1+1) 0)) 1 1,.slice (some (ar (w.heap.size+1+1) 0)) 1 1,.slice (some (ar (w.heap.size+1+1+1) 0)) 1 1] 91,.cells #[MO 5,MO 6] 2] w
 refine Calls.mono hc ?_
 rintro e p hn
 obtain ⟨X,rfl,hw, -,D⟩:=hn.win
 have J:=hb.trans (D.mono hb.size)
 have L:=fun h (q:aq p h)=>(hw.below q).done yA (Bo:=true) ⟨fun _=>IO,fun _=>rfl⟩
 have H:=fun h (q:aq p h)=>(hw.below q).trajIn yA (x:=1) (by decide)
 obtain ⟨Q,N,C⟩:=af L H J;clear i hc hb hn hw D J L H
 go_wp2_with fail
 refine (Q.o p (br p)).mono ?_
 rintro e T ⟨rfl,I⟩
 have u:=aa I;clear I
 go_wp2_with fail
 refine (N.o _ u.o).mono ?_
 rintro e R ⟨v,rfl,B,y⟩
 obtain ⟨A,c,rfl, -⟩:=B.form
 have O:=aa (C.o.trans ((u.o.trans (y.mono u.o.size)).mono C.o.size))
 have h1:((kK smJ).m 1).rc.length=1:=rfl
 rw [h1]
 clear y B
 go_wp2_with fail
 go_ret
 exact ⟨rfl,O.o⟩
def Ls (i:Inp):Prop:=IC i/\(dV i=0->i.cfg.workers<=6/\i.cfg.steps<=5/\i.start.length<=40)
theorem yU (A:Option Addr) (c:Nat) (D:Option Addr) (I:Nat) (T:Option Addr) (x:Nat) (R:Option Addr) (H:Nat) (i:Inp) (w:World) (h:jK w A c D T x R i):
  Calls prog 11 #[.agg (aO A c D I T x R H i)] w (sR (Ls i) w):=by
 obtain ⟨v,y⟩:∃v,w.alloc (.cells (aO A c D I T x R H i) 29)=v:=⟨_,rfl⟩
 have O:v.heap[w.heap.size]?=some (.cells (aO A c D I T x R H i) 29 (0,0)):=by rw [<-y];exact LP w _
 have B:aq w v:=by rw [<-y];exact (br w).alloc (LO _) _
 have hf:=yV A c D I T x R H i v (h.below B)
 have U:=fun (hs:km i) p (q:aq v p)=>jr A c D I T x R H i p (((h.rd hs).below B).below q)
 have t4:∀p,aq v p->p.cell? (ar w.heap.size 4)=some (MO i.cfg.workers):=fun p q=>LQ p w.heap.size 4 _ _ _ (sb O p q)
 have t7:∀p,aq v p->p.cell? (ar w.heap.size 7)=some (MO i.cfg.steps):=fun p q=>LQ p w.heap.size 7 _ _ _ (sb O p q)
 have a1:∀p,aq v p->p.cell? (ar w.heap.size 13)=some (.slice T i.start.length x):=fun p q=>LQ p w.heap.size 13 _ _ _ (sb O p q)
 unfold sR Ls
 unfold sR at hf
 obtain ⟨N,L,Hf,a0,G0⟩:=ah y B hf U O
 have q0:=br v
 clear y O B hf U h
 go_enter func11,ntmps11
 go_wp2_with (refine aS (aO A c D I T x R H i) (b:=w.heap.size) (by rw [N.o];exact G0.o) ib rfl rfl rfl rfl ?_)
 rw [N.o]
 refine Hf.o.mono ?_
 rintro e w1 ⟨⟨b,rfl,hb⟩,V⟩
 have Q:=bt q0 V
 obtain ⟨J,Z⟩:=ae (L.o.trans (V.mono L.o.size)) hb;clear hb V q0
 cases b with
 | false=>
  go_wp2_with fail
  go_ret
  exact ⟨⟨false,rfl,fun h=>by cases h⟩,J.o⟩
 | true=>
  go_wp2_with (first | (refine aS (aO A c D I T x R H i) (sb G0.o _ Q) ib rfl rfl rfl rfl ?_) | (refine Az (aO A c D I T x R H i) (sb G0.o _ Q) ib rfl rfl rfl rfl ?_))
  refine (a0.o (Z.o (by trivial)).1 w1 Q).mono ?_
  rintro e w2 ⟨rfl,k2⟩
  have q2:=bt Q k2
  have u:=aa (J.o.trans (k2.mono J.o.size));clear k2 Q
  obtain ⟨C,Y⟩:∃C,dV i=C:=⟨_,rfl⟩
  rw [Y]
  have HC:=aa Y;clear Y
  by_cases h0:C=0
  ·subst h0
   by_cases h6:i.cfg.workers<=6
   ·by_cases h5:i.cfg.steps<=5
    ·by_cases h4:i.start.length<=40
     ·go_wp2_with fail
      go_ret
      exact ⟨⟨_,rfl,fun _=>⟨Z.o (by trivial),fun _=>⟨h6,h5,h4⟩⟩⟩,u.o⟩
     ·go_wp2_with fail
      go_ret
      exact ⟨⟨false,by simp;omega,fun h=>by cases h⟩,u.o⟩
    ·go_wp2_with fail
     go_ret
     exact ⟨.inl rfl,u.o⟩
   ·go_wp2_with fail
    go_ret
    exact ⟨.inl rfl,u.o⟩
  ·go_wp2_with fail
   go_ret
   exact ⟨⟨true,rfl,fun _=>⟨Z.o (by trivial),fun h=>absurd (HC.o.symm.trans h) h0⟩⟩,u.o⟩
end Go.Proofs.YtgmajkppbhiopaaGreat
namespace Go.Proofs.YtgmajkppbhiopaaGreat
open Go.RowKit Go.ChangeShapes Go.WideShapes Go.ChangeAt
open Tryz
theorem FC {H:Type} {i:TypeId×Value->H} {W:World} {base:Nat} {v:Value} {d:DataW H} {p:List MemPlace} (o:Value.okWide prog W .any base 22 v) (h:DataW.Trod i prog W 0 (fun _=>true) true 22 v d p) (z:j8 prog 22 d):
  ∃(A:Option Addr) (l:List Int) (c:Nat),v=.slice A l.length c/\KN W A l c:=by
 obtain ⟨a,C,cap,rfl⟩:=okWide_slice underlying22 o
 obtain ⟨l,⟨A,c,e,h1,u,B,x,y⟩,_⟩:=qs rI h z
 simp [Value.cells] at e
 obtain ⟨rfl,rfl,rfl⟩:=e
 exact ⟨_,l,_,rfl,⟨h1,u,B,x,uN y⟩⟩
def m6 (h:Option Addr) (o:List Int) (Y:Nat) (vs:Array Value) (i:Inp) (M0:WSt) (u:World):Prop:=Rd u h (aA .i64 o)/\u.heap[Y]?=some (.cells vs 39 (0,0))/\RWm u vs i M0
theorem m6.stab {p:Option Addr} {B:List Int} {Y:Nat} {vs:Array Value} {i:Inp} {M0:WSt}:JF (m6 p B Y vs i M0):=by
 rintro u D he ⟨h1,x,h⟩
 refine ⟨aV h1 he,?_,h.ext he⟩
 obtain ⟨⟨mv,C,⟨⟨A,cm,o,v,rfl, -⟩, -, -⟩, -, -⟩, -⟩:=h
 exact Jo (y:=.slice A (aB i).W cm) (c:=[.slice o (aB i).W v,MO (M0.sum i:Nat)]) x he
theorem Cq {i:Inp} {M:WSt} {l:List Int} {k:Nat} (hk:k<l.length):(pF i M (l.take (k+1))).1=(pkZ i (pF i M (l.take k)).1 (nth l k)).1:=by
 rw [List.take_add_one,Mq hk,Option.toList_some,Cr,dE _ _ hk]
end Go.Proofs.YtgmajkppbhiopaaGreat
