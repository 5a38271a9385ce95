/- No condition. -/
import Derived.Test.YtgmajkppbhiopaaGreatA00
import Derived.Test.YtgmajkppbhiopaaGreatA12
import Derived.Test.YtgmajkppbhiopaaGreatA13
import Derived.Test.YtgmajkppbhiopaaGreatA02
import Derived.Test.YtgmajkppbhiopaaGreatProg
import Derived.Test.YtgmajkppbhiopaaGreatA01
import Derived.BigQuiet
import Derived.Deep.QuietTactic
import Derived.Test.YtgmajkppbhiopaaGreatA09
import Derived.Test.YtgmajkppbhiopaaGreatA11
import Derived.Test.YtgmajkppbhiopaaGreatA10
import Derived.Test.YtgmajkppbhiopaaGreatA07
import Derived.IntWalk
import Derived.Deep.RegionHeld3
import Derived.Test.YtgmajkppbhiopaaGreatA08
import Derived.Test.YtgmajkppbhiopaaGreatA06
import Derived.Laws.CopyOwn
set_option linter.unusedSimpArgs false
set_option linter.unusedVariables false
set_option maxRecDepth 100000
set_option maxHeartbeats 4000000
namespace Go.Proofs.YtgmajkppbhiopaaGreat
open Go.RowKit
noncomputable def dz (k:Cfg) (n:Int):Bool:=decide (aM k=0)&&(decide (1≤n)&&decide (n≤1048576))
theorem kh (A:Option Addr) (c:Nat) (k:Cfg) (n:Int) (w:World) (h:fI w A c k):
  Calls Tryz.prog 73 #[.agg #[.slice A k.sizes.length c,FQ k.shift,FQ k.rate,FQ k.mom,FQ k.workers,FQ k.batch,FQ k.micros,FQ k.steps,FQ k.bucket,FQ k.chunk,FQ k.window,FQ k.cap,FQ n]] w fun e N=>e=.returned (.bool (dz k n))∧Below w.heap.size w N:=by
 obtain ⟨H,y⟩:∃H,w.alloc (.cells #[.slice A k.sizes.length c,FQ k.shift,FQ k.rate,FQ k.mom,FQ k.workers,FQ k.batch,FQ k.micros,FQ k.steps,FQ k.bucket,FQ k.chunk,FQ k.window,FQ k.cap,FQ n] 64)=H:=⟨_,rfl⟩
 have O:H.heap[w.heap.size]?=some (.cells #[.slice A k.sizes.length c,FQ k.shift,FQ k.rate,FQ k.mom,FQ k.workers,FQ k.batch,FQ k.micros,FQ k.steps,FQ k.bucket,FQ k.chunk,FQ k.window,FQ k.cap,FQ n] 64 (0,0)):=by rw [←y];exact EN w _
 have D:Below w.heap.size w H:=by rw [←y];exact (br w).alloc (EM _) _
 have hc:=kj A c k H (h.below D)
 have t0:=fun N q=>oH (sb O N q)
 obtain ⟨x,i,I⟩:=ae y D hc
 have J:=br H
 clear y O D hc h
 unfold dz
 obtain ⟨u,v⟩:∃u,aM k=u:=⟨_,rfl⟩
 rw [v] at I ⊢
 clear v
 by_cases Q:u=0
 ·by_cases R:1≤n
  ·by_cases T:n≤1048576
   ·go_enter Tryz.func73,Tryz.ntmps73
    go_wp2_with fail
    rw [x.out]
    refine I.out.mono ?_
    rintro e L ⟨rfl,o⟩
    have C:=bt J o
    have B:=aa (i.out.trans (C.mono i.out.size));clear o
    go_wp2_with fail
    go_ret
    exact ⟨by simp [Q,R,T],B.out⟩
   ·go_enter Tryz.func73,Tryz.ntmps73
    go_wp2_with fail
    rw [x.out]
    refine I.out.mono ?_
    rintro e L ⟨rfl,o⟩
    have C:=bt J o
    have B:=aa (i.out.trans (C.mono i.out.size));clear o
    go_wp2_with fail
    go_ret
    exact ⟨by rw [show decide (n≤1048576)=false from FK (by omega)];simp,B.out⟩
  ·go_enter Tryz.func73,Tryz.ntmps73
   go_wp2_with fail
   rw [x.out]
   refine I.out.mono ?_
   rintro e L ⟨rfl,o⟩
   have C:=bt J o
   have B:=aa (i.out.trans (C.mono i.out.size));clear o
   go_wp2_with fail
   go_ret
   exact ⟨by rw [show decide (1≤n)=false from FK (by omega)];simp,B.out⟩
 ·go_enter Tryz.func73,Tryz.ntmps73
  go_wp2_with fail
  rw [x.out]
  refine I.out.mono ?_
  rintro e L ⟨rfl,o⟩
  have C:=bt J o
  have B:=aa (i.out.trans (C.mono i.out.size));clear o
  go_wp2_with fail
  go_ret
  exact ⟨by simp [Q],B.out⟩
def oe (k:Cfg) (n:Int) (r:Bool):Prop:=r=true→n≤60∧k.workers≤8∧k.micros≤20∧k.steps≤12
def EG (q:Prop) (w:World) (e:Ending) (h:World):Prop:=(∃b:Bool,e=.returned (.bool b)∧(b=true→q))∧Below w.heap.size w h
theorem ub (A:Option Addr) (c:Nat) (k:Cfg) (n:Int) (w:World) (h:fI w A c k):
  Calls Tryz.prog 75 #[.agg #[.slice A k.sizes.length c,FQ k.shift,FQ k.rate,FQ k.mom,FQ k.workers,FQ k.batch,FQ k.micros,FQ k.steps,FQ k.bucket,FQ k.chunk,FQ k.window,FQ k.cap,FQ n]] w (EG (oe k n (dz k n)) w):=by
 obtain ⟨D,x⟩:∃D,w.alloc (.cells #[.slice A k.sizes.length c,FQ k.shift,FQ k.rate,FQ k.mom,FQ k.workers,FQ k.batch,FQ k.micros,FQ k.steps,FQ k.bucket,FQ k.chunk,FQ k.window,FQ k.cap,FQ n] 64)=D:=⟨_,rfl⟩
 have R:D.heap[w.heap.size]?=some (.cells #[.slice A k.sizes.length c,FQ k.shift,FQ k.rate,FQ k.mom,FQ k.workers,FQ k.batch,FQ k.micros,FQ k.steps,FQ k.bucket,FQ k.chunk,FQ k.window,FQ k.cap,FQ n] 64 (0,0)):=by rw [←x];exact EN w _
 have C:Below w.heap.size w D:=by rw [←x];exact (br w).alloc (EM _) _
 have hc:=kh A c k n D (h.below C)
 have t0:=fun Y q=>oH (sb R Y q)
 obtain ⟨o,i,B⟩:=ae x C hc
 have H:=br D
 clear x R C hc h
 obtain ⟨r,hr⟩:∃r,dz k n=r:=⟨_,rfl⟩
 rw [hr] at B ⊢
 clear hr
 obtain ⟨L,U⟩:∃L,k.sizes.length=L:=⟨_,rfl⟩
 rw [U] at o B t0 ⊢
 clear U
 by_cases hl:(L:Int)≤40
 ·have N:¬(40<(L:Int)):=by omega
  cases r with
  | false=>
   go_enter Tryz.func75,Tryz.ntmps75
   go_wp2_with fail
   rw [o.out]
   refine B.out.mono ?_
   rintro e J ⟨rfl,u⟩
   have y:=bt H u
   have v:=aa (i.out.trans (y.mono i.out.size));clear u
   go_wp2_with fail
   go_ret
   exact ⟨⟨_,rfl,fun _ h=>by cases h⟩,v.out⟩
  | true=>
   have I:∀b:Bool,(b=true→n≤60∧k.workers≤8∧k.micros≤20∧k.steps≤12)→b=true→oe k n true:=fun b hb O _=>hb O
   have Fin:=aa I;clear I
   by_cases T:n≤60
   ·by_cases Q:k.workers≤8
    ·by_cases V:k.micros≤20
     ·go_enter Tryz.func75,Tryz.ntmps75
      go_wp2_with fail
      rw [o.out]
      refine B.out.mono ?_
      rintro e J ⟨rfl,u⟩
      have y:=bt H u
      have v:=aa (i.out.trans (y.mono i.out.size));clear u
      go_wp2_with fail
      go_ret
      exact ⟨⟨_,rfl,Fin.out _ (fun hb=>⟨T,Q,V,by simpa using hb⟩)⟩,v.out⟩
     ·go_enter Tryz.func75,Tryz.ntmps75
      go_wp2_with fail
      rw [o.out]
      refine B.out.mono ?_
      rintro e J ⟨rfl,u⟩
      have y:=bt H u
      have v:=aa (i.out.trans (y.mono i.out.size));clear u
      go_wp2_with fail
      go_ret
      exact ⟨⟨_,rfl,fun hb=>by simp [V] at hb⟩,v.out⟩
    ·go_enter Tryz.func75,Tryz.ntmps75
     go_wp2_with fail
     rw [o.out]
     refine B.out.mono ?_
     rintro e J ⟨rfl,u⟩
     have y:=bt H u
     have v:=aa (i.out.trans (y.mono i.out.size));clear u
     go_wp2_with fail
     go_ret
     exact ⟨⟨_,rfl,fun hb=>by simp [Q] at hb⟩,v.out⟩
   ·go_enter Tryz.func75,Tryz.ntmps75
    go_wp2_with fail
    rw [o.out]
    refine B.out.mono ?_
    rintro e J ⟨rfl,u⟩
    have y:=bt H u
    have v:=aa (i.out.trans (y.mono i.out.size));clear u
    go_wp2_with fail
    go_ret
    exact ⟨⟨_,rfl,fun hb=>by simp [T] at hb⟩,v.out⟩
 ·have N:40<(L:Int):=by omega
  go_enter Tryz.func75,Tryz.ntmps75
  go_wp2_with fail
  rw [o.out]
  try go_wp2_with fail
  go_ret
  exact ⟨⟨_,rfl,fun hb=>by simp at hb⟩,i.out⟩
theorem lq {p:Pln} (h:aT p) (x st:Nat):(aw p x st).length≤8000000:=by
 have i:=jl h x st (EM p.grps.length)
 have o:=h.grps
 have:(aw p x st).length=(cy p x st p.grps.length).length+1:=by simp [aw,cy];omega
 omega
theorem zI (p:Pln) (h:Nat) (U a1 V L N i:Value) (w:World) (Z:aT p) (a8:p.bu≤1048576) (a6:p.wi≤1048576) (b1:h≤12):
  Calls Tryz.prog 28 #[.agg #[U,a1,V,L,FQ (p.W:Nat),N,FQ (p.mi:Nat),FQ (h:Nat),FQ (p.bu:Nat),FQ (p.ck:Nat),FQ (p.wi:Nat),i,FQ (p.n:Nat)]] w fun e u=>e=.returned (FQ ((eD p*h:Nat):Int))∧Below w.heap.size w u:=by
 obtain ⟨D,B⟩:∃D,w.alloc (.cells #[U,a1,V,L,FQ (p.W:Nat),N,FQ (p.mi:Nat),FQ (h:Nat),FQ (p.bu:Nat),FQ (p.ck:Nat),FQ (p.wi:Nat),i,FQ (p.n:Nat)] 64)=D:=⟨_,rfl⟩
 have g0:D.heap[w.heap.size]?=some (.cells #[U,a1,V,L,FQ (p.W:Nat),N,FQ (p.mi:Nat),FQ (h:Nat),FQ (p.bu:Nat),FQ (p.ck:Nat),FQ (p.wi:Nat),i,FQ (p.n:Nat)] 64 (0,0)):=by rw [←B];exact EN w _
 have Q:Below w.heap.size w D:=by rw [←B];exact (br w).alloc (EM _) _
 have t0:=fun u q=>oH (sb g0 u q)
 have C:=vu Z 0
 have b6:=Z.W8
 have R:=fun x=>lq Z x 0
 have J:∀x u,x<p.W→Calls Tryz.prog 67 #[.agg #[U,a1,V,L,FQ (p.W:Nat),N,FQ (p.mi:Nat),FQ (h:Nat),FQ (p.bu:Nat),FQ (p.ck:Nat),FQ (p.wi:Nat),i,FQ (p.n:Nat)],FQ (x:Nat),FQ 0] u fun e T=>∃v,e=.returned v∧T.ownsRow u.heap.size 191 12 v (aw p x 0).length (bJ (aw p x 0))∧Below u.heap.size u T:=fun x u hx=>tV p 0 x U a1 V L N (FQ (h:Nat)) i u Z a8 a6 hx
 obtain ⟨b2,H,I,ad,b3⟩:=ag B Q C R J
 have q0:=br D
 clear B g0 Q C R J
 go_enter Tryz.func28,Tryz.ntmps28
 go_wp2_with fail
 rw [b2.out]
 go_loopw [3,4] (fun n y wr=>∃k:Nat,k≤p.W∧y=FQ k∧n=FQ (aH k (fun x=>(aw p x 0).length):Nat)∧aH k (fun x=>(aw p x 0).length)≤k*8000000∧Below D.heap.size D wr) (fun _ y _=>p.W-(intOf y).toNat)
 case atStart=>exact ⟨0,EQ _,rfl,by simp [aH],by simp [aH],q0⟩
 case round=>
  obtain ⟨k,hk,rfl,rfl,A,q⟩:=hrel
  by_cases a4:k<p.W
  ·have a7:(k:Int)<p.W:=by omega
   have b5:IntKind.i64.wrap ((k:Int)+1)=((k+1:Nat):Int):=by rw [ER _ (by omega)];push_cast;rfl
   have o:=cJ k (fun x=>(aw p x 0).length)
   have hl:=ad.out k
   have hc:=b3.out k wr a4
   obtain ⟨s,hs⟩:∃s,aH k (fun x=>(aw p x 0).length)=s:=⟨_,rfl⟩
   rw [hs] at A o ⊢
   try dsimp only at o
   obtain ⟨m,hm⟩:∃m,(aw p k 0).length=m:=⟨_,rfl⟩
   rw [hm] at hl hc o
   obtain ⟨Hc,Y⟩:=ab hc o;clear hc o hs hm
   go_wp2_with fail
   refine Hc.out.mono ?_
   rintro e w2 ⟨v2,rfl,o2,k2⟩
   obtain ⟨A2,c2,rfl,_⟩:=av o2
   have Q2:=aa (bt q k2);clear o2 k2 q
   go_wp2_with fail
   go_roundw
   case rel=>exact ⟨k+1,by omega,by go_num,by rw [Y.out];push_cast;rfl,by rw [Y.out];omega,Q2.out⟩
   case measure=>simp [intOf];omega
  ·have a7:¬((k:Int)<p.W):=by omega
   have O:k=p.W:=by omega
   rw [O] at A ⊢
   rw [I.out] at A ⊢
   obtain ⟨t,ht⟩:∃t,eD p=t:=⟨_,rfl⟩
   rw [ht] at A ⊢
   have b0:t≤64000000:=by omega
   obtain ⟨y,hy⟩:∃y,t*h=y:=⟨_,rfl⟩
   have Hy:Hid (eD p*h=y):=Lib.hid (by rw [ht];exact hy)
   have h5:(t:Int)*(h:Int)=(y:Int):=by rw [←hy];push_cast;rfl
   have b4:y≤64000000*12:=by rw [←hy];exact Nat.mul_le_mul b0 b1
   have w5:IntKind.i64.wrap (y:Int)=y:=ER _ (by omega)
   have HQ:=aa (H.out.trans (q.mono H.out.size));clear hy ht O
   go_wp2_with fail
   go_ret
   exact ⟨aF (by rw [←Hy.out];push_cast;rfl),HQ.out⟩
def vq (i:Inp):Prop:=ie i∧(cF i=0→oe i.cfg i.start.length (dz i.cfg i.start.length)∧i.cfg.steps≤6∧i.data.length≤40)
theorem vq.sm {i:Inp} (h:vq i) (u:cF i=0):bP i:=by
 have o:=qD.1 u
 obtain ⟨D,hr⟩:=h
 obtain ⟨B,A,C⟩:=hr u
 have hc:=dN.2 o.c
 have v:=qK o.c.z
 have he:=o.s
 have hn:1≤i.start.length:=by rw [he];exact v
 have hm:=D.2.1
 obtain ⟨H,x,y,_⟩:=B (by simp only [dz,hc,Bool.and_eq_true,FM];exact ⟨trivial,by omega,by omega⟩)
 exact ⟨o,by omega,x,y,A,C⟩
theorem ua (A:Option Addr) (c:Nat) (D:Option Addr) (L:Nat) (T:Option Addr) (I:Nat) (R:Option Addr) (J:Nat) (i:Inp) (w:World) (h:gF w A c D T I R i):
  Calls Tryz.prog 42 #[.agg (aP A c D L T I R J i)] w (oq (vq i) w):=by
 obtain ⟨u,v⟩:∃u,w.alloc (.cells (aP A c D L T I R J i) 29)=u:=⟨_,rfl⟩
 have g0:u.heap[w.heap.size]?=some (.cells (aP A c D L T I R J i) 29 (0,0)):=by rw [←v];exact EN w _
 have o:Below w.heap.size w u:=by rw [←v];exact (br w).alloc (EM _) _
 have hf:=uT A c D L T I R J i u (h.below o)
 have V:=fun (hs:ie i) x (q:Below u.heap.size u x)=>jO A c D L T I R J i x (((h.rd hs).below o).below q)
 have O:=lU A i.cfg.sizes.length c i.cfg.shift i.cfg.rate i.cfg.mom i.cfg.workers i.cfg.batch i.cfg.micros i.cfg.steps i.cfg.bucket i.cfg.chunk i.cfg.window i.cfg.cap D i.data.length L T i.start.length I R i.draws.length J
 have U:=fun x (q:Below u.heap.size u x)=>ub A c i.cfg i.start.length x ((h.c.below o).below q)
 unfold oq vq
 dsimp only [aP] at *
 have t0:=fun x q=>hZ (sb g0 x q)
 obtain ⟨a1,N,Hf,a4,a3,a0⟩:=ah v o hf V O U
 have q0:=br u
 clear v g0 o hf V O U h
 go_enter Tryz.func42,Tryz.ntmps42
 go_wp2_with fail
 rw [a1.out]
 refine Hf.out.mono ?_
 rintro e w1 ⟨⟨b,rfl,hb⟩,Z⟩
 have q1:=bt q0 Z
 obtain ⟨y,Hb⟩:=ab (N.out.trans (Z.mono N.out.size)) hb;clear hb Z q0
 cases b with
 | false=>
  go_wp2_with fail
  go_ret
  exact ⟨⟨false,rfl,fun h=>by cases h⟩,y.out⟩
 | true=>
  go_wp2_with fail
  refine (a4.out (Hb.out (by trivial)) w1 q1).mono ?_
  rintro e w2 ⟨rfl,k2⟩
  have q2:=bt q1 k2
  have B:=aa (y.out.trans (k2.mono y.out.size));clear k2 q1
  obtain ⟨C,hC⟩:∃C,cF i=C:=⟨_,rfl⟩
  rw [hC]
  have HC:=aa hC;clear hC
  by_cases h0:C=0
  ·subst h0
   go_wp2_with fail
   refine (a3.out w2).mono ?_
   rintro e w3 ⟨rfl,k3⟩
   have q3:=bt q2 k3
   have Q:=aa (B.out.trans (k3.mono B.out.size));clear k3 q2
   go_wp2_with fail
   refine (a0.out w3 q3).mono ?_
   rintro e w4 ⟨⟨b2,rfl,Y⟩,k4⟩
   have q4:=bt q3 k4
   obtain ⟨H,a2⟩:=ab (Q.out.trans (k4.mono Q.out.size)) Y;clear Y k4 q3
   cases b2 with
   | false=>
    go_wp2_with fail
    go_ret
    exact ⟨⟨false,rfl,fun h=>by cases h⟩,H.out⟩
   | true=>
    by_cases h6:i.cfg.steps≤6
    ·go_wp2_with fail
     go_ret
     exact ⟨⟨_,rfl,fun h=>⟨Hb.out (by trivial),fun _=>⟨a2.out (by trivial),h6,by simp at h;omega⟩⟩⟩,H.out⟩
    ·go_wp2_with fail
     go_ret
     exact ⟨.inl rfl,H.out⟩
  ·go_wp2_with fail
   go_ret
   exact ⟨⟨true,rfl,fun _=>⟨Hb.out (by trivial),fun h=>absurd (HC.out.symm.trans h) h0⟩⟩,B.out⟩
theorem jM:dt Tryz.prog 29 15:=⟨⟨_,Tryz.underlying29,rfl⟩,by kernel_rfl⟩
theorem ge (w:World) (X Z:Array Value) (t u:TypeId):∃h W1,w.alloc (.cells X t)=h∧h.alloc (.cells Z u)=W1∧W1.heap[w.heap.size]?=some (.cells X t (0,0))∧W1.heap[w.heap.size+1]?=some (.cells Z u (0,0))∧Below w.heap.size w W1∧W1.heap.size=w.heap.size+1+1:=by
 refine ⟨_,_,rfl,rfl,?_,?_,?_,?_⟩
 ·exact sb (EN w _) _ ((br _).alloc (EM _) _)
 ·have:=EN (w.alloc (.cells X t)) (.cells Z u)
  rwa [show (w.alloc (.cells X t)).heap.size=w.heap.size+1 from Array.size_push _] at this
 ·exact ((br w).alloc (EM _) _).alloc (by simp) _
 ·simp
theorem CJ (n:Nat):W64 (List.replicate n 0):=by
 intro k hk
 rw [cW _ _ hk];simp
theorem DR (l:List Itm):∀u∈bJ l,u.oneCell'=true:=by
 intro u i
 unfold bJ at i
 obtain ⟨x,_,h⟩:=List.mem_flatMap.1 i
 obtain ⟨k,s,n,a⟩:=x
 cases a<;>simp only [aS,Cq,aE,List.mem_cons,List.not_mem_nil,or_false] at h<;>(repeat (first | (rcases h with rfl | h; · rfl) | (subst h;rfl)))
theorem vX (y:Itm):∀u∈aS y,u.oneCell'=true:=fun u h=>DR [y] u (by simpa [bJ] using h)
theorem C9 (y:Itm):∃(D h u:Int) (x v:Bool) (o i H A C B I:Int),aS y=[FQ D,FQ h,FQ u,.bool x,.bool v,FQ o,FQ i,FQ H,FQ A,FQ C,FQ B,FQ I]:=by
 obtain ⟨k,s,n,a⟩:=y
 cases a with
 | none=>exact ⟨_,_,_,_,_,_,_,_,_,_,_,_,rfl⟩
 | some a=>exact ⟨_,_,_,_,_,_,_,_,_,_,_,_,rfl⟩
theorem vF:dt Tryz.prog 152 12:=⟨⟨_,Tryz.underlying152,rfl⟩,by kernel_rfl⟩
theorem vT {H:Nat→Prop} {w:World} {b x:Nat} {i:Inp} {a:MAd} {m:Mst} (h:aC H w b i x a m) (hn:(bf i x m.st).length≤m.nx) (u v:Value):
  Calls Tryz.prog 216 #[.pointer (some ⟨b,0,none⟩),u,v] w fun e B=>e=.returned (FQ 13)∧Below w.heap.size w B:=by
 have A:=aa (vR h hn);clear h hn
 go_enter Tryz.func216,Tryz.ntmps216
 go_wp2_with fail
 refine A.out.mono ?_
 rintro e C ⟨rfl,o⟩
 have y:=aa (o.alloc o.size (.cells FU 152));clear o
 go_wp2_with fail
 go_ret
 exact ⟨rfl,y.out⟩
theorem nZ {w:World} {b:Nat} {v A B:Value} {t:TypeId} (i u o:Value) (h:w.heap[b]?=some (.cells #[v,A,B] t (0,0))):
  (((w.setCell ⟨b,0,none⟩ i).setCell ⟨b,1,none⟩ u).setCell ⟨b,2,none⟩ o).heap[b]?=some (.cells #[i,u,o] t (0,0)):=by
 have y:=FN w b 0 _ _ i h
 have x:=FN _ b 1 _ _ u y
 exact FN _ b 2 _ _ o x
theorem lA {w:World} {b:Nat} (h o u:Value):Keep (fun i=>i=b) w (((w.setCell ⟨b,0,none⟩ h).setCell ⟨b,1,none⟩ o).setCell ⟨b,2,none⟩ u):=
 Keep.setCell (S:=fun i=>i=b) (Keep.setCell (S:=fun i=>i=b) (Keep.setCell (S:=fun i=>i=b) (Keep.refl _ w) ⟨b,0,none⟩ (.inr rfl) h) ⟨b,1,none⟩ (.inr rfl) o) ⟨b,2,none⟩ (.inr rfl) u
theorem AS (r c:Nat) (w:World) (hr:1≤r∧r≤1048576) (hc:1≤c∧c≤1048576) (hm:r*c≤1048576):
  Calls Tryz.prog 258 #[FQ r,FQ c] w fun e x=>∃A,e=.returned (.agg #[FQ r,FQ c,.slice A (r*c) (r*c)])∧x.ownsRow w.heap.size 2 1 (.slice A (r*c) (r*c)) (r*c) (ar .i64 (List.replicate (r*c) 0))∧Below w.heap.size w x:=by
 have e1:(r:Int)*(c:Int)=((r*c:Nat):Int):=(Int.natCast_mul r c).symm
 have L:=fun x=>oZ r c x ⟨by omega,by omega⟩ ⟨by omega,by omega⟩
 obtain ⟨p,I⟩:∃p,r*c=p:=⟨_,rfl⟩
 rw [I] at e1 hm ⊢
 clear I
 have u:(8:Nat)*p≤281474976710656:=by omega
 obtain ⟨C,Q⟩:=ab u L;clear u L
 go_enter Tryz.func258,Tryz.ntmps258
 go_wp2_with fail
 refine (Q.out _).mono ?_
 rintro e w1 ⟨rfl,B⟩
 subst B
 go_wp2_with (at_make;refine oQ iV _ rfl (.tmp 20) (.tmp 20) rfl rfl p rfl rfl C.out (by unfold maxLen;omega) ?_)
 intro D i hb
 rw [gj] at i
 have h:=(hb.block w.heap.size (by simp)).trans (EN w _)
 obtain ⟨⟨T,O,r2⟩,V⟩:=bx3 h
 have Z:w.heap.size<D.heap.size:=EL h
 obtain ⟨HO,R,Y⟩:=ae i hb h;clear i hb h
 go_wp2_with fail
 have J:=nZ (FQ r) (FQ c) (.slice (some ⟨w.heap.size+1,0,none⟩) p p) Y.out
 have y:=lA (w:=D) (b:=w.heap.size) (FQ r) (FQ c) (.slice (some ⟨w.heap.size+1,0,none⟩) p p)
 obtain ⟨H,o⟩:∃H,H=(((D.setCell ⟨w.heap.size,0,none⟩ (FQ r)).setCell ⟨w.heap.size,1,none⟩ (FQ c)).setCell ⟨w.heap.size,2,none⟩ (.slice (some ⟨w.heap.size+1,0,none⟩) p p)):=⟨_,rfl⟩
 rw [←o] at J y ⊢
 clear o T O r2 V
 obtain ⟨⟨N,U,q2⟩,qf⟩:=bx3 J
 refine E7 (v:=.agg #[FQ r,FQ c,.slice (some ⟨w.heap.size+1,0,none⟩) p p]) (by simp [results,Tryz.results258,go_sem,N,U,q2]) rfl ⟨_,rfl,?_,?_⟩
 ·refine aA (base:=w.heap.size+1) (y.own HO.out (fun k hk e=>?_)) (by omega)
  simp [Value.ownBlock] at hk
  omega
 ·exact (Below.trans ((EP _ w).alloc (EM _) _) (R.out.mono (by simp))).trans (y.toBelow (by omega) (fun k hk=>by omega))
end Go.Proofs.YtgmajkppbhiopaaGreat
namespace Go.Proofs.YtgmajkppbhiopaaGreat
open Go.RowKit Go.Shelf
attribute [local go_sem] Oper.semAt_some
def Ee (r c:Nat) (o xs:List Int) (A B:Option Addr) (h d e:Nat) (q:Int) (w:World) (G N M:Nat) (i:List (Fin r)) (W:World):Prop:=
 (W.ownsRow w.heap.size 2 1 (.slice (some ⟨G,0,none⟩) h h) h (ar .i64 (jB r c o xs q (i.map (·.1)) 0 0))∧Boxed W w.heap.size 139 (.slice A r d)∧Boxed W (w.heap.size+1) 139 (.slice B c e)∧Boxed W (w.heap.size+1+1) 3 (FQ q)∧
  W.heap[w.heap.size+1+1+1]?=some (.cells #[FQ 0,FQ 0,FR] 354 (0,0))∧W.heap[N]?=some (.cells #[FQ r,FQ c,.slice (some ⟨G,0,none⟩) h h] 354 (0,0))∧
  W.heap[M]?=some (.cells #[FQ r,FQ c,.slice (some ⟨G,0,none⟩) h h] 354 (0,0)))∧Below w.heap.size w W
theorem AA (r c:Nat) (o xs:List Int) (A B:Option Addr) (J d e:Nat) (q:Int) (w:World) (G N M K:Nat) (H:w.heap.size≤K):OwnFrom K (Ee r c o xs A B J d e q w G N M):=by
 intro s W Q row O h hr
 obtain ⟨⟨y,v,L,x,D,C,u⟩,i⟩:=O
 have I:=ownFrom_below (β:=Unit) (EM _) H () W Q row i h hr
 exact ⟨⟨rF y h hr,cN rfl v h hr,cN rfl L h hr,cN rfl x h hr,cN rfl D h hr,cN rfl C h hr,cN rfl u h hr⟩,I⟩
theorem xI (r c:Nat) (A B:Option Addr) (Y xs:List Int) (d e:Nat) (q:Int) (w:World) (hr:1≤r∧r≤1048576) (hc:1≤c∧c≤1048576) (hm:r*c≤1048576)
  (hA:Rd w A (ar .i64 Y)) (wy:W64 Y) (cr:Y.length=r) (hB:Rd w B (ar .i64 xs)) (cb:xs.length=c) (wx:W64 xs):
  Calls Tryz.prog 250 #[.slice A r d,.slice B c e,FQ q] w fun e J=>∃A',e=.returned (.agg #[FQ r,FQ c,.slice A' (r*c) (r*c)])∧J.ownsRow w.heap.size 2 1 (.slice A' (r*c) (r*c)) (r*c) (ar .i64 (iP r c Y xs q))∧Below w.heap.size w J:=by
 obtain ⟨C,a8⟩:∃C,r*c=C:=⟨_,rfl⟩
 have dn:1≤C:=by rw [←a8];exact Nat.mul_pos hr.1 hc.1
 have bh:=fun J=>AS r c J hr hc hm
 have c8:=fun A' J=>jt r c A' C C J hr hc a8.symm (by omega)
 have cl:=fun cs J=>mU cs J
 rw [a8] at bh hm ⊢
 obtain ⟨d2,d5,d7,ad,d3,d8,HA,HB⟩:=aj bh c8 cl a8 cb cr hA hB;obtain ⟨WX,WY⟩:=ab wx wy;clear bh c8 cl a8 cb cr hA hB wx wy
 refine (callsIn_wide (n:=3)).1 ?_
 refine callsIn_of_wp_marks Tryz.func250 rfl trivial ?_ rfl
 simp only [Tryz.ntmps250,List.size_toArray,List.length_cons,List.length_nil,Nat.reduceAdd,Nat.reduceSub,Array.replicate_succ,Array.replicate_zero,List.push_toArray,List.append_toArray,List.nil_append,List.cons_append]
 gi_wp2_with fail
 refine ⟨trivial,?_⟩
 refine (callsIn_wide.2 (d2.out _)).mono ?_
 rintro e w1 ⟨A',rfl,L,a0⟩
 have b8:Below w.heap.size w w1:=Below.trans (((((EP _ w).alloc (EM _) _).alloc (by simp) _).alloc (by simp;omega) _).alloc (by simp;omega) _) (a0.mono (by first | (simp;done) | (simp;omega)))
 have h2:Boxed w1 w.heap.size 139 (.slice A r d):=by
  refine (a0.block w.heap.size (by first | (simp;done) | (simp;omega))).trans ?_
  refine (E0 _ _ _ (by first | (simp;done) | (simp;omega))).trans ((E0 _ _ _ (by first | (simp;done) | (simp;omega))).trans ((E0 _ _ _ (by simp)).trans (EN w _)))
 have h3:Boxed w1 (w.heap.size+1) 139 (.slice B c e):=by
  refine (a0.block (w.heap.size+1) (by first | (simp;done) | (simp;omega))).trans ?_
  refine (E0 _ _ _ (by first | (simp;done) | (simp;omega))).trans ((E0 _ _ _ (by simp)).trans ?_)
  have:=EN (w.alloc (.cells #[.slice A r d] 139)) (.cells #[.slice B c e] 139)
  simpa using this
 have h4:Boxed w1 (w.heap.size+1+1) 3 (FQ q):=by
  refine (a0.block (w.heap.size+1+1) (by first | (simp;done) | (simp;omega))).trans ?_
  refine (E0 _ _ _ (by simp)).trans ?_
  have:=EN ((w.alloc (.cells #[.slice A r d] 139)).alloc (.cells #[.slice B c e] 139)) (.cells #[FQ q] 3)
  simpa using this
 have h5:w1.heap[w.heap.size+1+1+1]?=some (.cells #[FQ 0,FQ 0,FR] 354 (0,0)):=by
  refine (a0.block (w.heap.size+1+1+1) (by simp)).trans ?_
  have:=EN (((w.alloc (.cells #[.slice A r d] 139)).alloc (.cells #[.slice B c e] 139)).alloc (.cells #[FQ q] 3)) (.cells #[FQ 0,FQ 0,FR] 354)
  simpa using this
 obtain ⟨G,dG,c9,hG,bX⟩:=L.form (by omega)
 simp only [FD] at c9
 obtain ⟨rfl,_,rfl⟩:=c9
 have cn:w.heap.size+1+1+1+1≤G:=by simpa using hG
 have L:=aA L (base':=w.heap.size) (by first | (simp;done) | (simp;omega))
 obtain ⟨bI,a6,H2,H3,H4,H5,bA,cv⟩:=aj L b8 h2 h3 h4 h5 cn bX;clear L b8 h2 h3 h4 h5 cn bX hG a0
 gi_wp2_with fail
 refine ⟨trivial,?_⟩
 refine (callsIn_wide.2 (d5.out _ _)).mono ?_
 rintro e w2 ⟨rfl,rfl⟩
 gi_wp2_with fail
 refine ⟨trivial,?_⟩
 refine (callsIn_wide.2 (d7.out _ _)).mono ?_
 rintro e w3 ⟨rfl,rfl⟩
 gi_wp2_with fail
 obtain ⟨U,V⟩:∃U,U=(w1.alloc (.cells #[FQ r,FQ c,.slice (some ⟨G,0,none⟩) C C] 354)).alloc (.cells #[FQ r,FQ c,.slice (some ⟨G,0,none⟩) C C] 354):=⟨_,rfl⟩
 rw [←V]
 have b0:U.heap.size=w1.heap.size+1+1:=by rw [V];simp
 have bN:U.heap[w1.heap.size]?=some (.cells #[FQ r,FQ c,.slice (some ⟨G,0,none⟩) C C] 354 (0,0)):=by
  rw [V];exact (E0 _ _ _ (by simp)).trans (EN w1 _)
 have bM:(U.alloc (.cells #[FQ r,FQ c,.slice (some ⟨G,0,none⟩) C C] 354)).heap[U.heap.size]?=some (.cells #[FQ r,FQ c,.slice (some ⟨G,0,none⟩) C C] 354 (0,0)):=EN U _
 have hl:∀b o,w1.heap[b]?=some o→(U.alloc (.cells #[FQ r,FQ c,.slice (some ⟨G,0,none⟩) C C] 354)).heap[b]?=some o:=fun b o h=>by
  have hb:=EL h
  rw [V];exact (E0 _ _ _ (by simp;omega)).trans ((E0 _ _ _ (by simp;omega)).trans ((E0 _ _ _ hb).trans h))
 have R:Below w.heap.size w U:=by rw [V];exact (a6.out.alloc a6.out.size _).alloc (by have:=a6.out.size;simp;omega) _
 have r0:U.ownsRow w.heap.size 2 1 (.slice (some ⟨G,0,none⟩) C C) C (ar .i64 (List.replicate C 0)):=by rw [V];exact (bI.out.alloc _).alloc _
 rw [←ad.out,xK r c Y xs q 0,ad.out] at r0
 obtain ⟨N,hN⟩:∃N,N=w1.heap.size:=⟨_,rfl⟩
 rw [←hN] at bN b0 ⊢
 rw [←b0]
 have cf:Ee r c Y xs A B C d e q w G N U.heap.size [] (U.alloc (.cells #[FQ r,FQ c,.slice (some ⟨G,0,none⟩) C C] 354)):=⟨⟨r0.alloc _,hl _ _ H2.out,hl _ _ H3.out,hl _ _ H4.out,hl _ _ H5.out,(E0 U _ _ (EL bN)).trans bN,bM⟩,R.alloc R.size _⟩
 obtain ⟨c7,b7,dc,HN,dk⟩:=ag b0 R bM hN cf;clear b0 R bM bN r0 hN V hl cf
 refine' wpIn_rangeFunc_ownG (F:=Fence.wide) (n:=3) rfl (by omega) (gf:=268) (lb:=#[.pointer (some ⟨U.heap.size,0,none⟩)]) rfl trivial (enters_of Tryz.func268 (by kernel_rfl) rfl)
  (jN _ U.heap.size w.heap.size G 0 r c C C hr.2 hc ad.out.symm (EM _) _ dc.out) iH (iI (by have:=b7.out.size;simp;omega) (by simp)) (EP _ _) (fun _=>rfl)
  (Ee r c Y xs A B C d e q w G N U.heap.size)
  (fun _ _ _=>False)
  (AA r c Y xs A B C d e q w G N U.heap.size _ (by have:=b7.out.size;simp;omega))
  (fun _ _ _ _ _ hs _ _=>hs)
  dk.out
  _ ?assign ?body ?done ?stop
 case assign=>
  intro l x W K Q
  unfold kY
  gi_wp2
  exact Q
 case body=>
  rintro l bs x W ⟨⟨O,b9,bo,bd,a1,b3,bl⟩,a2⟩ a3
  have O:W.ownsRow w.heap.size 2 1 (.slice (some ⟨G,0,none⟩) C C) C (ar .i64 (jB r c Y xs q (bs.map (·.1)) x.1 0)):=by rw [uk x.1 0];exact O
  obtain ⟨b5,H2,H3,H4,H5,d0,bz,b4⟩:=aj O b9 bo bd a1 b3 bl a2;have ds:=aa a3;clear O b9 bo bd a1 b3 bl a2 a3
  gi_wp2_with fail
  gi_loopw [26] (fun i wr=>∃j:Nat,j≤c∧i=FQ j∧wr.ownsRow w.heap.size 2 1 (.slice (some ⟨G,0,none⟩) C C) C (ar .i64 (jB r c Y xs q (bs.map (·.1)) x.1 j))∧Keep (fun i=>i=G) W wr) (fun i _=>c-(intOf i).toNat)
  case atStart=>exact ⟨0,EQ _,rfl,b5.out,Keep.refl _ _⟩
  case round=>
   obtain ⟨j,hj,rfl,a7,Q⟩:=hrel
   by_cases a3:j<c
   ·have bb:x.1<Y.length:=by rw [d8.out];exact x.2
    have bV:j<xs.length:=by rw [d3.out];exact a3
    have dr:=bA.out
    obtain ⟨b1,o1,da,bv⟩:=HA.out.num bb
    obtain ⟨b2,o2,d1,bn⟩:=HB.out.num bV
    have l1:b1<w.heap.size:=au bv
    have l2:b2<w.heap.size:=au bn
    subst da;subst d1
    have hk:∀b v,b≠G→∀o,W.cell? ⟨b,o,none⟩=some v→wr.cell? ⟨b,o,none⟩=some v:=fun b v hb o h=>Q.cell h hb
    have H:(fun J:World=>J.cell? ⟨w.heap.size,0,none⟩=some (.slice (some ⟨b1,o1,none⟩) r d)∧J.cell? ⟨w.heap.size+1,0,none⟩=some (.slice (some ⟨b2,o2,none⟩) c e)∧J.cell? ⟨w.heap.size+1+1,0,none⟩=some (FQ q)∧J.cell? ⟨b1,o1+x.1,none⟩=some (FQ (nth Y x.1))∧J.cell? ⟨b2,o2+j,none⟩=some (FQ (nth xs j))) wr.drew:=⟨hk _ _ (by omega) _ (Boxed.cell H2.out),hk _ _ (by omega) _ (Boxed.cell H3.out),hk _ _ (by omega) _ (Boxed.cell H4.out),hk _ _ (by omega) _ ((b4.out.cell (p:=⟨b1,o1+x.1,none⟩) l1).trans bv),hk _ _ (by omega) _ ((b4.out.cell (p:=⟨b2,o2+j,none⟩) l2).trans bn)⟩
    have dp:(x.1:Int)<r:=by have:=x.2;omega
    have a4:x.1*c+j<C:=by rw [←ad.out];have:=lj (c:=c) x.2;omega
    have cq:=fun J=>nE (nth Y x.1) (nth xs j) q J (WY.out _ bb) (WX.out _ bV)
    obtain ⟨d4,cw,HK,bO⟩:=af cq a7 Q a4;clear cq a7 Q hk a4 bb bV bv bn
    gi_wp2_with fail
    refine gh (fun J:World=>J.cell? ⟨w.heap.size,0,none⟩=some (.slice (some ⟨b1,o1,none⟩) r d)∧J.cell? ⟨w.heap.size+1,0,none⟩=some (.slice (some ⟨b2,o2,none⟩) c e)∧J.cell? ⟨w.heap.size+1+1,0,none⟩=some (FQ q)∧J.cell? ⟨b1,o1+x.1,none⟩=some (FQ (nth Y x.1))∧J.cell? ⟨b2,o2+j,none⟩=some (FQ (nth xs j))) (by kernel_rfl) (by kernel_rfl) (by rintro ⟨_,_,h⟩;exact h) ?_
    refine wpAnyH_take (i:=0) (v:=?_) rfl (by kernel_rfl) (by kernel_rfl) (by kernel_rfl) (fun _ _ _ h=>h) (Or.inl ⟨by rfl,?_⟩) H ?_
    rotate_left
    ·intro w9 y;(try dsimp only at y);obtain ⟨s1,s2,s3,Z,s5⟩:=y;go_simp;(try with_reducible rfl)
    simp only [Fd,Fe,Ff,Act.put,Fg,Fh,Fi]
    refine wpAnyH_take (i:=1) (v:=?_) rfl (by kernel_rfl) (by kernel_rfl) (by kernel_rfl) (fun _ _ _ h=>h) (Or.inl ⟨by rfl,?_⟩) H ?_
    rotate_left
    ·intro w9 y;(try dsimp only at y);obtain ⟨s1,s2,s3,Z,s5⟩:=y;go_simp;(try with_reducible rfl)
    simp only [Fd,Fe,Ff,Act.put,Fg,Fh,Fi]
    refine wpAnyH_take (i:=2) (v:=?_) rfl (by kernel_rfl) (by kernel_rfl) (by kernel_rfl) (fun _ _ _ h=>h) (Or.inl ⟨by rfl,?_⟩) H ?_
    rotate_left
    ·intro w9 y;(try dsimp only at y);obtain ⟨s1,s2,s3,Z,s5⟩:=y;go_simp;(try with_reducible rfl)
    simp only [Fd,Fe,Ff,Act.put,Fg,Fh,Fi]
    refine wpAnyH_take (i:=3) (v:=?_) rfl (by kernel_rfl) (by kernel_rfl) (by kernel_rfl) (fun _ _ _ h=>h) (Or.inl ⟨by rfl,?_⟩) H ?_
    rotate_left
    ·intro w9 y;(try dsimp only at y);obtain ⟨s1,s2,s3,Z,s5⟩:=y;go_simp;(try with_reducible rfl)
    simp only [Fd,Fe,Ff,Act.put,Fg,Fh,Fi]
    refine wpAnyH_take (i:=4) (v:=?_) rfl (by kernel_rfl) (by kernel_rfl) (by kernel_rfl) (fun _ _ _ h=>h) (Or.inl ⟨by rfl,?_⟩) H ?_
    rotate_left
    ·intro w9 y;(try dsimp only at y);obtain ⟨s1,s2,s3,Z,s5⟩:=y;go_simp;(try with_reducible rfl)
    simp only [Fd,Fe,Ff,Act.put,Fg,Fh,Fi]
    refine wpAnyH_take (i:=5) (v:=?_) rfl (by kernel_rfl) (by kernel_rfl) (by kernel_rfl) (fun _ _ _ h=>h) (Or.inl ⟨by rfl,?_⟩) H ?_
    rotate_left
    ·intro w9 y;(try dsimp only at y);obtain ⟨s1,s2,s3,Z,s5⟩:=y;go_simp;(try with_reducible rfl)
    simp only [Fd,Fe,Ff,Act.put,Fg,Fh,Fi]
    refine wpAnyH_take (i:=6) (v:=?_) rfl (by kernel_rfl) (by kernel_rfl) (by kernel_rfl) (fun _ _ _ h=>h) (Or.inl ⟨by rfl,?_⟩) H ?_
    rotate_left
    ·intro w9 y;(try dsimp only at y);obtain ⟨s1,s2,s3,Z,s5⟩:=y;go_simp;(try with_reducible rfl)
    simp only [Fd,Fe,Ff,Act.put,Fg,Fh,Fi]
    refine wpAnyH_take (i:=7) (v:=?_) rfl (by kernel_rfl) (by kernel_rfl) (by kernel_rfl) (fun _ _ _ h=>h) (Or.inl ⟨by rfl,?_⟩) H ?_
    rotate_left
    ·intro w9 y;(try dsimp only at y);obtain ⟨s1,s2,s3,Z,s5⟩:=y;go_simp;(try with_reducible rfl)
    simp only [Fd,Fe,Ff,Act.put,Fg,Fh,Fi]
    refine wpAnyH_take (i:=8) (v:=?_) rfl (by kernel_rfl) (by kernel_rfl) (by kernel_rfl) (fun _ _ _ h=>h) (Or.inl ⟨by rfl,?_⟩) H ?_
    rotate_left
    ·intro w9 y;(try dsimp only at y);obtain ⟨s1,s2,s3,Z,s5⟩:=y;go_simp;(try with_reducible rfl)
    simp only [Fd,Fe,Ff,Act.put,Fg,Fh,Fi]
    refine wpAnyH_take (i:=9) (v:=?_) rfl (by kernel_rfl) (by kernel_rfl) (by kernel_rfl) (fun _ _ _ h=>h) (Or.inl ⟨by rfl,?_⟩) H ?_
    rotate_left
    ·intro w9 y;(try dsimp only at y);obtain ⟨s1,s2,s3,Z,s5⟩:=y;go_simp;(try with_reducible rfl)
    simp only [Fd,Fe,Ff,Act.put,Fg,Fh,Fi]
    refine wpAnyH_take (i:=10) (v:=?_) rfl (by kernel_rfl) (by kernel_rfl) (by kernel_rfl) (fun _ _ _ h=>h) (Or.inl ⟨by rfl,?_⟩) H ?_
    rotate_left
    ·intro w9 y;(try dsimp only at y);obtain ⟨s1,s2,s3,Z,s5⟩:=y;go_simp;(try with_reducible rfl)
    simp only [Fd,Fe,Ff,Act.put,Fg,Fh,Fi]
    refine wpAnyH_ready (rs:=[11]) (by kernel_rfl) (by simp) ?_
    refine AllReadyH.cons rfl (fun K Q=>?_) AllReadyH.nil
    simp only [Fd,Fe,Ff]
    go_simp
    refine (d4.out _).mono ?_
    rintro e w3 ⟨rfl,T⟩
    dsimp only
    have bi:(fun J:World=>J.cell? ⟨w.heap.size,0,none⟩=some (.slice (some ⟨b1,o1,none⟩) r d)∧J.cell? ⟨w.heap.size+1,0,none⟩=some (.slice (some ⟨b2,o2,none⟩) c e)∧J.cell? ⟨w.heap.size+1+1,0,none⟩=some (FQ q)∧J.cell? ⟨b1,o1+x.1,none⟩=some (FQ (nth Y x.1))∧J.cell? ⟨b2,o2+j,none⟩=some (FQ (nth xs j))) w3:=⟨am T H.1,am T H.2.1,am T H.2.2.1,am T H.2.2.2.1,am T H.2.2.2.2⟩
    refine Q.out _ _ bi (fun _=>?_)
    clear Q K H
    have H:=bi
    clear bi
    have I:=aq (w:=wr.drew) cw.out T
    have d9:∃u,w3.cell? ⟨G,x.1*c+j,none⟩=some u:=⟨_,cP I bO.out⟩
    obtain ⟨u3,p3⟩:=d9
    have f3:=I.frozenAt (x.1*c+j)
    obtain ⟨bw,d6⟩:=ab I T;clear I T
    refine wpAnyH_take (i:=12) (v:=?_) rfl (by kernel_rfl) (by kernel_rfl) (by kernel_rfl) (fun _ _ _ h=>h) (Or.inl ⟨by rfl,?_⟩) H ?_
    rotate_left
    ·intro w9 y;(try dsimp only at y);obtain ⟨s1,s2,s3,Z,s5⟩:=y;go_simp;(try with_reducible rfl)
    simp only [Fd,Fe,Ff,Act.put,Fg,Fh,Fi]
    refine wpAnyH_ready (rs:=[13]) (by kernel_rfl) (by simp) ?_
    refine AllReadyH.cons rfl (fun K Q=>?_) AllReadyH.nil
    simp only [Fd,Fe,Ff]
    go_simp
    refine Q.out _ _ ?_ (fun _=>?_)
    ·obtain ⟨s1,s2,s3,Z,s5⟩:=H
     exact ⟨(World.cell?_setCell_far _ _ _ _ (show G≠w.heap.size by omega)).trans s1,(World.cell?_setCell_far _ _ _ _ (show G≠w.heap.size+1 by omega)).trans s2,(World.cell?_setCell_far _ _ _ _ (show G≠w.heap.size+1+1 by omega)).trans s3,(World.cell?_setCell_far _ _ _ _ (show G≠b1 by omega)).trans Z,(World.cell?_setCell_far _ _ _ _ (show G≠b2 by omega)).trans s5⟩
    refine wpAnyH_done (by kernel_rfl) ?_ _
    clear H p3 f3 Q K
    gi_wp2_with fail
    refine ⟨⟨j+1,by omega,by go_num,?_,?_⟩,by simp [intOf];omega⟩
    ·rw [←Ay x.2 a3]
     exact eL bw.out _ _
    ·exact Keep.setCell (HK.out.drew.trans (Keep.below d6.out)) ⟨G,_,none⟩ (.inr rfl) _
   ·obtain rfl:j=c:=by omega
    gi_wp2_with fail
    have cx:=bA.out
    have cj:=cv.out
    have cc:=c7.out
    have ci:=HN.out
    have ct:Below w.heap.size W wr:=Q.toBelow b4.out.size (fun k hk=>by omega)
    have c6:=(Q.block _ (EL bz.out) (by omega)).trans bz.out
    refine ⟨(gP Q fun k o hk ho=>?_).from _,⟨ct,fun _=>c6.trans bz.out.symm⟩,⟨⟨?_,?_,?_,?_,?_,?_,c6⟩,b4.out.trans ct⟩⟩
    ·subst hk
     exact pG b5.out ho
    ·rw [List.map_append,List.map_singleton,←Az hc.1];exact a7
    ·exact (Q.block _ (EL H2.out) (by omega)).trans H2.out
    ·exact (Q.block _ (EL H3.out) (by omega)).trans H3.out
    ·exact (Q.block _ (EL H4.out) (by omega)).trans H4.out
    ·exact (Q.block _ (EL H5.out) (by omega)).trans H5.out
    ·exact (Q.block _ (EL d0.out) (by omega)).trans d0.out
 case done=>
  rintro D zs W hD rfl ⟨⟨O,b9,bo,bd,a1,b3,bl⟩,a2⟩ Q
  obtain ⟨⟨n0,n1,n2⟩,nf⟩:=bx3 b3
  obtain ⟨⟨m0,m1,m2⟩,mf⟩:=bx3 a1
  gi_wp2
  have b6:(List.finRange r).map (·.1)=List.range r:=List.ext_getElem (by simp) (by simp)
  rw [b6,xM hc.1] at O
  have h3:=nZ (FQ r) (FQ c) (.slice (some ⟨G,0,none⟩) C C) a1
  have k3:=lA (w:=W) (b:=w.heap.size+1+1+1) (FQ r) (FQ c) (.slice (some ⟨G,0,none⟩) C C)
  have cx:=bA.out
  have cj:=cv.out
  have cc:=c7.out
  have ci:=HN.out
  simp only [Fb] at hD
  obtain ⟨W3,co⟩:∃W3,W3=(((W.setCell ⟨w.heap.size+1+1+1,0,none⟩ (FQ r)).setCell ⟨w.heap.size+1+1+1,1,none⟩ (FQ c)).setCell ⟨w.heap.size+1+1+1,2,none⟩ (.slice (some ⟨G,0,none⟩) C C)):=⟨_,rfl⟩
  rw [←co] at h3 k3 ⊢
  clear co
  have bG:W3.heap[D]?=some (.deferred (some [])):=(k3.block D (EL Q) (by omega)).trans Q
  refine ⟨by simp,.inl ⟨_,_,rfl,run_takeDeferred bG,?_⟩⟩
  have h4:(W3.putObj D (.deferred none)).heap[w.heap.size+1+1+1]?=some (.cells #[FQ r,FQ c,.slice (some ⟨G,0,none⟩) C C] 354 (0,0)):=(World.putObj_heap_other (by omega)).trans h3
  have I:=ownsRow_putObj (k3.own O (fun k hk e=>by simp [Value.ownBlock] at hk;omega)) (.deferred none) bG rfl
  have a5:Below w.heap.size w (W3.putObj D (.deferred none)):=(a2.trans (k3.toBelow a2.size (fun k hk=>by omega))).trans (belowK_b (w:=w) (EM _) W3 D _ _ (by omega) bG rfl rfl)
  obtain ⟨W4,cd⟩:∃W4,W4=W3.putObj D (.deferred none):=⟨_,rfl⟩
  rw [←cd] at h4 I a5 ⊢
  clear cd cx cj cc ci b6
  obtain ⟨⟨q0,q1,q2⟩,qf⟩:=bx3 h4
  refine ⟨.agg #[FQ r,FQ c,.slice (some ⟨G,0,none⟩) C C],by simp [results,Tryz.results250,go_sem,q0,q1,q2],_,rfl,I,a5⟩
 case stop=>
  rintro D c bs W _ _ h _
  exact h.elim
end Go.Proofs.YtgmajkppbhiopaaGreat
namespace Go.Proofs.YtgmajkppbhiopaaGreat
open Go.RowKit
theorem j6 {P:Program} {w:World} {ops:Array Oper} {rest:List Oper} {o:Oper} {a:Act} {Q:Exit→Act→World→Prop} (u:o.guard=none) (d s:Operand) (A D:TypeId)
  (H:o.op=.call {callee:=.builtin .copy,args:=#[d,s],argTypes:=#[A,D]}) (elem:TypeId) (hu:P.underlying A=some (.slice elem)) (hsz:(P.info? elem).map (·.size)=some 1)
  (dp sp:Option Addr) (n dCap sCap:Nat) (hd:a.eval d=.slice dp n dCap) (hs:a.eval s=.slice sp n sCap)
  (g off:Nat) (cur:List Value) (t:TypeId) (hg:w.heap[g]?=some (.cells cur.toArray t (0,0))) (cs:List Value) (hn:cs.length=n) (hdp:0<n→dp=some ⟨g,off,none⟩) (hr:Rd w sp cs)
  (hfit:off+cs.length≤cur.length) (h1:∀v∈cs,v.oneCell'=true)
  (h:∀C,Hid (C.heap[g]?=some (.cells (splice cur off cs).toArray t (0,0)))→Keep (fun i=>i=g) w C→wpList P ops Q rest (a.put o.dst (goInt cs.length)) C):
  wpList P ops Q (o::rest) a w:=by
 by_cases J:cs.length=0
 ·obtain rfl:cs=[]:=List.eq_nil_of_length_eq_zero J
  refine wpList_copy_nothing u d s A D H elem hu hsz dp sp n dCap n sCap hd hs (by simp at hn;subst hn;rfl) ?_
  exact h w (show _=_ by simpa [splice] using hg) (Keep.refl _ _)
 ·obtain rfl:=hdp (by omega)
  have L:∃B,sp=some B∧∀j v,cs[j]?=some v→w.cell? (B.add j)=some v:=by
   obtain ⟨b,R,x,_⟩:=hr 0 cs[0] (Fr (by omega))
   refine ⟨_,x,fun j v I=>?_⟩
   obtain ⟨N,O,e,hc⟩:=hr j v I
   rw [x] at e
   injection e with e
   injection e with e1 e2 _
   subst e1;subst e2
   rw [Addr.add_lit]
   exact hc
  obtain ⟨B,rfl,y⟩:=L
  refine wpList_copy_own u d s A D H elem hu hsz g off n dCap B n sCap hd hs cur.toArray t hg cs (by rw [hn];exact (Nat.min_self n).symm) y (by simpa using hfit) h1 ?_
  exact h _ (show _=_ by simpa [splice] using setRow_heap w g _ _ t _ hg) ⟨rfl,rfl,rfl,by simp [World.setRow],fun k hk hn=>setRow_other w g k _ hn⟩
theorem tv {P:Program} {w:World} {ops:Array Oper} {J:Array Value} {o:Oper} {a:Act} {K:Act→World→Prop} {Q:Exit→Act→World→Prop} {E:Prop} (d s:Operand) (A H:TypeId) (C:o.guard=none)
  (I:o.op=.call {callee:=.builtin .copy,args:=#[d,s],argTypes:=#[A,H]}) (elem:TypeId) (hu:P.underlying A=some (.slice elem)) (hsz:(P.info? elem).map (·.size)=some 1)
  (dp sp:Option Addr) (n dCap sCap:Nat) (hd:a.eval d=.slice dp n dCap) (hs:a.eval s=.slice sp n sCap)
  (g off:Nat) (cur:List Value) (t:TypeId) (hg:w.heap[g]?=some (.cells cur.toArray t (0,0))) (cs:List Value) (hn:cs.length=n) (hdp:0<n→dp=some ⟨g,off,none⟩) (hr:Rd w sp cs)
  (hfit:off+cs.length≤cur.length) (h1:∀v∈cs,v.oneCell'=true)
  (h:∀D,Hid (D.heap[g]?=some (.cells (splice cur off cs).toArray t (0,0)))→Keep (fun i=>i=g) w D→K (a.put o.dst (goInt cs.length)) D):
  if Region.wanted o (yielded ops J)=true then Oper.wp P o a w K Q else E:=by
 rw [if_pos (by simp [Region.wanted,C])]
 by_cases N:cs.length=0
 ·obtain rfl:cs=[]:=List.eq_nil_of_length_eq_zero N
  have u:=run_copy_none (P:=P) w A H o.type elem dp sp n dCap n sCap hu hsz (by simp at hn;subst hn;rfl)
  unfold Oper.wp
  simp [execOp,I,resolve,invoke,builtin,hd,hs,u,Result.andThen]
  exact h w (show _=_ by simpa [splice] using hg) (Keep.refl _ _)
 ·obtain rfl:=hdp (by omega)
  have O:∃B,sp=some B∧∀j v,cs[j]?=some v→w.cell? (B.add j)=some v:=by
   obtain ⟨b,U,x,_⟩:=hr 0 cs[0] (Fr (by omega))
   refine ⟨_,x,fun j v L=>?_⟩
   obtain ⟨R,T,e,hc⟩:=hr j v L
   rw [x] at e
   injection e with e
   injection e with e1 e2 _
   subst e1;subst e2
   rw [Addr.add_lit]
   exact hc
  obtain ⟨B,rfl,y⟩:=O
  have u:=run_copy_row (P:=P) w A H o.type elem g off n dCap B n sCap cur.toArray t cs hu hsz hg (by rw [hn];exact (Nat.min_self n).symm) y (by simpa using hfit) h1
  unfold Oper.wp
  simp [execOp,I,resolve,invoke,builtin,hd,hs,u,Result.andThen]
  exact h _ (show _=_ by simpa [splice] using setRow_heap w g _ _ t _ hg) ⟨rfl,rfl,rfl,by simp [World.setRow],fun k hk hn=>setRow_other w g k _ hn⟩
theorem Ax {w:World} {base:Nat} {e:TypeId} {g n:Nat} {xs:List Value} (h:w.ownsRow base e 1 (.slice (some ⟨g,0,none⟩) n n) n xs):w.heap[g]?=some (.cells xs.toArray e (0,0)):=by
 rcases h.2 with ⟨y,_⟩ | ⟨A,cap,i,o,_,x,_,_,v,u⟩
 ·cases y
 ·simp only [FD,Option.some.injEq,Addr.mk.injEq,and_true,true_and] at o
  obtain ⟨rfl,rfl⟩:=o
  rw [Nat.mul_one] at v u
  have:i=xs.toArray:=by
   rw [←u,List.take_of_length_le (by simp [v])]
  rw [←this]
  exact x
theorem jh (q:IntKind) (a b:List Int) (h:Nat):splice (ar q a) h (ar q b)=ar q (splice a h b):=by
 unfold splice
 rw [du,aK,dP,←ez,←ez]
theorem Bq {w:World} {base:Nat} {e:TypeId} {g:Nat} {xs:List Value} (h:w.heap[g]?=some (.cells xs.toArray e (0,0))) (hb:base≤g) (hm:xs.length≤maxLen):w.ownsRow base e 1 (.slice (some ⟨g,0,none⟩) xs.length xs.length) xs.length xs:=
 ⟨by simp,.inr ⟨g,xs.length,xs.toArray,rfl,hb,h,EM _,hm,by simp,by simp⟩⟩
theorem qj {o W D:List Int} {lo:Nat} (h:lo+W.length+D.length≤o.length):(splice (splice o lo W) (lo+W.length) D).drop lo=W++(D++o.drop (lo+W.length+D.length)):=by
 have u:splice o lo W=(o.take lo++W)++o.drop (lo+W.length):=by unfold splice;rw [Fw]
 have l1:(o.take lo++W).length=lo+W.length:=by rw [Fp,Fv];omega
 have v:(splice o lo W).take (lo+W.length)=o.take lo++W:=by rw [u,←l1,List.take_left]
 have y:(splice o lo W).drop (lo+W.length+D.length)=o.drop (lo+W.length+D.length):=by
  rw [u,List.drop_append,l1,List.drop_of_length_le (by rw [l1];omega),List.nil_append,List.drop_drop]
  congr 1
  omega
 have x:splice (splice o lo W) (lo+W.length) D=o.take lo++(W++(D++o.drop (lo+W.length+D.length))):=by
  show (splice o lo W).take (lo+W.length)++(D++(splice o lo W).drop (lo+W.length+D.length))=_
  rw [v,y,Fw]
 have i:(o.take lo).length=lo:=by rw [Fv];omega
 rw [x]
 conv=>lhs;rw [←i]
 rw [i,List.drop_append_of_le_length (by rw [i];exact EM _),List.drop_of_length_le (by rw [i];exact EM _),List.nil_append]
end Go.Proofs.YtgmajkppbhiopaaGreat
