/- No condition. -/
import Derived.Test.YtaccfnffmbndhaaGreatC00
import Derived.Test.YtaccfnffmbndhaaGreatC12
import Derived.Test.YtaccfnffmbndhaaGreatC11
import Derived.Test.YtaccfnffmbndhaaGreatC17
import Derived.Test.YtaccfnffmbndhaaGreatC22
import Derived.Test.YtaccfnffmbndhaaGreatC21
import Derived.Test.YtaccfnffmbndhaaGreatC23
import Derived.Test.YtaccfnffmbndhaaGreatC19
import Derived.Test.YtaccfnffmbndhaaGreatC16
import Derived.Test.YtaccfnffmbndhaaGreatC20
import Derived.Test.YtaccfnffmbndhaaGreatC15
set_option linter.unusedSimpArgs false
set_option linter.unusedVariables false
set_option maxRecDepth 100000
set_option maxHeartbeats 4000000
namespace Go.Proofs.YtaccfnffmbndhaaGreat
open Go.RowKit
theorem zB:cL Tryz.prog 159 4:=⟨⟨_,Tryz.underlying159,rfl⟩,by kernel_rfl⟩
theorem qB (A:Option Addr) (l:List Int) (c k i:Nat) (w:World) (hA:Rd w A (aq .i64 l)) (hc:l.length≤c) (hl:l.length≤1048576) (hn:0<l.length) (Q:1≤k) (O:k≤1048576) (N:i<k):
  Calls Tryz.prog 117 #[.slice A l.length c,KL i,KL k] w (xh (cH l k i) (cH l k i).length w):=by
 have y:=sD l.length k w Q O hl
 obtain ⟨b,o,rfl,_⟩:=hA.num hn
 have B:=ja l Q N
 have L:cH l k i=(l.drop (bdN l.length k i)).take (bdN l.length k (i+1)-bdN l.length k i):=rfl
 have h1:=nV l.length k (Nat.le_succ i)
 have Y:=fD l.length k (i+1) Q N
 have hg:=dH (l:=fA l.length k) (j:=i) (by rw [ft];exact N)
 have hr:aO (fA l.length k) i=(bdN l.length k i,bdN l.length k (i+1)):=by
  rw [cF _ _ (by rw [ft];exact N)];simp [fA]
 rw [hr] at hg
 rw [B]
 obtain ⟨P,hP⟩:∃P,cH l k i=P:=⟨_,rfl⟩
 obtain ⟨lo,H⟩:∃lo,bdN l.length k i=lo:=⟨_,rfl⟩
 obtain ⟨p,C⟩:∃p,bdN l.length k (i+1)=p:=⟨_,rfl⟩
 simp only [Nat.succ_eq_add_one] at h1
 rw [hP] at L ⊢
 rw [H,C] at L h1 hg ⊢
 rw [C] at Y
 obtain ⟨V,hV⟩:∃V,aF (fA l.length k)=V:=⟨_,rfl⟩
 rw [hV] at y hg
 obtain ⟨n,D⟩:∃n,l.length=n:=⟨_,rfl⟩
 rw [D] at y hc hl hn Y ⊢
 have a4:(i:Int)<k:=by omega
 have a3:¬(i:Int)<0:=by omega
 obtain ⟨T,R,Z,HP⟩:=ag y hA hg L;clear y hA hg L hr B hP H C D hV
 go_enter Tryz.func117,Tryz.ntmps117
 go_wp2_with fail
 refine T.out.mono ?_
 rintro e x ⟨v,rfl,ov,X⟩
 obtain ⟨g,cv,rfl,_⟩:=ov.form (by omega)
 have c0:=ov.cellAt (i*2) (by omega)
 have c1:=ov.cellAt (i*2+1) (by omega)
 rw [Z.out.1] at c0
 rw [Z.out.2] at c1
 have lg:=(ov.lt g rfl).2
 have t0:∀u,Below x.heap.size x u→u.cell? ⟨g,i*2,none⟩=some (KL (lo:Nat)):=fun u q=>am q c0
 have t1:∀u,Below x.heap.size x u→u.cell? ⟨g,i*2+1,none⟩=some (KL (p:Nat)):=fun u q=>am q c1
 have J:=aa X
 have q1:=(br x).drew
 have a5:(lo:Int)≤p:=by omega
 have a6:(p:Int)≤c:=by omega
 have a0:lo≤p:=by omega
 have a1:p≤c:=by omega
 have a2:¬(k:Int)≤i:=by omega
 clear ov X c0 c1
 go_upto_region 4 with (fail)
 by_cases U:c=lo
 ·subst U
  obtain rfl:p=c:=by omega
  refine HA.g (fun u:World=>Below x.heap.size x u) ?_
  refine HA.t ?_ [0,1,2,3,4,5,6,7,8,9,10,11,12] q1 ?_
  refine HA.d ?_
  have I:=aa (J.out.trans (q1.mono J.out.size));clear q1 t0 t1
  go_wp2_with fail
  go_ret
  refine ⟨some ⟨b,o,none⟩,0,by rw [Nat.sub_self];rfl,by omega,?_,I.out⟩
  rw [HP.out,Nat.sub_self,List.take_zero]
  exact Rd.nil _ _
 ·refine HA.g (fun u:World=>Below x.heap.size x u) ?_
  refine HA.t ?_ [0,1,2,3,4,5,6,7,8,9,10,11,12] q1 ?_
  refine HA.d ?_
  have I:=aa (J.out.trans (q1.mono J.out.size));clear q1 t0 t1
  go_wp2_with fail
  go_ret
  refine ⟨_,_,rfl,by omega,?_,I.out⟩
  have:=((R.out.below I.out).drop lo).take (p-lo)
  rwa [cV,cK,←HP.out] at this
theorem xM (n b steps t W x E c:Nat) (A:Option Addr) (l:List Int) (w:World) (hA:cE yo 1 w A (iF l n E)) (V:E=epN n b steps) (R:1≤b) (y:b≤n) (hn:n≤1048576) (I:steps≤1048576) (ht:t<steps) (hW:1≤W) (a0:W≤b) (hx:x<W):
  Calls Tryz.prog 118 #[.agg #[KL n,KL b,KL steps,.slice A E c],KL t,KL x,KL W] w (xh (cH (db l n b t) W x) (cH (db l n b t) W x).length w):=by
 have j:=gX l (t:=t) (Nat.div_pos y R)
 have o:=fun u (q:Below w.heap.size w u)=>yk n b steps t E c A l u (hA.below sq q) R y hn I ht V
 obtain ⟨B,hB⟩:∃B,db l n b t=B:=⟨_,rfl⟩
 rw [hB] at j o ⊢
 have i:=fun A c u (hA:Rd u A (aq .i64 B)) (hc:B.length≤c)=>qB A B c W x u hA hc (by omega) (by omega) hW (by omega) hx
 obtain ⟨Q,T⟩:∃Q,cH B W x=Q:=⟨_,rfl⟩
 rw [T] at i ⊢
 rw [j] at i
 obtain ⟨D,p⟩:∃D,Q.length=D:=⟨_,rfl⟩
 rw [p] at i ⊢
 have g0:=JE w (.cells #[KL n,KL b,KL steps,.slice A E c] 159)
 have J:=(br w).alloc (JD _) (.cells #[KL n,KL b,KL steps,.slice A E c] 159)
 obtain ⟨L,H,G0,U⟩:=ag (o _ J) i g0 J;clear o i g0 J hA p T hB j V
 go_enter Tryz.func118,Tryz.ntmps118
 go_wp2_with (refine aJ #[KL n,KL b,KL steps,.slice A E c] (b:=w.heap.size) G0.out zB rfl rfl rfl rfl ?_)
 refine L.out.mono ?_
 rintro e w1 ⟨A1,c1,rfl,C,O,N⟩
 obtain ⟨H1,K1⟩:=ae (H.out A1 c1 w1 O C) (U.out.trans (N.mono U.out.size));clear C O N
 go_wp2_with fail
 refine H1.out.mono ?_
 rintro e w2 ⟨Z,c2,rfl,v,X,Y⟩
 have HF:=aa (⟨Z,c2,rfl,v,X,bt K1.out Y⟩:xh Q D w (.returned (.slice Z D c2)) w2);clear v X Y
 go_wp2_with fail
 go_ret
 exact HF.out
theorem xW (n b steps t W x mi a E c:Nat) (A:Option Addr) (l:List Int) (w:World) (hA:cE yo 1 w A (iF l n E)) (hE:E=epN n b steps) (hb:1≤b) (H:b≤n) (hn:n≤1048576) (O:steps≤1048576) (ht:t<steps) (R:1≤W) (Y:W≤b) (hx:x<W) (hm:1≤mi) (U:mi≤1048576) (ha:a<mi):
  Calls Tryz.prog 69 #[.agg #[KL n,KL b,KL steps,.slice A E c],KL t,KL x,KL W,KL a,KL mi] w (xh (gQ (db l n b t) W x mi a) (gQ (db l n b t) W x mi a).length w):=by
 have Z:1≤n/b:=Nat.div_pos H hb
 have p:=gX l (t:=t) Z
 have j:=fun u (q:Below w.heap.size w u)=>xM n b steps t W x E c A l u (hA.below sq q) hE hb H hn O ht R Y hx
 obtain ⟨B,hB⟩:∃B,db l n b t=B:=⟨_,rfl⟩
 rw [hB] at p j ⊢
 have hP:=ja B R hx
 have L:bdN B.length W x+1≤bdN B.length W (x+1):=by
  rw [nU]
  have:1≤B.length/W:=Nat.div_pos (by omega) (by omega)
  unfold szE
  omega
 obtain ⟨Q,N⟩:∃Q,cH B W x=Q:=⟨_,rfl⟩
 have y:gQ B W x mi a=cH Q mi a:=by unfold gQ;rw [N]
 rw [N] at hP j
 have v:Q.length≤1048576:=by have:=fD B.length W (x+1) R hx;omega
 have i:=fun A c u (hA:Rd u A (aq .i64 Q)) (hc:Q.length≤c)=>qB A Q c mi a u hA hc v (by omega) hm U ha
 rw [y]
 obtain ⟨M,hM⟩:∃M,cH Q mi a=M:=⟨_,rfl⟩
 rw [hM] at i ⊢
 obtain ⟨qn,o⟩:∃qn,Q.length=qn:=⟨_,rfl⟩
 rw [o] at j i
 obtain ⟨J,D⟩:∃J,M.length=J:=⟨_,rfl⟩
 rw [D] at i ⊢
 have g0:=JE w (.cells #[KL n,KL b,KL steps,.slice A E c] 159)
 have T:=(br w).alloc (JD _) (.cells #[KL n,KL b,KL steps,.slice A E c] 159)
 obtain ⟨X,V,G0,B0⟩:=ag (j _ T) i g0 T;clear i j g0 T hA hE D o hM y N hB v L hP p
 go_enter Tryz.func69,Tryz.ntmps69
 go_wp2_with (refine aJ #[KL n,KL b,KL steps,.slice A E c] (b:=w.heap.size) G0.out zB rfl rfl rfl rfl ?_)
 refine X.out.mono ?_
 rintro e w1 ⟨A1,c1,rfl,I,r1,k1⟩
 obtain ⟨H1,K1⟩:=ae (V.out A1 c1 w1 r1 I) (B0.out.trans (k1.mono B0.out.size));clear I r1 k1
 go_wp2_with fail
 refine H1.out.mono ?_
 rintro e w2 ⟨A2,c2,rfl,C,r2,k2⟩
 have HF:=aa (⟨A2,c2,rfl,C,r2,bt K1.out k2⟩:xh M J w (.returned (.slice A2 J c2)) w2);clear C r2 k2
 go_wp2_with fail
 go_ret
 exact HF.out
theorem vq (A B:Option Addr) (G v:List Int) (n m cg cv lo:Nat) (add:Bool) (w:World) (hA:Rd w A (aq .i64 G)) (hB:Rd w B (aq .i64 v)) (hn:G.length=n) (hm:v.length=m) (hb:n≤1048576) (a6:lo+m≤n):
  Calls Tryz.prog 72 #[.slice A n cg,KL (lo:Nat),.slice B m cv,.bool add] w fun e C=>∃A' Y,e=.returned (.slice A' n Y)∧C.ownsRow w.heap.size 2 1 (.slice A' n Y) n (aq .i64 (jp G lo v add))∧Below w.heap.size w C:=by
 have u:=mQ A G cg w hA (by omega)
 rw [hn] at u
 unfold jp
 rw [hm]
 obtain ⟨N,HB,Hn,Hm⟩:=ag u hB hn hm;clear u hA hB hn hm
 go_enter Tryz.func72,Tryz.ntmps72
 go_wp2_with fail
 refine N.out.mono ?_
 rintro e w1 ⟨A1,c1,rfl,o1,J⟩
 obtain ⟨T,X,Z⟩:=af (HB.out.below J) o1 J;clear o1 J
 go_wp2_with fail
 go_loopw [10] (fun z wr=>∃k:Nat,k≤m∧z=KL k∧wr.ownsRow w.heap.size 2 1 (.slice A1 n c1) n (aq .i64 (rY G lo v add k))∧Keep (fun j=>(Value.slice A1 n c1).ownBlock=some j) w1 wr) (fun z _=>m-(intOf z).toNat)
 case atStart=>exact ⟨0,JH _,rfl,by rw [tx];exact X.out,Keep.refl _ _⟩
 case round=>
  obtain ⟨k,hk,rfl,o,y⟩:=hrel
  by_cases x:k<m
  ·obtain ⟨g,d,hv,hg,a7⟩:=o.form (by omega)
   simp only [Ku] at hv
   obtain ⟨rfl,O,rfl⟩:=hv
   clear O
   have p:lo+k<G.length:=by rw [Hn.out];omega
   have Q:=cq o (show lo+k<n by omega)
   rw [nT _ _ _ _ p,if_neg (by omega)] at Q
   have f1:=o.frozenAt (lo+k)
   have H:=T.out
   obtain ⟨R,o2,rfl,p0⟩:=H.num (show k<v.length by rw [Hm.out];exact x)
   have U:R≠g:=fun e=>by
    have h1:w.heap.size≤g:=(X.out.lt g rfl).1
    obtain ⟨b3,o3,e3,p3⟩:=HB.out.num (show k<v.length by rw [Hm.out];exact x)
    have h3:b3<w.heap.size:=ar p3
    cases e3
    omega
   have p2:wr.cell? ⟨R,o2+k,none⟩=some (KL (nth v k)):=y.cell p0 (by simp [Value.ownBlock];exact fun e=>U e.symm)
   have q:=wU G lo v add p
   have L:(k:Int)<m:=by omega
   obtain ⟨j,V⟩:∃j,lo+k=j:=⟨_,rfl⟩
   rw [V] at Q f1 q p
   have a1:(lo:Int)+k=(j:Int):=by omega
   have a2:j<n:=by omega
   have a0:(j:Int)<n:=by omega
   have a5:¬(j:Int)<0:=by omega
   have a4:IntKind.i64.wrap (j:Int)=j:=JI _ (by omega)
   have a3:IntKind.i64.wrap ((k:Int)+1)=((k+1:Nat):Int):=by rw [JI _ (by omega)];push_cast;rfl
   obtain ⟨I,D,i⟩:=af y o q;clear y o q p p0 H
   cases add with
   | true=>
    rw [if_pos rfl] at i
    go_upto_region 6 with (fail)
    refine XA.g 16 (fun C:World=>C.cell? ⟨g,j,none⟩=some (KL (nth G j))∧C.cell? ⟨R,o2+k,none⟩=some (KL (nth v k))) ?_
    refine XA.t ?_ [0,1,2,3,4,5,6,7,8,9,10,11,12,13,14,15] ⟨Q,p2⟩ ?_
    refine XA.e ?_
    simp only [Kc,Ke]
    go_wp2_with fail
    go_roundw
    case rel=>
     refine ⟨k+1,by omega,by go_num,?_,?_⟩
     ·rw [←i.out];exact dA (bC D.out 1) j _
     ·exact Keep.setCell (I.out.drewN 1) ⟨g,j,none⟩ (.inr rfl) _
    case measure=>simp [intOf];omega
   | false=>
    rw [if_neg (by decide)] at i
    go_wp2_with fail
    go_roundw
    case rel=>
     refine ⟨k+1,by omega,by go_num,?_,?_⟩
     ·rw [←i.out];exact dA D.out j _
     ·exact Keep.setCell I.out ⟨g,j,none⟩ (.inr rfl) _
    case measure=>simp [intOf];omega
  ·obtain rfl:k=m:=by omega
   have L:¬(k:Int)<k:=by omega
   obtain ⟨HO,I⟩:=ae o (Z.out.trans (y.toBelow Z.out.size (fun j V=>(X.out.lt j V).1)));clear o y
   go_wp2_with fail
   go_ret
   exact ⟨_,_,rfl,HO.out,I.out⟩
theorem zn {a b c:List Int} (h:b.length=a.length):eI (eI a b) c=eI a (eI b c):=by
 have e:(eI a b).length=a.length:=ir _ _
 unfold eI at e ⊢
 rw [e]
 refine fK fun k i=>?_
 rw [bj _ i,bj _ (by omega)]
 unfold wrap64;omega
theorem zm {a:List Int} (h:W64 a) (n:Nat):eI a (List.replicate n 0)=a:=by
 refine (eQ rfl fun k i=>?_).symm
 have e:nth (List.replicate n (0:Int)) k=0:=by
  simp only [nth,List.getD_eq_getElem?_getD,List.getElem?_replicate]
  split<;>rfl
 have:=h k i
 rw [e,Int.add_zero]
 unfold wrap64;omega
theorem Gz {i:Inp} (hg:kQ i) (x st a:Nat):(nK i x st a).length≤1048576:=by
 have p:=gX i.draws (n:=i.data.length) (b:=i.cfg.batch.toNat) (t:=st) (Nat.div_pos (by have:=hg.b.1;omega) (by have:=hg.c.ba;have:=hg.c.w;omega))
 have h1:∀(l:List Int) (k j:Nat),(cH l k j).length≤l.length:=fun l k j=>by simp only [cH,Kk,Kn];omega
 have o:=h1 (cH (db i.draws i.data.length i.cfg.batch.toNat st) i.cfg.workers.toNat x) i.cfg.micros.toNat a
 have q:=h1 (db i.draws i.data.length i.cfg.batch.toNat st) i.cfg.workers.toNat x
 have:=hg.c.ba
 unfold nK gQ
 omega
theorem yQ {i:Inp} {P G:List Int} (hG:W64 G) (hl:G.length=cnt i) (l:List Ex):eg i P G l=eI G (dO i P l):=by
 have j:∀(l:List Ex) (A:List Int),A.length=G.length→eg i P (eI G A) l=eI G (l.foldl (fun a x=>eI a (gD i.cfg.sizes P i.cfg.shift x.1 x.2)) A):=by
  intro l
  induction l with
  | nil=>intro A _;rfl
  | cons x l ih=>
   intro A hA
   show eg i P (eI (eI G A) _) l=_
   rw [zn hA,List.foldl_cons]
   exact ih _ (by rw [ir];exact hA)
 have:=j l (List.replicate (cnt i) 0) (by rw [Km,hl])
 rw [zm hG] at this
 exact this
theorem BL {ra i q:Int} {ps ms g:List Int} {lo n k:Nat} (j:k<n) (o:lo+n≤ps.length) (hm:lo+n≤ms.length):nth (vI ra i q ((ps.drop lo).take n) ((ms.drop lo).take n) g) k=kR ra q (nth ps (lo+k)) (eD i q (nth ms (lo+k)) (nth g k)):=by
 unfold vI
 rw [bj _ (by simp only [Kk,Kn];omega),eF j,eF j,fj,fj]
theorem sU {i q:Int} {ms g:List Int} {lo n k:Nat} (j:k<n) (hm:lo+n≤ms.length):nth (vJ i q ((ms.drop lo).take n) g) k=eD i q (nth ms (lo+k)) (nth g k):=by
 unfold vJ
 rw [bj _ (by simp only [Kk,Kn];omega),eF j,fj]
theorem DX {w:World} {vs:Array Value} {i:Inp} {x:Nat} {m:Mst} {s t:LSt} {u v:Array Value} {S:Nat→Prop} (hS:∀k,S k→k<w.heap.size) (h:dM (ay S w) vs i x m) (hu:RL (ay S w) u s) (hv:RL (ay S w) v t) (hs:cU i) {y:Itm} (hy:(dx i x)[aW i x m]?=some y) (k1 k2:Int) (b0 b1:Bool) (i0 i1 i2 i3 i4 i5 i6:Int) (bo:aN y=[KL 1,KL k1,KL k2,.bool b0,.bool b1,KL i0,KL i1,KL i2,KL i3,KL i4,KL i5,KL i6]) (st a:Nat) (bv:k1=(st:Nat)) (b8:k2=(a:Nat)) (d1:st<i.cfg.steps.toNat) (ha:a<i.cfg.micros.toNat) (dv:x<i.cfg.workers.toNat)
  (m1:Mst) (h1:m1.P=m.P∧m1.M=m.M∧m1.G=eg i m.P m.G (di i.data (nK i x st a))∧m1.rc=m.rc) (aG:aW i x m1=aW i x m+1):
  Calls Tryz.prog 24 #[.agg vs,.agg u,.agg v] w (fun e p=>mG S i x m1 (s) (t) 0 w e p):=by
 obtain ⟨dk,e6⟩:=ae bv b8;clear bv b8
 obtain ⟨A,c,D,cd,T,ct,R,cr,PA,pc,MA,mc,GA,gc,SA,sc,bI,oI,ic,B1,c1,B2,c2,dn,il,N,rfl,rfl,rfl,H⟩:=jy hS h hu hv hs hy
 have ad:=H.rw'
 rw [bo] at ad
 rw [H.dn'] at aG
 obtain ⟨d0,H1,bX⟩:=af ad h1 aG
 obtain ⟨e0,dG,tl,d6,ci,dr,cs⟩:=H.loc
 have q0:=br N
 clear h hu hv hs hy bo hS h1 aG ad
 go_enter Tryz.func24,Tryz.ntmps24
 go_upto_region 1 with (fail)
 rw [H.eW]
 go_upto_region 4 with (first | (refine dN d0.out fg rfl rfl rfl ?_) | (refine az (JE _ _) fg rfl rfl rfl rfl rfl rfl rfl ?_;intro W3 e3 k3;obtain ⟨E3,K3⟩:=ae e3 (aB k3);clear e3 k3))
 clear e0 dG tl q0 d6 ci dr cs
 go_upto_region 5 with (first | (refine aJ #[KL i5,KL i6] (b:=N.heap.size) E3.out fF rfl rfl rfl rfl ?_) | (refine az (JE _ _) fF rfl rfl rfl rfl rfl rfl rfl ?_;intro W4 e4 k4;obtain ⟨E4,K4⟩:=ae e4 (aB k4);clear e4 k4))
 have y0:W4.cell? ⟨N.heap.size,0,none⟩=some (KL 1):=JF W4 _ 0 _ _ _ (sb E3.out _ K4.out)
 have bs:=aa (bt K3.out K4.out);have bf:=Lib.hid (H.bx _ bs.out).1;have ds:=aa (sb E3.out _ K4.out)
 go_upto_region 8 with (first | (refine aJ #[.slice A i.cfg.sizes.length c,KL i.cfg.shift,KL i.cfg.rate,KL i.cfg.mom,KL i.cfg.workers,KL i.cfg.batch,KL i.cfg.micros,KL i.cfg.steps,KL i.cfg.bucket,KL i.cfg.chunk,KL i.cfg.window,KL i.cfg.cap] (b:=w.heap.size) bf.out xH rfl rfl rfl rfl ?_) | (refine az (JE _ _) xH rfl rfl rfl rfl rfl rfl rfl ?_;intro B e5 k5;obtain ⟨E5,K5⟩:=ae e5 (aB k5);clear e5 k5))
 have a8:=aa (bt bs.out K5.out)
 have a1:=H.K.trans (a8.out.mono H.K.size)
 have q5:=(br B).drew
 have kM:=fun p (q:Below B.heap.size B p)=>sb (sb bf.out _ K5.out) p q
 have kX:=fun p (q:Below B.heap.size B p)=>sb (sb ds.out _ K5.out) p q
 have cy:∀p,Below B.heap.size B p→p.cell? ⟨w.heap.size,15,none⟩=some (KL (x:Nat)):=fun p q=>JF p _ 15 _ _ _ (kM p q)
 have x1:∀p,Below B.heap.size B p→p.cell? ⟨N.heap.size,1,none⟩=some (KL (st:Nat)):=fun p q=>by rw [←dk.out];exact JF p _ 1 _ _ _ (kX p q)
 have x2:∀p,Below B.heap.size B p→p.cell? ⟨N.heap.size,2,none⟩=some (KL (a:Nat)):=fun p q=>by rw [←e6.out];exact JF p _ 2 _ _ _ (kX p q)
 have c4:∀p,Below B.heap.size B p→p.cell? ⟨W4.heap.size,4,none⟩=some (KL i.cfg.workers):=fun p q=>JF p _ 4 _ _ _ (sb E5.out p q)
 have c6:∀p,Below B.heap.size B p→p.cell? ⟨W4.heap.size,6,none⟩=some (KL i.cfg.micros):=fun p q=>JF p _ 6 _ _ _ (sb E5.out p q)
 have hg:=H.s'.g
 have el:1≤i.cfg.batch:=by have:=hg.c.w;have:=hg.c.ba;omega
 have eW:((i.cfg.workers.toNat:Nat):Int)=i.cfg.workers:=by have:=hg.c.w;omega
 have eM:((i.cfg.micros.toNat:Nat):Int)=i.cfg.micros:=by have:=hg.c.mi;omega
 have eB:((i.cfg.batch.toNat:Nat):Int)=i.cfg.batch:=by omega
 have eS:((i.cfg.steps.toNat:Nat):Int)=i.cfg.steps:=by have:=hg.c.st;omega
 have U:=fun p (q:Below B.heap.size B p)=>H.hI.below (a1.trans (q.mono a1.size))
 have bn:=fun p (q:Below B.heap.size B p)=>uZ A c D cd T ct R cr i p hg (U p q).r (U p q).rl (U p q).ru
 have Y:=fun p A' c' (hA:cE yo 1 p A' (iF i.draws i.data.length (epI i)))=>xW i.data.length i.cfg.batch.toNat i.cfg.steps.toNat st i.cfg.workers.toNat x i.cfg.micros.toNat a (epI i) c' A' i.draws p hA rfl (by omega) (by have:=hg.b;omega) hg.b.2 (by have:=hg.c.st;omega) d1 (by have:=hg.c.w;omega) (by have:=hg.c.ba;omega) dv (by have:=hg.c.mi;omega) (by have:=hg.c.mi;omega) ha
 rw [eW,eM,eB,eS] at Y
 have I:=vV hg x st a
 have a4:gQ (db i.draws i.data.length i.cfg.batch.toNat st) i.cfg.workers.toNat x i.cfg.micros.toNat a=nK i x st a:=rfl
 rw [a4] at Y
 have Q:=Gz hg x st a
 obtain ⟨C,J⟩:∃C,nK i x st a=C:=⟨_,rfl⟩
 rw [J] at Y I Q
 obtain ⟨e7,cw,av,bh,dT,aR,KM,O⟩:=ak bn Y I J U Q kM a1;clear bn Y I J a4 U Q kM kX eW eM eB eS a1 y0
 refine HA.g (fun p:World=>Below B.heap.size B p) ?_
 refine HA.t ?_ [0,3,4,5,6,7,8,9,10,11,12] q5 ?_
 refine HA.ld 1 (aH A c D cd T ct R cr i) (fun p q=>KM.out p q) gM q5 ?_
 refine HA.c 2 (e7.out _ q5) ?_
 rintro e w6 ⟨A6,cl,rfl,⟨ek,o6⟩,k6⟩
 have q6:=q5.trans (k6.mono q5.size)
 refine ⟨_,rfl,q6,fun _=>?_⟩
 refine HA.c 13 (cw.out w6 A6 cl (o6.rd hg.b.2)) ?_
 rintro e w7 ⟨A7,c7,rfl, -,r7,k7⟩
 have q7:=q6.trans (k7.mono q6.size)
 refine ⟨_,rfl,q7,fun _=>?_⟩
 refine HA.t ?_ [14] q7 ?_
 refine HA.d ?_
 have q8:Below B.heap.size B w7.drew:=q7.drew
 have a0:=dT.out w7 q7
 have a3:=O.out.trans (q7.mono O.out.size)
 have ao:=H.hP.below a3
 have bN:=vd A c D cd T ct R cr i PA A7 m.P C i.start.length pc c7 w7 a0.c.hr (by have:=a0.c;exact this.hc) a0.d hg ao.hr H.Pl hg.s.symm ao.hw r7 (by have:=aR.out;omega)
 have a2:=KM.out w7 q7
 have d9:=JF w7 w.heap.size 16 _ _ _ a2
 have ee:=JC a2
 obtain ⟨cv,bM,Q7⟩:=af bN a2 q7;clear q5 q6 q7 q8 k6 k7 o6 r7 cy x1 x2 c4 c6 bN a2 a0 ao a3
 go_wp2_with (refine aJ (aH A c D cd T ct R cr i) (b:=w.heap.size) bM.out gM rfl rfl rfl rfl ?_)
 refine cv.out.mono ?_
 rintro e w8 ⟨k8,⟨-,v8,rfl,o8⟩ | ⟨cA, -⟩⟩
 rotate_left
 ·exact absurd av.out cA
 obtain ⟨A8,c8,rfl, -⟩:=aw o8
 have Z:=sb bM.out _ k8
 have cx:=JF w8 w.heap.size 18 _ _ _ Z
 have bl:=JM w8 w.heap.size 18 _ _ Z
 have d8:=JC Z
 have q8:=Q7.out.trans (k8.mono Q7.out.size)
 have a6:=O.out.trans (q8.mono O.out.size)
 have ab:(dO i m.P (di i.data C)).length=i.start.length:=by rw [im,hg.s]
 rw [←hg.s] at o8 ⊢
 have aM:=vq GA A8 m.G (dO i m.P (di i.data C)) i.start.length i.start.length gc c8 0 true w8 (H.hG.below a6).hr (Rd.own o8) H.Gl ab (by have:=H.s'.n;omega) (by omega)
 rw [show ((0:Nat):Int)=0 from rfl] at aM
 obtain ⟨dp,dc,Q8,eb⟩:=ag aM Z q8 ab;clear aM Z o8 k8 q8 a6 d9 ee ab
 go_wp2_with fail
 refine dp.out.mono ?_
 rintro e w9 ⟨A9,c9,rfl,o9,k9⟩
 have X:=sb dc.out _ k9
 have cc:=JF w9 w.heap.size 18 _ _ _ X
 have bl:=JM w9 w.heap.size 18 _ _ X
 have ea:=JC X
 have aP:=Q8.out.trans (k9.mono Q8.out.size)
 have a5:=O.out.trans (aP.mono O.out.size)
 have bO:=a5
 have eG:jp m.G 0 (dO i m.P (di i.data C)) true=eg i m.P m.G (di i.data C):=by rw [Fl (by rw [eb.out,H.Gl]),yQ H.hG.hw (by rw [H.Gl,hg.s])]
 rw [eG] at o9
 obtain ⟨O9,d7,bb,ec,ef⟩:=ah o9 X bO aP eG;clear o9 X bO a5 cx d8 k9 aP eG
 go_upto_region 28 with (fail)
 have L:=ss (i:=18) (v:=.slice A9 i.start.length c9) d7.out rfl
 have kk:Keep (fun k=>k=w.heap.size) w9 (w9.setCell ⟨w.heap.size,18,none⟩ (.slice A9 i.start.length c9)):=Keep.setCell (S:=fun k=>k=w.heap.size) (Keep.refl _ _) _ (.inr rfl) _
 obtain ⟨V,hV⟩:∃V,w9.setCell ⟨w.heap.size,18,none⟩ (.slice A9 i.start.length c9)=V:=⟨_,rfl⟩
 rw [hV] at L kk ⊢
 have a7:=bt a8.out ec.out
 have hb:=fun {b:Nat} {o:Obj} (h:N.heap[b]?=some o) (hne:b≠w.heap.size)=>(kk.block b (JC (sb h _ a7)) hne).trans (sb h _ a7)
 have bd:=hb (H.bx _ (br N)).2.1 (by omega)
 have bG:=hb (H.bx _ (br N)).2.2.1 (by omega)
 have b9:=hb (H.bx _ (br N)).2.2.2.1 (by omega)
 have bz:=hb (H.bx _ (br N)).2.2.2.2.1 (by omega)
 have bU:=hb (H.bx _ (br N)).2.2.2.2.2 (by omega)
 have bA:=bb.out.trans (kk.toBelow bb.out.size (fun j hj=>by rw [hj];exact JD _))
 have cb:=aa kk
 have ei:w.heap.size+6≤N.heap.size:=by have:=JC (H.bx _ (br N)).2.2.2.2.2;omega
 have HO:=aa (ax O9.out (show w.heap.size+6≤w8.heap.size by have:=a8.out.size;have:=Q8.out.size;omega));clear hV cc bl ea kk hb a7
 have d3:=JF V w.heap.size 21 _ _ _ L
 have bV:=JM V w.heap.size 21 _ _ L
 have lM:=JC L
 have d4:=H.wd
 have e9:=ss (i:=21) (v:=KL ((dn:Int)+1)) L rfl
 have k9:Keep (fun k=>k=w.heap.size) V (V.setCell ⟨w.heap.size,21,none⟩ (KL ((dn:Int)+1))):=Keep.setCell (S:=fun k=>k=w.heap.size) (Keep.refl _ _) _ (.inr rfl) _
 obtain ⟨E9,K9,cO,d2,da,d5,cj,e1⟩:=ak e9 k9 bd bG b9 bz bU bA;clear e9 k9 bd bG b9 bz bU bA L
 go_upto_region 29 with (fail)
 obtain ⟨V9,b7⟩:∃V9,V.setCell ⟨w.heap.size,21,none⟩ (KL ((dn:Int)+1))=V9:=⟨_,rfl⟩
 rw [b7] at E9 K9 ⊢
 clear b7 d3 bV lM d4
 obtain ⟨b1,b2,b3,b4,b5⟩:=ta K9.out cO.out d2.out da.out d5.out cj.out
 have hq:Below V9.heap.size V9 V9.drew:=(br V9).drew
 refine HA.g (KB3 w.heap.size V9) ?_
 refine HA.ld3 (vs:=#[.slice A i.cfg.sizes.length c,KL i.cfg.shift,KL i.cfg.rate,KL i.cfg.mom,KL i.cfg.workers,KL i.cfg.batch,KL i.cfg.micros,KL i.cfg.steps,KL i.cfg.bucket,KL i.cfg.chunk,KL i.cfg.window,KL i.cfg.cap,.slice D i.data.length cd,.slice T i.start.length ct,.slice R i.draws.length cr,KL (x:Nat),.slice PA i.start.length pc,.slice MA i.start.length mc,.slice A9 i.start.length c9,.slice SA m.rc.length sc,.slice (some ⟨bI,oI,none⟩) il ic,KL (dn+1)]) E9.out b1 b2 cI aS aS (Keep.below hq) ?_
 refine HA.st3 3 4 5 b3 b4 b5 cI aS aS hq (fun w8 r3 r4 e8 q8=>?_)
 refine HA.t ?_ [6] q8 ?_
 refine HA.d ?_
 obtain ⟨R3,R4,R5⟩:=af r3 r4 e8
 have F:=jx K9.out q8 e1.out
 obtain ⟨co,QW⟩:=ae F.1 F.2;clear b1 b2 b3 b4 b5 e8 q8 r3 r4 hq F
 go_wp2_with fail
 refine JQ (fp rfl rfl rfl rfl R3.out R4.out R5.out cI aS aS) rfl ?_
 have oF:=co.out.own (cb.out.own HO.out (fun j hj e=>by have:=(HO.out.lt j hj).1;omega)) (fun j hj e=>by have:=(HO.out.lt j hj).1;omega)
 have cf:=aw oF
 have e2:bD (ay S w8) A9 (eg i m.P m.G (di i.data C)) c9:=by
  obtain ⟨A',c',e',ej⟩:=cf
  simp only [Ku] at e'
  have hl:=kC (i:=i) (P:=m.P) (n:=i.start.length) (di i.data C) m.G H.Gl
  have:=H.s'.n
  exact ⟨by omega,by omega,fM oF (fun k hk=>by have:=H.S' k hk;omega),rn _ _ _ H.hG.hw _⟩
 have hX:Ext (ay S w) (ay S w8):=cu (Keep.below QW.out) (fun _ _ h=>h)
 obtain ⟨b6,bi,bw,be⟩:=H1.out
 exact ⟨_,_,_,rfl,rfl,rfl,⟨A,c,D,cd,T,ct,R,cr,PA,pc,MA,mc,A9,c9,SA,sc,some ⟨bI,oI,none⟩,ic,by rw [H.il',bX.out,be];push_cast;rfl,fJ H.I0 hX,by rw [b6];exact aX H.P0 hX,by rw [bi];exact aX H.M0 hX,by rw [bw];exact bh.out▸e2,by rw [be];exact dJ bW H.R0 hX,aU H.It0 hX,by rw [b6];exact H.Pl,by rw [bi];exact H.Ml,by rw [bw];exact (kC (i:=i) (P:=m.P) (n:=i.start.length) _ m.G H.Gl)⟩,⟨B1,c1,rfl,bK H.s0 hX,H.s2⟩,⟨B2,c2,rfl,bK H.t0 hX,H.t2⟩,QW.out⟩
theorem Gf (t0 p t2 o u:Int) (A1 j:Option Addr) (zs:List Int) (c1 c2:Nat) (w:World) (h1:Rd w A1 (aq .i64 zs)) (q:Rd w j (aq .i64 zs)) (hl:zs.length≤17592186043904):
  Calls Tryz.prog 130 #[.agg #[KL t0,KL p,KL t2,KL o,KL u,.slice A1 zs.length c1],.agg #[KL t0,KL p,KL t2,KL o,KL u,.slice j zs.length c2]] w fun e i=>e=.returned (.bool true)∧Below w.heap.size w i:=by
 have hs:=fun i (k:Below w.heap.size w i)=>ns A1 j zs zs c1 c2 i (h1.below k) (q.below k) hl hl
 rw [KA rfl] at hs
 have v:=aa hs;clear hs h1 q
 go_enter Tryz.func130,Tryz.ntmps130
 go_wp2_with fail
 refine (v.out _ ?_).mono ?_
 ·exact al
 rintro e i ⟨rfl,n,rfl⟩
 go_wp2_with fail
 go_ret
 refine ⟨rfl,?_⟩
 exact al
theorem bJ.at_ {w:World} {A:Option Addr} {ms:List Msg} (h:bJ w A ms) (j:Nat) (y:j<ms.length):
  ∃b o i q,A=some ⟨b,o,none⟩∧pz w b (o+j*6) (aC ms j).tag (.slice i (aC ms j).vals.length q)∧Rd w i (aq .i64 (aC ms j).vals):=by
 obtain ⟨p,h1,D,C,B⟩:=h
 obtain ⟨i,q,e,hr⟩:=B j y
 have hx:∀t,t<6→(List.flatten p)[j*6+t]?=((aC ms j).tag.cells++[Value.slice i (aC ms j).vals.length q])[t]?:=fun t v=>by
  rw [lC C j t (by omega) v,e]
 obtain ⟨b,o,rfl,c0⟩:=h1 (j*6+0) _ (hx 0 (by omega))
 have hc:∀t u,t<6→((aC ms j).tag.cells++[Value.slice i (aC ms j).vals.length q])[t]?=some u→w.cell? ⟨b,o+j*6+t,none⟩=some u:=fun t u v hu=>by
  obtain ⟨H,I,x,c⟩:=h1 (j*6+t) u ((hx t v).trans hu)
  injection x with x;injection x with e1 e2 _
  subst e1;subst e2
  rw [Ky];exact c
 exact ⟨b,o,i,q,rfl,⟨hc 0 _ (by omega) rfl,hc 1 _ (by omega) rfl,hc 2 _ (by omega) rfl,hc 3 _ (by omega) rfl,hc 4 _ (by omega) rfl,hc 5 _ (by omega) rfl⟩,hr⟩
theorem eA.at_ {V w:World} {A:Option Addr} {ms:List Msg} (h:eA V w A ms) (j:Nat) (y:j<ms.length):
  ∃b o i q,A=some ⟨b,o,none⟩∧pz w b (o+j*6) (aC ms j).tag (.slice i (aC ms j).vals.length q)∧Rd V i (aq .i64 (aC ms j).vals):=by
 obtain ⟨p,h1,D,C,B⟩:=h
 obtain ⟨i,q,e,hr⟩:=B j y
 have hx:∀t,t<6→(List.flatten p)[j*6+t]?=((aC ms j).tag.cells++[Value.slice i (aC ms j).vals.length q])[t]?:=fun t v=>by
  rw [lC C j t (by omega) v,e]
 obtain ⟨b,o,rfl,c0⟩:=h1 (j*6+0) _ (hx 0 (by omega))
 have hc:∀t u,t<6→((aC ms j).tag.cells++[Value.slice i (aC ms j).vals.length q])[t]?=some u→w.cell? ⟨b,o+j*6+t,none⟩=some u:=fun t u v hu=>by
  obtain ⟨H,I,x,c⟩:=h1 (j*6+t) u ((hx t v).trans hu)
  injection x with x;injection x with e1 e2 _
  subst e1;subst e2
  rw [Ky];exact c
 exact ⟨b,o,i,q,rfl,⟨hc 0 _ (by omega) rfl,hc 1 _ (by omega) rfl,hc 2 _ (by omega) rfl,hc 3 _ (by omega) rfl,hc 4 _ (by omega) rfl,hc 5 _ (by omega) rfl⟩,hr⟩
theorem yd (A1 A2:Option Addr) (ms:List Msg) (c1 c2:Nat) (w:World) (h1:bJ w A1 ms) (Z:bJ w A2 ms) (hl:ms.length≤17592186043904) (hv:∀m∈ms,m.vals.length≤17592186043904):
  Calls Tryz.prog 84 #[.slice A1 ms.length c1,.slice A2 ms.length c2] w fun e j=>e=.returned (.bool true)∧Below w.heap.size w j:=by
 obtain ⟨H1,H2,Hv⟩:=af h1 Z hv;clear h1 Z hv
 go_enter Tryz.func84,Tryz.ntmps84
 go_wp2_with fail
 go_loopw [5] (fun i wr=>∃k:Nat,k≤ms.length∧i=KL k∧Below w.heap.size w wr) (fun i _=>ms.length-(intOf i).toNat)
 case atStart=>exact ⟨0,JH _,rfl,JG _ _⟩
 case round=>
  obtain ⟨k,hk,rfl,D⟩:=hrel
  by_cases u:k<ms.length
  ·obtain ⟨v,C,B1,d1,L,x1,J⟩:=(H1.out.below (D.mono (JD _))).at_ k u
   obtain ⟨y,A,B2,X,R,x2,U⟩:=(H2.out.below (D.mono (JD _))).at_ k u
   subst L;subst R
   have H:(aC ms k).vals.length≤17592186043904:=by
    refine Hv.out _ ?_
    rw [aC,List.getD,Kh u]
    exact List.getElem_mem _
   generalize aC ms k=m at *
   obtain ⟨⟨t0,Q,t2,I,N⟩,zs⟩:=m
   dsimp only at x1 x2 J U H
   obtain ⟨p0,p1,p2,p3,p4,p5⟩:=x1
   obtain ⟨Y,q1,q2,q3,q4,q5⟩:=x2
   dsimp only at p0 p1 p2 p3 p4 Y q1 q2 q3 q4
   have hs:=fun j (k:Below wr.heap.size wr j)=>Gf t0 Q t2 I N B1 B2 zs d1 X j (J.below k) (U.below k) H
   have V:=ar p0
   have T:=ar Y
   obtain ⟨Hs,HW⟩:=ae hs D;clear hs D J U
   go_wp2_with fail
   go_region_held3 (fun j=>j.cell? ⟨v,C+k*6,none⟩=some (KL t0)∧j.cell? ⟨v,C+k*6+1,none⟩=some (KL Q)∧j.cell? ⟨v,C+k*6+2,none⟩=some (KL t2)∧j.cell? ⟨v,C+k*6+3,none⟩=some (KL I)∧j.cell? ⟨v,C+k*6+4,none⟩=some (KL N)∧j.cell? ⟨v,C+k*6+5,none⟩=some (.slice B1 zs.length d1)∧
     j.cell? ⟨y,A+k*6,none⟩=some (KL t0)∧j.cell? ⟨y,A+k*6+1,none⟩=some (KL Q)∧j.cell? ⟨y,A+k*6+2,none⟩=some (KL t2)∧j.cell? ⟨y,A+k*6+3,none⟩=some (KL I)∧j.cell? ⟨y,A+k*6+4,none⟩=some (KL N)∧j.cell? ⟨y,A+k*6+5,none⟩=some (.slice B2 zs.length X)) (simp [go_sem, *])
    ((go_at_call 130;refine (Hs.out _ ?_).mono ?_;exact al;rintro e w5 ⟨rfl,x⟩;refine df (p:=Below wr.heap.size wr w5) ?_ ?_;(focus (refine Below.trans ?_ (x.mono (by simp));exact al;done));intro q;have g1:=fun o=>q.cell (p:=⟨v,o,none⟩) V;have g2:=fun o=>q.cell (p:=⟨y,o,none⟩) T;have O:=aa q;clear x q))
   all_goals
    go_wp2_with fail
    go_roundw
    case rel=>
     refine ⟨k+1,by omega,by go_num,HW.out.trans (Below.mono (B:=wr.heap.size) ?_ HW.out.size)⟩
     have x:=O.out
     exact al
    case measure=>simp [intOf];omega
  ·obtain rfl:k=ms.length:=by omega
   go_wp2_with fail
   go_ret
   exact ⟨rfl,D⟩
theorem uu {i:List (List Value)} {k:Nat} (h:∀r∈i,r.length=k):∀n,(List.flatten i).drop (n*k)=List.flatten (i.drop n):=by
 induction i with
 | nil=>intro n;simp
 | cons r l ih=>
  intro n
  cases n with
  | zero=>simp
  | succ n=>
   have hr:=h r (by simp)
   rw [List.flatten_cons,List.drop_append,List.drop_of_length_le (by rw [hr,Nat.add_mul];omega),List.nil_append,hr,show (n+1)*k-k=n*k by rw [Nat.add_mul];omega,ih (fun r hr=>h r (by simp [hr])) n,Kc]
theorem bJ.slice {w:World} {A:Option Addr} {ms:List Msg} (h:bJ w A ms) (n:Nat) (q:Option Addr) (hA:∀b o,A=some ⟨b,o,none⟩→q=some ⟨b,o+n*6,none⟩):bJ w q (ms.drop n):=by
 by_cases hn:n<ms.length
 ·obtain ⟨b,o,B,d,rfl,_,_⟩:=h.at_ 0 (by omega)
  obtain rfl:=hA b o rfl
  obtain ⟨i,h1,v,p,x⟩:=h
  refine ⟨i.drop n,?_,by simp [v],fun r hr=>p r (List.mem_of_mem_drop hr),fun j u=>?_⟩
  ·rw [←uu p];exact h1.drop _
  ·have:=x (n+j) (by simp at u;omega)
   simpa [dL,aC] using this
 ·rw [List.drop_of_length_le (by omega)];exact bJ.nil _ _
theorem zG (cap:Int) (A:Option Addr) (ms:List Msg) (c r:Nat) (pk:Int) (w:World) (h:bJ w A ms) (hr:r≤ms.length) (hc:ms.length≤c) (hl:ms.length≤17592186043904):
  Calls Tryz.prog 38 #[.agg #[KL cap,.slice A ms.length c,KL r,KL pk]] w fun e j=>∃p q,e=.returned (.slice p (ms.length-r) q)∧bJ j p (ms.drop r)∧Below w.heap.size w j:=by
 have H:=aa h
 by_cases i:c=r
 ·obtain rfl:c=ms.length:=by omega
  obtain rfl:r=ms.length:=by omega
  clear hr hc h i
  go_enter Tryz.func38,Tryz.ntmps38
  go_wp2_with fail
  go_ret
  refine ⟨A,0,by rw [Nat.sub_self];rfl,?_,?_⟩
  ·rw [List.drop_of_length_le (JD _)];exact bJ.nil _ _
  ·exact al
 ·cases A with
  | none=>
   have hm:ms=[]:=by
    cases ms with
    | nil=>rfl
    | cons m l=>obtain ⟨b,o,_,_,h,_⟩:=h.at_ 0 (by simp);cases h
   subst hm
   obtain rfl:r=0:=by simpa using hr
   clear hr hc h
   go_enter Tryz.func38,Tryz.ntmps38
   go_wp2_with fail
   go_ret
   refine ⟨_,_,rfl,?_,?_⟩
   ·exact bJ.nil _ _
   ·exact al
  | some a=>
   clear h
   go_enter Tryz.func38,Tryz.ntmps38
   go_wp2_with fail
   go_ret
   refine ⟨_,_,rfl,?_,?_⟩
   ·refine bJ.slice (H.out.below ?_) r _ ?_
    ·exact al
    ·intro b o e;cases e;simp [Addr.add]
   ·exact al
theorem nC (cap:Nat) (A:Option Addr) (n c r:Nat) (pk:Int) (q:Array Value) (w:World) (hr:r≤n) (hn:n≤100000000000) (p:r+cap≤n):
  Calls Tryz.prog 34 #[.agg #[KL cap,.slice A n c,KL r,KL pk],.agg q] w fun e j=>e=.returned (.tuple #[.agg #[KL cap,.slice A n c,KL r,KL pk],KL 11])∧Below w.heap.size w j:=by
 have i:=fun W=>oK cap A n c r pk W (by omega) (by omega)
 have o:=aa i;clear i
 go_enter Tryz.func34,Tryz.ntmps34
 go_wp2_with fail
 go_region_held3 (fun j=>j.cell? ⟨w.heap.size,0,none⟩=some (KL (cap:Int))∧j.cell? ⟨w.heap.size,1,none⟩=some (.slice A n c)∧j.cell? ⟨w.heap.size,2,none⟩=some (KL (r:Int))∧j.cell? ⟨w.heap.size,3,none⟩=some (KL pk)) (simp [go_sem,World.cell?_alloc_past, *])
  ((go_at_call 83;refine (o.out _).mono ?_;rintro e j ⟨rfl,rfl⟩))
 go_wp2_with fail
 refine JQ (v:=.tuple #[.agg #[KL cap,.slice A n c,KL r,KL pk],KL 11]) (by simp [results,Tryz.results34,go_sem,World.cell?_alloc_past]) rfl ⟨rfl,?_⟩
 exact al
theorem rU (cap:Int) (A:Option Addr) (n c:Nat) (pk:Int) (t:Tg) (w:World) (hn:n≤100000000000):
  Calls Tryz.prog 39 #[.agg #[KL cap,.slice A n c,KL n,KL pk],.agg #[KL t.a,KL t.b,KL t.c,KL t.d,KL t.e]] w fun e o=>
   e=.returned (.tuple #[.agg #[KL cap,.slice A n c,KL n,KL pk],.agg La,KL 12])∧Below w.heap.size w o:=by
 have i:=fun W=>oK cap A n c n pk W (by omega) (by omega)
 rw [Int.sub_self] at i
 have j:=aa i;clear i
 go_enter Tryz.func39,Tryz.ntmps39
 go_wp2_with fail
 refine (j.out _).mono ?_
 rintro e p ⟨rfl,rfl⟩
 go_wp2_with fail
 refine JQ (v:=.tuple #[.agg #[KL cap,.slice A n c,KL n,KL pk],.agg La,KL 12]) (by simp [results,Tryz.results39,go_sem,World.cell?_alloc_past]) rfl ⟨rfl,?_⟩
 exact al
theorem vl (cap:Int) (A:Option Addr) (ms:List Msg) (c r:Nat) (pk:Int) (t:Tg) (w:World) (h:bJ w A ms) (p:r<ms.length) (hn:ms.length≤100000000000) (j:(aC ms r).tag≠t):
  Calls Tryz.prog 39 #[.agg #[KL cap,.slice A ms.length c,KL r,KL pk],.agg #[KL t.a,KL t.b,KL t.c,KL t.d,KL t.e]] w fun e J=>
   e=.returned (.tuple #[.agg #[KL cap,.slice A ms.length c,KL r,KL pk],.agg La,KL 10])∧Below w.heap.size w J:=by
 obtain ⟨t0,t1,t2,X,Z⟩:=t
 obtain ⟨b,o,B,d,hA,U,hB⟩:=h.at_ r p
 have i:=fun W=>oK cap A ms.length c r pk W (by omega) (by omega)
 obtain ⟨D,q⟩:∃D:Int,(ms.length:Int)-r=D:=⟨_,rfl⟩
 rw [q] at i
 have O:(D==0)=false:=by simp;omega
 generalize aC ms r=m at *
 obtain ⟨⟨u0,u1,u2,u3,u4⟩,zs⟩:=m
 obtain ⟨y,N,L,C,I,H⟩:=U
 dsimp only at y N L C I H hB j ⊢
 have hb:b<w.heap.size:=ar y
 have T:b<w.heap.size+1:=by omega
 have Q:b<w.heap.size+1+1:=by omega
 have V:b<w.heap.size+1+1+1:=by omega
 have R:b<w.heap.size+1+1+1+1:=by omega
 subst hA
 obtain ⟨x,HD⟩:=ae i q;clear i q h;have u:=aa j;clear j
 go_enter Tryz.func39,Tryz.ntmps39
 go_wp2_with fail
 refine (x.out _).mono ?_
 rintro e Y ⟨rfl,rfl⟩
 go_wp2_with fail
 ·exact absurd (by simp only [*]) u.out
 all_goals
  refine JQ (v:=.tuple #[.agg #[KL cap,.slice (some ⟨b,o,none⟩) ms.length c,KL r,KL pk],.agg La,KL 10]) (by simp [results,Tryz.results39,go_sem,World.cell?_alloc_past]) rfl ⟨rfl,?_⟩
  exact al
theorem qH (V:World) (cap:Int) (A:Option Addr) (ms:List Msg) (c r:Nat) (pk:Int) (t:Tg) (w:World) (h:eA V w A ms) (j:r<ms.length) (hn:ms.length≤100000000000) (heq:(aC ms r).tag=t):
  Calls Tryz.prog 39 #[.agg #[KL cap,.slice A ms.length c,KL r,KL pk],.agg #[KL t.a,KL t.b,KL t.c,KL t.d,KL t.e]] w fun e I=>
   ∃u L,e=.returned (.tuple #[.agg #[KL cap,.slice A ms.length c,KL ((r+1:Nat):Int),KL pk],.agg #[KL t.a,KL t.b,KL t.c,KL t.d,KL t.e,.slice u (aC ms r).vals.length L],KL 0])∧Rd V u (aq .i64 (aC ms r).vals)∧Below w.heap.size w I:=by
 subst heq
 obtain ⟨b,o,B,d,hA,x1,hB⟩:=h.at_ r j
 have i:=fun W=>oK cap A ms.length c r pk W (by omega) (by omega)
 obtain ⟨D,p⟩:∃D:Int,(ms.length:Int)-r=D:=⟨_,rfl⟩
 rw [p] at i
 have X:(D==0)=false:=by simp;omega
 generalize aC ms r=m at *
 obtain ⟨⟨O,R,N,T,Q⟩,zs⟩:=m
 obtain ⟨x,U,J,y,H,C⟩:=x1
 dsimp only at x U J y H C hB ⊢
 have hb:b<w.heap.size:=ar x
 have a0:b<w.heap.size+1:=by omega
 have Y:b<w.heap.size+1+1:=by omega
 have a1:b<w.heap.size+1+1+1:=by omega
 have Z:b<w.heap.size+1+1+1+1:=by omega
 subst hA
 obtain ⟨q,HD⟩:=ae i p;clear i p h
 go_enter Tryz.func39,Tryz.ntmps39
 go_wp2_with fail
 refine (q.out _).mono ?_
 rintro e w1 ⟨rfl,rfl⟩
 go_wp2_with fail
 go_region
 all_goals go_wp2_with fail
 all_goals
  refine JQ (v:=.tuple #[.agg #[KL cap,.slice (some ⟨b,o,none⟩) ms.length c,KL ((r:Int)+1),KL pk],.agg #[KL O,KL R,KL N,KL T,KL Q,.slice B zs.length d],KL 0]) (by simp [results,Tryz.results39,go_sem,World.cell?_alloc_past]) rfl ⟨B,d,by rw [Int.natCast_add];rfl,hB,?_⟩
  exact al
theorem DU {w:World} {vs:Array Value} {i:Inp} {x:Nat} {m:Mst} {s t:LSt} {u v:Array Value} {S:Nat→Prop} (hS:∀k,S k→k<w.heap.size) (h:dM (ay S w) vs i x m) (hu:RL (ay S w) u s) (hv:RL (ay S w) v t) (hs:cU i) {y:Itm} (O:(dx i x)[aW i x m]?=some y) (k1 k2:Int) (b0 b1:Bool) (i0 i1 i2 i3 i4 i5 i6:Int) (bo:aN y=[KL 3,KL k1,KL k2,.bool b0,.bool b1,KL i0,KL i1,KL i2,KL i3,KL i4,KL i5,KL i6]) (lo Q:Nat) (bf:i5=(lo:Nat)) (bd:i6=(Q:Nat)) (d9:lo<Q) (dk:Q≤i.start.length) (aR:t.recv≤t.msgs.length) (a2:t.msgs.length≤100000000000) (a3:t.msgs.length<t.recv+t.cap)
  (m1:Mst) (h1:m1.P=m.P∧m1.M=m.M∧m1.G=m.G∧m1.rc=m.rc) (aP:aW i x m1=aW i x m+1):
  Calls Tryz.prog 24 #[.agg vs,.agg u,.agg v] w (fun e p=>mG S i x m1 (s) (t.send ⟨⟨i0,i1,i2,i3,i4⟩,(m.G.drop lo).take (Q-lo)⟩) 0 w e p):=by
 obtain ⟨c7,bV⟩:=ae bf bd;clear bf bd
 obtain ⟨A,c,D,cd,T,ct,R,cr,PA,pc,MA,mc,GA,gc,SA,sc,bI,oI,ic,B1,c1,B2,c2,dn,il,W0,rfl,rfl,rfl,H⟩:=jy hS h hu hv hs O
 have aG:=H.rw'
 rw [bo] at aG
 rw [H.dn'] at aP
 obtain ⟨cj,H1,bU⟩:=af aG h1 aP
 obtain ⟨d3,d2,tl,cw,c6,d1,cf⟩:=H.loc
 have q0:=br W0
 clear h hu hv hs O bo hS h1 aP aG
 go_enter Tryz.func24,Tryz.ntmps24
 go_upto_region 1 with (fail)
 rw [H.eW]
 go_upto_region 4 with (first | (refine dN cj.out fg rfl rfl rfl ?_) | (refine az (JE _ _) fg rfl rfl rfl rfl rfl rfl rfl ?_;intro W3 e3 k3;obtain ⟨E3,K3⟩:=ae e3 (aB k3);clear e3 k3))
 clear d3 d2 tl q0 cw c6 d1 cf
 go_upto_region 5 with (first | (refine aJ #[KL i5,KL i6] (b:=W0.heap.size) E3.out fF rfl rfl rfl rfl ?_) | (refine az (JE _ _) fF rfl rfl rfl rfl rfl rfl rfl ?_;intro B e4 k4;obtain ⟨E4,K4⟩:=ae e4 (aB k4);clear e4 k4))
 have y0:B.cell? ⟨W0.heap.size,0,none⟩=some (KL 3):=JF B _ 0 _ _ _ (sb E3.out _ K4.out)
 have a6:=aa (bt K3.out K4.out)
 go_upto_region 12 with (fail)
 have cx:=Lib.hid (H.bx _ a6.out).1;have bl:=Lib.hid (H.bx _ a6.out).2.2.1;have d0:=aa (sb E3.out _ K4.out)
 have a7:=H.K.trans (a6.out.mono H.K.size)
 have d8:Q≤gc:=by have:=H.hG.hc;have:=H.Gl;omega
 obtain ⟨gb,go,rfl, -⟩:=H.hG.hr.num (show 0<m.G.length by have:=H.Gl;omega)
 have X:=(br B).drew
 have aM:∀p,Below B.heap.size B p→p.cell? ⟨w.heap.size,18,none⟩=some (.slice (some ⟨gb,go,none⟩) i.start.length gc):=fun p q=>JF p _ 18 _ _ _ (sb cx.out p q)
 have x0:∀p,Below B.heap.size B p→p.cell? ⟨W3.heap.size,0,none⟩=some (KL (lo:Nat)):=fun p q=>by rw [←c7.out];exact JF p _ 0 _ _ _ (sb E4.out p q)
 have x1:∀p,Below B.heap.size B p→p.cell? ⟨W3.heap.size,1,none⟩=some (KL (Q:Nat)):=fun p q=>by rw [←bV.out];exact JF p _ 1 _ _ _ (sb E4.out p q)
 have ds:(lo:Int)≤Q:=by omega
 have dr:(Q:Int)≤gc:=by omega
 have d5:lo≤Q:=by omega
 have d6:¬gc=lo:=by omega
 have ao:((m.G.drop lo).take (Q-lo)).length=Q-lo:=by have:=H.Gl;rw [Kk,Kn];omega
 have b8:Rd (ay S w) (some ⟨gb,go+lo,none⟩) (aq .i64 ((m.G.drop lo).take (Q-lo))):=by
  have:=(H.G0.hr.drop lo).take (Q-lo)
  rwa [cV,cK] at this
 have a8:=fun p (q:Below B.heap.size B p)=>zF (ay S w) t.cap B2 t.msgs c2 t.recv t.peak ⟨i0,i1,i2,i3,i4⟩ (some ⟨gb,go+lo,none⟩) ((m.G.drop lo).take (Q-lo)) (gc-lo) p aR a2 a3 (ko H.t0.in_ (gn (Keep.below (a7.trans (q.mono a7.size))))) b8
 rw [ao] at a8
 unfold AB at a8
 obtain ⟨bM,cy⟩:=ae a8 a7;clear a8 b8 ao a7 y0 aR a2 a3
 go_cut [16,17] (fun v cc wx=>∃J I c5,v=.pointer (some ⟨J,0,none⟩)∧cc=KL 0∧wx.heap[J]?=some (.cells #[KL (t.cap:Nat),.slice I (t.msgs.length+1) c5,KL (t.recv:Nat),KL ((max t.peak (t.msgs.length+1-t.recv):Nat):Int)] 73 (0,0))∧eA (ay S w) wx I (t.msgs++[⟨⟨i0,i1,i2,i3,i4⟩,(m.G.drop lo).take (Q-lo)⟩])∧t.msgs.length+1≤c5∧(∀y,I=some y→B.heap.size≤y.block)∧Below B.heap.size B wx)
 case first=>
  refine HA.g (fun p:World=>Below B.heap.size B p) ?_
  refine HA.ld 0 #[KL (t.cap:Nat),.slice B2 t.msgs.length c2,KL (t.recv:Nat),KL (t.peak:Nat)] (fun p q=>sb bl.out p q) aS X ?_
  refine HA.t ?_ [1,2,4,5,6,7,8,9,10] X ?_
  refine HA.ld 3 #[KL i0,KL i1,KL i2,KL i3,KL i4] (fun p q=>sb d0.out p q) ff X ?_
  refine HA.t ?_ [11] X ?_
  refine HA.two 12 16 ?_ ?_
  ·refine HAS.c (bM.out _ X) ?_
   rintro e w5 ⟨I,c5,P5,a1,rfl,⟨L,N,C⟩,k5⟩
   have Y:=X.trans (k5.mono X.size)
   refine ⟨_,rfl,Y,fun _=>?_⟩
   refine HA.t ?_ [13,14,15] Y ?_
   refine HA.v 16 (w5.alloc (.cells #[KL 0,KN,KL 0,KL 0] 73)) (.pointer (some ⟨w5.heap.size,0,none⟩)) (Y.alloc Y.size _) ?_
   refine HA.st 17 (JE w5 _) aS (fun w6 e6 k6=>?_)
   have Z:=Y.trans ((aB k6).mono Y.size)
   refine ⟨Z,?_⟩
   refine HA.t ?_ [18] Z ?_
   refine HA.d ?_
   have a5:w6.heap[w5.heap.size]?=some (.cells #[KL (t.cap:Nat),.slice I (t.msgs.length+1) c5,KL (t.recv:Nat),KL ((max t.peak (t.msgs.length+1-t.recv):Nat):Int)] 73 (0,0)):=(by first | exact e6 | (rw [a1] at e6;simpa using e6))
   have HF:=aa (JL a5 (JL (show eA (ay S w) w6 I _ from by obtain ⟨U,z1,z2,z3,z4⟩:=L;exact ⟨U,z1.below (aB k6),z2,z3,z4⟩) (JL (show t.msgs.length+1≤c5 by simpa using N) (JL (show ∀y,I=some y→B.heap.size≤y.block from fun y O=>by have:=C y O;rwa [Kt] at this) Z))));clear e6 a5 k6 Z Y X k5 L C N a1 aM x0 x1
   go_wp2_with fail
   go_meet
   exact ⟨_,I,c5,rfl,rfl,HF.out⟩
  ·refine HAS.v (B.drew.alloc (.cells #[KL 0,KN,KL 0,KL 0] 73)) (.pointer (some ⟨B.drew.heap.size,0,none⟩)) (X.alloc X.size _) ?_
   have gA:=JE B.drew (.cells #[KL 0,KN,KL 0,KL 0] 73)
   have a4:=X.alloc X.size (.cells #[KL 0,KN,KL 0,KL 0] 73)
   have sA:(B.drew.alloc (.cells #[KL 0,KN,KL 0,KL 0] 73)).heap.size=B.drew.heap.size+1:=JS _ _
   obtain ⟨wa,bG⟩:∃wa,B.drew.alloc (.cells #[KL 0,KN,KL 0,KL 0] 73)=wa:=⟨_,rfl⟩
   rw [bG] at gA a4 sA ⊢
   clear bG
   refine HA.c 12 (bM.out _ a4) ?_
   rintro e w5 ⟨I,c5,P5,a1,rfl,⟨L,N,C⟩,k5⟩
   have Y:=a4.trans (k5.mono a4.size)
   refine ⟨_,rfl,Y,fun _=>?_⟩
   refine HA.t ?_ [13,14,15] Y ?_
   have bh:=sb gA _ k5
   refine HA.st 17 bh aS (fun w6 e6 k6=>?_)
   have Z:=Y.trans (k6.toBelow Y.size (fun j hj=>by have e':j=B.drew.heap.size:=hj;rw [Kt] at e';omega))
   refine ⟨Z,?_⟩
   refine HA.t ?_ [18] Z ?_
   refine HA.d ?_
   have a5:w6.heap[B.drew.heap.size]?=some (.cells #[KL (t.cap:Nat),.slice I (t.msgs.length+1) c5,KL (t.recv:Nat),KL ((max t.peak (t.msgs.length+1-t.recv):Nat):Int)] 73 (0,0)):=(by first | exact e6 | (rw [a1] at e6;simpa using e6))
   have HF:=aa (JL a5 (JL (L.keep k6 (fun y O hk=>by have:=C y O;have e':y.block=B.drew.heap.size:=hk;omega)) (JL (show t.msgs.length+1≤c5 by simpa using N) (JL (show ∀y,I=some y→B.heap.size≤y.block from fun y O=>by have:=C y O;rw [sA,Kt] at this;omega) Z))));clear e6 a5 k6 Z Y X a4 k5 L C N a1 aM x0 x1 gA bh
   go_wp2_with fail
   go_meet
   exact ⟨_,I,c5,rfl,rfl,HF.out⟩
 case rest=>
 obtain ⟨J,I,c5,rfl,rfl,e6,L,N,C,Z⟩:=hcut
 obtain ⟨w6,rfl⟩:∃w6,w6=wc:=⟨_,rfl⟩
 obtain ⟨E6,Q6,bX,cb,cA⟩:=ah e6 Z L C N;clear e6 Z X L C N aM x0 x1
 have bv:=sb bl.out _ Q6.out
 go_upto_region 28 with (first | (refine aJ #[KL (t.cap:Nat),.slice I (t.msgs.length+1) c5,KL (t.recv:Nat),KL ((max t.peak (t.msgs.length+1-t.recv):Nat):Int)] (b:=J) E6.out aS rfl rfl rfl rfl ?_) | (refine az bv aS rfl rfl rfl rfl rfl rfl rfl ?_;intro V eV kV;obtain ⟨EV,KV⟩:=ae eV kV;clear eV kV))
 have ad:=bt a6.out Q6.out
 have hb:=fun {b:Nat} {o:Obj} (h:W0.heap[b]?=some o) (hne:b≠w.heap.size+1+1)=>(KV.out.block b (JC (sb h _ ad)) hne).trans (sb h _ ad)
 have a0:=hb (H.bx _ (br W0)).1 (by omega)
 have bb:=hb (H.bx _ (br W0)).2.1 (by omega)
 have bA:=EV.out
 have b9:=hb (H.bx _ (br W0)).2.2.2.1 (by omega)
 have bw:=hb (H.bx _ (br W0)).2.2.2.2.1 (by omega)
 have bN:=hb (H.bx _ (br W0)).2.2.2.2.2 (by omega)
 have ab:=H.K.trans (ad.mono H.K.size)
 have bz:=ab.trans (KV.out.toBelow ab.size (fun j hj=>by omega))
 have da:=aa ab;clear hb ad bv ab
 have co:=JF V w.heap.size 21 _ _ _ a0
 have bO:=JM V w.heap.size 21 _ _ a0
 have lM:=JC a0
 have cs:=H.wd
 have e9:=ss (i:=21) (v:=KL ((dn:Int)+1)) a0 rfl
 have k9:Keep (fun k=>k=w.heap.size) V (V.setCell ⟨w.heap.size,21,none⟩ (KL ((dn:Int)+1))):=Keep.setCell (S:=fun k=>k=w.heap.size) (Keep.refl _ _) _ (.inr rfl) _
 obtain ⟨E9,K9,ci,cl,cO,cv,c8,d4⟩:=ak e9 k9 bb bA b9 bw bN bz;clear e9 k9 bb bA b9 bw bN bz a0
 go_upto_region 29 with (fail)
 obtain ⟨V9,b7⟩:∃V9,V.setCell ⟨w.heap.size,21,none⟩ (KL ((dn:Int)+1))=V9:=⟨_,rfl⟩
 rw [b7] at E9 K9 ⊢
 clear b7 co bO lM cs
 obtain ⟨b1,b2,b3,b4,b5⟩:=ta K9.out ci.out cl.out cO.out cv.out c8.out
 have hq:Below V9.heap.size V9 V9.drew:=(br V9).drew
 refine HA.g (KB3 w.heap.size V9) ?_
 refine HA.ld3 (vs:=#[.slice A i.cfg.sizes.length c,KL i.cfg.shift,KL i.cfg.rate,KL i.cfg.mom,KL i.cfg.workers,KL i.cfg.batch,KL i.cfg.micros,KL i.cfg.steps,KL i.cfg.bucket,KL i.cfg.chunk,KL i.cfg.window,KL i.cfg.cap,.slice D i.data.length cd,.slice T i.start.length ct,.slice R i.draws.length cr,KL (x:Nat),.slice PA i.start.length pc,.slice MA i.start.length mc,.slice (some ⟨gb,go,none⟩) i.start.length gc,.slice SA m.rc.length sc,.slice (some ⟨bI,oI,none⟩) il ic,KL (dn+1)]) E9.out b1 b2 cI aS aS (Keep.below hq) ?_
 refine HA.st3 3 4 5 b3 b4 b5 cI aS aS hq (fun w8 r3 r4 e8 q8=>?_)
 refine HA.t ?_ [6] q8 ?_
 refine HA.d ?_
 obtain ⟨R3,R4,R5⟩:=af r3 r4 e8
 have F:=jx K9.out q8 d4.out
 obtain ⟨c9,QW⟩:=ae F.1 F.2;clear b1 b2 b3 b4 b5 e8 q8 r3 r4 hq F
 go_wp2_with fail
 refine JQ (fp rfl rfl rfl rfl R3.out R4.out R5.out cI aS aS) rfl ?_
 have hX:Ext (ay S w) (ay S w8):=cu (Keep.below QW.out) (fun _ _ h=>h)
 have dc:=Q6.out.size
 have dp:=cy.out.size
 have d7:=KV.out.size
 have bn:bJ (ay S w8) I (t.msgs++[⟨⟨i0,i1,i2,i3,i4⟩,(m.G.drop lo).take (Q-lo)⟩]):=by
  obtain ⟨U,z1,z2,z3,z4⟩:=bX.out
  have av:∀y,I=some y→w.heap.size+6≤y.block:=fun y O=>by have:=cb.out y O;have:=JC (H.bx _ (br W0)).2.2.2.2.2;have:=a6.out.size;omega
  have zV:Rd w8 I (List.flatten U):=c9.out.rd (KV.out.rd z1 (fun y O e=>by have:=av y O;omega)) (fun y O e=>by have:=av y O;omega)
  exact ⟨U,kh zV (fun y O hs=>by have:=av y O;have:=H.S' _ hs;omega),z2,z3,fun j hj=>by obtain ⟨A',c',e',r'⟩:=z4 j hj;exact ⟨A',c',e',aU r' hX⟩⟩
 have hX:Ext (ay S w) (ay S w8):=cu (Keep.below QW.out) (fun _ _ h=>h)
 obtain ⟨b6,bi,bs,be⟩:=H1.out
 exact ⟨_,_,_,rfl,rfl,rfl,⟨A,c,D,cd,T,ct,R,cr,PA,pc,MA,mc,some ⟨gb,go,none⟩,gc,SA,sc,some ⟨bI,oI,none⟩,ic,by rw [H.il',bU.out,be];push_cast;rfl,fJ H.I0 hX,by rw [b6];exact aX H.P0 hX,by rw [bi];exact aX H.M0 hX,by rw [bs];exact aX H.G0 hX,by rw [be];exact dJ bW H.R0 hX,aU H.It0 hX,by rw [b6];exact H.Pl,by rw [bi];exact H.Ml,by rw [bs];exact H.Gl⟩,⟨B1,c1,rfl,bK H.s0 hX,H.s2⟩,⟨I,c5,by simp [LSt.send],bn,(by have:=cA.out;simpa [LSt.send] using this)⟩,QW.out⟩
theorem DW {w:World} {vs:Array Value} {i:Inp} {x:Nat} {m:Mst} {s t:LSt} {u v:Array Value} {S:Nat→Prop} (hS:∀k,S k→k<w.heap.size) (h:dM (ay S w) vs i x m) (hu:RL (ay S w) u s) (hv:RL (ay S w) v t) (hs:cU i) {y:Itm} (hy:(dx i x)[aW i x m]?=some y) (k1 k2:Int) (b0 b1:Bool) (i0 i1 i2 i3 i4 i5 i6:Int) (b8:aN y=[KL 3,KL k1,KL k2,.bool b0,.bool b1,KL i0,KL i1,KL i2,KL i3,KL i4,KL i5,KL i6]) (lo O:Nat) (b6:i5=(lo:Nat)) (aP:i6=(O:Nat)) (bX:lo<O) (c6:O≤i.start.length) (ad:t.recv≤t.msgs.length) (L:t.msgs.length≤100000000000) (N:t.recv+t.cap≤t.msgs.length)
  (m1:Mst) (h1:m1.P=m.P∧m1.M=m.M∧m1.G=m.G∧m1.rc=m.rc) (a4:aW i x m1=aW i x m):
  Calls Tryz.prog 24 #[.agg vs,.agg u,.agg v] w (fun e o=>mG S i x m1 (s) (t) 11 w e o):=by
 obtain ⟨bi,bf⟩:=ae b6 aP;clear b6 aP
 obtain ⟨A,c,D,cd,T,ct,R,cr,PA,pc,MA,mc,GA,Z,SA,sc,bI,oI,ic,B1,c1,B2,c2,dn,il,W0,rfl,rfl,rfl,H⟩:=jy hS h hu hv hs hy
 have a2:=H.rw'
 rw [b8] at a2
 rw [H.dn'] at a4
 obtain ⟨bn,H1,be⟩:=af a2 h1 a4
 obtain ⟨bG,bA,tl,bo,bh,bw,bl⟩:=H.loc
 have q0:=br W0
 clear h hu hv hs hy b8 hS h1 a4 a2
 go_enter Tryz.func24,Tryz.ntmps24
 go_upto_region 1 with (fail)
 rw [H.eW]
 go_upto_region 4 with (first | (refine dN bn.out fg rfl rfl rfl ?_) | (refine az (JE _ _) fg rfl rfl rfl rfl rfl rfl rfl ?_;intro W3 e3 k3;obtain ⟨E3,K3⟩:=ae e3 (aB k3);clear e3 k3))
 clear bG bA tl q0 bo bh bw bl
 go_upto_region 5 with (first | (refine aJ #[KL i5,KL i6] (b:=W0.heap.size) E3.out fF rfl rfl rfl rfl ?_) | (refine az (JE _ _) fF rfl rfl rfl rfl rfl rfl rfl ?_;intro p e4 k4;obtain ⟨E4,K4⟩:=ae e4 (aB k4);clear e4 k4))
 have y0:p.cell? ⟨W0.heap.size,0,none⟩=some (KL 3):=JF p _ 0 _ _ _ (sb E3.out _ K4.out)
 have U:=aa (bt K3.out K4.out)
 go_upto_region 12 with (fail)
 have bs:=Lib.hid (H.bx _ U.out).1;have bv:=Lib.hid (H.bx _ U.out).2.2.1;have bz:=aa (sb E3.out _ K4.out)
 have aG:=H.K.trans (U.out.mono H.K.size)
 have bU:O≤Z:=by have:=H.hG.hc;have:=H.Gl;omega
 obtain ⟨gb,go,rfl, -⟩:=H.hG.hr.num (show 0<m.G.length by have:=H.Gl;omega)
 have C:=(br p).drew
 have a3:∀o,Below p.heap.size p o→o.cell? ⟨w.heap.size,18,none⟩=some (.slice (some ⟨gb,go,none⟩) i.start.length Z):=fun o q=>JF o _ 18 _ _ _ (sb bs.out o q)
 have x0:∀o,Below p.heap.size p o→o.cell? ⟨W3.heap.size,0,none⟩=some (KL (lo:Nat)):=fun o q=>by rw [←bi.out];exact JF o _ 0 _ _ _ (sb E4.out o q)
 have x1:∀o,Below p.heap.size p o→o.cell? ⟨W3.heap.size,1,none⟩=some (KL (O:Nat)):=fun o q=>by rw [←bf.out];exact JF o _ 1 _ _ _ (sb E4.out o q)
 have c8:(lo:Int)≤O:=by omega
 have c9:(O:Int)≤Z:=by omega
 have bN:lo≤O:=by omega
 have bO:¬Z=lo:=by omega
 have ao:((m.G.drop lo).take (O-lo)).length=O-lo:=by have:=H.Gl;rw [Kk,Kn];omega
 have aM:=fun o=>nC t.cap B2 t.msgs.length c2 t.recv t.peak #[KL i0,KL i1,KL i2,KL i3,KL i4,.slice (some ⟨gb,go+lo,none⟩) (O-lo) (Z-lo)] o ad L N
 obtain ⟨bd,c7⟩:=ae aM aG;clear aM ao aG y0 ad L N
 go_cut [16,17] (fun v cc wx=>∃J,v=.pointer (some ⟨J,0,none⟩)∧cc=KL 11∧Below p.heap.size p wx)
 case first=>
  refine HA.g (fun o:World=>Below p.heap.size p o) ?_
  refine HA.ld 0 #[KL (t.cap:Nat),.slice B2 t.msgs.length c2,KL (t.recv:Nat),KL (t.peak:Nat)] (fun o q=>sb bv.out o q) aS C ?_
  refine HA.t ?_ [1,2,4,5,6,7,8,9,10] C ?_
  refine HA.ld 3 #[KL i0,KL i1,KL i2,KL i3,KL i4] (fun o q=>sb bz.out o q) ff C ?_
  refine HA.t ?_ [11] C ?_
  refine HA.two 12 16 ?_ ?_
  ·refine HAS.c (bd.out _) ?_
   rintro e w5 ⟨rfl,k5⟩
   have B:=C.trans (k5.mono C.size)
   refine ⟨_,rfl,B,fun _=>?_⟩
   refine HA.t ?_ [13,14,15] B ?_
   refine HA.v 16 (w5.alloc (.cells #[KL 0,KN,KL 0,KL 0] 73)) (.pointer (some ⟨w5.heap.size,0,none⟩)) (B.alloc B.size _) ?_
   refine HA.st 17 (JE w5 _) aS (fun w6 e6 k6=>?_)
   have I:=B.trans ((aB k6).mono B.size)
   refine ⟨I,?_⟩
   refine HA.t ?_ [18] I ?_
   refine HA.d ?_
   have HF:=aa I;clear e6 k6 I B C k5 a3 x0 x1
   go_wp2_with fail
   go_meet
   exact ⟨_,rfl,rfl,HF.out⟩
  ·refine HAS.v (p.drew.alloc (.cells #[KL 0,KN,KL 0,KL 0] 73)) (.pointer (some ⟨p.drew.heap.size,0,none⟩)) (C.alloc C.size _) ?_
   have gA:=JE p.drew (.cells #[KL 0,KN,KL 0,KL 0] 73)
   have Q:=C.alloc C.size (.cells #[KL 0,KN,KL 0,KL 0] 73)
   obtain ⟨wa,bb⟩:∃wa,p.drew.alloc (.cells #[KL 0,KN,KL 0,KL 0] 73)=wa:=⟨_,rfl⟩
   rw [bb] at gA Q ⊢
   clear bb
   refine HA.c 12 (bd.out _) ?_
   rintro e w5 ⟨rfl,k5⟩
   have B:=Q.trans (k5.mono Q.size)
   refine ⟨_,rfl,B,fun _=>?_⟩
   refine HA.t ?_ [13,14,15] B ?_
   refine HA.st 17 (sb gA _ k5) aS (fun w6 e6 k6=>?_)
   have I:=B.trans (k6.toBelow B.size (fun j hj=>by have e':j=p.drew.heap.size:=hj;rw [Kt] at e';omega))
   refine ⟨I,?_⟩
   refine HA.t ?_ [18] I ?_
   refine HA.d ?_
   have HF:=aa I;clear e6 k6 I B C Q k5 a3 x0 x1 gA
   go_wp2_with fail
   go_meet
   exact ⟨_,rfl,rfl,HF.out⟩
 case rest=>
 obtain ⟨J,rfl,rfl,I⟩:=hcut
 obtain ⟨w6,rfl⟩:∃w6,w6=wc:=⟨_,rfl⟩
 have Q6:=aa I;clear I C a3 x0 x1
 go_upto_region 14 with (fail)
 have a5:=bt U.out Q6.out
 obtain ⟨Y,a1,a8,a0,a6,ab⟩:=H.bx _ a5
 have a7:=H.K.trans (a5.mono H.K.size)
 obtain ⟨V,hV⟩:∃V,w6=V:=⟨_,rfl⟩
 rw [hV] at Y a1 a8 a0 a6 ab a7 ⊢
 clear hV a5
 obtain ⟨E9,bM,K9⟩:=af Y a7 (Keep.refl (fun k=>k=w.heap.size) V);clear Y a7
 have b1:=a1
 have b2:=a8
 have b3:=a0
 have b4:=a6
 have b5:=ab
 clear a1 a8 a0 a6 ab
 have hq:Below V.heap.size V V.drew:=(br V).drew
 refine HA.g (KB3 w.heap.size V) ?_
 refine HA.ld3 (vs:=#[.slice A i.cfg.sizes.length c,KL i.cfg.shift,KL i.cfg.rate,KL i.cfg.mom,KL i.cfg.workers,KL i.cfg.batch,KL i.cfg.micros,KL i.cfg.steps,KL i.cfg.bucket,KL i.cfg.chunk,KL i.cfg.window,KL i.cfg.cap,.slice D i.data.length cd,.slice T i.start.length ct,.slice R i.draws.length cr,KL (x:Nat),.slice PA i.start.length pc,.slice MA i.start.length mc,.slice (some ⟨gb,go,none⟩) i.start.length Z,.slice SA m.rc.length sc,.slice (some ⟨bI,oI,none⟩) il ic,KL (dn:Nat)]) E9.out b1 b2 cI aS aS (Keep.below hq) ?_
 refine HA.t ?_ [3] (Keep.below hq) ?_
 refine HA.st3 4 5 6 b3 b4 b5 cI aS aS hq (fun w8 r3 r4 e8 q8=>?_)
 refine HA.t ?_ [7] q8 ?_
 refine HA.d ?_
 obtain ⟨R3,R4,R5⟩:=af r3 r4 e8
 have F:=jx K9.out q8 bM.out
 obtain ⟨bV,QW⟩:=ae F.1 F.2;clear b1 b2 b3 b4 b5 e8 q8 r3 r4 hq F
 go_wp2_with fail
 refine JQ (fp rfl rfl rfl rfl R3.out R4.out R5.out cI aS aS) rfl ?_
 have X:Ext (ay S w) (ay S w8):=cu (Keep.below QW.out) (fun _ _ h=>h)
 obtain ⟨av,b7,b9,aR⟩:=H1.out
 exact ⟨_,_,_,rfl,rfl,rfl,⟨A,c,D,cd,T,ct,R,cr,PA,pc,MA,mc,some ⟨gb,go,none⟩,Z,SA,sc,some ⟨bI,oI,none⟩,ic,by rw [H.il',be.out,aR],fJ H.I0 X,by rw [av];exact aX H.P0 X,by rw [b7];exact aX H.M0 X,by rw [b9];exact aX H.G0 X,by rw [aR];exact dJ bW H.R0 X,aU H.It0 X,by rw [av];exact H.Pl,by rw [b7];exact H.Ml,by rw [b9];exact H.Gl⟩,⟨B1,c1,rfl,bK H.s0 X,H.s2⟩,⟨B2,c2,rfl,bK H.t0 X,H.t2⟩,QW.out⟩
end Go.Proofs.YtaccfnffmbndhaaGreat
