/- No condition. -/
import Derived.Test.YtgmajkppbhiopaaGreatK04
set_option linter.unusedSimpArgs false
set_option linter.unusedVariables false
set_option maxRecDepth 100000
set_option maxHeartbeats 4000000
namespace Go.Proofs.YtgmajkppbhiopaaGreat
open Go.RowKit
open Tryz
abbrev Vp (s:LSt):Nat:=s.msgs.length
variable {a:Acn} {B:Bool} {i:Inp} {z:Int} {y:Itm} {s s1 t t1:LSt} {rows:List (R7)} {ms:List Msg} {bs:List Nat} {a1:MAd} {m m1:Mst} {A Z:N_} {C W b b5 cap cm cw k n size x:Nat} {bb dn f g il:Nat->Nat} {E S T rb:Nat->Prop} {lv mv mv':Nat->R6} {Rm:Nat->R6->R8->Prop} {l:Q_} {Y u vs:R6} {R:R6->R6->R6->R8->Prop} {xs:R7} {V h w:R8} {e:R9} {X la lb v0 v1 v2:Value}
theorem My (t0 t1 t2 p v:Int) (A1 i:N_) (zs:Q_) (c1 c2:Nat) (w:R8) (h1:Rd w A1 (aA .i64 zs)) (u:Rd w i (aA .i64 zs)) (hl:zs.length<=17592186043904):Vj 90 #[.agg #[QZ t0,QZ t1,QZ t2,QZ p,QZ v,.slice A1 zs.length c1],.agg #[QZ t0,QZ t1,QZ t2,QZ p,QZ v,.slice i zs.length c2]] w λe h=>Vi e (.bool true)/\aq w h:=by
 have hs:=λh (k:aq w h)=>tD A1 i zs zs c1 c2 h (h1.below k) (u.below k) hl hl;rw [QS rfl] at hs;have x:=aa hs;clear hs h1 u;go_enter func90,ntmps90;go_wp2_with fail;refine (x.o _ ?_).mono ?_
 .exact am
 rintro e h ⟨rfl,n,rfl⟩;go_wp2;go_ret;refine ⟨rfl,?_⟩;exact am
theorem cY.at_ (h:cY w A ms) (j:Nat) (B:j<ms.length):
  ∃b o i p,A=some (ar b o)/\rR w b (o+j*6) (aO ms j).tag (.slice i (aO ms j).vals.length p)/\Rd w i (aA .i64 (aO ms j).vals):=by
 obtain ⟨rows,h1,I,H,C⟩:=h;have ⟨i,p,e,hr⟩:=C j B
 have y:∀t,t<6->(List.flatten rows)[j*6+t]?=((aO ms j).tag.cells++[Value.slice i (aO ms j).vals.length p])[t]?:=λt v=>by
  rw [nG H j t ap v,e]
 obtain ⟨b,o,rfl,c0⟩:=h1 (j*6+0) _ (y 0 ap)
 have hc:∀t u,t<6->((aO ms j).tag.cells++[Value.slice i (aO ms j).vals.length p])[t]?=some u->Vh w b (o+j*6+t) u:=λt u v D=>by
  have ⟨J,L,x,c⟩:=h1 (j*6+t) u ((y t v).trans D);injection x with x;injection x with e1 e2 _
  subst e1;subst e2;rw [QO];exact c
 exact ⟨b,o,i,p,rfl,⟨hc 0 _ ap rfl,hc 1 _ ap rfl,hc 2 _ ap rfl,hc 3 _ ap rfl,hc 4 _ ap rfl,hc 5 _ ap rfl⟩,hr⟩
theorem fX.at_ (h:fX V w A ms) (j:Nat) (B:j<ms.length):
  ∃b o i p,A=some (ar b o)/\rR w b (o+j*6) (aO ms j).tag (.slice i (aO ms j).vals.length p)/\Rd V i (aA .i64 (aO ms j).vals):=by
 obtain ⟨rows,h1,I,H,C⟩:=h;have ⟨i,p,e,hr⟩:=C j B
 have y:∀t,t<6->(List.flatten rows)[j*6+t]?=((aO ms j).tag.cells++[Value.slice i (aO ms j).vals.length p])[t]?:=λt v=>by
  rw [nG H j t ap v,e]
 obtain ⟨b,o,rfl,c0⟩:=h1 (j*6+0) _ (y 0 ap)
 have hc:∀t u,t<6->((aO ms j).tag.cells++[Value.slice i (aO ms j).vals.length p])[t]?=some u->Vh w b (o+j*6+t) u:=λt u v D=>by
  have ⟨J,L,x,c⟩:=h1 (j*6+t) u ((y t v).trans D);injection x with x;injection x with e1 e2 _
  subst e1;subst e2;rw [QO];exact c
 exact ⟨b,o,i,p,rfl,⟨hc 0 _ ap rfl,hc 1 _ ap rfl,hc 2 _ ap rfl,hc 3 _ ap rfl,hc 4 _ ap rfl,hc 5 _ ap rfl⟩,hr⟩
theorem Co (A1 A2:N_) (ms:List Msg) (c1 c2:Nat) (w:R8) (h1:cY w A1 ms) (h2:cY w A2 ms) (hl:ms.length<=17592186043904) (hv:∀m∈ms,m.vals.length<=17592186043904):Vj 51 #[.slice A1 ms.length c1,.slice A2 ms.length c2] w λe h=>Vi e (.bool true)/\aq w h:=by
 have ⟨H1,H2,Hv⟩:=af h1 h2 hv;clear h1 h2 hv;go_enter func51,ntmps51;go_wp2
 go_loopw [5] (λi wr=>∃k:Nat,k<=ms.length/\i=QZ k/\aq w wr) (λi _=>ms.length-(intOf i).toNat)
 .exact ⟨0,PZ _,rfl,PY _ _⟩
 case round=>
  obtain ⟨k,hk,rfl,H⟩:=hrel;by_cases v:k<ms.length
  .have ⟨x,D,B1,d1,N,x1,L⟩:=(H1.o.below (H.mono (PV _))).at_ k v;have ⟨A,C,B2,Y,R,x2,U⟩:=(H2.o.below (H.mono (PV _))).at_ k v;subst N;subst R
   have I:(aO ms k).vals.length<=17592186043904:=by
    refine Hv.o _ ?_;rw [aO,List.getD,Qv v];exact List.getElem_mem _
   generalize aO ms k=m at *;obtain ⟨⟨t0,t1,t2,J,O⟩,zs⟩:=m;dsimp only at x1 x2 L U I;obtain ⟨p0,p1,p2,p3,p4,p5⟩:=x1;obtain ⟨Z,q1,q2,q3,q4,q5⟩:=x2;dsimp only at p0 p1 p2 p3 p4 Z q1 q2 q3 q4;have hs:=λh (k:aq wr h)=>My t0 t1 t2 J O B1 B2 zs d1 Y h (L.below k) (U.below k) I;have V:=aB p0;have T:=aB Z;have ⟨Hs,HW⟩:=ae hs H;clear hs H L U;go_wp2
   go_region_held3 (λh=>h.cell? ⟨x,D+k*6,none⟩=some (QZ t0)/\h.cell? ⟨x,D+k*6+1,none⟩=some (QZ t1)/\h.cell? ⟨x,D+k*6+2,none⟩=some (QZ t2)/\h.cell? ⟨x,D+k*6+3,none⟩=some (QZ J)/\h.cell? ⟨x,D+k*6+4,none⟩=some (QZ O)/\h.cell? ⟨x,D+k*6+5,none⟩=some (.slice B1 zs.length d1)/\
     h.cell? ⟨A,C+k*6,none⟩=some (QZ t0)/\h.cell? ⟨A,C+k*6+1,none⟩=some (QZ t1)/\h.cell? ⟨A,C+k*6+2,none⟩=some (QZ t2)/\h.cell? ⟨A,C+k*6+3,none⟩=some (QZ J)/\h.cell? ⟨A,C+k*6+4,none⟩=some (QZ O)/\h.cell? ⟨A,C+k*6+5,none⟩=some (.slice B2 zs.length Y)) (simp [go_sem, *])
    ((go_at_call 90;refine (Hs.o _ ?_).mono ?_;exact am;rintro e w5 ⟨rfl,y⟩;refine dR (p:=aq wr w5) ?_ ?_;(focus (refine Below.trans ?_ (y.mono V3);exact am;done));intro u;have g1:=λo=>u.cell (p:=⟨x,o,none⟩) V;have g2:=λo=>u.cell (p:=⟨A,o,none⟩) T;have Q:=aa u;clear y u))
   all_goals
    go_wp2;go_roundw
    case rel=>
     refine ⟨k+1,ap,Vc,HW.o.trans (Below.mono (B:=Ve wr) ?_ HW.o.size)⟩;have y:=Q.o;exact am
    case measure=>exact Va
  .obtain rfl:k=ms.length:=ap;go_wp2;go_ret;exact ⟨rfl,H⟩
theorem yx (h:∀r∈rows,r.length=k):∀n,(List.flatten rows).drop (n*k)=List.flatten (rows.drop n):=by
 induction rows with
 | nil=>intro n;simp
 | cons r l ih=>
  intro n
  cases n with
  | zero=>simp
  | succ n=>
   have hr:=h r V3;rw [List.flatten_cons,List.drop_append,List.drop_of_length_le (by rw [hr,Nat.add_mul];omega),List.nil_append,hr,show (n+1)*k-k=n*k by rw [Nat.add_mul];omega,ih (λr hr=>h r (by simp [hr])) n,Qq]
theorem cY.slice (h:cY w A ms) (n:Nat) (p:N_) (hA:∀b o,A=some (ar b o)->p=some (ar b (o+n*6))):cY w p (ms.drop n):=by
 by_cases hn:n<ms.length
 .obtain ⟨b,o,B,d,rfl,_,_⟩:=h.at_ 0 ap;obtain rfl:=hA b o rfl;obtain ⟨rows,h1,v,i,x⟩:=h;refine ⟨rows.drop n,?_,by simp [v],λr hr=>i r (List.mem_of_mem_drop hr),λj u=>?_⟩
  .rw [<-yx i];exact h1.drop _
  .have:=x (n+j) (by simp at u;omega);simpa [eR,aO] using this
 .rw [List.drop_of_length_le ap];exact cY.nil _ _
theorem Mz (cap:Int) (A:N_) (ms:List Msg) (c r:Nat) (pk:Int) (w:R8) (h:cY w A ms) (hr:r<=ms.length) (hc:ms.length<=c) (hl:ms.length<=17592186043904):Vj 52 #[.agg #[QZ cap,.slice A ms.length c,QZ r,QZ pk]] w λe p=>∃u v,Vi e (.slice u (ms.length-r) v)/\cY p u (ms.drop r)/\aq w p:=by
 have H:=aa h;by_cases i:c=r
 .obtain rfl:c=ms.length:=ap;obtain rfl:r=ms.length:=ap;clear hr hc h i;go_enter func52,ntmps52;go_wp2;go_ret;refine ⟨A,0,by rw [Nat.sub_self];rfl,?_,?_⟩
  .rw [List.drop_of_length_le (PV _)];exact cY.nil _ _
  .exact am
 .cases A with
  | none=>
   have hm:ms=[]:=by
    cases ms with
    | nil=>rfl
    | cons m l=>have ⟨b,o,_,_,h,_⟩:=h.at_ 0 V3;cases h
   subst hm;obtain rfl:r=0:=by simpa using hr
   clear hr hc h;go_enter func52,ntmps52;go_wp2;go_ret;refine ⟨_,_,rfl,?_,?_⟩
   .exact cY.nil _ _
   .exact am
  | some a=>
   clear h;go_enter func52,ntmps52;go_wp2;go_ret;refine ⟨_,_,rfl,?_,?_⟩
   .refine cY.slice (H.o.below ?_) r _ ?_
    .exact am
    .intro b o e;cases e;simp [Addr.add]
   .exact am
theorem yc (cap:Nat) (A:N_) (n c r:Nat) (pk:Int) (x:R6) (w:R8) (hr:r<=n) (hn:n<=100000000000) (u:r+cap<=n):Vj 135 #[.agg #[QZ cap,.slice A n c,QZ r,QZ pk],.agg x] w λe i=>Vi e (.tuple #[.agg #[QZ cap,.slice A n c,QZ r,QZ pk],QZ 11])/\aq w i:=by
 have h:=λW=>rk cap A n c r pk W ap ap;have p:=aa h;clear h;go_enter func135,ntmps135;go_wp2
 go_region_held3 (λi=>i.cell? ⟨Ve w,0,none⟩=some (QZ (cap:Int))/\i.cell? ⟨Ve w,1,none⟩=some (.slice A n c)/\i.cell? ⟨Ve w,2,none⟩=some (QZ (r:Int))/\i.cell? ⟨Ve w,3,none⟩=some (QZ pk)) (simp [go_sem,World.cell?_alloc_past, *])
  ((go_at_call 166;refine (p.o _).mono ?_;rintro e i ⟨rfl,rfl⟩))
 go_wp2_with fail;refine Qd (v:=.tuple #[.agg #[QZ cap,.slice A n c,QZ r,QZ pk],QZ 11]) (by simp [results,results135,go_sem,World.cell?_alloc_past]) rfl ⟨rfl,?_⟩;exact am
theorem vx (cap:Int) (A:N_) (n c:Nat) (pk:Int) (t:Tg) (w:R8) (hn:n<=100000000000):Vj 136 #[.agg #[QZ cap,.slice A n c,QZ n,QZ pk],.agg #[QZ t.a,QZ t.b,QZ t.c,QZ t.d,QZ t.e]] w λe p=>
   Vi e (.tuple #[.agg #[QZ cap,.slice A n c,QZ n,QZ pk],.agg Rk,QZ 12])/\aq w p:=by
 have h:=λW=>rk cap A n c n pk W ap ap;rw [Int.sub_self] at h;have i:=aa h;clear h;go_enter func136,ntmps136;go_wp2_with fail;refine (i.o _).mono ?_;rintro e u ⟨rfl,rfl⟩;go_wp2_with fail;refine Qd (v:=.tuple #[.agg #[QZ cap,.slice A n c,QZ n,QZ pk],.agg Rk,QZ 12]) (by simp [results,results136,go_sem,World.cell?_alloc_past]) rfl ⟨rfl,?_⟩;exact am
theorem zu (cap:Int) (A:N_) (ms:List Msg) (c r:Nat) (pk:Int) (t:Tg) (w:R8) (h:cY w A ms) (u:r<ms.length) (hn:ms.length<=100000000000) (p:(aO ms r).tag≠t):Vj 136 #[.agg #[QZ cap,.slice A ms.length c,QZ r,QZ pk],.agg #[QZ t.a,QZ t.b,QZ t.c,QZ t.d,QZ t.e]] w λe N=>
   Vi e (.tuple #[.agg #[QZ cap,.slice A ms.length c,QZ r,QZ pk],.agg Rk,QZ 10])/\aq w N:=by
 obtain ⟨t0,t1,t2,t3,t4⟩:=t;have ⟨b,o,B,d,hA,Y,hB⟩:=h.at_ r u;have i:=λW=>rk cap A ms.length c r pk W ap ap;obtain ⟨D,x⟩:∃D:Int,(ms.length:Int)-r=D:=⟨_,rfl⟩;rw [x] at i;have R:(D==0)=false:=by simp;omega
 generalize aO ms r=m at *;obtain ⟨⟨u0,u1,u2,u3,u4⟩,zs⟩:=m;obtain ⟨H,Q,O,I,L,J⟩:=Y;dsimp only at H Q O I L J hB p |-;have hb:b<(Ve w):=aB H;have V:b<Ve w+1:=ap;have T:b<Ve w+1+1:=ap;have Z:b<Ve w+1+1+1:=ap;have U:b<Ve w+1+1+1+1:=ap;subst hA;have ⟨C,HD⟩:=ae i x;clear i x h;have y:=aa p;clear p;go_enter func136,ntmps136;go_wp2_with fail;refine (C.o _).mono ?_;rintro e w1 ⟨rfl,rfl⟩;go_wp2_with fail
 .exact absurd (by simp only [*]) y.o
 all_goals
  refine Qd (v:=.tuple #[.agg #[QZ cap,Vf b o ms.length c,QZ r,QZ pk],.agg Rk,QZ 10]) (by simp [results,results136,go_sem,World.cell?_alloc_past]) rfl ⟨rfl,?_⟩;exact am
theorem Cp (V:R8) (cap:Int) (A:N_) (ms:List Msg) (c r:Nat) (pk:Int) (t:Tg) (w:R8) (h:fX V w A ms) (p:r<ms.length) (hn:ms.length<=100000000000) (u:(aO ms r).tag=t):Vj 136 #[.agg #[QZ cap,.slice A ms.length c,QZ r,QZ pk],.agg #[QZ t.a,QZ t.b,QZ t.c,QZ t.d,QZ t.e]] w λe N=>
   ∃C Q,Vi e (.tuple #[.agg #[QZ cap,.slice A ms.length c,QZ ((r+1:Nat):Int),QZ pk],.agg #[QZ t.a,QZ t.b,QZ t.c,QZ t.d,QZ t.e,.slice C (aO ms r).vals.length Q],QZ 0])/\Rd V C (aA .i64 (aO ms r).vals)/\aq w N:=by
 subst u;have ⟨b,o,B,d,hA,x1,hB⟩:=h.at_ r p;have i:=λW=>rk cap A ms.length c r pk W ap ap;obtain ⟨D,x⟩:∃D:Int,(ms.length:Int)-r=D:=⟨_,rfl⟩;rw [x] at i;have a0:(D==0)=false:=by simp;omega
 generalize aO ms r=m at *;obtain ⟨⟨T,Y,R,Z,U⟩,zs⟩:=m;obtain ⟨H,p1,O,I,L,J⟩:=x1;dsimp only at H p1 O I L J hB |-;have hb:b<(Ve w):=aB H;have a3:b<Ve w+1:=ap;have a1:b<Ve w+1+1:=ap;have a4:b<Ve w+1+1+1:=ap;have a2:b<Ve w+1+1+1+1:=ap;subst hA;have ⟨y,HD⟩:=ae i x;clear i x h;go_enter func136,ntmps136;go_wp2_with fail;refine (y.o _).mono ?_;rintro e w1 ⟨rfl,rfl⟩;go_wp2
 go_region
 all_goals go_wp2_with fail
 all_goals
  refine Qd (v:=.tuple #[.agg #[QZ cap,Vf b o ms.length c,QZ ((r:Int)+1),QZ pk],.agg #[QZ T,QZ Y,QZ R,QZ Z,QZ U,.slice B zs.length d],QZ 0]) (by simp [results,results136,go_sem,World.cell?_alloc_past]) rfl ⟨B,d,by rw [Int.natCast_add];rfl,hB,?_⟩;exact am
theorem Jw {v:R6} (hS:∀k,S k->k<w.heap.size) (h:fO (aH S w) vs i x m) (hu:RL (aH S w) u s) (hv:RL (aH S w) v t) (hs:bK i) (O:(dA i x)[bq i x m]?=some y) (k1 k2:Int) (b0 b1:Bool) (i0 i1 i2 i3 i4 i5 i6:Int) (bn:bj y=[QZ 3,QZ k1,QZ k2,.bool b0,.bool b1,QZ i0,QZ i1,QZ i2,QZ i3,QZ i4,QZ i5,QZ i6]) (lo Q:Nat) (be:i5=(lo:Nat)) (bb:i6=(Q:Nat)) (d5:lo<Q) (d8:Q<=i.start.length) (aP:t.recv<=t.msgs.length) (a2:t.msgs.length<=100000000000) (a3:t.msgs.length<t.recv+t.cap) (m1:Mst) (h1:m1.P=m.P/\m1.M=m.M/\m1.G=m.G/\m1.rc=m.rc) (aM:bq i x m1=bq i x m+1):Vj 89 #[.agg vs,.agg u,.agg v] w (λe p=>pE S i x m1 (s) (t.send ⟨⟨i0,i1,i2,i3,i4⟩,(m.G.drop lo).take (Q-lo)⟩) 0 w e p):=by
 obtain ⟨c7,bV⟩:=ae be bb;clear be bb;obtain ⟨A,c,D,cd,T,ct,R,cr,PA,pc,MA,mc,GA,gc,SA,sc,bI,oI,ic,B1,c1,B2,c2,dn,il,W0,rfl,rfl,rfl,H⟩:=lj hS h hu hv hs O;have av:=H.rw';rw [bn] at av;rw [H.dn'] at aM;obtain ⟨cj,H1,bO⟩:=af av h1 aM;obtain ⟨cP,cO,tl,cv,c6,cM,cf⟩:=H.loc;have q0:=br W0;clear h hu hv hs O bn hS h1 aM av;go_enter func89,ntmps89;go_upto_region 1 with (fail);rw [H.eW];go_upto_region 4 with (first | (refine fu cj.o jk rfl rfl rfl ?_) | (refine aI (PW _ _) jk rfl rfl rfl rfl rfl rfl rfl ?_;intro W3 e3 k3;obtain ⟨E3,K3⟩:=ae e3 (aN k3);clear e3 k3));clear cP cO tl q0 cv c6 cM cf;go_upto_region 5 with (first | (refine aQ #[QZ i5,QZ i6] (b:=W0.heap.size) E3.o gD rfl rfl rfl rfl ?_) | (refine aI (PW _ _) gD rfl rfl rfl rfl rfl rfl rfl ?_;intro B e4 k4;obtain ⟨E4,K4⟩:=ae e4 (aN k4);clear e4 k4));have y0:B.cell? (ar W0.heap.size 0)=some (QZ 3):=PX B _ 0 _ _ _ (sb E3.o _ K4.o);have a6:=aa (bt K3.o K4.o);go_upto_region 12 with (fail);have cw:=aa (H.bx _ a6.o).1;have bi:=aa (H.bx _ a6.o).2.2.1;have cL:=aa (sb E3.o _ K4.o);have a7:=H.K.trans (a6.o.mono H.K.size);have d4:Q<=gc:=by have:=H.hG.hc;have:=H.Gl;omega
 obtain ⟨gb,go,rfl, -⟩:=H.hG.hr.num (show 0<m.G.length by have:=H.Gl;omega);have U:=(br B).drew;have aG:∀p,aq B p->p.cell? (ar w.heap.size 18)=some (.slice (some (ar gb go)) i.start.length gc):=λp q=>PX p _ 18 _ _ _ (sb cw.o p q);have x0:∀p,aq B p->p.cell? (ar W3.heap.size 0)=some (Vd lo):=λp q=>by unfold Vd;rw [<-c7.o];exact PX p _ 0 _ _ _ (sb E4.o p q)
 have x1:∀p,aq B p->p.cell? (ar W3.heap.size 1)=some (Vd Q):=λp q=>by unfold Vd;rw [<-bV.o];exact PX p _ 1 _ _ _ (sb E4.o p q)
 have dc:(lo:Int)<=Q:=ap;have da:(Q:Int)<=gc:=ap;have d1:lo<=Q:=ap;have d2:¬gc=lo:=ap;have ad:((m.G.drop lo).take (Q-lo)).length=Q-lo:=by have:=H.Gl;rw [Qy,QB];omega
 have b7:Rd (aH S w) (some (ar gb (go+lo))) (aA .i64 ((m.G.drop lo).take (Q-lo))):=by
  have:=(H.G0.hr.drop lo).take (Q-lo)
  rwa [dK,dH] at this
 have a8:=λp (q:aq B p)=>Mx (aH S w) t.cap B2 t.msgs c2 t.recv t.peak ⟨i0,i1,i2,i3,i4⟩ (some (ar gb (go+lo))) ((m.G.drop lo).take (Q-lo)) (gc-lo) p aP a2 a3 (uo H.t0.in_ (iF (Keep.below (a7.trans (q.mono a7.size))))) b7;rw [ad] at a8;unfold Eu at a8;obtain ⟨bG,cx⟩:=ae a8 a7;clear a8 b7 ad a7 y0 aP a2 a3
 go_cut [16,17] (λv cc wx=>∃J I c5,v=(au J)/\cc=QZ 0/\wx.heap[J]?=some (.cells #[Vd t.cap,.slice I (t.msgs.length+1) c5,Vd t.recv,QZ ((max t.peak (t.msgs.length+1-t.recv):Nat):Int)] 75 (0,0))/\fX (aH S w) wx I (t.msgs++[⟨⟨i0,i1,i2,i3,i4⟩,(m.G.drop lo).take (Q-lo)⟩])/\t.msgs.length+1<=c5/\(∀y,I=some y->B.heap.size<=y.block)/\aq B wx)
 case first=>
  refine HA.g (λp:R8=>aq B p) ?_;refine HA.ld 0 #[Vd t.cap,.slice B2 t.msgs.length c2,Vd t.recv,Vd t.peak] (λp q=>sb bi.o p q) bR U ?_;refine HA.t ?_ [1,2,4,5,6,7,8,9,10] U ?_;refine HA.ld 3 #[QZ i0,QZ i1,QZ i2,QZ i3,QZ i4] (λp q=>sb cL.o p q) j3 U ?_;refine HA.t ?_ [11] U ?_;refine HA.two 12 16 ?_ ?_
  .refine HAS.c (bG.o _ U) ?_;rintro e w5 ⟨I,c5,P5,a1,rfl,⟨L,N,C⟩,k5⟩;have Y:=U.trans (k5.mono U.size);refine ⟨_,rfl,Y,λ_=>?_⟩;refine HA.t ?_ [13,14,15] Y ?_;refine HA.v 16 (w5.alloc (.cells #[QZ 0,Ra,QZ 0,QZ 0] 75)) ((au w5.heap.size)) (Y.alloc Y.size _) ?_;refine HA.st 17 (PW w5 _) bR (λw6 e6 k6=>?_);have Z:=Y.trans ((aN k6).mono Y.size);refine ⟨Z,?_⟩;refine HA.t ?_ [18] Z ?_;refine HA.d ?_;have a5:w6.heap[w5.heap.size]?=some (.cells #[Vd t.cap,.slice I (t.msgs.length+1) c5,Vd t.recv,QZ ((max t.peak (t.msgs.length+1-t.recv):Nat):Int)] 75 (0,0)):=(by first | exact e6 | (rw [a1] at e6;simpa using e6));have HF:=aa (P7 a5 (P7 (show fX (aH S w) w6 I _ from by obtain ⟨rows,z1,z2,z3,z4⟩:=L;exact ⟨rows,z1.below (aN k6),z2,z3,z4⟩) (P7 (show t.msgs.length+1<=c5 by simpa using N) (P7 (show ∀y,I=some y->B.heap.size<=y.block from λy O=>by have:=C y O;rwa [QG] at this) Z))));clear e6 a5 k6 Z Y U k5 L C N a1 aG x0 x1;go_wp2;go_meet;exact ⟨_,I,c5,rfl,rfl,HF.o⟩
  .refine HAS.v (B.drew.alloc (.cells #[QZ 0,Ra,QZ 0,QZ 0] 75)) ((au B.drew.heap.size)) (U.alloc U.size _) ?_;have gA:=PW B.drew (.cells #[QZ 0,Ra,QZ 0,QZ 0] 75);have a4:=U.alloc U.size (.cells #[QZ 0,Ra,QZ 0,QZ 0] 75);have sA:(B.drew.alloc (.cells #[QZ 0,Ra,QZ 0,QZ 0] 75)).heap.size=B.drew.heap.size+1:=Qg _ _;obtain ⟨wa,bA⟩:=Vb (B.drew.alloc (.cells #[QZ 0,Ra,QZ 0,QZ 0] 75));rw [bA] at gA a4 sA |-;clear bA;refine HA.c 12 (bG.o _ a4) ?_;rintro e w5 ⟨I,c5,P5,a1,rfl,⟨L,N,C⟩,k5⟩;have Y:=a4.trans (k5.mono a4.size);refine ⟨_,rfl,Y,λ_=>?_⟩;refine HA.t ?_ [13,14,15] Y ?_;have bf:=sb gA _ k5;refine HA.st 17 bf bR (λw6 e6 k6=>?_);have Z:=Y.trans (k6.toBelow Y.size (λj hj=>by have e':j=B.drew.heap.size:=hj;rw [QG] at e';omega));refine ⟨Z,?_⟩;refine HA.t ?_ [18] Z ?_;refine HA.d ?_;have a5:w6.heap[B.drew.heap.size]?=some (.cells #[Vd t.cap,.slice I (t.msgs.length+1) c5,Vd t.recv,QZ ((max t.peak (t.msgs.length+1-t.recv):Nat):Int)] 75 (0,0)):=(by first | exact e6 | (rw [a1] at e6;simpa using e6));have HF:=aa (P7 a5 (P7 (L.keep k6 (λy O hk=>by have:=C y O;have e':y.block=B.drew.heap.size:=hk;omega)) (P7 (show t.msgs.length+1<=c5 by simpa using N) (P7 (show ∀y,I=some y->B.heap.size<=y.block from λy O=>by have:=C y O;rw [sA,QG] at this;omega) Z))));clear e6 a5 k6 Z Y U a4 k5 L C N a1 aG x0 x1 gA bf;go_wp2;go_meet;exact ⟨_,I,c5,rfl,rfl,HF.o⟩
 case rest=>
 obtain ⟨J,I,c5,rfl,rfl,e6,L,N,C,Z⟩:=hcut;obtain ⟨w6,rfl⟩:∃w6,w6=wc:=⟨_,rfl⟩;obtain ⟨E6,Q6,bX,cb,cy⟩:=ah e6 Z L C N;clear e6 Z U L C N aG x0 x1;have bs:=sb bi.o _ Q6.o;go_upto_region 28 with (first | (refine aQ #[Vd t.cap,.slice I (t.msgs.length+1) c5,Vd t.recv,QZ ((max t.peak (t.msgs.length+1-t.recv):Nat):Int)] (b:=J) E6.o bR rfl rfl rfl rfl ?_) | (refine aI bs bR rfl rfl rfl rfl rfl rfl rfl ?_;intro V eV kV;obtain ⟨EV,KV⟩:=ae eV kV;clear eV kV));have ab:=bt a6.o Q6.o;have hb:=λ{b:Nat} {o:Obj} (h:W0.heap[b]?=some o) (hne:b≠w.heap.size+1+1)=>(KV.o.block b (PU (sb h _ ab)) hne).trans (sb h _ ab);have a0:=hb (H.bx _ (br W0)).1 ap;have b9:=hb (H.bx _ (br W0)).2.1 ap;have bz:=EV.o;have b8:=hb (H.bx _ (br W0)).2.2.2.1 ap;have bv:=hb (H.bx _ (br W0)).2.2.2.2.1 ap;have bM:=hb (H.bx _ (br W0)).2.2.2.2.2 ap;have a9:=H.K.trans (ab.mono H.K.size);have bw:=a9.trans (KV.o.toBelow a9.size (λj hj=>ap));have d6:=aa a9;clear hb ab bs a9;have cn:=PX V w.heap.size 21 _ _ _ a0;have bN:=P8 V w.heap.size 21 _ _ a0;have lM:=PU a0;have co:=H.wd;have e9:=ss (i:=21) (v:=QZ ((dn:Int)+1)) a0 rfl;have k9:Keep (λk=>k=w.heap.size) V (V.setCell (ar w.heap.size 21) (QZ ((dn:Int)+1))):=Vk w.heap.size (Keep.refl _ _) _ (.inr rfl) _;obtain ⟨E9,K9,ci,cl,cA,cs,c8,d0⟩:=ak e9 k9 b9 bz b8 bv bM bw;clear e9 k9 b9 bz b8 bv bM bw a0;go_upto_region 29 with (fail);obtain ⟨V9,b6⟩:=Vb (V.setCell (ar w.heap.size 21) (QZ ((dn:Int)+1)));rw [b6] at E9 K9 |-;clear b6 cn bN lM co;obtain ⟨b1,b2,b3,b4,b5⟩:=wY K9.o ci.o cl.o cA.o cs.o c8.o;have hq:aq V9 V9.drew:=(br V9).drew;refine HA.g (KB3 w.heap.size V9) ?_;refine HA.ld3 (vs:=#[.slice A i.cfg.sizes.length c,QZ i.cfg.shift,QZ i.cfg.rate,QZ i.cfg.mom,QZ i.cfg.workers,QZ i.cfg.batch,QZ i.cfg.micros,QZ i.cfg.steps,QZ i.cfg.bucket,QZ i.cfg.chunk,QZ i.cfg.window,QZ i.cfg.cap,.slice D i.data.length cd,.slice T i.start.length ct,.slice R i.draws.length cr,Vd x,.slice PA i.start.length pc,.slice MA i.start.length mc,.slice (some (ar gb go)) i.start.length gc,.slice SA m.rc.length sc,.slice (some (ar bI oI)) il ic,QZ (dn+1)]) E9.o b1 b2 et bR bR (Keep.below hq) ?_;refine HA.st3 3 4 5 b3 b4 b5 et bR bR hq (λw8 r3 r4 e8 q8=>?_);refine HA.t ?_ [6] q8 ?_;refine HA.d ?_;obtain ⟨R3,R4,R5⟩:=af r3 r4 e8;have F:=lh K9.o q8 d0.o;obtain ⟨c9,QW⟩:=ae F.1 F.2;clear b1 b2 b3 b4 b5 e8 q8 r3 r4 hq F;go_wp2_with fail;refine Qd (fG rfl rfl rfl rfl R3.o R4.o R5.o et bR bR) rfl ?_;have hX:Ext (aH S w) (aH S w8):=bC (Keep.below QW.o) (λ_ _ h=>h);have d7:=Q6.o.size;have d9:=cx.o.size;have d3:=KV.o.size
 have bl:cY (aH S w8) I (t.msgs++[⟨⟨i0,i1,i2,i3,i4⟩,(m.G.drop lo).take (Q-lo)⟩]):=by
  obtain ⟨rows,z1,z2,z3,z4⟩:=bX.o;have ao:∀y,I=some y->w.heap.size+6<=y.block:=λy O=>by have:=cb.o y O;have:=PU (H.bx _ (br W0)).2.2.2.2.2;have:=a6.o.size;omega
  have zV:Rd w8 I (List.flatten rows):=c9.o.rd (KV.o.rd z1 (λy O e=>by have:=ao y O;omega)) (λy O e=>by have:=ao y O;omega);exact ⟨rows,mL zV (λy O hs=>by have:=ao y O;have:=H.S' _ hs;omega),z2,z3,λj hj=>by obtain ⟨A',c',e',r'⟩:=z4 j hj;exact ⟨A',c',e',aW r' hX⟩⟩
 have hX:Ext (aH S w) (aH S w8):=bC (Keep.below QW.o) (λ_ _ h=>h);obtain ⟨aR,bh,bo,bd⟩:=H1.o;exact ⟨_,_,_,rfl,rfl,rfl,⟨A,c,D,cd,T,ct,R,cr,PA,pc,MA,mc,some (ar gb go),gc,SA,sc,some (ar bI oI),ic,by rw [H.il',bO.o,bd];push_cast;rfl,fM H.I0 hX,by rw [aR];exact bQ H.P0 hX,by rw [bh];exact bQ H.M0 hX,by rw [bo];exact bQ H.G0 hX,by rw [bd];exact fh cX H.R0 hX,aW H.It0 hX,by rw [aR];exact H.Pl,by rw [bh];exact H.Ml,by rw [bo];exact H.Gl⟩,⟨B1,c1,rfl,du H.s0 hX,H.s2⟩,⟨I,c5,by simp [LSt.send],bl,(by have:=cy.o;simpa [LSt.send] using this)⟩,QW.o⟩
theorem Jz {v:R6} (hS:∀k,S k->k<w.heap.size) (h:fO (aH S w) vs i x m) (hu:RL (aH S w) u s) (hv:RL (aH S w) v t) (hs:bK i) (hy:(dA i x)[bq i x m]?=some y) (k1 k2:Int) (b0 b1:Bool) (i0 i1 i2 i3 i4 i5 i6:Int) (b8:bj y=[QZ 3,QZ k1,QZ k2,.bool b0,.bool b1,QZ i0,QZ i1,QZ i2,QZ i3,QZ i4,QZ i5,QZ i6]) (lo Q:Nat) (b6:i5=(lo:Nat)) (aP:i6=(Q:Nat)) (c6:lo<Q) (c7:Q<=i.start.length) (ad:t.recv<=t.msgs.length) (N:t.msgs.length<=100000000000) (O:t.recv+t.cap<=t.msgs.length) (m1:Mst) (h1:m1.P=m.P/\m1.M=m.M/\m1.G=m.G/\m1.rc=m.rc) (a5:bq i x m1=bq i x m):Vj 89 #[.agg vs,.agg u,.agg v] w (λe p=>pE S i x m1 (s) (t) 11 w e p):=by
 obtain ⟨bi,bf⟩:=ae b6 aP;clear b6 aP;obtain ⟨A,c,D,cd,T,ct,R,cr,PA,pc,MA,mc,GA,gc,SA,sc,bI,oI,ic,B1,c1,B2,c2,dn,il,W0,rfl,rfl,rfl,H⟩:=lj hS h hu hv hs hy;have a3:=H.rw';rw [b8] at a3;rw [H.dn'] at a5;obtain ⟨bn,H1,be⟩:=af a3 h1 a5;obtain ⟨bG,bA,tl,bo,bh,bw,bl⟩:=H.loc;have q0:=br W0;clear h hu hv hs hy b8 hS h1 a5 a3;go_enter func89,ntmps89;go_upto_region 1 with (fail);rw [H.eW];go_upto_region 4 with (first | (refine fu bn.o jk rfl rfl rfl ?_) | (refine aI (PW _ _) jk rfl rfl rfl rfl rfl rfl rfl ?_;intro W3 e3 k3;obtain ⟨E3,K3⟩:=ae e3 (aN k3);clear e3 k3));clear bG bA tl q0 bo bh bw bl;go_upto_region 5 with (first | (refine aQ #[QZ i5,QZ i6] (b:=W0.heap.size) E3.o gD rfl rfl rfl rfl ?_) | (refine aI (PW _ _) gD rfl rfl rfl rfl rfl rfl rfl ?_;intro B e4 k4;obtain ⟨E4,K4⟩:=ae e4 (aN k4);clear e4 k4));have y0:B.cell? (ar W0.heap.size 0)=some (QZ 3):=PX B _ 0 _ _ _ (sb E3.o _ K4.o);have Y:=aa (bt K3.o K4.o);go_upto_region 12 with (fail);have bs:=aa (H.bx _ Y.o).1;have bv:=aa (H.bx _ Y.o).2.2.1;have bz:=aa (sb E3.o _ K4.o);have aG:=H.K.trans (Y.o.mono H.K.size);have bV:Q<=gc:=by have:=H.hG.hc;have:=H.Gl;omega
 obtain ⟨gb,go,rfl, -⟩:=H.hG.hr.num (show 0<m.G.length by have:=H.Gl;omega);have I:=(br B).drew;have a4:∀p,aq B p->p.cell? (ar w.heap.size 18)=some (.slice (some (ar gb go)) i.start.length gc):=λp q=>PX p _ 18 _ _ _ (sb bs.o p q);have x0:∀p,aq B p->p.cell? (ar W3.heap.size 0)=some (Vd lo):=λp q=>by unfold Vd;rw [<-bi.o];exact PX p _ 0 _ _ _ (sb E4.o p q)
 have x1:∀p,aq B p->p.cell? (ar W3.heap.size 1)=some (Vd Q):=λp q=>by unfold Vd;rw [<-bf.o];exact PX p _ 1 _ _ _ (sb E4.o p q)
 have c9:(lo:Int)<=Q:=ap;have cb:(Q:Int)<=gc:=ap;have bN:lo<=Q:=ap;have bO:¬gc=lo:=ap;have ao:((m.G.drop lo).take (Q-lo)).length=Q-lo:=by have:=H.Gl;rw [Qy,QB];omega
 have aM:=λp=>yc t.cap B2 t.msgs.length c2 t.recv t.peak #[QZ i0,QZ i1,QZ i2,QZ i3,QZ i4,.slice (some (ar gb (go+lo))) (Q-lo) (gc-lo)] p ad N O;obtain ⟨bd,c8⟩:=ae aM aG;clear aM ao aG y0 ad N O
 go_cut [16,17] (λv cc wx=>∃J,v=(au J)/\cc=QZ 11/\aq B wx)
 case first=>
  refine HA.g (λp:R8=>aq B p) ?_;refine HA.ld 0 #[Vd t.cap,.slice B2 t.msgs.length c2,Vd t.recv,Vd t.peak] (λp q=>sb bv.o p q) bR I ?_;refine HA.t ?_ [1,2,4,5,6,7,8,9,10] I ?_;refine HA.ld 3 #[QZ i0,QZ i1,QZ i2,QZ i3,QZ i4] (λp q=>sb bz.o p q) j3 I ?_;refine HA.t ?_ [11] I ?_;refine HA.two 12 16 ?_ ?_
  .refine HAS.c (bd.o _) ?_;rintro e w5 ⟨rfl,k5⟩;have C:=I.trans (k5.mono I.size);refine ⟨_,rfl,C,λ_=>?_⟩;refine HA.t ?_ [13,14,15] C ?_;refine HA.v 16 (w5.alloc (.cells #[QZ 0,Ra,QZ 0,QZ 0] 75)) ((au w5.heap.size)) (C.alloc C.size _) ?_;refine HA.st 17 (PW w5 _) bR (λw6 e6 k6=>?_);have L:=C.trans ((aN k6).mono C.size);refine ⟨L,?_⟩;refine HA.t ?_ [18] L ?_;refine HA.d ?_;have HF:=aa L;clear e6 k6 L C I k5 a4 x0 x1;go_wp2;go_meet;exact ⟨_,rfl,rfl,HF.o⟩
  .refine HAS.v (B.drew.alloc (.cells #[QZ 0,Ra,QZ 0,QZ 0] 75)) ((au B.drew.heap.size)) (I.alloc I.size _) ?_;have gA:=PW B.drew (.cells #[QZ 0,Ra,QZ 0,QZ 0] 75);have U:=I.alloc I.size (.cells #[QZ 0,Ra,QZ 0,QZ 0] 75);obtain ⟨wa,bb⟩:=Vb (B.drew.alloc (.cells #[QZ 0,Ra,QZ 0,QZ 0] 75));rw [bb] at gA U |-;clear bb;refine HA.c 12 (bd.o _) ?_;rintro e w5 ⟨rfl,k5⟩;have C:=U.trans (k5.mono U.size);refine ⟨_,rfl,C,λ_=>?_⟩;refine HA.t ?_ [13,14,15] C ?_;refine HA.st 17 (sb gA _ k5) bR (λw6 e6 k6=>?_);have L:=C.trans (k6.toBelow C.size (λj hj=>by have e':j=B.drew.heap.size:=hj;rw [QG] at e';omega));refine ⟨L,?_⟩;refine HA.t ?_ [18] L ?_;refine HA.d ?_;have HF:=aa L;clear e6 k6 L C I U k5 a4 x0 x1 gA;go_wp2;go_meet;exact ⟨_,rfl,rfl,HF.o⟩
 case rest=>
 obtain ⟨J,rfl,rfl,L⟩:=hcut;obtain ⟨w6,rfl⟩:∃w6,w6=wc:=⟨_,rfl⟩;have Q6:=aa L;clear L I a4 x0 x1;go_upto_region 14 with (fail);have a6:=bt Y.o Q6.o;obtain ⟨a0,a2,a9,a1,a7,ab⟩:=H.bx _ a6;have a8:=H.K.trans (a6.mono H.K.size);obtain ⟨V,hV⟩:=Vb w6;rw [hV] at a0 a2 a9 a1 a7 ab a8 |-;clear hV a6;obtain ⟨E9,bM,K9⟩:=af a0 a8 (Keep.refl (λk=>k=w.heap.size) V);clear a0 a8;have b1:=a2;have b2:=a9;have b3:=a1;have b4:=a7;have b5:=ab;clear a2 a9 a1 a7 ab;have hq:aq V V.drew:=(br V).drew;refine HA.g (KB3 w.heap.size V) ?_;refine HA.ld3 (vs:=#[.slice A i.cfg.sizes.length c,QZ i.cfg.shift,QZ i.cfg.rate,QZ i.cfg.mom,QZ i.cfg.workers,QZ i.cfg.batch,QZ i.cfg.micros,QZ i.cfg.steps,QZ i.cfg.bucket,QZ i.cfg.chunk,QZ i.cfg.window,QZ i.cfg.cap,.slice D i.data.length cd,.slice T i.start.length ct,.slice R i.draws.length cr,Vd x,.slice PA i.start.length pc,.slice MA i.start.length mc,.slice (some (ar gb go)) i.start.length gc,.slice SA m.rc.length sc,.slice (some (ar bI oI)) il ic,Vd dn]) E9.o b1 b2 et bR bR (Keep.below hq) ?_;refine HA.t ?_ [3] (Keep.below hq) ?_;refine HA.st3 4 5 6 b3 b4 b5 et bR bR hq (λw8 r3 r4 e8 q8=>?_);refine HA.t ?_ [7] q8 ?_;refine HA.d ?_;obtain ⟨R3,R4,R5⟩:=af r3 r4 e8;have F:=lh K9.o q8 bM.o;obtain ⟨bX,QW⟩:=ae F.1 F.2;clear b1 b2 b3 b4 b5 e8 q8 r3 r4 hq F;go_wp2_with fail;refine Qd (fG rfl rfl rfl rfl R3.o R4.o R5.o et bR bR) rfl ?_;have Z:Ext (aH S w) (aH S w8):=bC (Keep.below QW.o) (λ_ _ h=>h);obtain ⟨av,b7,b9,aR⟩:=H1.o;exact ⟨_,_,_,rfl,rfl,rfl,⟨A,c,D,cd,T,ct,R,cr,PA,pc,MA,mc,some (ar gb go),gc,SA,sc,some (ar bI oI),ic,by rw [H.il',be.o,aR],fM H.I0 Z,by rw [av];exact bQ H.P0 Z,by rw [b7];exact bQ H.M0 Z,by rw [b9];exact bQ H.G0 Z,by rw [aR];exact fh cX H.R0 Z,aW H.It0 Z,by rw [av];exact H.Pl,by rw [b7];exact H.Ml,by rw [b9];exact H.Gl⟩,⟨B1,c1,rfl,du H.s0 Z,H.s2⟩,⟨B2,c2,rfl,du H.t0 Z,H.t2⟩,QW.o⟩
theorem Jy {v:R6} (hS:∀k,S k->k<w.heap.size) (h:fO (aH S w) vs i x m) (hu:RL (aH S w) u s) (hv:RL (aH S w) v t) (hs:bK i) (hy:(dA i x)[bq i x m]?=some y) (k1 k2:Int) (b0 b1:Bool) (i0 i1 i2 i3 i4 i5 i6:Int) (bz:bj y=[QZ 4,QZ k1,QZ k2,.bool b0,.bool b1,QZ i0,QZ i1,QZ i2,QZ i3,QZ i4,QZ i5,QZ i6]) (lo hi:Nat) (bn:i5=(lo:Nat)) (e0:lo<=hi) (e2:hi<=i.start.length) (L:s.msgs.length<=100000000000) (a5:s.recv<s.msgs.length) (bl:(aO s.msgs s.recv).tag=⟨i0,i1,i2,i3,i4⟩) (J:(aO s.msgs s.recv).vals.length=hi-lo) (a2:W64 (aO s.msgs s.recv).vals) (m1:Mst) (h1:m1.P=m.P/\m1.M=m.M/\m1.G=iK m.G lo (aO s.msgs s.recv).vals b1/\m1.rc=m.rc) (ad:bq i x m1=bq i x m+1):Vj 89 #[.agg vs,.agg u,.agg v] w (λe w'=>pE S i x m1 ({s with recv:=s.recv+1}) (t) 0 w e w'):=by
 obtain ⟨co,bs⟩:=ae bn a2;clear bn a2;obtain ⟨A,c,D,cd,T,ct,R,cr,PA,pc,MA,mc,GA,gc,SA,sc,bI,oI,ic,B1,c1,B2,c2,dn,il,O,rfl,rfl,rfl,H⟩:=lj hS h hu hv hs hy;have a7:=H.rw';rw [bz] at a7;rw [H.dn'] at ad;obtain ⟨cA,H1,cb⟩:=af a7 h1 ad;obtain ⟨dr,dp,tl,d1,cl,dk,cw⟩:=H.loc;have q0:=br O;clear h hu hv hs hy bz hS h1 ad a7;go_enter func89,ntmps89;go_upto_region 1 with (fail);rw [H.eW];go_upto_region 4 with (first | (refine fu cA.o jk rfl rfl rfl ?_) | (refine aI (PW _ _) jk rfl rfl rfl rfl rfl rfl rfl ?_;intro W3 e3 k3;obtain ⟨E3,K3⟩:=ae e3 (aN k3);clear e3 k3));clear dr dp tl q0 d1 cl dk cw;go_upto_region 5 with (first | (refine aQ #[QZ i5,QZ i6] (b:=O.heap.size) E3.o gD rfl rfl rfl rfl ?_) | (refine aI (PW _ _) gD rfl rfl rfl rfl rfl rfl rfl ?_;intro W4 e4 k4;obtain ⟨E4,K4⟩:=ae e4 (aN k4);clear e4 k4));have y0:W4.cell? (ar O.heap.size 0)=some (QZ 4):=PX W4 _ 0 _ _ _ (sb E3.o _ K4.o);have B:=aa (bt K3.o K4.o);go_upto_region 17 with (fail);have d3:=aa (H.bx _ B.o).1;have bX:=aa (H.bx _ B.o).2.1;have bv:=aa (sb E3.o _ K4.o);have a6:=H.K.trans (B.o.mono H.K.size);have a8:=Cp (aH S w) s.cap B1 s.msgs c1 s.recv s.peak ⟨i0,i1,i2,i3,i4⟩ W4 (uo H.s0.in_ (iF (Keep.below a6))) a5 L bl;rw [J] at a8;obtain ⟨cn,a9,bN,ea⟩:=ag a8 a6 J a5;clear a8 a6 J bl L a5 y0;go_wp2_with (first | (refine aQ #[Vd s.cap,.slice B1 s.msgs.length c1,Vd s.recv,Vd s.peak] (b:=w.heap.size+1) bX.o bR rfl rfl rfl rfl ?_) | (refine aQ #[QZ i0,QZ i1,QZ i2,QZ i3,QZ i4] (b:=O.heap.size) bv.o j3 rfl rfl rfl rfl ?_));refine cn.o.mono ?_;rintro e w5 ⟨A5,c5,rfl,r5,k5⟩;obtain ⟨K5,cO⟩:=ae k5 r5;clear k5 r5;obtain ⟨Wa,Wb,b8,bh,ga,gb,bG, -⟩:=gE w5 #[QZ 0,Ra,QZ 0,QZ 0] Rk 75 79;obtain ⟨b6,aR,Ga,Gb,ab⟩:=ah b8 bh ga gb bG;clear b8 bh ga gb bG;go_upto_region 18 with (first | (refine aI (b:=w5.heap.size) (xs:=#[QZ 0,Ra,QZ 0,QZ 0]) (by rw [b6.o,aR.o];exact Ga.o) bR rfl rfl rfl rfl rfl rfl rfl ?_;intro w6 e6 k6;rw [b6.o,aR.o] at k6;obtain ⟨E6,K6⟩:=ae e6 k6;clear e6 k6) | (refine aI (b:=w5.heap.size+1) (xs:=Rk) ((K6.o.block _ (PU Gb.o) ap).trans Gb.o) xX rfl rfl rfl rfl rfl rfl rfl ?_;intro w7 e7 k7;obtain ⟨E7,K7⟩:=ae e7 k7;clear e7 k7));have aM:aq w5 w7:=ab.o.trans ((K6.o.toBelow ab.o.size (λj U=>Nat.le_of_eq (Eq.symm U))).trans (K7.o.toBelow (P4 ab.o.size K6.o.size) (λj U=>P4 (Nat.le_succ _) (Nat.le_of_eq (Eq.symm U)))));have bf:=(K7.o.block _ (PU E6.o) ap).trans E6.o;have ao:aq W4 w7:=bt K5.o aM;have be:=sb bX.o _ ao;obtain ⟨d2,p⟩:=ae bf ao;clear aM bf ao;go_upto_region 21 with (first | (refine aQ #[Vd s.cap,.slice B1 s.msgs.length c1,QZ ((s.recv+1:Nat):Int),Vd s.peak] (b:=w5.heap.size) d2.o bR rfl rfl rfl rfl ?_) | (refine aI be bR rfl rfl rfl rfl rfl rfl rfl ?_;intro I e8 k8;obtain ⟨E8,K8⟩:=ae e8 k8;clear e8 k8));have Y:=λ{b:Nat} {o:Obj} (h:W4.heap[b]?=some o) (hne:b≠w.heap.size+1)=>(K8.o.block b (PU (sb h _ p.o)) hne).trans (sb h _ p.o);have l4:=a9.o.size;have e5:=PU (H.bx _ (br O)).2.2.2.2.2;have dT:=K3.o.size;have Q:=Y d3.o ap;have aG:=Y bv.o ap;have a4:=Y E4.o ap;have av:=(K8.o.block _ (PU E7.o) (by have:=K5.o.size;have:=B.o.size;omega)).trans E7.o;have d4:=PX I w.heap.size 18 _ _ _ Q;have x4:=PX I O.heap.size 4 _ _ _ aG;have c7:=PX I W3.heap.size 0 _ _ _ a4;have a0:I.cell? (ar W3.heap.size 0)=some (Vd lo):=by unfold Vd;rw [<-co.o];exact c7
 have y5:=PX I (w5.heap.size+1) 5 _ _ _ av;have da:=P8 I w.heap.size 18 _ _ Q;have d6:=PU Q;have d8:=PU aG;have dG:=PU a4;have cy:=PU av;have a1:aq w I:=(a9.o.trans (p.o.mono a9.o.size)).trans (K8.o.toBelow (by have:=p.o.size;omega) (λj U=>ap));have bw:=zA GA A5 m.G (aO s.msgs s.recv).vals i.start.length (hi-lo) gc c5 lo b1 I (bQ H.G0 (iF (Keep.below a1))).hr (aW cO.o (iF (Keep.below a1))) H.Gl bN.o (by have:=H.s'.n;omega) ap;obtain ⟨dc,b9,d9⟩:=af bw a1 Q;clear Y aG a4 av c7 bw a1 Q be;go_wp2_with fail;refine dc.o.mono ?_;rintro e w9 ⟨A9,c9,rfl,o9,k9⟩;have N:=sb d9.o _ k9;have ci:=PX w9 w.heap.size 18 _ _ _ N;have cj:=P8 w9 w.heap.size 18 _ _ N;have dw:=PU N;obtain ⟨O9,d5,Z⟩:=af o9 N k9;clear o9 N k9 d4 x4 a0 y5 da d6 d8 dG cy;go_upto_region 28 with (fail);have C:=ss (i:=18) (v:=.slice A9 i.start.length c9) d5.o rfl;have kk:Keep (λk=>k=w.heap.size) w9 (w9.setCell (ar w.heap.size 18) (.slice A9 i.start.length c9)):=Vk w.heap.size (Keep.refl _ _) _ (.inr rfl) _;obtain ⟨V,hV⟩:=Vb (w9.setCell (ar w.heap.size 18) (.slice A9 i.start.length c9));rw [hV] at C kk |-
 have hb:=λ{b:Nat} {o:Obj} (h:O.heap[b]?=some o) (h1:b≠w.heap.size) (h2:b≠w.heap.size+1)=>by
  have h8:=(K8.o.block b (PU (sb (sb h _ B.o) _ p.o)) h2).trans (sb (sb h _ B.o) _ p.o);have h9:=sb h8 _ Z.o;exact (kk.block b (PU h9) h1).trans h9
 have bd:=(kk.block _ (PU (sb E8.o _ Z.o)) ap).trans (sb E8.o _ Z.o);have bV:=hb (H.bx _ (br O)).2.2.1 ap ap;have bb:=hb (H.bx _ (br O)).2.2.2.1 ap ap;have bM:=hb (H.bx _ (br O)).2.2.2.2.1 ap ap;have c6:=hb (H.bx _ (br O)).2.2.2.2.2 ap ap;have a3:=b9.o.trans (Z.o.mono b9.o.size);have bO:=a3.trans (kk.toBelow a3.size (λj U=>by rw [U];exact PV _));obtain ⟨cc,HO⟩:=ae kk (aF O9.o (show w.heap.size+6<=I.heap.size by have:=p.o.size;have:=K8.o.size;have:=B.o.size;omega));clear hV ci cj dw kk hb a3;have cM:=PX V w.heap.size 21 _ _ _ C;have c8:=P8 V w.heap.size 21 _ _ C;have lM:=PU C;have cP:=H.wd;have e9:=ss (i:=21) (v:=QZ ((dn:Int)+1)) C rfl;have k9:Keep (λk=>k=w.heap.size) V (V.setCell (ar w.heap.size 21) (QZ ((dn:Int)+1))):=Vk w.heap.size (Keep.refl _ _) _ (.inr rfl) _;obtain ⟨E9,K9,cx,cL,d7,d0,cs,ds⟩:=ak e9 k9 bd bV bb bM c6 bO;clear e9 k9 bd bV bb bM c6 bO C;go_upto_region 29 with (fail);obtain ⟨V9,b7⟩:=Vb (V.setCell (ar w.heap.size 21) (QZ ((dn:Int)+1)));rw [b7] at E9 K9 |-;clear b7 cM c8 lM cP;obtain ⟨b1,b2,b3,b4,b5⟩:=wY K9.o cx.o cL.o d7.o d0.o cs.o;have hq:aq V9 V9.drew:=(br V9).drew;refine HA.g (KB3 w.heap.size V9) ?_;refine HA.ld3 (vs:=#[.slice A i.cfg.sizes.length c,QZ i.cfg.shift,QZ i.cfg.rate,QZ i.cfg.mom,QZ i.cfg.workers,QZ i.cfg.batch,QZ i.cfg.micros,QZ i.cfg.steps,QZ i.cfg.bucket,QZ i.cfg.chunk,QZ i.cfg.window,QZ i.cfg.cap,.slice D i.data.length cd,.slice T i.start.length ct,.slice R i.draws.length cr,Vd x,.slice PA i.start.length pc,.slice MA i.start.length mc,.slice A9 i.start.length c9,.slice SA m.rc.length sc,.slice (some (ar bI oI)) il ic,QZ (dn+1)]) E9.o b1 b2 et bR bR (Keep.below hq) ?_;refine HA.st3 3 4 5 b3 b4 b5 et bR bR hq (λI r3 r4 e8 q8=>?_);refine HA.t ?_ [6] q8 ?_;refine HA.d ?_;obtain ⟨R3,R4,R5⟩:=af r3 r4 e8;have F:=lh K9.o q8 ds.o;obtain ⟨cv,QW⟩:=ae F.1 F.2;clear b1 b2 b3 b4 b5 e8 q8 r3 r4 hq F;go_wp2_with fail;refine Qd (fG rfl rfl rfl rfl R3.o R4.o R5.o et bR bR) rfl ?_;have oF:=cv.o.own (cc.o.own HO.o (λj U e=>by have:=(HO.o.lt j U).1;omega)) (λj U e=>by have:=(HO.o.lt j U).1;omega);have cf:=aC oF
 have dv:cG (aH S I) A9 (iK m.G lo (aO s.msgs s.recv).vals b1) c9:=by
  obtain ⟨A',c',e',e1⟩:=cf;simp only [QH] at e';have hl:=qM m.G lo (aO s.msgs s.recv).vals b1;have:=H.Gl;have:=H.s'.n;exact ⟨ap,ap,jm oF (λk hk=>by have:=H.S' k hk;omega),vd H.hG.hw bs.o⟩
 have hX:Ext (aH S w) (aH S I):=bC (Keep.below QW.o) (λ_ _ h=>h);obtain ⟨aP,bo,bA,bi⟩:=H1.o;exact ⟨_,_,_,rfl,rfl,rfl,⟨A,c,D,cd,T,ct,R,cr,PA,pc,MA,mc,A9,c9,SA,sc,some (ar bI oI),ic,by rw [H.il',cb.o,bi];push_cast;rfl,fM H.I0 hX,by rw [aP];exact bQ H.P0 hX,by rw [bo];exact bQ H.M0 hX,by rw [bA];exact dv,by rw [bi];exact fh cX H.R0 hX,aW H.It0 hX,by rw [aP];exact H.Pl,by rw [bo];exact H.Ml,by rw [bA];exact ((qM _ _ _ _).trans H.Gl)⟩,⟨B1,c1,rfl,du H.s0 hX,H.s2⟩,⟨B2,c2,rfl,du H.t0 hX,H.t2⟩,QW.o⟩
theorem tV {v:R6} (hS:∀k,S k->k<w.heap.size) (h:fO (aH S w) vs i x m) (hu:RL (aH S w) u s) (hv:RL (aH S w) v t) (hs:bK i) (hy:(dA i x)[bq i x m]?=some y) (k1 k2:Int) (b0 b1:Bool) (i0 i1 i2 i3 i4 i5 i6:Int) (aG:bj y=[QZ 4,QZ k1,QZ k2,.bool b0,.bool b1,QZ i0,QZ i1,QZ i2,QZ i3,QZ i4,QZ i5,QZ i6]) (C:Int) (hC:C≠0) (p:∀(L:N_) (c1:Nat) (w':R8),cY w' L s.msgs->Vj 136 #[.agg #[Vd s.cap,.slice L s.msgs.length c1,Vd s.recv,Vd s.peak],.agg #[QZ i0,QZ i1,QZ i2,QZ i3,QZ i4]] w' λe be=>Vi e (.tuple #[.agg #[Vd s.cap,.slice L s.msgs.length c1,Vd s.recv,Vd s.peak],.agg Rk,QZ C])/\aq w' be) (m1:Mst) (h1:m1.P=m.P/\m1.M=m.M/\m1.G=m.G/\m1.rc=m.rc) (Z:bq i x m1=bq i x m):Vj 89 #[.agg vs,.agg u,.agg v] w (λe w'=>pE S i x m1 (s) (t) C w e w'):=by
 obtain ⟨A,c,D,cd,T,ct,R,cr,PA,pc,MA,mc,GA,gc,SA,sc,bI,oI,ic,L,c1,B2,c2,dn,il,W0,rfl,rfl,rfl,H⟩:=lj hS h hu hv hs hy;have U:=H.rw';rw [aG] at U;rw [H.dn'] at Z;obtain ⟨b9,H1,aR⟩:=af U h1 Z;obtain ⟨bl,bi,tl,bb,b6,bf,b8⟩:=H.loc;have q0:=br W0;clear h hu hv hs hy aG hS h1 Z U;go_enter func89,ntmps89;go_upto_region 1 with (fail);rw [H.eW];go_upto_region 4 with (first | (refine fu b9.o jk rfl rfl rfl ?_) | (refine aI (PW _ _) jk rfl rfl rfl rfl rfl rfl rfl ?_;intro W3 e3 k3;obtain ⟨E3,K3⟩:=ae e3 (aN k3);clear e3 k3));clear bl bi tl q0 bb b6 bf b8;go_upto_region 5 with (first | (refine aQ #[QZ i5,QZ i6] (b:=W0.heap.size) E3.o gD rfl rfl rfl rfl ?_) | (refine aI (PW _ _) gD rfl rfl rfl rfl rfl rfl rfl ?_;intro W4 e4 k4;obtain ⟨E4,K4⟩:=ae e4 (aN k4);clear e4 k4));have y0:Vh W4 W0.heap.size 0 (QZ 4):=PX W4 _ 0 _ _ _ (sb E3.o _ K4.o);have B:=aa (bt K3.o K4.o);go_upto_region 17 with (fail);have bv:=aa (H.bx _ B.o).1;have bo:=aa (H.bx _ B.o).2.1;have bh:=aa (sb E3.o _ K4.o);have Q:=H.K.trans (B.o.mono H.K.size);have ao:=p L c1 W4 (du H.s0 (iF (Keep.below Q)));obtain ⟨b7,bw,HC⟩:=af ao Q hC;have bd:(C != 0)=true:=by rw [bne_iff_ne];exact hC
 clear ao Q p hC y0;go_wp2_with (first | (refine aQ #[Vd s.cap,.slice L s.msgs.length c1,Vd s.recv,Vd s.peak] (b:=w.heap.size+1) bo.o bR rfl rfl rfl rfl ?_) | (refine aQ #[QZ i0,QZ i1,QZ i2,QZ i3,QZ i4] (b:=W0.heap.size) bh.o j3 rfl rfl rfl rfl ?_));refine b7.o.mono ?_;rintro e w5 ⟨rfl,k5⟩;have K5:=aa k5;clear k5;obtain ⟨Wa,Wb,a9,ab,ga,gb,aP, -⟩:=gE w5 #[QZ 0,Ra,QZ 0,QZ 0] Rk 75 79;obtain ⟨a8,a7,Ga,Gb,Y⟩:=ah a9 ab ga gb aP;clear a9 ab ga gb aP;go_upto_region 19 with (first | (refine aI (b:=w5.heap.size) (xs:=#[QZ 0,Ra,QZ 0,QZ 0]) (by rw [a8.o,a7.o];exact Ga.o) bR rfl rfl rfl rfl rfl rfl rfl ?_;intro w6 e6 k6;rw [a8.o,a7.o] at k6;obtain ⟨E6,K6⟩:=ae e6 k6;clear e6 k6) | (refine aI (b:=w5.heap.size+1) (xs:=Rk) ((K6.o.block _ (PU Gb.o) ap).trans Gb.o) xX rfl rfl rfl rfl rfl rfl rfl ?_;intro w7 e7 k7;obtain ⟨E7,K7⟩:=ae e7 k7;clear e7 k7));have a5:aq w5 w7:=Y.o.trans ((K6.o.toBelow Y.o.size (λj hj=>Nat.le_of_eq (Eq.symm hj))).trans (K7.o.toBelow (P4 Y.o.size K6.o.size) (λj hj=>P4 (Nat.le_succ _) (Nat.le_of_eq (Eq.symm hj)))));have a0:=bt B.o (bt K5.o a5);obtain ⟨J,O,a3,N,a1,a4⟩:=H.bx _ a0;have a2:=H.K.trans (a0.mono H.K.size);obtain ⟨V,hV⟩:=Vb w7;rw [hV] at J O a3 N a1 a4 a2 |-;clear hV a0 a5 bd;obtain ⟨E9,bn,K9⟩:=af J a2 (Keep.refl (λk=>k=w.heap.size) V);clear J a2;have b1:=O;have b2:=a3;have b3:=N;have b4:=a1;have b5:=a4;clear O a3 N a1 a4;have hq:aq V V.drew:=(br V).drew;refine HA.g (KB3 w.heap.size V) ?_;refine HA.ld3 (vs:=#[.slice A i.cfg.sizes.length c,QZ i.cfg.shift,QZ i.cfg.rate,QZ i.cfg.mom,QZ i.cfg.workers,QZ i.cfg.batch,QZ i.cfg.micros,QZ i.cfg.steps,QZ i.cfg.bucket,QZ i.cfg.chunk,QZ i.cfg.window,QZ i.cfg.cap,.slice D i.data.length cd,.slice T i.start.length ct,.slice R i.draws.length cr,Vd x,.slice PA i.start.length pc,.slice MA i.start.length mc,.slice GA i.start.length gc,.slice SA m.rc.length sc,Vf bI oI il ic,Vd dn]) E9.o b1 b2 et bR bR (Keep.below hq) ?_;refine HA.t ?_ [3] (Keep.below hq) ?_;refine HA.st3 4 5 6 b3 b4 b5 et bR bR hq (λw8 r3 r4 e8 q8=>?_);refine HA.t ?_ [7] q8 ?_;refine HA.d ?_;obtain ⟨R3,R4,R5⟩:=af r3 r4 e8;have F:=lh K9.o q8 bn.o;obtain ⟨bs,QW⟩:=ae F.1 F.2;clear b1 b2 b3 b4 b5 e8 q8 r3 r4 hq F;go_wp2_with fail;refine Qd (fG rfl rfl rfl rfl R3.o R4.o R5.o et bR bR) rfl ?_;have I:Ext (aH S w) (aH S w8):=bC (Keep.below QW.o) (λ_ _ h=>h);obtain ⟨a6,av,aM,ad⟩:=H1.o;exact ⟨_,_,_,rfl,rfl,rfl,⟨A,c,D,cd,T,ct,R,cr,PA,pc,MA,mc,GA,gc,SA,sc,some (ar bI oI),ic,by rw [H.il',aR.o,ad],fM H.I0 I,by rw [a6];exact bQ H.P0 I,by rw [av];exact bQ H.M0 I,by rw [aM];exact bQ H.G0 I,by rw [ad];exact fh cX H.R0 I,aW H.It0 I,by rw [a6];exact H.Pl,by rw [av];exact H.Ml,by rw [aM];exact H.Gl⟩,⟨L,c1,rfl,du H.s0 I,H.s2⟩,⟨B2,c2,rfl,du H.t0 I,H.t2⟩,QW.o⟩
theorem Ms:dg prog 136 3:=⟨⟨_,underlying136,rfl⟩,by kernel_rfl⟩
theorem LN (w:R8) (X Y Z U:R6) (t u v:R9):∃h,(((w.alloc (.cells X t)).alloc (.cells Y u)).alloc (.cells Z v)).alloc (.cells U u)=h/\
  Vg h w.heap.size X t/\Vg h (w.heap.size+1) Y u/\Vg h (w.heap.size+1+1) Z v/\Vg h (w.heap.size+1+1+1) U u/\aq w h:=
 ⟨_,rfl,cu [.cells X t,.cells Y u,.cells Z v,.cells U u] w 0 rfl,cu [.cells X t,.cells Y u,.cells Z v,.cells U u] w 1 rfl,cu [.cells X t,.cells Y u,.cells Z v,.cells U u] w 2 rfl,cu [.cells X t,.cells Y u,.cells Z v,.cells U u] w 3 rfl,eJ [.cells X t,.cells Y u,.cells Z v,.cells U u] w⟩
def Pq (x v:Q_) (n:Nat) (w:R8) (e:Ending) (h:R8):Prop:=∃u o p i,e=.returned (.tuple #[.agg #[.slice u n o,.slice p n i],.bool true])/\n<=o/\n<=i/\h.ownsRow w.heap.size 2 1 (.slice u n o) n (aA .i64 x)/\h.ownsRow w.heap.size 2 1 (.slice p n i) n (aA .i64 v)/\aq w h
theorem Cv (ra I q:Int) (A B G:N_) (P M g:Q_) (n ca cb cg lo D L:Nat) (w:R8) (hA:Rd w A (aA .i64 P)) (hB:Rd w B (aA .i64 M)) (hG:Rd w G (aA .i64 g)) (hP:P.length=n) (hM:M.length=n) (hg:g.length=L) (hL:D=lo+L) (bs:0<L) (hn:n<=1048576) (bv:D<=n) (d0:n<=ca) (dp:n<=cb) (wM:W64 M) (bN: -9223372036854775808<=ra/\ra<=9223372036854775807) (bz: -9223372036854775808<=I/\I<=9223372036854775807):Vj 137 #[.agg #[QZ ra,QZ I,QZ q],.agg #[.slice A n ca,.slice B n cb],.agg #[Vd lo,Vd D],.slice G L cg] w (Pq (apP ra I q P M g lo L) (apM I q M g lo L) n w):=by
 obtain ⟨y,bM,g0,g1,u,g3,k0⟩:=LN w #[QZ ra,QZ I,QZ q] #[.slice A n ca,.slice B n cb] #[Vd lo,Vd D] #[Ra,Ra] 136 103 187;obtain ⟨ab,ao,rfl, -⟩:=hA.num (show 0<P.length by omega);obtain ⟨bb,bo,rfl, -⟩:=hB.num (show 0<M.length by omega);have cP:IntKind.i64.wrap ((D:Int)-(lo:Int))=(L:Int):=by rw [P3 _ ap];omega
 have h1:¬(lo:Int)<0:=ap;have h2:¬(D:Int)<lo:=ap;have h3:¬(n:Int)<D:=ap;have h4:¬D<lo:=ap;have h5:¬n<D:=ap;have s0:∀h,aq y h->Vh h (w.heap.size+1) 0 (Vf ab ao n ca):=λh q=>PX h _ 0 _ _ _ (sb g1 h q);have s1:∀h,aq y h->Vh h (w.heap.size+1) 1 (Vf bb bo n cb):=λh q=>PX h _ 1 _ _ _ (sb g1 h q);have r0:∀h,aq y h->Vh h (w.heap.size+1+1) 0 (Vd lo):=λh q=>PX h _ 0 _ _ _ (sb u h q);have r1:∀h,aq y h->Vh h (w.heap.size+1+1) 1 (Vd D):=λh q=>PX h _ 1 _ _ _ (sb u h q);have tl:=sl u;have cA:=sl g1;have q0:=br y;have ds:(lo:Int)<=D:=ap;have cO:lo<=D:=ap;have dv:(D:Int)<=ca:=ap;have dc:(D:Int)<=cb:=ap;have dk:D<=ca:=ap;have da:D<=cb:=ap;have d2:¬ca=lo:=ap;have dr:¬cb=lo:=ap;have cw:D-lo=L:=ap;have bn:((P.drop lo).take L).length=L:=by rw [Qy,QB];omega
 have bl:((M.drop lo).take L).length=L:=by rw [Qy,QB];omega
 have rA:Rd w (some (ar ab (ao+lo))) (aA .i64 ((P.drop lo).take L)):=by have:=(hA.drop lo).take L;rwa [dK,dH] at this
 have rB:Rd w (some (ar bb (bo+lo))) (aA .i64 ((M.drop lo).take L)):=by have:=(hB.drop lo).take L;rwa [dK,dH] at this
 have bA:W64 ((M.drop lo).take L):=λk hk=>by rw [bl] at hk;rw [eH hk,eI];exact wM _ ap
 have bw:=λh (q':aq y h)=>sq ra I q (some (ar ab (ao+lo))) (some (ar bb (bo+lo))) G ((P.drop lo).take L) ((M.drop lo).take L) g L (ca-lo) (cb-lo) cg h (rA.below (k0.trans (q'.mono k0.size))) (rB.below (k0.trans (q'.mono k0.size))) (hG.below (k0.trans (q'.mono k0.size))) bn bl hg ap bA bN bz;have a6:=λh (q':aq y h)=>pL (some (ar ab ao)) P ca h (hA.below (k0.trans (q'.mono k0.size))) ap;have av:=λh (q':aq y h)=>pL (some (ar bb bo)) M cb h (hB.below (k0.trans (q'.mono k0.size))) ap;rw [hP] at a6;rw [hM] at av;obtain ⟨cL,G0,G1,G2,G3,K0,c9,b7⟩:=ak bM g0 g1 u g3 k0 bw a6;obtain ⟨ad,HP,HM,Hg,HL,a9,d7,Hn⟩:=ak av hP hM hg hL bv cw hn;clear bM g0 g1 u g3 k0 bw a6 av hP hM hg hL bv hA hB hG bn bl rA rB bA wM bN bz hn;go_enter func137,ntmps137;go_upto_region 1 with (fail);rw [cL.o];go_upto_region 3 with (fail)
 go_cut [10,11] (λv cc wx=>∃bX A0 x0 B0 y0,v=(au bX)/\cc=.bool true/\Vg wx bX #[.slice A0 L x0,.slice B0 L y0] 103/\wx.ownsRow y.heap.size 2 1 (.slice A0 L x0) L (aA .i64 (nu ra I q ((P.drop lo).take L) ((M.drop lo).take L) g))/\wx.ownsRow y.heap.size 2 1 (.slice B0 L y0) L (aA .i64 (nv I q ((M.drop lo).take L) g))/\aq y wx)
 case first=>
  have q3:=q0.drew;refine HA.g (λh:R8=>aq y h) ?_;refine HA.ld 0 #[QZ ra,QZ I,QZ q] (λh q=>sb G0.o h q) Ms q3 ?_;refine HA.t ?_ [1,2,3,4,5,6,7,8,9,10,11,12,13,14,15,16] q3 ?_;refine HA.two 17 21 ?_ ?_
  .refine HAS.c (c9.o _ q3) ?_;rintro e w4 ⟨A0,x0,B0,y0,rfl,oP,oM,k4⟩;have q4:=q3.trans (k4.mono q3.size);refine ⟨_,rfl,q4,λ_=>?_⟩;refine HA.t ?_ [18,19,20] q4 ?_;refine HA.v 21 (w4.alloc (.cells #[Ra,Ra] 103)) ((au w4.heap.size)) (q4.alloc q4.size _) ?_;refine HA.st 22 (PW w4 _) lF (λp e5 k5=>?_);have b5:=aN k5;have C:=q4.trans (b5.mono q4.size);refine ⟨C,?_⟩;refine HA.t ?_ [23] C ?_;refine HA.d ?_;have HF:=aa (P7 e5 (P7 (aF (az oP b5) q3.size) (P7 (aF (az oM b5) q3.size) C)));clear e5 oP oM b5 k5 k4 q3 q4 C;go_wp2;go_meet;exact ⟨_,A0,x0,B0,y0,rfl,rfl,HF.o⟩
  .refine HAS.v (y.drew.alloc (.cells #[Ra,Ra] 103)) ((au y.drew.heap.size)) (q3.alloc (PV _) _) ?_;have gA:=PW y.drew (.cells #[Ra,Ra] 103);have Q:=q3.alloc (PV y.heap.size) (.cells #[Ra,Ra] 103);obtain ⟨wa,H⟩:=Vb (y.drew.alloc (.cells #[Ra,Ra] 103));rw [H] at gA Q |-;clear H;refine HA.c 17 (c9.o _ Q) ?_;rintro e w4 ⟨A0,x0,B0,y0,rfl,oP,oM,k4⟩;have q4:=Q.trans (k4.mono Q.size);refine ⟨_,rfl,q4,λ_=>?_⟩;refine HA.t ?_ [18,19,20] q4 ?_;have b2:=sb gA _ k4;refine HA.st 22 b2 lF (λp e5 k5=>?_);have C:=q4.trans (k5.toBelow q4.size (λj i=>Nat.le_of_eq (Eq.symm i)));refine ⟨C,?_⟩;refine HA.t ?_ [23] C ?_;refine HA.d ?_;have HF:=aa (P7 e5 (P7 (aF (k5.own oP (λj i e=>ay b2 V0 oP (by rw [i,e]))) Q.size) (P7 (aF (k5.own oM (λj i e=>ay b2 V0 oM (by rw [i,e]))) Q.size) C)));clear e5 oP oM k5 k4 q3 Q q4 C gA b2;go_wp2;go_meet;exact ⟨_,A0,x0,B0,y0,rfl,rfl,HF.o⟩
 case rest=>
 obtain ⟨bX,A0,x0,B0,y0,rfl,rfl,e5,oP,oM,C⟩:=hcut;obtain ⟨p,rfl⟩:∃p,p=wc:=⟨_,rfl⟩;obtain ⟨E5,OP,OM,Q5⟩:=ag e5 oP oM C;clear e5 oP oM;go_upto_region 4 with (fail)
 go_cut [12] (λv wx=>∃U A1 c1 B1 N,v=(au U)/\Vg wx U #[.slice A1 n c1,.slice B1 n N] 103/\p.heap.size<=U/\wx.ownsRow p.heap.size 2 1 (.slice A1 n c1) n (aA .i64 P)/\wx.ownsRow p.heap.size 2 1 (.slice B1 n N) n (aA .i64 M)/\(∀j,(Value.slice A1 n c1).ownBlock=some j->(Value.slice B1 n N).ownBlock≠some j)/\aq p wx)
 case first=>
  have q6:aq y p.drew:=C.drew;have r6:aq p p.drew:=(br p).drew;refine HA.g (λh:R8=>aq y h) ?_;refine HA.t ?_ [0,1,3,4] q6 ?_;refine HA.two 2 7 ?_ ?_
  .refine HAS.c (b7.o _ q6) ?_;rintro e w6 ⟨A1,c1,rfl,o1,k6⟩;have T:=q6.trans (k6.mono q6.size);refine ⟨_,rfl,T,λ_=>?_⟩;refine HA.two 5 7 ?_ ?_
   .refine HAS.c (ad.o _ T) ?_;rintro e w7 ⟨B1,N,rfl,o2,x⟩;have J:=T.trans (x.mono T.size);refine ⟨_,rfl,J,λ_=>?_⟩;refine HA.t ?_ [6] J ?_;refine HA.v 7 (w7.alloc (.cells #[Ra,Ra] 103)) ((au w7.heap.size)) (J.alloc J.size _) ?_;refine HA.st 8 (PW w7 _) lF (λw8 Z Y=>?_);have b8:=aN Y;refine ⟨J.trans (b8.mono J.size),HA.d ?_⟩;have s6:=k6.size;have s7:=x.size;rw [QG] at s6;have fa:=o1;have fb:=az (az o1 x) b8;have fc:=o2;have fd:=az o2 b8;have fe:=bt (bt (r6.trans k6) x) b8;have HF:=aa (P7 Z (P7 (show p.heap.size<=w7.heap.size by (try rw [QG]);omega) (P7 (aF fb (show p.heap.size<=_ by (try rw [QG]);omega)) (P7 (aF fd (show p.heap.size<=_ by (try rw [QG]);omega)) (P7 (show ∀j,(Value.slice A1 n c1).ownBlock=some j->(Value.slice B1 n N).ownBlock≠some j from λj h1 h2=>by have z1:=(fa.lt j h1).2;have z2:=(fc.lt j h2).1;omega) fe)))));clear Z Y o1 o2 k6 x r6 q6 fa fb fc fd fe;go_wp2;go_meet;exact ⟨_,A1,c1,B1,N,rfl,HF.o⟩
   .refine HAS.v (w6.alloc (.cells #[Ra,Ra] 103)) ((au w6.heap.size)) (T.alloc T.size _) ?_;have gA:=PW w6 (.cells #[Ra,Ra] 103);have ba:=(br w6).alloc (PV _) (.cells #[Ra,Ra] 103);have b3:=T.alloc T.size (.cells #[Ra,Ra] 103);have sA:(w6.alloc (.cells #[Ra,Ra] 103)).heap.size=w6.heap.size+1:=Qg _ _;obtain ⟨wa,H⟩:=Vb (w6.alloc (.cells #[Ra,Ra] 103));rw [H] at gA b3 ba sA |-;clear H;refine HA.c 5 (ad.o _ b3) ?_;rintro e w7 ⟨B1,N,rfl,o2,x⟩;have J:=b3.trans (x.mono b3.size);refine ⟨_,rfl,J,λ_=>?_⟩;refine HA.t ?_ [6] J ?_;have R:=sb gA _ x;refine HA.st 8 R lF (λw8 Z Y=>?_);have s6:=k6.size;have s7:=x.size;rw [QG] at s6;have a8:=az (az o1 ba) x;have b8:aq p w8:=(bt (bt (r6.trans k6) ba) x).trans (Y.toBelow ap (λj i=>by have O:j=w6.heap.size:=i;omega));refine ⟨J.trans (Y.toBelow J.size (λj i=>by have O:j=w6.heap.size:=i;have:=T.size;omega)),HA.d ?_⟩;have fa:=o1;have fb:=Y.own a8 (λj i e=>ay R V0 a8 (by rw [i,e]));have fc:=o2;have fd:=Y.own o2 (λj i e=>ay R V0 o2 (by rw [i,e]));have fe:=b8;have HF:=aa (P7 Z (P7 (show p.heap.size<=w6.heap.size by (try rw [QG]);omega) (P7 (aF fb (show p.heap.size<=_ by (try rw [QG]);omega)) (P7 (aF fd (show p.heap.size<=_ by (try rw [QG]);omega)) (P7 (show ∀j,(Value.slice A1 n c1).ownBlock=some j->(Value.slice B1 n N).ownBlock≠some j from λj h1 h2=>by have z1:=(fa.lt j h1).2;have z2:=(fc.lt j h2).1;omega) fe)))));clear Z Y o1 o2 k6 x r6 q6 fa fb fc fd fe;go_wp2;go_meet;exact ⟨_,A1,c1,B1,N,rfl,HF.o⟩
  .refine HAS.v (p.drew.alloc (.cells #[Ra,Ra] 103)) ((au p.drew.heap.size)) (q6.alloc q6.size _) ?_;have gA:=PW p.drew (.cells #[Ra,Ra] 103);have aM:=q6.alloc q6.size (.cells #[Ra,Ra] 103);have ba:=(br p.drew).alloc (PV _) (.cells #[Ra,Ra] 103);have sA:(p.drew.alloc (.cells #[Ra,Ra] 103)).heap.size=p.drew.heap.size+1:=Qg _ _;obtain ⟨wa,H⟩:=Vb (p.drew.alloc (.cells #[Ra,Ra] 103));rw [H] at gA aM ba sA |-;clear H;refine HA.c 2 (b7.o _ aM) ?_;rintro e w6 ⟨A1,c1,rfl,o1,k6⟩;have T:=aM.trans (k6.mono aM.size);refine ⟨_,rfl,T,λ_=>?_⟩;refine HA.c 5 (ad.o _ T) ?_;rintro e w7 ⟨B1,N,rfl,o2,x⟩;have J:=T.trans (x.mono T.size);refine ⟨_,rfl,J,λ_=>?_⟩;refine HA.t ?_ [6] J ?_;have R:=sb (sb gA _ k6) _ x;refine HA.st 8 R lF (λw8 Z Y=>?_);have s6:=k6.size;have s7:=x.size;rw [QG] at sA;have a8:=az o1 x;have b8:aq p w8:=(bt (bt (r6.trans ba) k6) x).trans (Y.toBelow ap (λj i=>by have O:j=p.drew.heap.size:=i;rw [QG] at O;omega));refine ⟨J.trans (Y.toBelow J.size (λj i=>by have O:j=p.drew.heap.size:=i;rw [QG] at O;have:=C.size;omega)),HA.d ?_⟩;have fa:=o1;have fb:=Y.own a8 (λj i e=>ay R V0 a8 (by rw [i,e]));have fc:=o2;have fd:=Y.own o2 (λj i e=>ay R V0 o2 (by rw [i,e]));have fe:=b8;have HF:=aa (P7 Z (P7 (show p.heap.size<=p.drew.heap.size by (try rw [QG]);omega) (P7 (aF fb (show p.heap.size<=_ by (try rw [QG]);omega)) (P7 (aF fd (show p.heap.size<=_ by (try rw [QG]);omega)) (P7 (show ∀j,(Value.slice A1 n c1).ownBlock=some j->(Value.slice B1 n N).ownBlock≠some j from λj h1 h2=>by have z1:=(fa.lt j h1).2;have z2:=(fc.lt j h2).1;omega) fe)))));clear Z Y o1 o2 k6 x r6 q6 fa fb fc fd fe;go_wp2;go_meet;exact ⟨_,A1,c1,B1,N,rfl,HF.o⟩
 case rest=>
 obtain ⟨U,A1,c1,B1,N,rfl,Z,nO,a3,a2,b6,a4⟩:=hcut;obtain ⟨w8,rfl⟩:∃w8,w8=wc:=⟨_,rfl⟩;have q9:=C.trans (a4.mono C.size);have bI:=sb E5.o _ a4;have be:=az OP.o a4;have bh:=az OM.o a4;obtain ⟨g1,_,cl,_⟩:=a3.form ap;obtain ⟨u,_,bV,_⟩:=a2.form ap;obtain ⟨p1,_,c7,_⟩:=be.form bs;obtain ⟨p2,_,cd,_⟩:=bh.form bs;simp only [QH] at cl bV c7 cd;obtain ⟨rfl,_,rfl⟩:=cl;obtain ⟨rfl,_,rfl⟩:=bV;obtain ⟨rfl,_,rfl⟩:=c7;obtain ⟨rfl,_,rfl⟩:=cd;have n1:p1<p.heap.size:=(OP.o.lt p1 rfl).2;have n2:p2<p.heap.size:=(OM.o.lt p2 rfl).2;have n3:p.heap.size<=g1:=(a3.lt g1 rfl).1;have n4:p.heap.size<=u:=(a2.lt u rfl).1;have n5:bX<p.heap.size:=PU E5.o;have n6:g1≠u:=λe=>b6 g1 rfl (by rw [e];rfl);have n7:=C.size;have n8:U≠g1:=λe=>ay Z V0 a3 (by rw [e];rfl);have d4:U≠u:=λe=>ay Z V0 a2 (by rw [e];rfl);have n9:=PU G3.o;have l8:=PU Z;obtain ⟨O1,O2,E8,aP,cy,bG,Q9,C1⟩:=ak (aF a3 (show w.heap.size<=p.heap.size by have:=K0.o.size;omega)) (aF a2 (show w.heap.size<=p.heap.size by have:=K0.o.size;omega)) Z bI be bh q9 (aC a3);have C2:=aa (aC a2);clear Z a3 a2 bI be bh q9 C a4 b6 s0 s1 r0 r1 tl cA q0;go_wp2
 go_loopw [13] (λz wr=>∃k:Nat,k<=L/\z=QZ k/\wr.ownsRow w.heap.size 2 1 (Vf g1 0 n c1) n (aA .i64 (apP ra I q P M g lo k))/\wr.ownsRow w.heap.size 2 1 (Vf u 0 n N) n (aA .i64 (apM I q M g lo k))/\Keep (λj=>j=g1\/j=u) w8 wr) (λz _=>L-(intOf z).toNat)
 .exact ⟨0,PZ _,rfl,by rw [Bf];exact O1.o,by rw [Bg];exact O2.o,Keep.refl _ _⟩
 case round=>
  obtain ⟨k,hk,rfl,r1,r2,kk⟩:=hrel;have bo:=(kk.block U l8 ap).trans E8.o;by_cases a0:k<L
  .have bx:=(kk.block bX (PU aP.o) ap).trans aP.o;have a7:=(kk.block (w.heap.size+1+1) (PU (sb G2.o _ Q9.o)) ap).trans (sb G2.o _ Q9.o);have y1:=cS (kk.own cy.o (λj i e=>by cases i;rcases e with e | e;(have O:p1=g1:=e;omega);(have O:p1=u:=e;omega))) a0;have y2:=cS (kk.own bG.o (λj i e=>by cases i;rcases e with e | e;(have O:p2=g1:=e;omega);(have O:p2=u:=e;omega))) a0;rw [FZ a0 (by rw [HP.o];have:=HL.o;have:=a9.o;omega) (by rw [HM.o];have:=HL.o;have:=a9.o;omega)] at y1;rw [wQ a0 (by rw [HM.o];have:=HL.o;have:=a9.o;omega)] at y2;have a1:lo+k<n:=by have:=HL.o;have:=a9.o;omega
   have p3:=cS r1 a1;have p4:=cS r2 a1;have f3:=r1.frozenAt (lo+k);have f4:=r2.frozenAt (lo+k);have b0:=Em ra I q P M g lo k (by rw [HP.o];exact a1);have b1:=Eo I q M g lo k (by rw [HM.o];exact a1);obtain ⟨vP,cf⟩:∃v,kU ra q (nth P (lo+k)) (eE I q (nth M (lo+k)) (nth g k))=v:=⟨_,rfl⟩;obtain ⟨vM,bi⟩:∃v,eE I q (nth M (lo+k)) (nth g k)=v:=⟨_,rfl⟩;rw [cf] at y1 b0;rw [bi] at y2 b1;have cr:(k:Int)<L:=ap;have d8:¬(k:Int)<0:=ap;have cs:=Hn.o;have d3:IntKind.i64.wrap ((k:Int)+1)=((k+1:Nat):Int):=by rw [P3 _ ap];push_cast;rfl
   obtain ⟨j,i⟩:=Vb (lo+k);rw [i] at p3 p4 f3 f4 b0 b1 a1;have d9:(lo:Int)+k=(j:Int):=ap;have dn:(j:Int)<n:=ap;have d6:¬(j:Int)<0:=ap;have d5:IntKind.i64.wrap (j:Int)=j:=P3 _ ap;have c6:=PX wr U 0 _ _ _ bo;have bd:=PX wr U 1 _ _ _ bo;have aG:=PX wr (w.heap.size+1+1) 0 _ _ _ a7;have cj:=PX wr bX 0 _ _ _ bx;have bf:=PX wr bX 1 _ _ _ bx;obtain ⟨c8,cx,cM,R1,R2,b4⟩:=ai bi b0 b1 r1 r2 kk;clear b0 b1 r1 r2 kk bo bx a7 cf bi cs;rw [i] at c8;have Hj:=aa i;clear i;go_upto_region 8 with (fail);refine XA.g 12 (λh:R8=>Vh h U 0 (Vf g1 0 n c1)/\Vh h (w.heap.size+1+1) 0 (Vd lo)/\Vh h bX 0 (Vf p1 0 L x0)/\Vh h p1 k (QZ vP)) ?_;refine XA.t ?_ [0,1,2,3,4,5,6,7,8,9,10,11] ⟨c6,aG,cj,y1⟩ ?_;refine XA.e ?_;simp only [Qq,Qs];go_upto_region 9 with (fail);have aR:=(eC R1.o j vP).drew;rw [cx.o] at aR;have kq:Keep (λj=>j=g1\/j=u) w8 (wr.setCell (ar g1 j) (QZ vP)).drew:=(Keep.setCell (S:=λj=>j=g1\/j=u) b4.o (ar g1 j) (.inr (.inl rfl)) _).drew;have a5:=((Vk g1 (Keep.refl _ wr) (ar g1 j) (.inr rfl) (QZ vP)).drew).own R2.o (λj i e=>by cases i;have O:u=g1:=e;omega);obtain ⟨wq,ci⟩:=Vb ((wr.setCell (ar g1 j) (QZ vP)).drew);rw [ci] at aR kq a5 |-;clear ci c6 bd aG cj bf p3 p4 f3 f4 y1 y2;have bo:=(kq.block U l8 ap).trans E8.o;have bx:=(kq.block bX (PU aP.o) ap).trans aP.o;have a7:=(kq.block (w.heap.size+1+1) (PU (sb G2.o _ Q9.o)) ap).trans (sb G2.o _ Q9.o);have y2:=cS (kq.own bG.o (λj i e=>by cases i;rcases e with e | e;(have O:p2=g1:=e;omega);(have O:p2=u:=e;omega))) a0;rw [wQ a0 (by rw [HM.o];have:=HL.o;have:=a9.o;omega)] at y2;have b9:=c8.o;rw [Hj.o,b9] at y2;have bd:=PX wq U 1 _ _ _ bo;have aG:=PX wq (w.heap.size+1+1) 0 _ _ _ a7;have bf:=PX wq bX 1 _ _ _ bx;have p4:=cS a5 a1;have f4:=a5.frozenAt j;obtain ⟨cn,co,Kq⟩:=af aR a5 kq;clear aR a5 kq bo bx a7 b9;refine XA.g 12 (λh:R8=>Vh h U 1 (Vf u 0 n N)/\Vh h (w.heap.size+1+1) 0 (Vd lo)/\Vh h bX 1 (Vf p2 0 L y0)/\Vh h p2 k (QZ vM)) ?_;refine XA.t ?_ [0,1,2,3,4,5,6,7,8,9,10,11] ⟨bd,aG,bf,y2⟩ ?_;refine XA.e ?_;simp only [Qq,Qs];go_wp2;go_roundw
   case rel=>
    refine ⟨k+1,ap,Vc,?_,?_,?_⟩
    .exact ((Vk u (Keep.refl _ wq) (ar u j) (.inr rfl) (QZ vM)).drew).own cn.o (λj i e=>by cases i;have O:g1=u:=e;omega)
    .rw [<-cM.o];exact (eC co.o j vM).drew
    .exact (Keep.setCell (S:=λj=>j=g1\/j=u) Kq.o (ar u j) (.inr (.inr rfl)) _).drew
   case measure=>exact Va
  .obtain rfl:k=L:=ap;have cr:¬(k:Int)<k:=ap;have gR:=(kk.block (w.heap.size+1+1+1) (PU (sb G3.o _ Q9.o)) ap).trans (sb G3.o _ Q9.o);obtain ⟨R1,R2,b4,BO,GR⟩:=ah r1 r2 kk bo gR;clear r1 r2 kk bo gR;obtain ⟨V,rfl⟩:∃V:R8,V=wr:=⟨_,rfl⟩;go_wp2_with (first | (refine aQ #[Vf g1 0 n c1,Vf u 0 n N] (b:=U) BO.o lF rfl rfl rfl rfl ?_) | (refine aI GR.o lF rfl rfl rfl rfl rfl rfl rfl ?_;intro W9 e9 k9;obtain ⟨E9,K9⟩:=ae e9 k9;clear e9 k9));refine Qd (dV rfl rfl E9.o lF) rfl ?_;obtain ⟨_,_,z1,z2⟩:=C1.o;obtain ⟨_,_,z3,z4⟩:=C2.o;simp only [QH] at z1 z3;have cv:=K0.o.trans (Q9.o.mono K0.o.size);have s8:=Q9.o.size;have s0:=K0.o.size;have sV:=b4.o.size;exact ⟨_,_,_,_,rfl,ap,ap,K9.o.own R1.o (λj i e=>by cases i;have O:g1=w.heap.size+1+1+1:=e;omega),K9.o.own R2.o (λj i e=>by cases i;have O:u=w.heap.size+1+1+1:=e;omega),(cv.trans (b4.o.toBelow ap (λj i=>by rcases i with e | e<;>omega))).trans (K9.o.toBelow ap (λj i=>by have O:j=w.heap.size+1+1+1:=i;omega))⟩
theorem Cq {v:R6} (hS:∀k,S k->k<w.heap.size) (h:fO (aH S w) vs i x m) (hu:RL (aH S w) u s) (hv:RL (aH S w) v t) (hs:bK i) (hy:(dA i x)[bq i x m]?=some y) (k1 k2:Int) (b0 b1:Bool) (i0 i1 i2 i3 i4 i5 i6:Int) (cf:bj y=[QZ 5,QZ k1,QZ k2,.bool b0,.bool b1,QZ i0,QZ i1,QZ i2,QZ i3,QZ i4,QZ i5,QZ i6]) (bn lo B:Nat) (bv:k2=(bn:Nat)) (cw:bn<(ax i).buks.length) (co:aK (ax i).buks bn=(lo,B)) (bo:lo<B) (bG:B<=i.start.length) (m1:Mst) (h1:m1.P=apP i.cfg.rate i.cfg.mom i.cfg.shift m.P m.M ((m.G.drop lo).take (B-lo)) lo (B-lo)/\m1.M=apM i.cfg.mom i.cfg.shift m.M ((m.G.drop lo).take (B-lo)) lo (B-lo)/\m1.G=m.G/\m1.rc=m.rc) (bh:bq i x m1=bq i x m+1):Vj 89 #[.agg vs,.agg u,.agg v] w (λe p=>pE S i x m1 (s) (t) 0 w e p):=by
 have em:=aa bv;clear bv;obtain ⟨A,c,D,cd,T,ct,R,cr,PA,pc,MA,mc,GA,gc,SA,sc,bI,oI,ic,B1,c1,B2,c2,dn,il,W0,rfl,rfl,rfl,H⟩:=lj hS h hu hv hs hy;have bf:=H.rw';rw [cf] at bf;rw [H.dn'] at bh;obtain ⟨dc,H1,cO⟩:=af bf h1 bh;obtain ⟨ek,ei,tl,dG,d0,ee,d5⟩:=H.loc;have q0:=br W0;clear h hu hv hs hy cf hS h1 bh bf;go_enter func89,ntmps89;go_upto_region 1 with (fail);rw [H.eW];go_upto_region 4 with (first | (refine fu dc.o jk rfl rfl rfl ?_) | (refine aI (PW _ _) jk rfl rfl rfl rfl rfl rfl rfl ?_;intro W3 e3 k3;obtain ⟨E3,K3⟩:=ae e3 (aN k3);clear e3 k3));clear ek ei tl q0 dG d0 ee d5;go_upto_region 5 with (first | (refine aQ #[QZ i5,QZ i6] (b:=W0.heap.size) E3.o gD rfl rfl rfl rfl ?_) | (refine aI (PW _ _) gD rfl rfl rfl rfl rfl rfl rfl ?_;intro Z e4 k4;obtain ⟨E4,K4⟩:=ae e4 (aN k4);clear e4 k4));have y0:Z.cell? (ar W0.heap.size 0)=some (QZ 5):=PX Z _ 0 _ _ _ (sb E3.o _ K4.o);have aP:=aa (bt K3.o K4.o);go_upto_region 23 with (fail);have bV:=aa (H.bx _ aP.o).1;have ef:=aa (sb E3.o _ K4.o);have bN:=H.K.trans (aP.o.mono H.K.size);have q4:=(br Z).drew;have x2:∀p,aq Z p->p.cell? (ar W0.heap.size 2)=some (Vd bn):=λp q=>by unfold Vd;rw [<-em.o];exact PX p _ 2 _ _ _ (sb ef.o p q)
 have hc:=H.s'.g.c;have ew:(((ax i).W:Nat):Int)=i.cfg.workers:=by have:=hc.w;simp only [ax];omega
 have eu:(((ax i).bu:Nat):Int)=i.cfg.bucket:=by have:=hc.bu;simp only [ax];omega
 have ec:(((ax i).ck:Nat):Int)=i.cfg.chunk:=by have:=hc.ch;simp only [ax];omega
 have en:(ax i).n=i.start.length:=rfl;have a6:=λp=>jl A i.cfg.sizes.length c i.cfg.shift i.cfg.rate i.cfg.mom i.cfg.workers i.cfg.batch i.cfg.micros i.cfg.steps i.cfg.bucket i.cfg.chunk i.cfg.window i.cfg.cap D i.data.length cd T i.start.length ct R i.draws.length cr p;have a0:=λp=>qy (ax i) (.slice A i.cfg.sizes.length c) (QZ i.cfg.shift) (QZ i.cfg.rate) (QZ i.cfg.mom) (QZ i.cfg.batch) (QZ i.cfg.micros) (QZ i.cfg.steps) (QZ i.cfg.window) (QZ i.cfg.cap) p H.s'.ok (by have:=hc.bu;simp only [ax];omega);unfold Vd at a0;simp only [ew,eu,ec,en] at a0;have bb:=eO cw;rw [co] at bb;have dv:=H.s'.ok.buks;obtain ⟨nb,b9⟩:=Vb ((ax i).buks.length);rw [b9] at a0 cw dv;have av:(bn:Int)<nb:=ap;have a9:¬(bn:Int)<0:=ap;have ab:¬nb<=bn:=ap;obtain ⟨ad,a8,bX,a4,c6,aM⟩:=ai a6 a0 bN bb bo bG;clear a6 a0 bN bb co b9 ew eu ec en y0 bo bG
 go_cut [21] (λv wx=>∃J,v=(au J)/\wx.heap[J]?=some (.cells #[Vd lo,Vd B] 187 (0,0))/\aq Z wx)
 case first=>
  refine HA.g (λp:R8=>aq Z p) ?_;refine HA.t ?_ [0,4,5] q4 ?_;refine HA.ld 1 (aL A c D cd T ct R cr i) (λp q=>sb bV.o p q) gu q4 ?_;refine HA.two 2 8 ?_ ?_
  .skip
   refine HAS.c (ad.o _) ?_;rintro e w5 ⟨rfl,k5⟩;have O:=q4.trans (k5.mono q4.size);refine ⟨_,rfl,O,λ_=>?_⟩;refine HA.two 3 8 ?_ ?_
   .skip
    refine HAS.c (a8.o _) ?_;rintro e Q ⟨v6,rfl,L,k6⟩;have C:=O.trans (k6.mono O.size);obtain ⟨g6,cv,rfl,_⟩:=L.form ap;have a3:=L.1;have c0:=L.cellAt (bn*2) ap;have I:=L.cellAt (bn*2+1) ap;rw [a4.o.1] at c0;rw [a4.o.2] at I;refine ⟨_,rfl,C,λ_=>?_⟩;refine HA.t ?_ [6] C ?_;have a2:=(L.lt g6 rfl).2;refine HA.two 7 8 ?_ ?_;rotate_left
    .refine HAS.v (Q.alloc (.cells #[QZ 0,QZ 0] 187)) ((au Q.heap.size)) (C.alloc C.size _) ?_;have c0:=aw ((br Q).alloc (PV _) (.cells #[QZ 0,QZ 0] 187)) c0;have I:=aw ((br Q).alloc (PV _) (.cells #[QZ 0,QZ 0] 187)) I;have e1:g6<(Q.alloc (.cells #[QZ 0,QZ 0] 187)).heap.size:=by rw [Qg];omega
     refine HA.v 7 (Q.alloc (.cells #[QZ 0,QZ 0] 187)) (.agg #[Vd lo,Vd B]) (C.alloc C.size _) ?_;refine HA.st 9 (PW Q _) gD (λw7 Y k7=>?_);have N:=C.trans ((aN k7).mono C.size);refine ⟨N,HA.d ?_⟩;have HF:=aa (P7 Y N);clear Y k7 N C O q4 k5 k6 L c0 I a2 e1 a3 x2 av a9 ab;go_wp2;go_meet;exact ⟨_,rfl,HF.o⟩
    refine HAS.v Q (.agg #[Vd lo,Vd B]) C ?_;refine HA.v 8 (Q.alloc (.cells #[QZ 0,QZ 0] 187)) ((au Q.heap.size)) (C.alloc C.size _) ?_;refine HA.st 9 (PW Q _) gD (λw7 Y k7=>?_);have N:=C.trans ((aN k7).mono C.size);refine ⟨N,HA.d ?_⟩;have HF:=aa (P7 Y N);clear Y k7 N C O q4 k5 k6 L c0 I a2 a3 x2 av a9 ab;go_wp2;go_meet;exact ⟨_,rfl,HF.o⟩
   .skip
    refine HAS.v (w5.alloc (.cells #[QZ 0,QZ 0] 187)) ((au w5.heap.size)) (O.alloc O.size _) ?_;have gA:=PW w5 (.cells #[QZ 0,QZ 0] 187);have qa:=O.alloc O.size (.cells #[QZ 0,QZ 0] 187);have jA:Z.heap.size<=w5.heap.size:=O.size;obtain ⟨jj,a7⟩:=Vb w5.heap.size;obtain ⟨wa,ao⟩:=Vb (w5.alloc (.cells #[QZ 0,QZ 0] 187));rw [ao] at gA qa |-;rw [a7] at gA jA |-;clear ao a7;refine HA.c 3 (a8.o _) ?_;rintro e Q ⟨v6,rfl,L,k6⟩;have C:=qa.trans (k6.mono qa.size);obtain ⟨g6,cv,rfl,_⟩:=L.form ap;have a3:=L.1;have c0:=L.cellAt (bn*2) ap;have I:=L.cellAt (bn*2+1) ap;rw [a4.o.1] at c0;rw [a4.o.2] at I;refine ⟨_,rfl,C,λ_=>?_⟩;refine HA.t ?_ [6] C ?_;have a2:=(L.lt g6 rfl).2;refine HA.v 7 Q (.agg #[Vd lo,Vd B]) C ?_;refine HA.st 9 (sb gA _ k6) gD (λw7 Y k7=>?_);have N:=C.trans (k7.toBelow C.size (λj hj=>by have e':j=jj:=hj;omega));refine ⟨N,HA.d ?_⟩;have HF:=aa (P7 Y N);clear Y k7 N C O q4 qa gA jA k5 k6 L c0 I a2 a3 x2 av a9 ab;go_wp2;go_meet;exact ⟨_,rfl,HF.o⟩
  .skip
   refine HAS.v (Z.drew.alloc (.cells #[QZ 0,QZ 0] 187)) ((au Z.drew.heap.size)) (q4.alloc q4.size _) ?_;have gA:=PW Z.drew (.cells #[QZ 0,QZ 0] 187);have qa:=q4.alloc q4.size (.cells #[QZ 0,QZ 0] 187);have jA:Z.heap.size<=Z.drew.heap.size:=q4.size;obtain ⟨jj,a7⟩:=Vb Z.drew.heap.size;obtain ⟨wa,ao⟩:=Vb (Z.drew.alloc (.cells #[QZ 0,QZ 0] 187));rw [ao] at gA qa |-;rw [a7] at gA jA |-;clear ao a7;refine HA.c 2 (ad.o _) ?_;rintro e w5 ⟨rfl,k5⟩;have O:=qa.trans (k5.mono qa.size);refine ⟨_,rfl,O,λ_=>?_⟩;refine HA.c 3 (a8.o _) ?_;rintro e Q ⟨v6,rfl,L,k6⟩;have C:=O.trans (k6.mono O.size);obtain ⟨g6,cv,rfl,_⟩:=L.form ap;have a3:=L.1;have c0:=L.cellAt (bn*2) ap;have I:=L.cellAt (bn*2+1) ap;rw [a4.o.1] at c0;rw [a4.o.2] at I;refine ⟨_,rfl,C,λ_=>?_⟩;refine HA.t ?_ [6] C ?_;have a2:=(L.lt g6 rfl).2;refine HA.v 7 Q (.agg #[Vd lo,Vd B]) C ?_;refine HA.st 9 (sb (sb gA _ k5) _ k6) gD (λw7 Y k7=>?_);have N:=C.trans (k7.toBelow C.size (λj hj=>by have e':j=jj:=hj;omega));refine ⟨N,HA.d ?_⟩;have HF:=aa (P7 Y N);clear Y k7 N C O q4 qa gA jA k5 k6 L c0 I a2 a3 x2 av a9 ab;go_wp2;go_meet;exact ⟨_,rfl,HF.o⟩
 case rest=>
 obtain ⟨J,rfl,Y,N⟩:=hcut;obtain ⟨w7,rfl⟩:∃w7,w7=wc:=⟨_,rfl⟩;obtain ⟨E7,Q7⟩:=ae Y N;clear Y N q4 x2 av a9 ab;go_upto_region 24 with (fail);have b6:=aa (sb bV.o _ Q7.o);have q8:=(br w7).drew;have ey:B<=gc:=by have:=H.hG.hc;have:=H.Gl;have:=aM.o;omega
 obtain ⟨gb,go,rfl, -⟩:=H.hG.hr.num (show 0<m.G.length by have:=H.Gl;have:=c6.o;have:=aM.o;omega);have e2:∀p,aq w7 p->p.cell? (ar w.heap.size 18)=some (.slice (some (ar gb go)) i.start.length gc):=λp q=>PX p _ 18 _ _ _ (sb b6.o p q);have y0:∀p,aq w7 p->p.cell? (ar J 0)=some (Vd lo):=λp q=>PX p _ 0 _ _ _ (sb E7.o p q);have y1:∀p,aq w7 p->p.cell? (ar J 1)=some (Vd B):=λp q=>PX p _ 1 _ _ _ (sb E7.o p q);have cA:=c6.o;have eL:(lo:Int)<=B:=ap;have eG:(B:Int)<=gc:=ap;have er:lo<=B:=ap;have es:¬gc=lo:=ap;have aR:aq w w7:=bX.o.trans (Q7.o.mono bX.o.size);have b7:((m.G.drop lo).take (B-lo)).length=B-lo:=by have:=H.Gl;have:=aM.o;rw [Qy,QB];omega
 have c7:=λp (q:aq w7 p)=>by
  have be:aq w p:=aR.trans (q.mono aR.size)
  have d8:Rd p (some (ar gb (go+lo))) (aA .i64 ((m.G.drop lo).take (B-lo))):=by
   have:=((H.hG.hr.below be).drop lo).take (B-lo)
   rwa [dK,dH] at this
  exact Cv i.cfg.rate i.cfg.mom i.cfg.shift PA MA (some (ar gb (go+lo))) m.P m.M ((m.G.drop lo).take (B-lo)) i.start.length pc mc (gc-lo) lo B (B-lo) p (H.hP.hr.below be) (H.hM.hr.below be) d8 H.Pl H.Ml b7 ap ap (by have:=H.s'.n;omega) aM.o (by have:=H.hP.hc;have:=H.Pl;omega) (by have:=H.hM.hc;have:=H.Ml;omega) H.hM.hw H.hI.ra H.hI.rm
 have cc:=λp=>ze A c i.cfg p;obtain ⟨e0,da,ev⟩:=af c7 cc aR;clear c7 b7 aR cA cc;refine XA.g 19 (λp:R8=>aq w7 p) ?_;refine XA.t ?_ [0,1,4,7,8,9,10,11,12,13] q8 ?_;refine XA.ld 2 #[.slice A i.cfg.sizes.length c,QZ i.cfg.shift,QZ i.cfg.rate,QZ i.cfg.mom,QZ i.cfg.workers,QZ i.cfg.batch,QZ i.cfg.micros,QZ i.cfg.steps,QZ i.cfg.bucket,QZ i.cfg.chunk,QZ i.cfg.window,QZ i.cfg.cap] (λp q=>sb b6.o p q) BV q8 ?_;refine XA.ld 5 #[.slice PA i.start.length pc,.slice MA i.start.length mc] (λp q=>sb b6.o p q) lF q8 ?_;refine XA.ld 6 #[Vd lo,Vd B] (λp q=>sb E7.o p q) gD q8 ?_;refine XA.c 3 (da.o _) ?_;rintro e w8 ⟨rfl,k8⟩;have q9:=q8.trans (k8.mono q8.size);refine ⟨_,rfl,q9,λ_=>?_⟩;refine XA.c 14 (e0.o w8 q9) ?_;rintro e w9 ⟨A9,c9,B9,d9,rfl,bM,cy,o9,p9,k9⟩;have a5:=q9.trans (k9.mono q9.size);refine ⟨_,rfl,a5,λ_=>?_⟩;refine XA.t0 ?_ [15,16,17] a5 ?_;refine XA.t ?_ [18] a5 ?_;refine XA.e ?_;simp only [Qq,Qs];have U:=sb b6.o _ a5;have d6:=PX w9 w.heap.size 16 _ _ _ U;have dT:=PX w9 w.heap.size 17 _ _ _ U;have d1:=P8 w9 w.heap.size 16 _ _ U;have d4:=P8 w9 w.heap.size 17 _ _ U;have eo:=PU U;obtain ⟨ea,cM,O9,P9,d2,ej,L8⟩:=aj U a5 o9 p9 bM cy q9.size;clear U a5 q9 q8 o9 p9 k9 k8 bM cy e2 y0 y1;go_upto_region 28 with (fail);have a1:=ss2 (i:=16) (j:=17) (v:=.slice A9 i.start.length c9) (u:=.slice B9 i.start.length d9) ea.o rfl;have kk:Keep (λk=>k=w.heap.size) w9 ((w9.setCell (ar w.heap.size 16) (.slice A9 i.start.length c9)).setCell (ar w.heap.size 17) (.slice B9 i.start.length d9)):=Vk w.heap.size (Vk w.heap.size (Keep.refl _ _) _ (.inr rfl) _) _ (.inr rfl) _;obtain ⟨V,hV⟩:=Vb ((w9.setCell (ar w.heap.size 16) (.slice A9 i.start.length c9)).setCell (ar w.heap.size 17) (.slice B9 i.start.length d9));rw [hV] at a1 kk |-;have aG:=bt aP.o (bt Q7.o cM.o);have hb:=λ{b:Nat} {o:Obj} (h:W0.heap[b]?=some o) (h1:b≠w.heap.size)=>(kk.block b (PU (sb h _ aG)) h1).trans (sb h _ aG);have bA:=hb (H.bx _ (br W0)).2.1 ap;have cs:=hb (H.bx _ (br W0)).2.2.1 ap;have bw:=hb (H.bx _ (br W0)).2.2.2.1 ap;have cl:=hb (H.bx _ (br W0)).2.2.2.2.1 ap;have cx:=hb (H.bx _ (br W0)).2.2.2.2.2 ap;have bd:=H.K.trans (aG.mono H.K.size);have cn:=bd.trans (kk.toBelow bd.size (λj hj=>Nat.le_of_eq (Eq.symm hj)));have eB:=PU (H.bx _ (br W0)).2.2.2.2.2;have l8:w.heap.size+6<=w8.heap.size:=by have:=L8.o;have:=Q7.o.size;have:=aP.o.size;omega
 obtain ⟨ci,cb⟩:=ae (kk.own (aF O9.o l8) (λj hj e=>by have h1:=(O9.o.lt j hj).1;have h2:j=w.heap.size:=e;omega)) (kk.own (aF P9.o l8) (λj hj e=>by have h1:=(P9.o.lt j hj).1;have h2:j=w.heap.size:=e;omega));clear hV d6 dT d1 d4 eo kk hb bd aG l8;have dp:=PX V w.heap.size 21 _ _ _ a1;have cL:=P8 V w.heap.size 21 _ _ a1;have lM:=PU a1;have ds:=H.wd;have e9:=ss (i:=21) (v:=QZ ((dn:Int)+1)) a1 rfl;have k9:Keep (λk=>k=w.heap.size) V (V.setCell (ar w.heap.size 21) (QZ ((dn:Int)+1))):=Vk w.heap.size (Keep.refl _ _) _ (.inr rfl) _;obtain ⟨E9,K9,d7,dk,eb,dw,d3,el⟩:=ak e9 k9 bA cs bw cl cx cn;clear e9 k9 bA cs bw cl cx cn a1;go_upto_region 29 with (fail);obtain ⟨V9,bs⟩:=Vb (V.setCell (ar w.heap.size 21) (QZ ((dn:Int)+1)));rw [bs] at E9 K9 |-;clear bs dp cL lM ds;obtain ⟨b1,b2,b3,b4,b5⟩:=wY K9.o d7.o dk.o eb.o dw.o d3.o;have hq:aq V9 V9.drew:=(br V9).drew;refine HA.g (KB3 w.heap.size V9) ?_;refine HA.ld3 (vs:=#[.slice A i.cfg.sizes.length c,QZ i.cfg.shift,QZ i.cfg.rate,QZ i.cfg.mom,QZ i.cfg.workers,QZ i.cfg.batch,QZ i.cfg.micros,QZ i.cfg.steps,QZ i.cfg.bucket,QZ i.cfg.chunk,QZ i.cfg.window,QZ i.cfg.cap,.slice D i.data.length cd,.slice T i.start.length ct,.slice R i.draws.length cr,Vd x,.slice A9 i.start.length c9,.slice B9 i.start.length d9,.slice (some (ar gb go)) i.start.length gc,.slice SA m.rc.length sc,.slice (some (ar bI oI)) il ic,QZ (dn+1)]) E9.o b1 b2 et bR bR (Keep.below hq) ?_;refine HA.st3 3 4 5 b3 b4 b5 et bR bR hq (λw8 r3 r4 e8 q8=>?_);refine HA.t ?_ [6] q8 ?_;refine HA.d ?_;obtain ⟨R3,R4,R5⟩:=af r3 r4 e8;have F:=lh K9.o q8 el.o;obtain ⟨bi,QW⟩:=ae F.1 F.2;clear b1 b2 b3 b4 b5 e8 q8 r3 r4 hq F;go_wp2_with fail;refine Qd (fG rfl rfl rfl rfl R3.o R4.o R5.o et bR bR) rfl ?_;have b8:∀j,w.heap.size+6<=j->¬(w.heap.size<=j/\j<w.heap.size+6):=λj h1 h2=>ap;have e6:=bi.o.own ci.o (λj hj=>b8 j (ci.o.lt j hj).1);have e5:=bi.o.own cb.o (λj hj=>b8 j (cb.o.lt j hj).1);have bz:∀k,S k->k<w.heap.size+6:=λk hk=>by have:=H.S' k hk;omega
 have eq:=H.s'.n;have lP:=oN i.cfg.rate i.cfg.mom i.cfg.shift m.P m.M ((m.G.drop lo).take (B-lo)) lo (B-lo);have lM:=oQ i.cfg.mom i.cfg.shift m.M ((m.G.drop lo).take (B-lo)) lo (B-lo);have cP:cG (aH S w8) A9 (apP i.cfg.rate i.cfg.mom i.cfg.shift m.P m.M ((m.G.drop lo).take (B-lo)) lo (B-lo)) c9:=⟨by have:=d2.o;have:=H.Pl;omega,by have:=H.Pl;omega,jm e6 bz,En H.hP.hw⟩;have dr:cG (aH S w8) B9 (apM i.cfg.mom i.cfg.shift m.M ((m.G.drop lo).take (B-lo)) lo (B-lo)) d9:=⟨by have:=ej.o;have:=H.Ml;omega,by have:=H.Ml;omega,jm e5 bz,yH H.hM.hw⟩;have hX:Ext (aH S w) (aH S w8):=bC (Keep.below QW.o) (λ_ _ h=>h);obtain ⟨bl,c8,cj,bO⟩:=H1.o;exact ⟨_,_,_,rfl,rfl,rfl,⟨A,c,D,cd,T,ct,R,cr,A9,c9,B9,d9,some (ar gb go),gc,SA,sc,some (ar bI oI),ic,by rw [H.il',cO.o,bO];push_cast;rfl,fM H.I0 hX,by rw [bl];exact cP,by rw [c8];exact dr,by rw [cj];exact bQ H.G0 hX,by rw [bO];exact fh cX H.R0 hX,aW H.It0 hX,by rw [bl];exact (lP.trans H.Pl),by rw [c8];exact (lM.trans H.Ml),by rw [cj];exact H.Gl⟩,⟨B1,c1,rfl,du H.s0 hX,H.s2⟩,⟨B2,c2,rfl,du H.t0 hX,H.t2⟩,QW.o⟩
theorem lQ.pushed {B:Nat} {v:Value} {vs:R7} {i:R8} {e m base:Nat} {u:Value} (h:lQ l n B k v vs w) (o:w.ownsRow base e size u m xs) (hg:w.grownBy i u.ownBlock) (h1:e≠22) (C:e≠3):lQ l n B k v vs i:=
 ⟨fx h.1 o hg h1,λj A=>by have ⟨H,D,p,x,y⟩:=h.2 j A;exact ⟨H,D,p,x,fx y o hg C⟩⟩
theorem Dh {W p:R8} {o:R6} {t:R9} {u:Nat×Nat} (h:W.heap[b]?=some (.cells o t u)) {base:Nat} {v:Value} (hr:W.ownsRow base e size v k xs) (hg:W.grownBy p v.ownBlock) (i:t≠e):p.heap[b]?=some (.cells o t u):= (hg.block b (PU h) (ay h i hr)).trans h
def TrB (Z:N_) (h:R8) (b5 o:Nat) (X Y:R6) (i:Inp) (m:Nat) (v p:Value) (vs:R7) (w:R8):Prop:=m9 Z h (b5+1) w i m v/\w.heap[h.heap.size]?=some (.cells X 29 (0,0))/\w.heap[o]?=some (.cells Y 128 (0,0))/\lQ i.draws i.data.length (b5+1) (epI i) p vs w/\aq h w
theorem TrB.below {x p:R8} {o m:Nat} {X:R6} {v u:Value} {vs:R7} (h:TrB Z x b5 o X Y i m v u vs w) (hb:aq w p):TrB Z x b5 o X Y i m v u vs p:=
 ⟨h.1.below hb,(hb.block _ (PU h.2.1)).trans h.2.1,(hb.block _ (PU h.2.2.1)).trans h.2.2.1,h.2.2.2.1.below hb,h.2.2.2.2.trans (hb.mono h.2.2.2.2.size)⟩
theorem TrB.set5 {p u:R8} {o m:Nat} {X:R6} {v x:Value} {vs:R7} (h:TrB Z p b5 o X Y i m v x vs w) {B:R6} (A:Vg w b5 B 103) (hw:p.heap.size<b5) (C:b5+1<o) (k:Keep (λj=>j=b5) w u):TrB Z p b5 o X Y i m v x vs u:=
 ⟨h.1.box A V0 ap ap k,(k.block _ (PU h.2.1) ap).trans h.2.1,(k.block _ (PU h.2.2.1) ap).trans h.2.2.1,h.2.2.2.1.keep k (λj y=>ap),h.2.2.2.2.trans (k.toBelow h.2.2.2.2.size (λj y=>ap))⟩
theorem xW (A:N_) (c:Nat) (D:N_) (cd:Nat) (T:N_) (ct:Nat) (R:N_) (cr:Nat) (i:Inp) (w:R8) (h:gM w A c D T ct R i) (hg:iX i):Vj 23 #[.agg (aL A c D cd T ct R cr i)] w (yL T i w):=by
 have fa:=hg.b;have gl:1<=i.cfg.batch:=by have:=hg.c.w;have:=hg.c.ba;omega
 have bI:=hg.c.st;have eY:=hg.c.z.bound (k:=i.cfg.sizes.length-1) (by have:=hg.c.z.1.1;omega);obtain ⟨s,hs⟩:∃s:Nat,i.cfg.steps=(s:Int):=⟨i.cfg.steps.toNat,ap⟩;obtain ⟨bt,b6⟩:∃bt:Nat,i.cfg.batch=(bt:Int):=⟨i.cfg.batch.toNat,ap⟩;have e5:i.cfg.steps.toNat=s:=ap;have g6:=aa (show s<=1048576 by omega);have c7:i.cfg.batch.toNat=bt:=ap;obtain ⟨n,hn⟩:=Vb (cnt i);have b1:n<=1048576:=by rw [<-hn];exact eY
 have bb:i.start.length=n:=by rw [<-hn];exact hg.s
 have bl:1<=i.data.length/bt:=Nat.div_pos ap ap;have a1:=λu (q:aq w u)=>iP A c D cd T ct R cr i u (h.below q);rw [oE.2 hg] at a1;have aM:=λu=>tF T n ct u b1;have y:=λu (q:aq w u)=>se A c D cd T ct R cr i u hg (h.r.below q) h.rl h.ru;unfold xA at y;have a0:=λk u (A':N_) c' (hk:k<s) (hA:dx zD 1 u A' (jb i.draws i.data.length (epI i)))=>ua i.data.length bt s k (epI i) c' A' i.draws u hA ap ap fa.2 ap hk (by unfold epI;rw [e5,c7]);have Q:=λu (q:aq w u) k P (hP:P.length=n) (wP:W64 P) Ap cp X cx (rP:Rd u Ap (aA .i64 P)) (rX:Rd u X (aA .i64 (cN i.draws i.data.length bt k)))=>su A c D cd T ct R cr i Ap X P (cN i.draws i.data.length bt k) n cp cx u (h.c.hr.below q) h.c.hc (h.d.below dB q) hg rP hP hn wP rX (by rw [fV _ bl];omega);simp only [fV _ bl] at Q;have C:=λu=>ze A c i.cfg u;have be:=λu P M g Ap Bp Gp ca cb cg (hP:P.length=n) (hM:M.length=n) (g1:g.length=n) (r1:Rd u Ap (aA .i64 P)) (r2:Rd u Bp (aA .i64 M)) (r3:Rd u Gp (aA .i64 g)) (wM:W64 M)=>sq i.cfg.rate i.cfg.mom i.cfg.shift Ap Bp Gp P M g n ca cb cg u r1 r2 r3 hP hM g1 b1 wM h.ra h.rm;have dT:=λk=>tj i hg.s k;simp only [hn] at dT;have f3:=λk=>Iv i h.t.hw k;have bf:∀k:Nat,dq i (k+1)=(nu i.cfg.rate i.cfg.mom i.cfg.shift (dq i k).1 (dq i k).2 (pq i (dq i k).1 k),nv i.cfg.mom i.cfg.shift (dq i k).2 (pq i (dq i k).1 k)):=λk=>rfl;have cn:=λk=>vk hg k;rw [c7] at cn;have eu:∀P k,pq i P k=dE i P (cI i.data (cN i.draws i.data.length bt k)):=λP k=>by unfold pq;rw [c7]
 obtain ⟨HR,HG,gm,av,bh,eV,fn,d4⟩:=ak h hg a1 aM y a0 Q C;obtain ⟨gg,Y,b3,dr,fr,gk,Hs,ad⟩:=ak be dT f3 bf cn eu hs b6;obtain ⟨eB,Hn,b4⟩:=af e5 hn bb;clear h hg a1 aM y a0 Q C be dT f3 bf cn eu fa gl bI eY c7 bl;have cL:=jf w (aL A c D cd T ct R cr i) 29 rfl;have cM:aq w (w.alloc (.cells (aL A c D cd T ct R cr i) 29)):=(PY _ w).alloc (PV _) _;obtain ⟨W1,bi⟩:∃W1,W1=w.alloc (.cells (aL A c D cd T ct R cr i) 29):=⟨_,rfl⟩;rw [<-bi] at cM cL;obtain ⟨bO,d9⟩:=ae cM cL;clear cM cL;dsimp only [aL] at bi;rw [bb,hs,b6] at bi;have a1:=gm.o W1 bO.o;dsimp only [aL] at a1;rw [bb,hs,b6] at a1;have cc:=aa a1;clear a1;go_enter func23,ntmps23;dsimp only [aL];rw [bb,hs,b6];clear hs b6 bb e5 hn;go_wp2_with fail;rw [<-bi];clear bi;refine cc.o.mono ?_;rintro e w2 ⟨rfl,d3⟩;have es:=bO.o.trans (d3.mono bO.o.size);have aP:=(d3.block _ (PU d9.o)).trans d9.o;obtain ⟨bM,f6⟩:=ae es aP;have b9:=PU aP;dsimp only [aL] at aP;rw [b4.o,Hs.o,ad.o] at aP;obtain ⟨⟨t0,t1,t2,t3,t4,t5,t6,t7,t8,t9,a7,a5,a9,a3,ao⟩,tf⟩:=jB aP;clear es d3 aP cc bO d9 W1;go_wp2_with fail;refine (av.o w2).mono ?_;rintro e w3 ⟨A0,rfl,f4,H⟩;have bA:=bM.o.trans (H.mono bM.o.size);have aR:=(H.block _ b9).trans f6.o
 have ci:RSt T w w3 [.slice T n ct,.slice A0 n n] (dq i 0):=by
  refine ⟨_,_,rfl,.inl ⟨ct,?_,?_,HR.o.t.hr,(HR.o.t.below bA).hr⟩,.inr ?_,?_,?_,(b3.o 0).1,(b3.o 0).2⟩
  .rw [(Y.o 0).1]
  .exact HR.o.t.hc
  .rw [(Y.o 0).2];have:(dq i 0).2=List.replicate n 0:=by unfold dq;rw [Hn.o]
   rw [this];exact aF f4 bM.o.size
  .rw [(Y.o 0).1];exact b1
  .rw [(Y.o 0).2];exact b1
 clear t0 t1 t2 t3 t4 t5 t6 t7 t8 t9 a7 a5 a9 a3 ao tf;obtain ⟨b5,N⟩:=Vb w3.heap.size;have ey:w.heap.size<b5:=by rw [<-N];exact P6 b9 H.size
 have a6:=jf w3 #[.slice T n ct,.slice A0 n n] 103 N;have cs:=dP aR (.cells #[.slice T n ct,.slice A0 n n] 103);have bn:=fF N (.cells #[.slice T n ct,.slice A0 n n] 103);have J:=bA.alloc bA.size (.cells #[.slice T n ct,.slice A0 n n] 103);have aG:=ci.below ((PY w3.heap.size w3).alloc (PV _) (.cells #[.slice T n ct,.slice A0 n n] 103));obtain ⟨w4,co⟩:∃w4,w4=w3.alloc (.cells #[.slice T n ct,.slice A0 n n] 103):=⟨_,rfl⟩;rw [<-co] at a6 cs bn J aG;have bN:=m9.one (i:=i) (base:=b5+1) (by rw [bn];exact PV _) aG;rw [bn] at bN;have cP:=dP a6 (.cells #[.slice T n ct,.slice A0 n n] 103);have cw:=dP cs (.cells #[.slice T n ct,.slice A0 n n] 103);have dc:=J.alloc J.size (.cells #[.slice T n ct,.slice A0 n n] 103);have cO:=aa (show b5+1<=(w4.alloc (.cells #[.slice T n ct,.slice A0 n n] 103)).heap.size by rw [fF bn];omega);have bv:=aG.below ((PY w4.heap.size w4).alloc (PV _) (.cells #[.slice T n ct,.slice A0 n n] 103));obtain ⟨w5,bo⟩:∃w5,w5=w4.alloc (.cells #[.slice T n ct,.slice A0 n n] 103):=⟨_,rfl⟩;rw [<-bo] at bN cP cw dc bv cO;obtain ⟨fc,ef,eq,ea,ds,d5,L,cf⟩:=ak bo co N bN cP cw dc bv;have a4:=aa ey;have b8:=PU aR;dsimp only [aL] at aR;rw [b4.o,Hs.o,ad.o] at aR;obtain ⟨⟨t0,t1,t2,t3,t4,t5,t6,t7,t8,t9,a7,a5,a9,a3,ao⟩,tf⟩:=jB aR;clear ci a6 cs bn J aG bN cP cw dc bv f4 bA bo co N ey H aR f6 b9;go_wp2_with fail;rw [<-ef.o,<-fc.o,eq.o];have y:=bh.o w5 L.o;dsimp only [aL] at y;rw [b4.o,Hs.o,ad.o] at y;refine y.mono ?_;clear y ef fc eq t0 t1 t2 t3 t4 t5 t6 t7 t8 t9 a7 a5 a9 a3 ao tf av bh b8 bM;rintro e w6 ⟨A6,c6,rfl,⟨vs,f5⟩,I⟩;have O:=(I.block _ (PU ds.o)).trans ds.o;have b2:=(I.block _ (PU d5.o)).trans d5.o;have a8:=L.o.trans (I.mono L.o.size);have dw:=ea.o.below I;have U:=cf.o.below I;obtain ⟨b7,c9⟩:=Vb w6.heap.size;have cl:=jf w6 #[QZ i.data.length,QZ bt,QZ s,.slice A6 (epI i) c6] 128 c9;have dp:=dP O (.cells #[QZ i.data.length,QZ bt,QZ s,.slice A6 (epI i) c6] 128);have dn:=dP b2 (.cells #[QZ i.data.length,QZ bt,QZ s,.slice A6 (epI i) c6] 128);have e3:=a8.alloc a8.size (.cells #[QZ i.data.length,QZ bt,QZ s,.slice A6 (epI i) c6] 128);have bG:aq w6 (w6.alloc (.cells #[QZ i.data.length,QZ bt,QZ s,.slice A6 (epI i) c6] 128)):=(PY _ _).alloc (PV _) _;have d7:=dw.below bG;have B:=U.below bG;have cA:=(f5.base cO.o).below bG
 have el:b5+1<b7:=by
  obtain ⟨rows,q1,_⟩:=dw;rw [<-c9];exact (q1.lt (b5+1) rfl).2
 obtain ⟨w7,e4⟩:∃w7,w7=w6.alloc (.cells #[QZ i.data.length,QZ bt,QZ s,.slice A6 (epI i) c6] 128):=⟨_,rfl⟩;rw [<-e4] at cl dp dn e3 d7 B cA;obtain ⟨HY,HV,HX,HB,HM,fd,HO,fi⟩:=ak cl dp dn e3 d7 B cA el;obtain ⟨eG,eo⟩:=ae e4 c9;have ei:=PU b2;dsimp only [aL] at b2;rw [b4.o,Hs.o,ad.o] at b2;obtain ⟨⟨t0,t1,t2,t3,t4,t5,t6,t7,t8,t9,a7,a5,a9,a3,ao⟩,tf⟩:=jB b2;clear O b2 a8 dw U cl dp dn e3 bG d7 B f5 cA el e4 c9 I ea ds d5 L cf;go_upto_region 7 with (fail);rw [<-eG.o,eo.o];clear eG eo t0 t1 t2 t3 t4 t5 t6 t7 t8 t9 a7 a5 a9 a3 ao tf ei cO w2 w3 w4 w5 w6
 have H0:∃(k:Nat) (u1 u2:Value),k<=s/\Value.int .i64 0=QZ (k:Int)/\Vg w7 b5 #[u1,u2] 103/\RSt T w w7 [u1,u2] (dq i k)/\TrB T w b5 b7 (aL A c D cd T ct R cr i) #[QZ i.data.length,QZ bt,QZ s,.slice A6 (epI i) c6] i (k+1) (Vf (b5+1) 0 1 1) (.slice A6 (epI i) c6) vs w7:=
  ⟨0,_,_,PZ _,rfl,HV.o,fd.o,HM.o,HX.o,HY.o,HO.o,HB.o⟩
 have g4:=aa H0;clear H0 HV fd HM HX HY HO HB;go_wp2
 go_loopw [6,8] (λv x wr=>∃(k:Nat) (u1 u2:Value),k<=s/\x=QZ (k:Int)/\Vg wr b5 #[u1,u2] 103/\RSt T w wr [u1,u2] (dq i k)/\TrB T w b5 b7 (aL A c D cd T ct R cr i) #[QZ i.data.length,QZ bt,QZ s,.slice A6 (epI i) c6] i (k+1) v (.slice A6 (epI i) c6) vs wr) (λ_ x _=>s-(intOf x).toNat)
 .exact g4.o
 case round=>
  obtain ⟨k,u1,u2,hk,rfl,hv,bI,hT⟩:=hrel;obtain ⟨Av,cv,rfl,_⟩:=hT.1.form;have hx:=hT.2.1;have b8:=PU hx;dsimp only [aL] at hx;rw [b4.o,Hs.o,ad.o] at hx;have dG:=aa hx;obtain ⟨⟨t0,t1,t2,t3,t4,t5,t6,t7,t8,t9,a7,a5,a9,a3,ao⟩,tf⟩:=jB hx;obtain ⟨HT,HV⟩:=ae hT hv;clear hx hT;by_cases cy:k<s
  .have go:(k:Int)<s:=ap;obtain ⟨_,_,e9,f1,f2,_⟩:=bI;injection e9 with e9 e8;injection e8 with e8 _;subst e9;subst e8
   have l1:=(Y.o k).1;have l2:=(Y.o k).2;obtain ⟨P1,d1,e1,gf,rp⟩:=f1.form;obtain ⟨M1,d2,e2,g7,rm⟩:=f2.form;rw [l1] at e1;rw [l2] at e2;subst e1;subst e2;obtain ⟨gx,gz⟩:=ae f1 f2;obtain ⟨PP,d8⟩:=Vb ((dq i k).1);obtain ⟨MM,d0⟩:=Vb ((dq i k).2);have dv:=(b3.o k).1;have da:=(b3.o k).2;rw [d8] at rp l1 dv;rw [d0] at rm l2 da;have bd:=dr.o k;rw [d8,d0,gk.o] at bd;obtain ⟨eb,fe,er,g0,g9,gd,ew⟩:=aj rp rm l1 l2 dv da bd;obtain ⟨⟨p0,p1⟩,pf⟩:=bx2 hv;have hy:=HT.o.2.2.1;obtain ⟨⟨q0,q1,q2,q3⟩,qf⟩:=bx4 hy;have bs:=PU hv;have gc:=PU hy;clear f1 f2 rp rm hv gf g7 d8 d0 l1 l2 dv da bd hy;go_upto_region 10 with (fail);clear t0 t1 t2 t3 t4 t5 t6 t7 t8 t9 a7 a5 a9 a3 ao tf;have p:(λu:R8=>Vg u w.heap.size #[.slice A i.cfg.sizes.length c,QZ i.cfg.shift,QZ i.cfg.rate,QZ i.cfg.mom,QZ i.cfg.workers,QZ bt,QZ i.cfg.micros,QZ s,QZ i.cfg.bucket,QZ i.cfg.chunk,QZ i.cfg.window,QZ i.cfg.cap,.slice D i.data.length cd,.slice T n ct,.slice R i.draws.length cr] 29/\Vh u b5 0 (.slice P1 n d1)/\Vh u b7 0 (QZ i.data.length)/\Vh u b7 1 (QZ bt)/\Vh u b7 2 (QZ s)/\Vh u b7 3 (.slice A6 (epI i) c6)) wr.drew:=⟨dG.o,p0,q0,q1,q2,q3⟩;refine HA.g (λu:R8=>Vg u w.heap.size #[.slice A i.cfg.sizes.length c,QZ i.cfg.shift,QZ i.cfg.rate,QZ i.cfg.mom,QZ i.cfg.workers,QZ bt,QZ i.cfg.micros,QZ s,QZ i.cfg.bucket,QZ i.cfg.chunk,QZ i.cfg.window,QZ i.cfg.cap,.slice D i.data.length cd,.slice T n ct,.slice R i.draws.length cr] 29/\Vh u b5 0 (.slice P1 n d1)/\Vh u b7 0 (QZ i.data.length)/\Vh u b7 1 (QZ bt)/\Vh u b7 2 (QZ s)/\Vh u b7 3 (.slice A6 (epI i) c6)) ?_;refine HA.t ?_ [0,1,2,3,4] p ?_;refine HA.o 5 (λK hK=>?_);have a0:=eV.o k wr.drew A6 c6 cy (HT.o.2.2.2.1.rd HG.o.b.2);go_simp;refine a0.mono ?_;clear a0;rintro e w3 ⟨A3,c3,rfl,_,ev,H⟩;have ee:=P7 ((H.block _ b8).trans p.1) (P7 (aw H p.2.1) (P7 (aw H p.2.2.1) (P7 (aw H p.2.2.2.1) (P7 (aw H p.2.2.2.2.1) (aw H p.2.2.2.2.2)))));obtain ⟨bV,gb⟩:=ae (show aq wr w3 from (PY _ wr).drew.trans H) ev;clear H p ev;dsimp only;refine hK.out _ _ ee (λp=>?_);clear hK K ee;refine HA.o 6 (λK hK=>?_);have Q:=fn.o w3 (HT.o.2.2.2.2.trans (bV.o.mono HT.o.2.2.2.2.size)) k PP er.o g9.o P1 d1 A3 c3 (eb.o.below bV.o) gb.o;unfold xB at Q;dsimp only [aL] at Q;rw [b4.o,Hs.o,ad.o,Hn.o] at Q;go_simp;refine Q.mono ?_;clear Q;rintro e w4 ⟨a2,eM⟩;obtain ⟨_,v4,rfl,e0⟩ | ⟨eS,_⟩:=eM
   .obtain ⟨A4,c4,rfl,_⟩:=aC e0;have f0:=P7 ((a2.block _ (PU p.1)).trans p.1) (P7 (aw a2 p.2.1) (P7 (aw a2 p.2.2.1) (P7 (aw a2 p.2.2.2.1) (P7 (aw a2 p.2.2.2.2.1) (aw a2 p.2.2.2.2.2)))));have J:=bV.o.trans (a2.mono bV.o.size);obtain ⟨g5,fb,g3,ga,dk,eX⟩:=ai (Rd.own e0) (HT.o.below J) (eb.o.below J) (fe.o.below J) ((J.block _ bs).trans HV.o) ((J.block _ b8).trans dG.o);clear a2 p e0 J;dsimp only;refine hK.out _ _ f0 (λp=>?_);clear hK K f0;refine HA.t ?_ [7,8,9,10,11] p ?_;refine HA.d ?_;clear p p0 p1 pf q0 q1 q2 q3 qf HV dG bs b8 gc;have a6:=dk.o;obtain ⟨⟨p0,p1⟩,pf⟩:=bx2 a6;have bs:=PU a6;clear a6;go_upto_region 11 with (fail);have p:(λu:R8=>Vg u w.heap.size #[.slice A i.cfg.sizes.length c,QZ i.cfg.shift,QZ i.cfg.rate,QZ i.cfg.mom,QZ i.cfg.workers,QZ bt,QZ i.cfg.micros,QZ s,QZ i.cfg.bucket,QZ i.cfg.chunk,QZ i.cfg.window,QZ i.cfg.cap,.slice D i.data.length cd,.slice T n ct,.slice R i.draws.length cr] 29/\Vh u b5 0 (.slice P1 n d1)/\Vh u b5 1 (.slice M1 n d2)) w4.drew:=⟨eX.o,p0,p1⟩;refine XA.g 9 (λu:R8=>Vg u w.heap.size #[.slice A i.cfg.sizes.length c,QZ i.cfg.shift,QZ i.cfg.rate,QZ i.cfg.mom,QZ i.cfg.workers,QZ bt,QZ i.cfg.micros,QZ s,QZ i.cfg.bucket,QZ i.cfg.chunk,QZ i.cfg.window,QZ i.cfg.cap,.slice D i.data.length cd,.slice T n ct,.slice R i.draws.length cr] 29/\Vh u b5 0 (.slice P1 n d1)/\Vh u b5 1 (.slice M1 n d2)) ?_;refine XA.t ?_ [0,1,3,4] p ?_;refine XA.o 2 (λK hK=>?_);have C:=d4.o w4.drew;dsimp only [dF] at C;rw [Hs.o,ad.o] at C;go_simp;refine C.mono ?_;clear C;rintro e w5 ⟨rfl,N⟩;have ej:=P7 ((N.block _ (PU p.1)).trans p.1) (P7 (aw N p.2.1) (aw N p.2.2));have L:=aa (show aq w4 w5 from (PY _ w4).drew.trans N);clear N p;dsimp only;refine hK.out _ _ ej (λp=>?_);clear hK K ej;refine XA.o 5 (λK hK=>?_);have be:=gg.o w5 PP MM (dE i PP (cI i.data (cN i.draws i.data.length bt k))) P1 M1 A4 d1 d2 c4 er.o g0.o (by rw [ik];exact Hn.o) (g3.o.below L.o) (ga.o.below L.o) (g5.o.below L.o) gd.o;go_simp;refine be.mono ?_;clear be;rintro e w6 ⟨N1,e1,N2,e2,rfl,h1,h2,I⟩;have f9:=P7 ((I.block _ (PU p.1)).trans p.1) (P7 (aw I p.2.1) (aw I p.2.2));have a8:=L.o.trans (I.mono L.o.size);have d6:=fb.o.below a8;have O:=(a8.block _ bs).trans dk.o;have gy:=P4 d6.2.2.2.2.size (PV _);have em:w.heap.size<=w5.heap.size:=P4 fb.o.2.2.2.2.size L.o.size
    have U:RSt T w w6 [.slice N1 n e1,.slice N2 n e2] (dq i (k+1)):=by
     have l1:=(Y.o (k+1)).1;have l2:=(Y.o (k+1)).2;have w1:=(b3.o (k+1)).1;have w2:=(b3.o (k+1)).2;rw [ew.o] at l1 l2 w1 w2 |-;exact ⟨_,_,rfl,.inr (by rw [l1];exact aF h1 em),.inr (by rw [l2];exact aF h2 em),by rw [l1];exact b1,by rw [l2];exact b1,w1,w2⟩
    obtain ⟨e7,k7⟩:=BD w6 b5 (.slice N1 n e1) (.slice N2 n e2) O;have Z:=d6.set5 O a4.o fi.o k7;have B:=U.box O V0 (by have:=a4.o;omega) k7;obtain ⟨ab,V,bX⟩:=af Z B e7;clear p0 p1 pf;obtain ⟨⟨p0,p1⟩,pf⟩:=bx2 O;have ek:=PU O;clear I a8 d6 O U e7 k7 Z B h1 h2 p;dsimp only;refine hK.out _ _ f9 (λp=>?_);clear hK K f9;refine XA.t ?_ [6,7] p ?_;refine XA.t0 ?_ [8] p ?_;refine XA.e ?_;simp only [Qq,Qs];clear p;go_upto_region 12 with (fail);have Z:=ab.o;have B:=V.o;have b0:=bX.o;clear ab V bX p0 p1 pf ek bs dk eX;generalize (w6.setCell (ar b5 0) (.slice N1 n e1)).setCell (ar b5 1) (.slice N2 n e2)=w7 at Z B b0 |-;obtain ⟨⟨p0,p1⟩,pf⟩:=bx2 b0;obtain ⟨rows,r1,r2,r3,r4⟩:=Z.1;have gs:=Z.2.2.2.2.size;have f7:b5+1<=w7.heap.size:=PU b0;obtain ⟨R1,R2,R3,R4,ab,V,bX⟩:=aj r1 r2 r3 r4 Z B b0;have gp:=PU b0;have gv:k+1+1<=1048578:=by have:=g6.o;omega
    clear r1 r2 r3 r4 Z B b0;go_wp2_with (at_builtin;refine aV lw w7 rfl (.tmp 49) (.tmp 51) rfl (b5+1) (.slice Av (k+1) cv) (k+1) _ rfl R1.o [.slice N1 n e1,.slice N2 n e2] rfl rfl V5 ap V2 f7 ?_);intro g8 c8 w8 e6 bz bw;have en:=m9.push R1.o R2.o R3.o R4.o (by have:=a4.o;omega) V.o e6 bw;have cj:=V.o.pushed R1.o (by have:=a4.o;omega) bw V0
    have f8:TrB T w b5 b7 (aL A c D cd T ct R cr i) #[QZ i.data.length,QZ bt,QZ s,.slice A6 (epI i) c6] i (k+1+1) (Vf g8 0 (k+1+1) c8) (.slice A6 (epI i) c6) vs w8:=
     ⟨en,(bz.block _ (by have:=a4.o;omega)).trans ab.o.2.1,(Dh ab.o.2.2.1 R1.o bw V0),ab.o.2.2.2.1.pushed R1.o bw V0 V0,ab.o.2.2.2.2.trans (bz.mono (by have:=a4.o;omega))⟩
    have eL:=(bz.block b5 ap).trans bX.o;obtain ⟨g2,ec,fs⟩:=af f8 cj eL;clear e6 bz bw en cj f8 eL p0 p1 pf;go_wp2;go_roundw
    .exact ⟨k+1,_,_,cy,Vc,fs.o,ec.o,g2.o⟩
    .exact JY cy
   .exact absurd (fr.o k) eS
  .obtain rfl:s=k:=ap;clear bI;go_wp2;go_ret2;exact ⟨HT.o.2.2.2.2,_,_,_,by rw [eB.o];rfl,by rw [eB.o];exact HT.o.1,by have:=a4.o;omega⟩
section
variable {P:Program} {ops:Rn} {Q:Exit->Ro->R8->Prop} {S:R8->Prop} {n:Nat}
structure XAS (P:Program) (ops:Rn) (Q:Exit->Ro->R8->Prop) (S:R8->Prop) (n i:Nat) (L:List Nat) (a:Ro) (w:R8):Prop where
 out:∃o,ops[i]?=some o/\∀K':Ro->R8->Prop,Shut (∀a w,S w->(S w->XA P ops Q S n (i::L) a w)->K' a w)->if Region.wanted o (yielded ops a.tmps)=true then Oper.wp P o a w K' Q else K' (a.put o.dst undef) w
theorem XAS.v {L:List Nat} {a:Ro} {w:R8} {i:Nat} {o:Oper} (h:R8) (v:Value) (u:S h) (k:XA P ops Q S n (i::L) (a.put o.dst v) h) (p:ops[i]?=some o:=by (simp only [Qn,Qo,Qp];rfl)) (hw:Region.wanted o (yielded ops a.tmps)=true:=by rfl) (he:(execOp a.eval o).run P w=.ok (.value v) h:=by go_simp):XAS P ops Q S n i L a w:=by
 refine ⟨o,p,λy x=>?_⟩;rw [if_pos hw];unfold Oper.wp;rw [he];exact x.out _ _ u λ_=>k
theorem XAS.o {L:List Nat} {a:Ro} {w:R8} {o:Oper} {i:Nat} (h:∀p:Ro->R8->Prop,Shut (∀a w,S w->(S w->XA P ops Q S n (i::L) a w)->p a w)->if Region.wanted o (yielded ops a.tmps)=true then Oper.wp P o a w p Q else p (a.put o.dst undef) w) (u:ops[i]?=some o:=by (simp only [Qn,Qo,Qp];rfl)):XAS P ops Q S n i L a w:=⟨o,u,h⟩
theorem XA.two {L:List Nat} {a:Ro} {w:R8} (i j:Nat) (y:XAS P ops Q S n i L a w) (p:XAS P ops Q S n j L a w) (hr:dz ops L=[i,j]:=by decide +kernel):XA P ops Q S n L a w:=by
 obtain ⟨H,x,y⟩:=y;obtain ⟨I,o,p⟩:=p;have B:unl (bP ops.size L)=unl (bP ops.size (i::L))+1:=cW (by rw [hr];simp);have D:unl (bP ops.size L)=unl (bP ops.size (j::L))+1:=cW (by rw [hr];simp);have C:unl (bP ops.size (j::L))=unl (bP ops.size (i::L)):=ap;refine ⟨?_⟩;rw [B];refine cJ (by rw [ep];exact hr) V3 (aT.cons x (λA v=>y A λa w u hw=>v.out a w u λh=>(hw h).out) (aT.cons o (λA v=>p A λa w u hw=>v.out a w u λh=>?_) aT.nil));have:=(hw h).out;rw [C] at this;exact this
end
theorem Oh {l:Rl} (h:dx rEx 2 w A l):∃rows:List (R7),Rd w A (List.flatten rows)/\rows.length=l.length/\(∀r∈rows,r.length=2)/\(∀j x,l[j]?=some x->rEx w (bS rows j) x)/\(List.flatten rows).length=l.length*2/\∀u∈List.flatten rows,u.oneCell'=true:=by
 obtain ⟨rows,h1,o,v,p⟩:=h;refine ⟨rows,h1,o,v,p,by rw [sE v,o],λu i=>?_⟩;have ⟨r,hr,i⟩:=List.mem_flatten.1 i;have ⟨j,B,e⟩:=List.getElem_of_mem hr;have C:=Qv (show j<l.length by omega);have ⟨J,H,D,I,y,_⟩:=p j _ C;rw [qY B,e] at y;subst y;simp only [List.mem_cons,List.not_mem_nil,or_false] at i;rcases i with rfl | rfl<;>rfl
theorem iA {base:Nat} {c:Nat} (h:w.ownsRow base e size (.slice A n c) n xs) (p:∀k,S k->k<base):Rd (aH S w) A xs:=by
 refine mL (Rd.own h) λy i hs=>?_;rcases h.2 with ⟨o,_⟩ | ⟨g,_,_,o,hb,_⟩
 .injection o with e1;rw [e1] at i;cases i
 .injection o with e1;rw [e1] at i;cases i;have u:g<base:=p _ hs;omega
theorem Cr {v:R6} (hS:∀k,S k->k<w.heap.size) (h:fO (aH S w) vs i x m) (hu:RL (aH S w) u s) (hv:RL (aH S w) v t) (hs:bK i) (hy:(dA i x)[bq i x m]?=some y) (k1 k2:Int) (b0 b1:Bool) (i0 i1 i2 i3 i4 i5 i6:Int) (bv:bj y=[QZ 6,QZ k1,QZ k2,.bool b0,.bool b1,QZ i0,QZ i1,QZ i2,QZ i3,QZ i4,QZ i5,QZ i6]) (aG:m.rc.length<=1000) (m1:Mst) (h1:m1.P=m.P/\m1.M=m.M/\m1.G=List.replicate i.start.length 0/\m1.rc=m.rc++[(m.P,m.M)]) (aM:bq i x m1=bq i x m+1):Vj 89 #[.agg vs,.agg u,.agg v] w (λe w'=>pE S i x m1 (s) (t) 0 w e w'):=by
 obtain ⟨A,c,D,cd,T,ct,R,cr,C,J,B,I,GA,gc,SA,sc,bI,oI,ic,B1,c1,B2,c2,dn,il,W0,rfl,rfl,rfl,H⟩:=lj hS h hu hv hs hy;have ao:=H.rw';rw [bv] at ao;rw [H.dn'] at aM;obtain ⟨cl,H1,c6⟩:=af ao h1 aM;obtain ⟨d1,d0,tl,cx,cb,cP,cf⟩:=H.loc;have q0:=br W0;clear h hu hv hs hy bv hS h1 aM ao;go_enter func89,ntmps89;go_upto_region 1 with (fail);rw [H.eW];go_upto_region 4 with (first | (refine fu cl.o jk rfl rfl rfl ?_) | (refine aI (PW _ _) jk rfl rfl rfl rfl rfl rfl rfl ?_;intro W3 e3 k3;obtain ⟨E3,K3⟩:=ae e3 (aN k3);clear e3 k3));clear d1 d0 tl q0 cx cb cP cf;go_upto_region 5 with (first | (refine aQ #[QZ i5,QZ i6] (b:=W0.heap.size) E3.o gD rfl rfl rfl rfl ?_) | (refine aI (PW _ _) gD rfl rfl rfl rfl rfl rfl rfl ?_;intro p e4 k4;obtain ⟨E4,K4⟩:=ae e4 (aN k4);clear e4 k4));have y0:Vh p W0.heap.size 0 (QZ 6):=PX p _ 0 _ _ _ (sb E3.o _ K4.o);have a1:=aa (bt K3.o K4.o);go_upto_region 26 with (fail);have N:=aa (H.bx _ a1.o).1;have a8:=H.K.trans (a1.o.mono H.K.size);obtain ⟨rows,z1,z2,z3,z4,z5,z6⟩:=Oh H.R0;have zr:=λw' (q:aq p w')=>aW z1 (iF (Keep.below (a8.trans (q.mono a8.size))));obtain ⟨rl,hrl⟩:=Vb m.rc.length;obtain ⟨bh,Z2,Z3,Z4,Zr,d5⟩:=ai a8 z2 z3 z4 zr hrl;rw [hrl] at z5 aG;obtain ⟨Z5,Z6,L⟩:=af z5 z6 aG;rw [hrl] at N |-;clear y0 a8 z1 z2 z3 z4 z5 z6 zr hrl aG
 go_cut [3] (λv wx=>v=(au w.heap.size)/\∃Q c7,Vg wx w.heap.size #[.slice A i.cfg.sizes.length c,QZ i.cfg.shift,QZ i.cfg.rate,QZ i.cfg.mom,QZ i.cfg.workers,QZ i.cfg.batch,QZ i.cfg.micros,QZ i.cfg.steps,QZ i.cfg.bucket,QZ i.cfg.chunk,QZ i.cfg.window,QZ i.cfg.cap,.slice D i.data.length cd,.slice T i.start.length ct,.slice R i.draws.length cr,Vd x,.slice C i.start.length J,.slice B i.start.length I,.slice GA i.start.length gc,.slice Q (rl+1) c7,Vf bI oI il ic,Vd dn] 106/\wx.ownsRow p.heap.size 103 2 (.slice Q (rl+1) c7) (rl+1) (List.flatten rows++[.slice C i.start.length J,.slice B i.start.length I])/\Keep (λk=>k=w.heap.size) p wx)
 case first=>
  have q4:=(br p).drew;have d7:∀w',aq p w'->Vh w' w.heap.size 19 (.slice SA rl sc):=λw' q=>PX w' _ 19 _ _ _ (sb N.o w' q);have tl:=λw' (q:aq p w')=>P6 (PU N.o) q.size;refine XA.g 9 (λw':R8=>aq p w') ?_;refine XA.t ?_ [1,2,4] q4 ?_;refine XA.ld 5 #[.slice C i.start.length J,.slice B i.start.length I] (λw' q=>sb N.o w' q) lF q4 ?_;refine XA.two 0 6 ?_ ?_
  .refine XAS.v (p.drew.alloc (.cells #[] 103)) (Vf p.drew.heap.size 0 0 0) (q4.alloc (PV _) _) ?_;have O:(p.drew.alloc (.cells #[] 103)).ownsRow p.heap.size 103 2 (Vf p.drew.heap.size 0 0 0) 0 []:=fg p.drew 103 2;have q1:=q4.alloc (PV p.heap.size) (.cells #[] 103);have s1:(p.drew.alloc (.cells #[] 103)).heap.size=p.drew.heap.size+1:=Qg _ _;obtain ⟨u1,a4⟩:=Vb (p.drew.alloc (.cells #[] 103));rw [a4] at O q1 s1 |-;clear a4;refine XA.two 3 6 ?_ ?_
   .refine XAS.o (λK' hK=>?_);refine bY lw (.tmp 161) (.tmp 163) rfl rfl p.heap.size _ 0 [] rfl O SA rl sc (List.flatten rows) rfl (Zr.o _ q1) Z5.o Z6.o (by have:=L.o;omega) (by unfold maxLen;have:=L.o;omega) q1.size ?_;intro A3 c3 u3 o3 a6 ab be;rw [QP,List.nil_append] at o3;have q3:=q1.trans a6;rw [QP];refine hK.out _ _ q3 λ_=>?_;clear hK K';refine XA.v 6 (u3.alloc (.cells #[.slice C i.start.length J,.slice B i.start.length I] 103)) (Vf u3.heap.size 0 1 1) (q3.alloc q3.size _) ?_;have g6:=PW u3 (.cells #[.slice C i.start.length J,.slice B i.start.length I] 103);have b6:=(br u3).alloc (PV _) (.cells #[.slice C i.start.length J,.slice B i.start.length I] 103);have q6:=q3.alloc q3.size (.cells #[.slice C i.start.length J,.slice B i.start.length I] 103);have s6:(u3.alloc (.cells #[.slice C i.start.length J,.slice B i.start.length I] 103)).heap.size=u3.heap.size+1:=Qg _ _;obtain ⟨u6,a0⟩:∃v,u3.alloc (.cells #[.slice C i.start.length J,.slice B i.start.length I] 103)=v:=⟨_,rfl⟩;rw [a0] at g6 b6 q6 s6 |-;clear a0;have o6:=az o3 b6;refine XA.o 7 (λK' hK=>?_);refine bY lw (.tmp 164) (.tmp 167) rfl rfl p.heap.size _ rl (List.flatten rows) rfl o6 (some (ar _ 0)) 1 1 [.slice C i.start.length J,.slice B i.start.length I] rfl (tW g6) rfl V5 (by have:=L.o;omega) (by unfold maxLen;have:=L.o;omega) q6.size ?_;intro Q c7 u7 o7 b7 a7 a5;have Z:=q6.trans b7;refine hK.out _ _ Z λ_=>?_;clear hK K';refine XA.t ?_ [8] Z ?_;refine XA.e ?_;simp only [Qq,Qs];have U:=sb N.o _ Z;have bo:=PX u7 w.heap.size 19 _ _ _ U;have bw:=P8 u7 w.heap.size 19 _ _ U;have l7:=PU U;have e8:=ss (i:=19) (v:=.slice Q (rl+1) c7) U rfl;have k8:Keep (λk=>k=w.heap.size) u7 (u7.setCell (ar w.heap.size 19) (.slice Q (rl+1) c7)):=Vk w.heap.size (Keep.refl _ _) _ (.inr rfl) _;have o8:=k8.own o7 (λj Y e=>by have h1:=(o7.lt j Y).1;have h2:=PU N.o;omega);have HF:=aa (⟨e8,o8,(Keep.below Z).trans k8⟩:_/\_/\Keep (λk=>k=w.heap.size) p _);clear e8 k8 o8 o7 b7 a7 a5 Z U;go_wp2;go_meet;exact ⟨rfl,Q,c7,HF.o⟩
   .refine XAS.v (u1.alloc (.cells #[.slice C i.start.length J,.slice B i.start.length I] 103)) (Vf u1.heap.size 0 1 1) (q1.alloc q1.size _) ?_;have g6:=PW u1 (.cells #[.slice C i.start.length J,.slice B i.start.length I] 103);have b6:=(br u1).alloc (PV _) (.cells #[.slice C i.start.length J,.slice B i.start.length I] 103);have q6:=q1.alloc q1.size (.cells #[.slice C i.start.length J,.slice B i.start.length I] 103);have s6:(u1.alloc (.cells #[.slice C i.start.length J,.slice B i.start.length I] 103)).heap.size=u1.heap.size+1:=Qg _ _;obtain ⟨u6,a0⟩:∃v,u1.alloc (.cells #[.slice C i.start.length J,.slice B i.start.length I] 103)=v:=⟨_,rfl⟩;rw [a0] at g6 b6 q6 s6 |-;clear a0;have bV:=az O b6;refine XA.o 3 (λK' hK=>?_);refine bY lw (.tmp 161) (.tmp 163) rfl rfl p.heap.size _ 0 [] rfl bV SA rl sc (List.flatten rows) rfl (Zr.o _ q6) Z5.o Z6.o (by have:=L.o;omega) (by unfold maxLen;have:=L.o;omega) q6.size ?_;intro A3 c3 u3 o3 a6 ab be;rw [QP,List.nil_append] at o3;have q3:=q6.trans a6;rw [QP];refine hK.out _ _ q3 λ_=>?_;clear hK K';have av:=(ab.block _ (PU g6) (λe=>by have e':u1.heap.size=p.drew.heap.size:=Option.some.inj e;omega)).trans g6;refine XA.o 7 (λK' hK=>?_);refine bY lw (.tmp 164) (.tmp 167) rfl rfl p.heap.size _ rl (List.flatten rows) rfl o3 (some (ar _ 0)) 1 1 [.slice C i.start.length J,.slice B i.start.length I] rfl (tW av) rfl V5 (by have:=L.o;omega) (by unfold maxLen;have:=L.o;omega) q3.size ?_;intro Q c7 u7 o7 b7 a7 a5;have Z:=q3.trans b7;refine hK.out _ _ Z λ_=>?_;clear hK K';refine XA.t ?_ [8] Z ?_;refine XA.e ?_;simp only [Qq,Qs];have U:=sb N.o _ Z;have bo:=PX u7 w.heap.size 19 _ _ _ U;have bw:=P8 u7 w.heap.size 19 _ _ U;have l7:=PU U;have e8:=ss (i:=19) (v:=.slice Q (rl+1) c7) U rfl;have k8:Keep (λk=>k=w.heap.size) u7 (u7.setCell (ar w.heap.size 19) (.slice Q (rl+1) c7)):=Vk w.heap.size (Keep.refl _ _) _ (.inr rfl) _;have o8:=k8.own o7 (λj Y e=>by have h1:=(o7.lt j Y).1;have h2:=PU N.o;omega);have HF:=aa (⟨e8,o8,(Keep.below Z).trans k8⟩:_/\_/\Keep (λk=>k=w.heap.size) p _);clear e8 k8 o8 o7 b7 a7 a5 Z U;go_wp2;go_meet;exact ⟨rfl,Q,c7,HF.o⟩
  .refine XAS.v (p.drew.alloc (.cells #[.slice C i.start.length J,.slice B i.start.length I] 103)) (Vf p.drew.heap.size 0 1 1) (q4.alloc q4.size _) ?_;have g6:=PW p.drew (.cells #[.slice C i.start.length J,.slice B i.start.length I] 103);have b6:=(br p.drew).alloc (PV _) (.cells #[.slice C i.start.length J,.slice B i.start.length I] 103);have q6:=q4.alloc q4.size (.cells #[.slice C i.start.length J,.slice B i.start.length I] 103);have s6:(p.drew.alloc (.cells #[.slice C i.start.length J,.slice B i.start.length I] 103)).heap.size=p.drew.heap.size+1:=Qg _ _;obtain ⟨u6,a0⟩:∃v,p.drew.alloc (.cells #[.slice C i.start.length J,.slice B i.start.length I] 103)=v:=⟨_,rfl⟩;rw [a0] at g6 b6 q6 s6 |-;clear a0;refine XA.v 0 (u6.alloc (.cells #[] 103)) (Vf u6.heap.size 0 0 0) (q6.alloc q6.size _) ?_;have O:(u6.alloc (.cells #[] 103)).ownsRow p.heap.size 103 2 (Vf u6.heap.size 0 0 0) 0 []:=aF (fg u6 103 2) q6.size;have q1:=q6.alloc q6.size (.cells #[] 103);have g6:=sb g6 _ ((br u6).alloc (PV _) (.cells #[] 103));have l6:p.drew.heap.size<u6.heap.size:=by rw [s6];omega
   obtain ⟨u1,a4⟩:=Vb (u6.alloc (.cells #[] 103));rw [a4] at O q1 g6 |-;clear a4;refine XA.o 3 (λK' hK=>?_);refine bY lw (.tmp 161) (.tmp 163) rfl rfl p.heap.size _ 0 [] rfl O SA rl sc (List.flatten rows) rfl (Zr.o _ q1) Z5.o Z6.o (by have:=L.o;omega) (by unfold maxLen;have:=L.o;omega) q1.size ?_;intro A3 c3 u3 o3 a6 ab be;rw [QP,List.nil_append] at o3;have q3:=q1.trans a6;rw [QP];refine hK.out _ _ q3 λ_=>?_;clear hK K';have av:=(ab.block _ (PU g6) (λe=>by have e':p.drew.heap.size=u6.heap.size:=Option.some.inj e;omega)).trans g6;refine XA.o 7 (λK' hK=>?_);refine bY lw (.tmp 164) (.tmp 167) rfl rfl p.heap.size _ rl (List.flatten rows) rfl o3 (some (ar _ 0)) 1 1 [.slice C i.start.length J,.slice B i.start.length I] rfl (tW av) rfl V5 (by have:=L.o;omega) (by unfold maxLen;have:=L.o;omega) q3.size ?_;intro Q c7 u7 o7 b7 a7 a5;have Z:=q3.trans b7;refine hK.out _ _ Z λ_=>?_;clear hK K';refine XA.t ?_ [8] Z ?_;refine XA.e ?_;simp only [Qq,Qs];have U:=sb N.o _ Z;have bo:=PX u7 w.heap.size 19 _ _ _ U;have bw:=P8 u7 w.heap.size 19 _ _ U;have l7:=PU U;have e8:=ss (i:=19) (v:=.slice Q (rl+1) c7) U rfl;have k8:Keep (λk=>k=w.heap.size) u7 (u7.setCell (ar w.heap.size 19) (.slice Q (rl+1) c7)):=Vk w.heap.size (Keep.refl _ _) _ (.inr rfl) _;have o8:=k8.own o7 (λj Y e=>by have h1:=(o7.lt j Y).1;have h2:=PU N.o;omega);have HF:=aa (⟨e8,o8,(Keep.below Z).trans k8⟩:_/\_/\Keep (λk=>k=w.heap.size) p _);clear e8 k8 o8 o7 b7 a7 a5 Z U;go_wp2;go_meet;exact ⟨rfl,Q,c7,HF.o⟩
 case rest=>
  obtain ⟨rfl,Q,c7,a9,o7,kc⟩:=hcut;obtain ⟨Wm,bn,oM,bM⟩:=nk ky wc rfl i.start.length (by have:=H.s'.n;omega) (by unfold maxLen;have:=H.s'.n;omega);rw [fB] at oM;have ci:=PX wc w.heap.size 18 _ _ _ a9;have a3:=sb a9 _ bM;have c8:=PX Wm w.heap.size 18 _ _ _ a3;have cM:=P8 Wm w.heap.size 18 _ _ a3;have lc:=PU a9;have lm:=PU a3;have cv:¬(i.start.length:Int)<0:=ap;obtain ⟨cO,O7,KC,OM,BM⟩:=ah a3 o7 kc oM bM;clear a3 o7 kc oM bM a9;go_upto_region 28 with (fail);have a2:=ss (i:=18) (v:=Vf wc.heap.size 0 i.start.length i.start.length) cO.o rfl;have kk:Keep (λk=>k=w.heap.size) Wm (Wm.setCell (ar w.heap.size 18) (Vf wc.heap.size 0 i.start.length i.start.length)):=Vk w.heap.size (Keep.refl _ _) _ (.inr rfl) _;obtain ⟨V,hV⟩:=Vb (Wm.setCell (ar w.heap.size 18) (Vf wc.heap.size 0 i.start.length i.start.length));rw [hV] at a2 kk |-;have kV:Keep (λk=>k=w.heap.size) p V:=(KC.o.trans (Keep.below BM.o)).trans kk;have hb:=λ{b:Nat} {o:Obj} (h:W0.heap[b]?=some o) (h1:b≠w.heap.size)=>(kV.block b (PU (sb h _ a1.o)) h1).trans (sb h _ a1.o);have bd:=hb (H.bx _ (br W0)).2.1 ap;have bN:=hb (H.bx _ (br W0)).2.2.1 ap;have b9:=hb (H.bx _ (br W0)).2.2.2.1 ap;have bA:=hb (H.bx _ (br W0)).2.2.2.2.1 ap;have bO:=hb (H.bx _ (br W0)).2.2.2.2.2 ap;have bG:=bh.o.trans (kV.toBelow bh.o.size (λj Y=>Nat.le_of_eq (Eq.symm Y)));have d6:=PU (H.bx _ (br W0)).2.2.2.2.2;obtain ⟨bl,bs⟩:=ae (kk.own (aF OM.o (show w.heap.size+6<=wc.heap.size by have:=KC.o.size;have:=a1.o.size;omega)) (λj Y e=>by have h1:=(OM.o.lt j Y).1;have h2:j=w.heap.size:=e;have:=lc;omega)) (kk.own (az (aF O7.o (show w.heap.size+6<=p.heap.size by have:=a1.o.size;omega)) BM.o) (λj Y e=>by have h1:=(O7.o.lt j Y).1;have h2:j=w.heap.size:=e;have:=a1.o.size;omega));clear hV ci c8 cM lc lm cv kk kV hb bn;have co:=PX V w.heap.size 21 _ _ _ a2;have bX:=P8 V w.heap.size 21 _ _ a2;have lM:=PU a2;have cs:=H.wd;have e9:=ss (i:=21) (v:=QZ ((dn:Int)+1)) a2 rfl;have k9:Keep (λk=>k=w.heap.size) V (V.setCell (ar w.heap.size 21) (QZ ((dn:Int)+1))):=Vk w.heap.size (Keep.refl _ _) _ (.inr rfl) _;obtain ⟨E9,K9,cj,cn,cy,cw,cc,d2⟩:=ak e9 k9 bd bN b9 bA bO bG;clear e9 k9 bd bN b9 bA bO bG a2;go_upto_region 29 with (fail);obtain ⟨V9,b8⟩:=Vb (V.setCell (ar w.heap.size 21) (QZ ((dn:Int)+1)));rw [b8] at E9 K9 |-;clear b8 co bX lM cs;obtain ⟨b1,b2,b3,b4,b5⟩:=wY K9.o cj.o cn.o cy.o cw.o cc.o;have hq:aq V9 V9.drew:=(br V9).drew;refine HA.g (KB3 w.heap.size V9) ?_;refine HA.ld3 (vs:=#[.slice A i.cfg.sizes.length c,QZ i.cfg.shift,QZ i.cfg.rate,QZ i.cfg.mom,QZ i.cfg.workers,QZ i.cfg.batch,QZ i.cfg.micros,QZ i.cfg.steps,QZ i.cfg.bucket,QZ i.cfg.chunk,QZ i.cfg.window,QZ i.cfg.cap,.slice D i.data.length cd,.slice T i.start.length ct,.slice R i.draws.length cr,Vd x,.slice C i.start.length J,.slice B i.start.length I,Vf wc.heap.size 0 i.start.length i.start.length,.slice Q (rl+1) c7,Vf bI oI il ic,QZ (dn+1)]) E9.o b1 b2 et bR bR (Keep.below hq) ?_;refine HA.st3 3 4 5 b3 b4 b5 et bR bR hq (λw8 r3 r4 e8 q8=>?_);refine HA.t ?_ [6] q8 ?_;refine HA.d ?_;obtain ⟨R3,R4,R5⟩:=af r3 r4 e8;have F:=lh K9.o q8 d2.o;obtain ⟨aP,QW⟩:=ae F.1 F.2;clear b1 b2 b3 b4 b5 e8 q8 r3 r4 hq F;go_wp2_with fail;refine Qd (fG rfl rfl rfl rfl R3.o R4.o R5.o et bR bR) rfl ?_;have ad:∀j,w.heap.size+6<=j->¬(w.heap.size<=j/\j<w.heap.size+6):=λj h1 h2=>ap;have d4:=aP.o.own bl.o (λj Y=>ad j (bl.o.lt j Y).1);have c9:=aP.o.own bs.o (λj Y=>ad j (bs.o.lt j Y).1);have bb:∀k,S k->k<w.heap.size+6:=λk hk=>by have:=H.S' k hk;omega
  have d3:cG (aH S w8) (some (ar wc.heap.size 0)) (List.replicate i.start.length 0) i.start.length:=⟨by simp,by simp;have:=H.s'.n;omega,jm d4 bb,sM _⟩;have hX:Ext (aH S w) (aH S w8):=bC (Keep.below QW.o) (λ_ _ h=>h)
  have cL:dx rEx 2 (aH S w8) Q (m.rc++[(m.P,m.M)]):=by
   refine ⟨rows++[[.slice C i.start.length J,.slice B i.start.length I]],?_,by simp [Z2.o],?_,?_⟩
   .rw [QE,List.flatten_cons,List.flatten_nil,List.append_nil];exact iA c9 bb
   .intro r hr;rcases QI.1 hr with hr | hr
    .exact Z3.o r hr
    .rw [List.mem_singleton.1 hr];rfl
   .intro j y hy;have cA:=Z2.o;rcases Qf j m.rc.length with h | h
    .rw [Qw h] at hy;have e:bS (rows++[[Value.slice C i.start.length J,.slice B i.start.length I]]) j=bS rows j:=by simp [bS,Qw (show j<rows.length by omega)]
     rw [e];exact cX (Z4.o j y hy) hX
    .have Y:j=m.rc.length:=by have:=(Qu.1 hy).1;simp at this;omega
     subst Y;simp at hy;subst hy;have e:bS (rows++[[Value.slice C i.start.length J,.slice B i.start.length I]]) m.rc.length=[.slice C i.start.length J,.slice B i.start.length I]:=by rw [<-cA];simp [bS]
     rw [e];exact ⟨C,J,B,I,by rw [H.Pl,H.Ml],bQ H.P0 hX,bQ H.M0 hX⟩
  have hX:Ext (aH S w) (aH S w8):=bC (Keep.below QW.o) (λ_ _ h=>h);obtain ⟨aR,bi,bz,bf⟩:=H1.o;exact ⟨_,_,_,rfl,rfl,rfl,⟨A,c,D,cd,T,ct,R,cr,C,J,B,I,some (ar wc.heap.size 0),i.start.length,Q,c7,some (ar bI oI),ic,by rw [H.il',c6.o,bf,Qt,QC,d5.o];push_cast;rfl,fM H.I0 hX,by rw [aR];exact bQ H.P0 hX,by rw [bi];exact bQ H.M0 hX,by rw [bz];exact d3,by rw [bf];exact cL,aW H.It0 hX,by rw [aR];exact H.Pl,by rw [bi];exact H.Ml,by rw [bz];exact V3⟩,⟨B1,c1,rfl,du H.s0 hX,H.s2⟩,⟨B2,c2,rfl,du H.t0 hX,H.t2⟩,QW.o⟩
theorem MC {v:R6} (hS:∀k,S k->k<w.heap.size) (h:fO (aH S w) vs i x m) (hu:RL (aH S w) u s) (hv:RL (aH S w) v t) (hs:bK i) (hy:(dA i x).length<=bq i x m):Vj 89 #[.agg vs,.agg u,.agg v] w (λe p=>pE S i x m s t 13 w e p):=by
 obtain ⟨A,c,D,cd,T,ct,R,cr,PA,pc,MA,mc,GA,gc,SA,sc,IA,ic,rfl,U,O,Y,Z,a4,y,a8,av,a7⟩:=h;obtain ⟨B1,c1,rfl,L,ab⟩:=hu;obtain ⟨B2,c2,rfl,a0,aR⟩:=hv;have B:=dO S w;have hI:=fM U B;have hP:=bQ O B;have hM:=bQ Y B;have hG:=bQ Z B;have hR:dx rEx 2 w SA m.rc:=fh cX a4 B;have a9:=aW y B;have aM:=du L B;have aP:=du a0 B;have ad:(dA i x).length<=48000000:=ta hs x (PV _);have ⟨dn,J⟩:=Vb (bq i x m);have ⟨il,a5⟩:=Vb ((dA i x).length);rw [J] at hy |-;rw [a5] at ad hy |-;have ⟨W0,aG,g0,g1,g2,g3,g4,g5,k0⟩:=zx w (Vm A c D cd T ct R cr i (Vd x) (.slice PA (Vn i) pc) (.slice MA (Vn i) mc) (.slice GA (Vn i) gc) (.slice SA m.rc.length sc) (.slice IA il ic) (Vd dn)) #[Vd s.cap,.slice B1 (Vp s) c1,Vd s.recv,Vd s.peak] #[Vd t.cap,.slice B2 (Vp t) c2,Vd t.recv,Vd t.peak] Re #[QZ 0,Ra,QZ 0,QZ 0] #[QZ 0,Ra,QZ 0,QZ 0] 106 75;have bA:∀p,aq W0 p->Vh p (Ve w) 20 (.slice IA il ic):=λp q=>PX p (Ve w) 20 _ _ _ (sb g0 p q);have bw:∀p,aq W0 p->Vh p (Ve w) 21 (Vd dn):=λp q=>PX p (Ve w) 21 _ _ _ (sb g0 p q);have tl:=sl g0;have bl:(il:Int)<=dn:=ap;have b8:¬(dn:Int)<il:=ap;have q0:=br W0;have ⟨bv,G0,G1,G2,G3,G4,G5,K0⟩:=ak aG g0 g1 g2 g3 g4 g5 k0;have ⟨HI,HP,HM,HG,HR,bO,bi,bf⟩:=ak hI hP hM hG hR a9 a8 av;have ⟨bz,bN,be,bI,bh,bn,Hs,bG⟩:=ak a7 aM ab aP aR a5 hs U;have ⟨bb,bo,bs,b6,ao,b7,bd,HS⟩:=ak O Y Z a4 y L a0 hS;have b9:=aa J;clear U O Y Z a4 y L a0 hS B aG g0 g1 g2 g3 g4 g5 k0 hI hP hM hG hR a9 a8 av a7 aM ab aP aR J a5 hs hy ad;go_enter func89,ntmps89;go_upto_region 1 with (fail);rw [bv.o];go_upto_region 2 with (fail);clear bA bw tl q0 bl b8;have H:=G0.o;have Q:=G1.o;have a3:=G2.o;have N:=G3.o;have a1:=G4.o;have a6:=G5.o;have a2:=K0.o;have ⟨V,hV⟩:=Vb W0;rw [hV] at H Q a3 N a1 a6 a2 |-;clear hV;have ⟨E9,b0,K9⟩:=af H a2 (Keep.refl (λk=>k=Ve w) V);clear H a2;have b1:=Q;have b2:=a3;have b3:=N;have b4:=a1;have b5:=a6;clear Q a3 N a1 a6;have q9:Keep (λk=>k=Ve w+1+1+1\/k=Ve w+1+1+1+1\/k=Ve w+1+1+1+1+1) V V.drew:=(Keep.refl _ _).drew;refine HA.g (λp:R8=>Keep (λk=>k=Ve w+1+1+1\/k=Ve w+1+1+1+1\/k=Ve w+1+1+1+1+1) V p) ?_;refine HA.ld 0 (Vm A c D cd T ct R cr i (Vd x) (.slice PA (Vn i) pc) (.slice MA (Vn i) mc) (.slice GA (Vn i) gc) (.slice SA m.rc.length sc) (.slice IA il ic) (Vd dn)) (λp q=>(q.block _ (PU E9.o) ap).trans E9.o) et q9 ?_;refine HA.ld 1 #[Vd s.cap,.slice B1 (Vp s) c1,Vd s.recv,Vd s.peak] (λp q=>(q.block _ (PU b1) ap).trans b1) bR q9 ?_;refine HA.ld 2 #[Vd t.cap,.slice B2 (Vp t) c2,Vd t.recv,Vd t.peak] (λp q=>(q.block _ (PU b2) ap).trans b2) bR q9 ?_;refine HA.st 3 b3 et (λw6 e6 k6=>?_);have q6:Keep (λk=>k=Ve w+1+1+1\/k=Ve w+1+1+1+1\/k=Ve w+1+1+1+1+1) V w6:=q9.trans (k6.mono λk _ e=>.inl e);refine ⟨q6,?_⟩;have d4:=(k6.block _ (PU b4) ap).trans b4;have d5:=(k6.block _ (PU b5) ap).trans b5;refine HA.st 4 d4 bR (λw7 e7 k7=>?_);have q7:Keep (λk=>k=Ve w+1+1+1\/k=Ve w+1+1+1+1\/k=Ve w+1+1+1+1+1) V w7:=q6.trans (k7.mono λk _ e=>.inr (.inl e));refine ⟨q7,?_⟩;have f5:=(k7.block _ (PU d5) ap).trans d5;have f3:=(k7.block _ (PU e6) ap).trans e6;refine HA.st 5 f5 bR (λw8 e8 k8=>?_);have q8:Keep (λk=>k=Ve w+1+1+1\/k=Ve w+1+1+1+1\/k=Ve w+1+1+1+1+1) V w8:=q7.trans (k8.mono λk _ e=>.inr (.inr e));refine ⟨q8,?_⟩;have r3:=(k8.block _ (PU f3) ap).trans f3;have r4:=(k8.block _ (PU e7) ap).trans e7;refine HA.t ?_ [6] q8 ?_;refine HA.d ?_;have ⟨R3,R4,R5⟩:=af r3 r4 e8;have I:Keep (λk=>(Ve w)<=k/\k<Ve w+6) V w8:=(K9.o.mono λk _ e=>ap).trans (q8.mono λk _ e=>by rcases e with e | e | e<;>omega);have ⟨bM,QW⟩:=ae I (b0.o.trans (I.toBelow b0.o.size (λj hj=>hj.1)));clear b1 b2 b3 b4 b5 e6 k6 q6 d4 d5 e7 k7 q7 f5 f3 e8 k8 q8 r3 r4 q9 I;go_wp2_with fail;refine Qd (fG rfl rfl rfl rfl R3.o R4.o R5.o et bR bR) rfl ?_;have C:Ext (aH S w) (aH S w8):=bC (Keep.below QW.o) (λ_ _ h=>h);exact ⟨_,_,_,rfl,rfl,rfl,⟨A,c,D,cd,T,ct,R,cr,PA,pc,MA,mc,GA,gc,SA,sc,IA,ic,by rw [bn.o,b9.o],fM bG.o C,bQ bb.o C,bQ bo.o C,bQ bs.o C,fh cX b6.o C,aW ao.o C,bi.o,bf.o,bz.o⟩,⟨B1,c1,rfl,du b7.o C,be.o⟩,⟨B2,c2,rfl,du bd.o C,bh.o⟩,QW.o⟩
theorem nC (i:Inp) (x:Nat) (m:Mst) (y:Itm):(gY i x m y).st=m.st/\(gY i x m y).nx=m.nx:=by
 unfold gY
 split
 .exact ⟨rfl,rfl⟩
 .split
  .exact ⟨rfl,rfl⟩
  .split<;>exact ⟨rfl,rfl⟩
theorem rI (i:Inp) (x:Nat) (m:Mst):(adv i x m).P=m.P/\(adv i x m).M=m.M/\(adv i x m).G=m.G/\(adv i x m).rc=m.rc:=by
 unfold adv
 split<;>exact ⟨rfl,rfl,rfl,rfl⟩
theorem mp (hs:bK i) (o:(cC i x m.st)[m.nx]?=some y) (h1:m1.st=m.st) (h:m1.nx=m.nx):bq i x (adv i x m1)=bq i x m+1:=by
 have hl:=(Qu.1 o).1;have e:bq i x m1=bq i x m:=by unfold bq;rw [h1,h]
 unfold adv;by_cases hc:m1.nx+1<(cC i x m1.st).length
 .rw [if_pos hc,<-e];exact uZ i x m1
 .rw [if_neg hc,<-e];exact uY hs (by rw [h1,h] at *;omega)
theorem mh (h:y.a=some a) (hk:y.kind=k):bj y=[Vd k,Vd y.st,Vd y.n,.bool a.send,.bool a.add,Vd a.st,Vd a.bk,Vd a.ph,Vd a.rd,Vd a.ch,Vd a.at'.1,Vd a.at'.2]:=by
 unfold bj;rw [h,hk];rfl
theorem oJ (h:y.a=none) (hk:y.kind=k):bj y=[Vd k,Vd y.st,Vd y.n,.bool false,.bool false,QZ 0,QZ 0,QZ 0,QZ 0,QZ 0,QZ 0,QZ 0]:=by
 unfold bj;rw [h,hk];rfl
theorem DO {v:R6} (H:∀k,S k->k<w.heap.size) (h:fO (aH S w) vs i x m) (D:RL (aH S w) u s) (I:RL (aH S w) v t) (hs:bK i) (hm:MOk i x m) (a0:Ma i x s) (Q:t.recv<=Vp t) (N:Vp s<=100000000000) (V:Vp t<=100000000000) (a1:x<i.cfg.workers.toNat) (hr:jG i x m s t m1 s1 t1 C):Vj 89 #[.agg vs,.agg u,.agg v] w (λe O=>pE S i x m1 s1 t1 (C:Nat) w e O):=by
 have B:∀{y:Itm} {ac:Acn},(cC i x m.st)[m.nx]?=some y->y.a=some ac->ac.at'.1<ac.at'.2/\ac.at'.2<=(Vn i):=λo A=>yK hs.ok (dm o).2 A;have p:=hm.cur hs
 cases hr with
 | fin hf=>
  rw [List.getElem?_eq_none hf] at p;exact MC H h D I hs (List.getElem?_eq_none_iff.1 p.symm)
 | own y o A=>
  have Y:=hm.okAt hs o A;have ⟨c1,c2⟩:=dm o;have a2:=yB o;have J:=p.symm.trans o;have ⟨aP,aM,aG,aR⟩:=rI i x (gY i x m y);have Z:bq i x (adv i x (gY i x m y))=bq i x m+1:=mp hs o (nC i x m y).1 (nC i x m y).2;rcases Y.1 with k | k | k | k
  .refine JA H h D I hs J _ _ _ _ _ _ _ _ _ _ _ (oJ A k) y.st y.n rfl rfl (by rw [a2];exact c1) (uB c2 k) a1 _ ?_ Z;rw [aP,aM,aG,aR];unfold gY;rw [if_pos k];exact ⟨rfl,rfl,rfl,rfl⟩
  .refine Ct H h D I hs J _ _ _ _ _ _ _ _ _ _ _ (oJ A k) _ ?_ Z;rw [aP,aM,aG,aR];unfold gY;rw [if_neg ap,if_pos k];exact ⟨rfl,rfl,rfl,rfl⟩
  .have ⟨g,hg,g1,g2⟩:=xa c2 (.inr k);obtain ⟨j,hj,rfl⟩:=List.getElem_of_mem hg;have a3:=hs.ok.grp hj;rw [cZ _ _ hj] at a3;have T:y.n<(ax i).buks.length:=ap;have L:=T;rw [Pln.buks,js] at L;have ⟨b1,b2,b3⟩:=Dg hs.ok.bu L;have R:aK (ax i).buks y.n=(bB (ax i).n (ax i).bu (y.n+1),bB (ax i).n (ax i).bu y.n):=b1;refine Cq H h D I hs J _ _ _ _ _ _ _ _ _ _ _ (oJ A k) y.n _ _ rfl T R b2 b3 _ ?_ Z;rw [aP,aM,aG,aR];unfold gY;rw [if_neg ap,if_neg ap,if_pos k,R];exact ⟨rfl,rfl,rfl,rfl⟩
  .refine Cr H h D I hs J _ _ _ _ _ _ _ _ _ _ _ (oJ A k) (Y.2.2.2 k) _ ?_ Z;rw [aP,aM,aG,aR];unfold gY;rw [if_neg ap,if_neg ap,if_neg ap];exact ⟨rfl,rfl,rfl,rfl⟩
 | send y ac o A hk hroom=>
  exact Jw H h D I hs (p.symm.trans o) _ _ _ _ _ _ _ _ _ _ _ (mh A hk) _ _ rfl rfl (B o A).1 (B o A).2 Q V hroom _ (rI i x m) (mp hs o rfl rfl)
 | full y ac o A hk hf=>
  exact Jz H h D I hs (p.symm.trans o) _ _ _ _ _ _ _ _ _ _ _ (mh A hk) _ _ rfl rfl (B o A).1 (B o A).2 Q V ap _ ⟨rfl,rfl,rfl,rfl⟩ rfl
 | recv y ac o A hk hlt heq=>
  have U:=a0.len hs (dm o).1 (dm o).2 A (oD (dm o).2 A hk) hlt heq;exact Jy H h D I hs (p.symm.trans o) _ _ _ _ _ _ _ _ _ _ _ (mh A hk) _ _ rfl (Nat.le_of_lt (B o A).1) (B o A).2 N hlt heq U.1 U.2 _ (rI i x _) (mp hs o rfl rfl)
 | none y ac o A hk h0=>
  refine tV H h D I hs (p.symm.trans o) _ _ _ _ _ _ _ _ _ _ _ (mh A hk) 12 V0 (λB1 c1 O hB=>?_) _ ⟨rfl,rfl,rfl,rfl⟩ rfl;have:=vx s.cap B1 (Vp s) c1 s.peak ac.tg O N;rw [h0];exact this
 | other y ac o A hk hlt hne=>
  exact tV H h D I hs (p.symm.trans o) _ _ _ _ _ _ _ _ _ _ _ (mh A hk) 10 V0 (λB1 c1 O hB=>zu s.cap B1 s.msgs c1 s.recv s.peak ac.tg O hB hlt N hne) _ ⟨rfl,rfl,rfl,rfl⟩ rfl
def Cor.tg (c:Cor):Tg:=⟨c.st,c.bk,c.ph,c.rd,c.ch⟩
theorem Lr (a:Acn):a.cor.tg=a.tg:=rfl
structure WSt where
 m:Nat->Mst
 s:Nat->LSt
def aY {α:Type} (f:Nat->α) (k:Nat) (v:α) (y:Nat):α:=if y=k then v else f y
theorem bF {α:Type} (f:Nat->α) (k:Nat) (v:α):aY f k v k=v:=if_pos rfl
theorem bD {α:Type} (f:Nat->α) {y:Nat} (v:α) (h:y≠k):aY f k v y=f y:=if_neg h
theorem fY {α:Type} (f:Nat->α) (k:Nat):aY f k (f k)=f:=by
 funext y
 unfold aY
 split
 .next h=>rw [h]
 .rfl
def WSt.pos (i:Inp) (M:WSt) (x:Nat):Nat:=bq i x (M.m x)
structure WOk (i:Inp) (M:WSt):Prop where
 mok:∀x,x<(ax i).W->MOk i x (M.m x)
 lok:∀x,x<(ax i).W->(M.s x).cap=i.cfg.cap.toNat/\(M.s x).recv<=(M.s x).msgs.length/\(M.s x).msgs.length<=(M.s x).recv+i.cfg.cap.toNat/\(M.s x).peak<=i.cfg.cap.toNat
 sn:∀x,x<(ax i).W->(M.s x).msgs.length=sN i x (M.pos i x)
 rn:∀x,x<(ax i).W->(M.s x).recv=rN i (nxW (ax i).W x) (M.pos i (nxW (ax i).W x))
 tg:∀x,x<(ax i).W->∀j,j<(M.s x).msgs.length->∃c,(ie (dA i x))[j]?=some c/\(aO (M.s x).msgs j).tag=c.tg/\(aO (M.s x).msgs j).vals.length=c.at'.2-c.at'.1/\W64 (aO (M.s x).msgs j).vals
def Pk (i:Inp) (M:WSt) (x:Nat) (M1:WSt) (C:Nat):Prop:=
 ∃m1 s1 t1,jG i x (M.m x) (M.s (pvW (ax i).W x)) (M.s x) m1 s1 t1 C/\M1=⟨aY M.m x m1,aY (aY M.s (pvW (ax i).W x) s1) x t1⟩
theorem vS {l:List Itm} {p:Nat} (h:l[p]?=some y):l.take (p+1)=l.take p++[y]:=by
 rw [List.take_add_one,h];rfl
theorem xU {p:Nat} (h:(dA i x)[p]?=some y):sN i x (p+1)=sN i x p+(if y.kind=3 then 1 else 0):=by
 unfold sN;rw [vS h,vZ,Qt]
 congr 1
 rcases Bh (List.mem_of_getElem? h) with ⟨u,v,_⟩ | ⟨a,o,hk⟩
 .rw [if_neg v];unfold ie cF;simp [u]
 .cases hs:a.send<;>rw [hs] at hk<;>rw [hk]<;>unfold ie cF<;>simp [o,hs]
theorem yg {p:Nat} (h:(dA i x)[p]?=some y):rN i x (p+1)=rN i x p+(if y.kind=4 then 1 else 0):=by
 unfold rN;rw [vS h,wz,Qt]
 congr 1
 rcases Bh (List.mem_of_getElem? h) with ⟨u,_,v⟩ | ⟨a,o,hk⟩
 .rw [if_neg v];unfold iz cF;simp [u]
 .cases hs:a.send<;>rw [hs] at hk<;>rw [hk]<;>unfold iz cF<;>simp [o,hs]
theorem OZ (h:x<W):pvW W (nxW W x)=x:=by
 unfold nxW pvW;rcases Qf (x+1) W with h1 | h1
 .rw [Nat.mod_eq_of_lt h1,show x+1+W-1=x+W by omega,Nat.add_mod_right,Nat.mod_eq_of_lt h]
 .have e:x+1=W:=ap;rw [e,Nat.mod_self,show 0+W-1=x by omega,Nat.mod_eq_of_lt h]
theorem JC (h:x<W) (i:2<=W):pvW W x≠x:=by
 unfold pvW;rcases Nat.eq_zero_or_pos x with e | e
 .subst e;rw [show 0+W-1=W-1 by omega,Nat.mod_eq_of_lt ap];omega
 .rw [show x+W-1=(x-1)+W by omega,Nat.add_mod_right,Nat.mod_eq_of_lt ap];omega
theorem yJ {p:Pln} {st:Nat} (h:a∈cF (aE p x st)):2<=p.W:=by
 rw [jW] at h;simp only [nQ,nS,List.mem_flatMap,List.mem_range] at h;obtain ⟨_,_,_,_,r,hr,_⟩:=h;omega
theorem kE {l:List Itm} (h:y∈l) (i:y.a=some a):a∈cF l:=by
 unfold cF;exact List.mem_filterMap.2 ⟨y,h,i⟩
theorem Nl (h:a∈cF (dA i x)):∃st,st<i.cfg.steps.toNat/\a∈cF (aE (ax i) x st):=by
 unfold cF at h;have ⟨y,p,u⟩:=List.mem_filterMap.1 h;have ⟨st,o,p⟩:=List.mem_flatMap.1 p;exact ⟨st,List.mem_range.1 o,kE p u⟩
section
variable {i:Inp} {M M1:WSt} {x C:Nat}
theorem WOk.msgI (h:WOk i M) (H:x<(ax i).W):Ma i x (M.s (pvW (ax i).W x)):=λj v=>by
 have u:pvW (ax i).W x<(ax i).W:=lI ap;have ⟨c,h1,A,D,B⟩:=h.tg _ u j v;refine ⟨B,.inr ?_⟩;have e:=un i (pvW (ax i).W x) i.cfg.steps.toNat;rw [show (pvW (ax i).W x+1)%(ax i).W=x from um H] at e;rw [show ie (dA i (pvW (ax i).W x))=iz (dA i x) from e] at h1;have ⟨a,o,hs,hc⟩:=Fx h1;have ⟨st,_,o⟩:=Nl o;unfold cF at o;have ⟨y,C,p⟩:=List.mem_filterMap.1 o;rw [D,A,<-hc,Lr,<-LT C p hs];rfl
theorem WOk.cur (h:WOk i M) (hs:bK i) (o:x<(ax i).W):(cC i x (M.m x).st)[(M.m x).nx]?=(dA i x)[M.pos i x]?:=(h.mok x o).cur hs
theorem WOk.pick (h:WOk i M) (hs:bK i) (o:x<(ax i).W):∃M1 C,Pk i M x M1 C:=by
 have p:pvW (ax i).W x<(ax i).W:=lI ap;have ⟨m1,s1,t1,C,u⟩:=Ez i x (M.m x) (M.s (pvW (ax i).W x)) (M.s x) (h.lok _ p).2.1 (by rw [(h.lok x o).1];exact (h.lok x o).2.2.1);exact ⟨_,C,m1,s1,t1,u,rfl⟩
theorem qz (i:Inp) (M:WSt) (x:Nat) (m1:Mst) (S:Nat->LSt) (z:Nat):(⟨aY M.m x m1,S⟩:WSt).pos i z=if z=x then bq i x m1 else M.pos i z:=by
 unfold WSt.pos
 show bq i z (aY M.m x m1 z)=_
 by_cases e:z=x
 .subst e;rw [if_pos rfl,bF]
 .rw [if_neg e,bD _ _ e]
theorem yZ (M:WSt) (x p:Nat):(⟨aY M.m x (M.m x),aY (aY M.s p (M.s p)) x (M.s x)⟩:WSt)=M:=by
 rw [fY,fY,fY]
theorem WOk.own (h:WOk i M) (C:x<(ax i).W) {m1:Mst} {y:Itm} (u:(dA i x)[M.pos i x]?=some y) (hm:MOk i x m1) (v:bq i x m1=M.pos i x+1) (B:y.kind≠3) (A:y.kind≠4):WOk i ⟨aY M.m x m1,M.s⟩:=by
 have o:∀z,(⟨aY M.m x m1,M.s⟩:WSt).pos i z=if z=x then M.pos i x+1 else M.pos i z:=λz=>by rw [qz,v]
 refine ⟨λz p=>?_,h.lok,λz p=>?_,λz p=>?_,h.tg⟩
 .by_cases e:z=x
  .subst e;show MOk i z (aY M.m z m1 z);rw [bF];exact hm
  .show MOk i z (aY M.m x m1 z);rw [bD _ _ e];exact h.mok z p
 .rw [o z];by_cases e:z=x
  .subst e;rw [if_pos rfl,xU u,if_neg B];exact h.sn z p
  .rw [if_neg e];exact h.sn z p
 .rw [o];by_cases e:nxW (ax i).W z=x
  .rw [if_pos e,e,yg u,if_neg A];have:=h.rn z p;rw [e] at this;exact this
  .rw [if_neg e];exact h.rn z p
theorem Pk.ok (hp:Pk i M x M1 C) (h:WOk i M) (hs:bK i) (L:x<(ax i).W) (hw:W64 (M.m x).G):
  WOk i M1/\(C=0->M1.pos i x=M.pos i x+1/\(∀z,z≠x->M1.m z=M.m z)/\M.pos i x<(dA i x).length)/\(C≠0->M1=M)/\(C=0↔can i i.cfg.cap.toNat (M.pos i) x):=by
 obtain ⟨m1,s1,t1,ht,rfl⟩:=hp;have N:pvW (ax i).W x<(ax i).W:=lI ap;have a9:nxW (ax i).W x<(ax i).W:=N6 ap;have u:=h.cur hs L;have B:=ht.ok hs (h.mok x L);have O:=h.sn x L;have I:=h.rn _ N;rw [um L] at I;have a1:=h.rn x L;have a0:=h.sn _ N;have a7:=(h.lok x L).1
 have A:∀{C:Nat},C≠0->¬can i i.cfg.cap.toNat (M.pos i) x->WOk i ⟨aY M.m x (M.m x),aY (aY M.s (pvW (ax i).W x) (M.s (pvW (ax i).W x))) x (M.s x)⟩/\(C=0->(⟨aY M.m x (M.m x),aY (aY M.s (pvW (ax i).W x) (M.s (pvW (ax i).W x))) x (M.s x)⟩:WSt).pos i x=M.pos i x+1/\(∀z,z≠x->(⟨aY M.m x (M.m x),aY (aY M.s (pvW (ax i).W x) (M.s (pvW (ax i).W x))) x (M.s x)⟩:WSt).m z=M.m z)/\M.pos i x<(dA i x).length)/\(C≠0->(⟨aY M.m x (M.m x),aY (aY M.s (pvW (ax i).W x) (M.s (pvW (ax i).W x))) x (M.s x)⟩:WSt)=M)/\(C=0↔can i i.cfg.cap.toNat (M.pos i) x):=λhC hn=>by
  rw [yZ];exact ⟨h,λe=>absurd e hC,λ_=>rfl,⟨λe=>absurd e hC,λe=>absurd e hn⟩⟩
 have go:∀{y:Itm} {M1:WSt},(dA i x)[M.pos i x]?=some y->WOk i M1->M1.m=aY M.m x m1->bq i x m1=M.pos i x+1->can i i.cfg.cap.toNat (M.pos i) x->WOk i M1/\((0:Nat)=0->M1.pos i x=M.pos i x+1/\(∀z,z≠x->M1.m z=M.m z)/\M.pos i x<(dA i x).length)/\((0:Nat)≠0->M1=M)/\((0:Nat)=0↔can i i.cfg.cap.toNat (M.pos i) x):=λo a6 hm H hc=>
  ⟨a6,λ_=>⟨by unfold WSt.pos;rw [hm,bF];exact H,λz p=>by rw [hm,bD _ _ p],(Qu.1 o).1⟩,λe=>absurd rfl e,⟨λ_=>hc,λ_=>rfl⟩⟩
 cases ht with
 | fin hf=>
  refine A V0 ?_;rintro ⟨y,o,_⟩;rw [<-u,List.getElem?_eq_none hf] at o
  cases o
 | own y o ha=>
  have hk:=jp (dm o).2 ha;have H:bq i x (adv i x (gY i x (M.m x) y))=M.pos i x+1:=mp hs o (nC i x (M.m x) y).1 (nC i x (M.m x) y).2;rw [u] at o;rw [fY,fY];exact go o (h.own L o B H ap ap) rfl H ⟨y,o,λe=>absurd e ap,λe=>absurd e ap⟩
 | send y a o ha hk hroom=>
  have D:=dm o;have H:bq i x (adv i x (M.m x))=M.pos i x+1:=mp hs o rfl rfl;have a8:=yK hs.ok D.2 ha;rw [u] at o
  have a3:a.send=true:=by
   have:=(iU D.2 ha).1
   cases e:a.send with
   | true=>rfl
   | false=>rw [e,hk] at this;cases this
  rw [fY];obtain ⟨l1,l2,l3,l4⟩:=h.lok x L;have J:(⟨aY M.m x (adv i x (M.m x)),M.s⟩:WSt).pos i x=M.pos i x+1:=by rw [qz,if_pos rfl];exact H
  have v:∀z (S:Nat->LSt),z≠x->(⟨aY M.m x (adv i x (M.m x)),S⟩:WSt).pos i z=M.pos i z:=λz S e=>by rw [qz,if_neg e]
  refine go o ⟨λz p=>?_,λz p=>?_,λz p=>?_,λz p=>?_,λz p j U=>?_⟩ rfl H ⟨y,o,λ_=>by rw [<-O,<-a1];omega,λe=>ap⟩
  .by_cases e:z=x
   .subst e;show MOk i z (aY M.m z _ z);rw [bF];exact B
   .show MOk i z (aY M.m x _ z);rw [bD _ _ e];exact h.mok z p
  .by_cases e:z=x
   .subst e;rw [show (⟨aY M.m z (adv i z (M.m z)),aY M.s z ((M.s z).send ⟨a.tg,((M.m z).G.drop a.at'.1).take (a.at'.2-a.at'.1)⟩)⟩:WSt).s z=(M.s z).send ⟨a.tg,((M.m z).G.drop a.at'.1).take (a.at'.2-a.at'.1)⟩ from bF _ _ _];refine ⟨l1,?_,?_,?_⟩
    .show (M.s z).recv<=((M.s z).msgs++[_]).length;rw [Qt];omega
    .show ((M.s z).msgs++[_]).length<=(M.s z).recv+_;rw [Qt];simp only [QC];omega
    .show max (M.s z).peak ((M.s z).msgs.length+1-(M.s z).recv)<=_;omega
   .rw [show (⟨aY M.m x (adv i x (M.m x)),aY M.s x ((M.s x).send ⟨a.tg,((M.m x).G.drop a.at'.1).take (a.at'.2-a.at'.1)⟩)⟩:WSt).s z=M.s z from bD _ _ e];exact h.lok z p
  .by_cases e:z=x
   .subst e;rw [show (⟨aY M.m z (adv i z (M.m z)),aY M.s z ((M.s z).send ⟨a.tg,((M.m z).G.drop a.at'.1).take (a.at'.2-a.at'.1)⟩)⟩:WSt).s z=(M.s z).send ⟨a.tg,((M.m z).G.drop a.at'.1).take (a.at'.2-a.at'.1)⟩ from bF _ _ _];rw [show (⟨aY M.m z (adv i z (M.m z)),aY M.s z ((M.s z).send ⟨a.tg,((M.m z).G.drop a.at'.1).take (a.at'.2-a.at'.1)⟩)⟩:WSt).pos i z=M.pos i z+1 from J,xU o,if_pos hk,<-O];simp [LSt.send]
   .rw [show (⟨aY M.m x (adv i x (M.m x)),aY M.s x ((M.s x).send ⟨a.tg,((M.m x).G.drop a.at'.1).take (a.at'.2-a.at'.1)⟩)⟩:WSt).s z=M.s z from bD _ _ e,v z _ e];exact h.sn z p
  .have hr:((⟨aY M.m x (adv i x (M.m x)),aY M.s x ((M.s x).send ⟨a.tg,((M.m x).G.drop a.at'.1).take (a.at'.2-a.at'.1)⟩)⟩:WSt).s z).recv=(M.s z).recv:=by
    by_cases e:z=x
    .subst e;show (aY M.s z _ z).recv=_;rw [bF];rfl
    .show (aY M.s x _ z).recv=_;rw [bD _ _ e]
   rw [hr,h.rn z p];by_cases e:nxW (ax i).W z=x
   .rw [e,show (⟨aY M.m x (adv i x (M.m x)),aY M.s x ((M.s x).send ⟨a.tg,((M.m x).G.drop a.at'.1).take (a.at'.2-a.at'.1)⟩)⟩:WSt).pos i x=M.pos i x+1 from J,yg o,if_neg ap];rfl
   .rw [v _ _ e]
  .by_cases e:z=x
   .subst e
    have e1:((⟨aY M.m z (adv i z (M.m z)),aY M.s z ((M.s z).send ⟨a.tg,((M.m z).G.drop a.at'.1).take (a.at'.2-a.at'.1)⟩)⟩:WSt).s z).msgs=(M.s z).msgs++[⟨a.tg,((M.m z).G.drop a.at'.1).take (a.at'.2-a.at'.1)⟩]:=by
     show (aY M.s z _ z).msgs=_;rw [bF];rfl
    rw [e1] at U |-;rw [uq];by_cases hl:j<(M.s z).msgs.length
    .rw [if_pos hl];exact h.tg z p j hl
    .rw [Qt,QC] at U;have Z:j=(M.s z).msgs.length:=ap;rw [if_neg hl,if_pos Z];refine ⟨a.cor,?_,rfl,?_,λk hk=>?_⟩
     .rw [Z,O];exact za o ha a3
     .show (((M.m z).G.drop a.at'.1).take (a.at'.2-a.at'.1)).length=a.at'.2-a.at'.1
      rw [Qy,QB,(h.mok z p).lG];have:(ax i).n=i.start.length:=rfl;omega
     .have a4:k<a.at'.2-a.at'.1:=P6 hk (by show (((M.m z).G.drop a.at'.1).take (a.at'.2-a.at'.1)).length<=_;rw [Qy];omega)
      show _<=nth (((M.m z).G.drop a.at'.1).take (a.at'.2-a.at'.1)) k/\nth (((M.m z).G.drop a.at'.1).take (a.at'.2-a.at'.1)) k<=_
      rw [eH a4,eI];exact hw.nth _
   .rw [show (⟨aY M.m x (adv i x (M.m x)),aY M.s x ((M.s x).send ⟨a.tg,((M.m x).G.drop a.at'.1).take (a.at'.2-a.at'.1)⟩)⟩:WSt).s z=M.s z from bD _ _ e] at U |-;exact h.tg z p j U
 | full y a o ha hk hf=>
  refine A V0 ?_;rintro ⟨y',T,V,_⟩;rw [u,T] at o;injection o with o;subst o
  have:=V hk;rw [<-O,<-a1] at this;omega
 | recv y a o ha hk hlt heq=>
  have D:=dm o;have H:bq i x (adv i x {M.m x with G:=iK (M.m x).G a.at'.1 (aO (M.s (pvW (ax i).W x)).msgs (M.s (pvW (ax i).W x)).recv).vals a.add})=M.pos i x+1:=mp hs o rfl rfl;have h2:2<=(ax i).W:=yJ (kE D.2 ha);have a2:=JC L h2;rw [u] at o;obtain ⟨m1,a5⟩:=Vb (adv i x {M.m x with G:=iK (M.m x).G a.at'.1 (aO (M.s (pvW (ax i).W x)).msgs (M.s (pvW (ax i).W x)).recv).vals a.add});rw [a5] at H B go |-;obtain ⟨S,hS⟩:=Vb (aY (aY M.s (pvW (ax i).W x) {M.s (pvW (ax i).W x) with recv:=(M.s (pvW (ax i).W x)).recv+1}) x (M.s x));have R:S (pvW (ax i).W x)={M.s (pvW (ax i).W x) with recv:=(M.s (pvW (ax i).W x)).recv+1}:=by rw [<-hS,bD _ _ a2,bF]
  have Q:∀z,z≠pvW (ax i).W x->S z=M.s z:=λz e=>by
   rw [<-hS];by_cases e2:z=x
   .subst e2;rw [bF]
   .rw [bD _ _ e2,bD _ _ e]
  have Y:∀z,(S z).msgs=(M.s z).msgs:=λz=>by
   by_cases e:z=pvW (ax i).W x
   .rw [e,R]
   .rw [Q z e]
  rw [hS];have J:(⟨aY M.m x m1,S⟩:WSt).pos i x=M.pos i x+1:=by rw [qz,if_pos rfl];exact H
  have v:∀z,z≠x->(⟨aY M.m x m1,S⟩:WSt).pos i z=M.pos i z:=λz e=>by rw [qz,if_neg e]
  refine go o ⟨λz p=>?_,λz p=>?_,λz p=>?_,λz p=>?_,λz p j U=>?_⟩ rfl H ⟨y,o,λe=>ap,λ_=>by rw [<-I,<-a0];exact hlt⟩
  .by_cases e:z=x
   .subst e;show MOk i z (aY M.m z _ z);rw [bF];exact B
   .show MOk i z (aY M.m x _ z);rw [bD _ _ e];exact h.mok z p
  .by_cases e:z=pvW (ax i).W x
   .obtain ⟨l1,l2,l3,l4⟩:=h.lok _ N;rw [show (⟨aY M.m x m1,S⟩:WSt).s z=S z from rfl,e,R];exact ⟨l1,hlt,by show (M.s (pvW (ax i).W x)).msgs.length<=(M.s (pvW (ax i).W x)).recv+1+_;omega,l4⟩
   .rw [show (⟨aY M.m x m1,S⟩:WSt).s z=S z from rfl,Q z e];exact h.lok z p
  .show (S z).msgs.length=_
   rw [Y,h.sn z p];by_cases e:z=x
   .subst e;rw [J,xU o,if_neg ap];rfl
   .rw [v z e]
  .show (S z).recv=_
   by_cases e:z=pvW (ax i).W x
   .rw [e,R,um L,J,yg o,if_pos hk]
    show _+1=_
    rw [I]
   .have e2:nxW (ax i).W z≠x:=λe3=>e (by rw [<-e3,OZ p]);rw [Q z e,v _ e2];exact h.rn z p
  .have e:(⟨aY M.m x m1,S⟩:WSt).s z=S z:=rfl;rw [e,Y] at U |-;exact h.tg z p j U
 | none y a o ha hk h0=>
  refine A V0 ?_;rintro ⟨y',T,_,h4⟩;rw [u,T] at o;injection o with o;subst o
  have:=h4 hk;rw [<-a0,<-I] at this;omega
 | other y a o ha hk hlt hne=>
  exfalso;have D:=dm o;rw [u] at o;obtain ⟨c,h1,h2,_⟩:=h.tg _ N _ hlt;have e:=un i (pvW (ax i).W x) i.cfg.steps.toNat;rw [show (pvW (ax i).W x+1)%(ax i).W=x from um L] at e;rw [show ie (dA i (pvW (ax i).W x))=iz (dA i x) from e,I] at h1;have V:=zv o ha (oD D.2 ha hk);rw [show (iz (List.take (M.pos i x) (dA i x))).length=rN i x (M.pos i x) from rfl,h1] at V;injection V with V
  rw [h2,V,Lr] at hne;exact hne rfl
end
def lE (i:Inp):WSt:=⟨λ_=>fm i,λ_=>LSt.new i.cfg.cap.toNat⟩
theorem WOk.zero (i:Inp):WOk i (lE i):=by
 refine ⟨λx _=>MOk.zero x,λx _=>⟨rfl,PV _,PZ _,PZ _⟩,λx _=>?_,λx _=>?_,λx _ j h=>by simp [lE,LSt.new] at h⟩
 .show 0=sN i x (bq i x (fm i))
  rw [show bq i x (fm i)=0 by simp [bq,fm]];rfl
 .show 0=rN i _ (bq i _ (fm i))
  rw [show bq i (nxW (ax i).W x) (fm i)=0 by simp [bq,fm]];rfl
structure WAd where
 X:Nat
 b:Nat->Nat
 l:Nat->Nat
 a:Nat->MAd
 g:Nat->Option Nat
def WAd.mu (D:WAd) (x k:Nat):Prop:=Mut (D.b x) (D.a x) k
def WAd.li (D:WAd) (x k:Nat):Prop:=ed (D.l x) (D.g x) k
def WAd.all (D:WAd) (n k:Nat):Prop:=k=D.X\/∃x,x<n/\(D.mu x k\/D.li x k)
def WAd.oth (D:WAd) (n:Nat) (E:Nat->Prop) (x k:Nat):Prop:=(D.all n k\/E k)/\¬D.mu x k
structure gL (E:Nat->Prop) (i:Inp) (w:R8) (D:WAd) (B:Nat) (M:WSt):Prop where
 mach:∀x,x<(ax i).W->aU (D.oth (ax i).W E x) w (D.b x) i x (D.a x) (M.m x)
 lnk:∀x,x<(ax i).W->aX w B (D.l x) (D.g x) (M.s x)
 mm:∀x y k,x<(ax i).W->y<(ax i).W->D.mu x k->D.mu y k->x=y
 ml:∀x y k,x<(ax i).W->y<(ax i).W->D.mu x k->¬D.li y k
 ll:∀x y k,x<(ax i).W->y<(ax i).W->D.li x k->D.li y k->x=y
 xm:∀x,x<(ax i).W->¬D.mu x D.X/\¬D.li x D.X
 lo:∀x,x<(ax i).W->D.b x<B/\(D.a x).bp<B/\(D.a x).bm<B/\(D.a x).bg<B
 hB:B<=w.heap.size
 xl:D.X<w.heap.size
 ne:∀k,E k->¬D.all (ax i).W k
 ex:∀k,E k->k<w.heap.size
section
variable {E E':Nat->Prop} {i:Inp} {w w':R8} {D:WAd} {B:Nat} {M:WSt} {x:Nat}
theorem gL.lt (h:gL E i w D B M):∀k,D.all (ax i).W k->k<w.heap.size:=by
 rintro k (rfl | ⟨x,o,e | e⟩)
 .exact h.xl
 .exact (h.mach x o).mlt k e
 .exact (h.lnk x o).lt k e
theorem gL.more (h:gL E i w D B M) (hb:aq w w') (he:∀k,E' k->k<w'.heap.size/\(E k\/w.heap.size<=k)):gL E' i w' D B M:=
 ⟨λx o=>(h.mach x o).step (Keep.below hb) (λk hk e=>⟨e.1.imp id λe=>(he k e).2.elim id λe=>absurd hk (by unfold Ve at *;omega),e.2⟩) (λk hm e=>e.2 hm),λx o=>(h.lnk x o).below hb,h.mm,h.ml,h.ll,h.xm,h.lo,P4 h.hB hb.size,P6 h.xl hb.size,
  λk e=>(he k e).2.elim (h.ne k) λe p=>by have:=h.lt k p;omega,λk e=>(he k e).1⟩
theorem gL.below (h:gL E i w D B M) (hb:aq w w'):gL E i w' D B M:=h.more hb λk e=>⟨P6 (h.ex k e) hb.size,.inl e⟩
theorem gL.keepQ (h:gL E i w D B M) {Q:Nat->Prop} (hk:Keep Q w w') (p:∀k,Q k->k=D.X\/E k) (he:∀(j:Nat) (c:R6),Vg w j c 2->B<=j->¬Q j):gL E i w' D B M:=
 ⟨λx o=>(h.mach x o).step (hk.mono λk _ e=>⟨(p k e).imp .inl id,λhm=>(p k e).elim (λe=>(h.xm x o).1 (e▸hm)) λe=>h.ne k e (.inr ⟨x,o,.inl hm⟩)⟩) (λk _ e=>e) (λk hm e=>e.2 hm),
  λx o=>(h.lnk x o).keep hk (λe=>(p _ e).elim (λe=>(h.xm x o).2 (e▸.inl rfl)) λe=>h.ne _ e (.inr ⟨x,o,.inr (.inl rfl)⟩)) (λj u e=>(p _ e).elim (λe=>(h.xm x o).2 (e▸.inr u)) λe=>h.ne _ e (.inr ⟨x,o,.inr (.inr u)⟩)) he,
  h.mm,h.ml,h.ll,h.xm,h.lo,P4 h.hB hk.size,P6 h.xl hk.size,h.ne,λk e=>P6 (h.ex k e) hk.size⟩
def WAd.rest (D:WAd) (n:Nat) (E:Nat->Prop) (x k:Nat):Prop:=(D.all n k\/E k)/\¬D.mu x k/\¬D.li (pvW n x) k/\¬D.li x k
theorem gL.wld (h:gL E i w D B M) (o:x<(ax i).W) (y:2<=(ax i).W):Wld (D.rest (ax i).W E x) B w (D.b x) (D.l (pvW (ax i).W x)) (D.l x) i x (D.a x) (M.m x) (M.s (pvW (ax i).W x)) (M.s x) (D.g (pvW (ax i).W x)) (D.g x):=by
 have p:pvW (ax i).W x<(ax i).W:=lI ap;have v:=JC o y;refine ⟨(h.mach x o).step (Keep.refl _ _) ?_ ?_,?_,h.lnk _ p,h.lnk x o,λk e u=>v (h.ll _ _ k p o e u),h.lo x o,h.hB,?_,?_⟩
 .rintro k _ ((e | e) | e)
  .exact ⟨.inl (.inr ⟨_,p,.inr e⟩),λhm=>h.ml _ _ k o p hm e⟩
  .exact ⟨.inl (.inr ⟨_,o,.inr e⟩),λhm=>h.ml _ _ k o o hm e⟩
  .exact ⟨e.1,e.2.1⟩
 .rintro k hm ((e | e) | e)
  .exact h.ml _ _ k o p hm e
  .exact h.ml _ _ k o o hm e
  .exact e.2.1 hm
 .rintro k hm ((e | e) | e)
  .exact h.ml _ _ k o p hm e
  .exact h.ml _ _ k o o hm e
  .exact e.2.1 hm
 .rintro k (e | e) u
  .exact u.2.2.1 e
  .exact u.2.2.2 e
 .rintro k ⟨e | e,_⟩
  .exact h.lt k e
  .exact h.ex k e
def WAd.upd (D:WAd) (x:Nat) (a1:MAd) (g1:Option Nat):WAd:=⟨D.X,D.b,D.l,aY D.a x a1,aY D.g x g1⟩
def Dr (E:Nat->Prop) (i:Inp) (w:R8) (D:WAd) (B:Nat) (x:Nat) (h:WSt) (w':R8):Prop:=
 ∃a1 g1,gL E i w' (D.upd x a1 g1) B h/\Keep (λk=>D.all (ax i).W k/\k≠D.X) w w'/\∀k,(D.upd x a1 g1).all (ax i).W k->D.all (ax i).W k\/w.heap.size<=k
theorem gL.did (h:gL E i w D B M) (V:x<(ax i).W) {p:Nat} (hp:p<(ax i).W) {C:Nat->Prop} (hC:∀k,C k->D.mu x k\/D.li p k\/D.li x k) {a1:MAd} {g1:Option Nat} {m1:Mst} {s1 t1:LSt} {H:Nat->Prop} (hm:aU H w' (D.b x) i x a1 m1) (hH:∀k,(D.upd x a1 g1).oth (ax i).W E x k->H k) (hk:Keep C w w') (a5:p≠x->aX w' B (D.l p) (D.g p) s1) (a8:aX w' B (D.l x) g1 t1) (ao:p=x->t1=s1) (U:∀k,Mut (D.b x) a1 k->C k\/w.heap.size<=k) (Y:∀k,ed (D.l x) g1 k->C k\/w.heap.size<=k) (a2:∀k,Mut (D.b x) a1 k->¬ed (D.l x) g1 k/\¬D.li p k/\¬E k) (ab:p≠x->∀k,ed (D.l x) g1 k->¬D.li p k) (a7:∀k,ed (D.l x) g1 k->¬E k) (a9:a1.bp<B/\a1.bm<B/\a1.bg<B):Dr E i w D B x ⟨aY M.m x m1,aY (aY M.s p s1) x t1⟩ w':=by
 have T:∀k,C k->D.all (ax i).W k/\k≠D.X:=λk e=>by
  rcases hC k e with e | e | e
  .exact ⟨.inr ⟨x,V,.inl e⟩,λh2=>(h.xm x V).1 (h2▸e)⟩
  .exact ⟨.inr ⟨p,hp,.inr e⟩,λh2=>(h.xm p hp).2 (h2▸e)⟩
  .exact ⟨.inr ⟨x,V,.inr e⟩,λh2=>(h.xm x V).2 (h2▸e)⟩
 have L:∀k,(D.upd x a1 g1).mu x k->Mut (D.b x) a1 k:=λk e=>by
  have:(aY D.a x a1 x)=a1:=bF _ _ _;unfold WAd.mu WAd.upd at e;simp only [this] at e;exact e
 have J:∀y k,y≠x->(D.upd x a1 g1).mu y k->D.mu y k:=λy k A e=>by
  have:(aY D.a x a1 y)=D.a y:=bD _ _ A;unfold WAd.mu WAd.upd at e;simp only [this] at e;exact e
 have R:∀k,(D.upd x a1 g1).li x k->ed (D.l x) g1 k:=λk e=>by
  have:(aY D.g x g1 x)=g1:=bF _ _ _;unfold WAd.li WAd.upd at e;simp only [this] at e;exact e
 have I:∀y k,y≠x->(D.upd x a1 g1).li y k->D.li y k:=λy k A e=>by
  have:(aY D.g x g1 y)=D.g y:=bD _ _ A;unfold WAd.li WAd.upd at e;simp only [this] at e;exact e
 have a3:∀k,(D.upd x a1 g1).all (ax i).W k->D.all (ax i).W k\/w.heap.size<=k:=by
  rintro k (e | ⟨y,A,e⟩)
  .exact .inl (.inl e)
  .by_cases o:y=x
   .subst o;rcases e with e | e
    .exact (U k (L k e)).imp (λe=>(T k e).1) id
    .exact (Y k (R k e)).imp (λe=>(T k e).1) id
   .exact .inl (.inr ⟨y,A,e.imp (J y k o) (I y k o)⟩)
 -- what is changed or new is none of another worker's
 have N:∀y k,y<(ax i).W->y≠x->(C k\/w.heap.size<=k)->¬D.mu y k/\(y≠p->¬D.li y k):=λy k A o e=>by
  rcases e with e | e
  .rcases hC k e with e | e | e
   .exact ⟨λu=>o (h.mm y x k A V u e),λ_ u=>h.ml x y k V A e u⟩
   .exact ⟨λu=>h.ml y p k A hp u e,λhn u=>hn (h.ll y p k A hp u e)⟩
   .exact ⟨λu=>h.ml y x k A V u e,λ_ u=>o (h.ll y x k A V u e)⟩
  .exact ⟨λu=>by have:=h.lt k (.inr ⟨y,A,.inl u⟩);omega,λ_ u=>by have:=h.lt k (.inr ⟨y,A,.inr u⟩);omega⟩
 have a0:∀y k,y<(ax i).W->y≠x->ed (D.l x) g1 k->¬D.mu y k/\¬D.li y k:=λy k A o e=>by
  refine ⟨(N y k A o (Y k e)).1,?_⟩;by_cases Q:y=p
  .subst Q;exact ab o k e
  .exact (N y k A o (Y k e)).2 Q
 have a6:∀(j:Nat) (c:R6),w.heap[j]?=some (.cells c 2 (0,0))->B<=j->¬C j:=λj c hj hb e=>by
  have ad:=h.lo x V;rcases hC j e with e | e | e
  .rcases (h.mach x V).i64 hj e with e | e | e<;>omega
  .exact (h.lnk p hp).noI64 hj e
  .exact (h.lnk x V).noI64 hj e
 refine ⟨a1,g1,⟨λy A=>?_,λy A=>?_,λy z k A Z O u=>?_,λy z k A Z O u=>?_,λy z k A Z O u=>?_,λy A=>?_,λy A=>?_,P4 h.hB hk.size,P6 h.xl hk.size,λk e u=>?_,λk e=>P6 (h.ex k e) hk.size⟩,hk.mono λk _ e=>T k e,a3⟩
 .by_cases o:y=x
  .subst o
   show aU _ w' (D.b y) i y (aY D.a y a1 y) (aY M.m y m1 y)
   rw [bF,bF];exact hm.step (Keep.refl _ _) (λk _ e=>hH k e) (λk O u=>u.2 (by unfold WAd.mu WAd.upd;simp only [bF];exact O))
  .show aU _ w' (D.b y) i y (aY D.a x a1 y) (aY M.m x m1 y)
   rw [bD _ _ o,bD _ _ o];refine (h.mach y A).step (hk.mono λk _ e=>⟨.inl (T k e).1,(N y k A o (.inl e)).1⟩) (λk hl e=>⟨e.1.imp (λe=>(a3 k e).elim id λe=>absurd hl (by unfold Ve at *;omega)) id,λu=>e.2 ?_⟩) (λk O u=>u.2 ?_)
   .unfold WAd.mu WAd.upd;simp only [bD _ _ o];exact u
   .unfold WAd.mu WAd.upd;simp only [bD _ _ o];exact O
 .by_cases o:y=x
  .subst o
   show aX w' B (D.l y) (aY D.g y g1 y) (aY (aY M.s p s1) y t1 y)
   rw [bF,bF];exact a8
  .show aX w' B (D.l y) (aY D.g x g1 y) (aY (aY M.s p s1) x t1 y)
   rw [bD _ _ o,bD _ _ o];by_cases Q:y=p
   .subst Q;rw [bF];exact a5 o
   .rw [bD _ _ Q];exact (h.lnk y A).keep hk (λe=>(N y _ A o (.inl e)).2 Q (.inl rfl)) (λj hj e=>(N y _ A o (.inl e)).2 Q (.inr hj)) a6
 .by_cases o:y=x
  .by_cases v:z=x
   .rw [o,v]
   .subst o;exact absurd (J z k v u) (N z k Z v (U k (L k O))).1
  .by_cases v:z=x
   .subst v;exact absurd (J y k o O) (N y k A o (U k (L k u))).1
   .exact h.mm y z k A Z (J y k o O) (J z k v u)
 .by_cases o:y=x
  .subst o;by_cases v:z=y
   .subst v;exact (a2 k (L k O)).1 (R k u)
   .by_cases a4:z=p
    .subst a4;exact (a2 k (L k O)).2.1 (I z k v u)
    .exact (N z k Z v (U k (L k O))).2 a4 (I z k v u)
  .by_cases v:z=x
   .subst v;exact (a0 y k A o (R k u)).1 (J y k o O)
   .exact h.ml y z k A Z (J y k o O) (I z k v u)
 .by_cases o:y=x
  .by_cases v:z=x
   .rw [o,v]
   .subst o;exact absurd (I z k v u) (a0 z k Z v (R k O)).2
  .by_cases v:z=x
   .subst v;exact absurd (I y k o O) (a0 y k A o (R k u)).2
   .exact h.ll y z k A Z (I y k o O) (I z k v u)
 .by_cases o:y=x
  .subst o;refine ⟨λe=>?_,λe=>?_⟩
   .rcases U _ (L _ e) with e | e
    .exact (T _ e).2 rfl
    .have:=h.xl;exact absurd this (Nat.not_lt.2 e)
   .rcases Y _ (R _ e) with e | e
    .exact (T _ e).2 rfl
    .have:=h.xl;exact absurd this (Nat.not_lt.2 e)
  .exact ⟨λe=>(h.xm y A).1 (J y _ o e),λe=>(h.xm y A).2 (I y _ o e)⟩
 .by_cases o:y=x
  .subst o
   show D.b y<B/\(aY D.a y a1 y).bp<B/\(aY D.a y a1 y).bm<B/\(aY D.a y a1 y).bg<B
   rw [bF];exact ⟨(h.lo y A).1,a9⟩
  .show D.b y<B/\(aY D.a x a1 y).bp<B/\(aY D.a x a1 y).bm<B/\(aY D.a x a1 y).bg<B
   rw [bD _ _ o];exact h.lo y A
 .rcases u with u | ⟨y,A,u⟩
  .exact h.ne k e (.inl u)
  .by_cases o:y=x
   .subst o;rcases u with u | u
    .exact (a2 k (L k u)).2.2 e
    .exact a7 k (R k u) e
   .exact h.ne k e (.inr ⟨y,A,u.imp (J y k o) (I y k o)⟩)
end
structure iM (i:Inp) (w:R8) (lo:Nat) (b l:Nat->Nat) (a:Nat->MAd) (s t:Nat->Nat) (k:Nat):Prop where
 mach:∀y,y<k->aU (λj=>j<s y\/t y<=j) w (b y) i y (a y) (fm i)
 win:∀y,y<k->∀j,Mut (b y) (a y) j->s y<=j/\j<t y
 chain:∀y,y<k->lo<=s y/\s y<=t y/\t y<=l y/\l y<w.heap.size
 next:∀y z,y<z->z<k->l y<s z
 lnk:∀y,y<k->∀B,aX w B (l y) none (LSt.new i.cfg.cap.toNat)
section
variable {i:Inp} {w w':R8} {lo k:Nat} {b l:Nat->Nat} {a:Nat->MAd} {s t:Nat->Nat}
theorem iM.zero:iM i w lo b l a s t 0:=⟨λ_ h=>absurd h (Nat.not_lt_zero _),λ_ h=>absurd h (Nat.not_lt_zero _),λ_ h=>absurd h (Nat.not_lt_zero _),λ_ _ _ h=>absurd h (Nat.not_lt_zero _),λ_ h=>absurd h (Nat.not_lt_zero _)⟩
theorem lp {l j:Nat} (e:ed l none j):j=l:=e.elim id λe=>by cases e
theorem iM.keep (h:iM i w lo b l a s t k) {Q:Nat->Prop} (hk:Keep Q w w') (u:∀j,j<w.heap.size->Q j->(∀y,y<k->(j<s y\/t y<=j)/\j≠l y)/\∀c,w.heap[j]?≠some (.cells c 2 (0,0))):iM i w' lo b l a s t k:=by
 refine ⟨λy o=>(h.mach y o).step (hk.mono λj p e=>((u j p e).1 y o).1) (λj _ e=>e) (λj hm e=>?_),h.win,λy o=>?_,h.next,λy o B=>(h.lnk y o B).keep (hk.mono λj p e=>((⟨p,e⟩:j<w.heap.size/\Q j))) (λe=>((u _ e.1 e.2).1 y o).2 rfl) (λj e=>by cases e) λj c p _ e=>(u j e.1 e.2).2 c p⟩
 .have:=h.win y o j hm;omega
 .have:=h.chain y o;have:=hk.size;omega
theorem iM.below (h:iM i w lo b l a s t k) (hb:aq w w'):iM i w' lo b l a s t k:=h.keep (Q:=λ_=>False) (Keep.below hb) λ_ _ e=>e.elim
theorem iM.more (h:iM i w lo b l a s t k) {A:Nat} {a1:MAd} {l1:Nat} {u:R8} (L:lo<=w.heap.size) (x:∀j,Mut A a1 j->w.heap.size<=j) (hm:∀(H:Nat->Prop) w'',Keep (λk=>k<w.heap.size) u w''->(∀k,H k->k<w.heap.size)->aU H w'' A i k a1 (fm i)) (h1:iM i u lo b l a s t k) (C:iM i w' lo b l a s t k) (hs:w.heap.size<=u.heap.size) (hk:Keep (λj=>j<w.heap.size\/u.heap.size<=j) u w') (hl:u.heap.size<=l1) (J:l1<w'.heap.size) (R:∀B,aX w' B l1 none (LSt.new i.cfg.cap.toNat)):
  iM i w' lo (aY b k A) (aY l k l1) (aY a k a1) (aY s k w.heap.size) (aY t k u.heap.size) (k+1):=by
 have D:=hm (λj=>j<w.heap.size) u (Keep.refl _ _) (λ_ e=>e);have v:=λj (e:Mut A a1 j)=>D.mlt j e
 have Q:aU (λj=>j<w.heap.size\/u.heap.size<=j) w' A i k a1 (fm i):=
  (D.step (H':=λj=>j<w.heap.size\/u.heap.size<=j) (Keep.refl _ _) (λj Y e=>e.elim id λe=>absurd Y (by unfold Ve at *;omega)) (λj e T=>by have:=x j e;have:=v j e;omega)).step hk (λ_ _ e=>e) (λj e T=>by have:=x j e;have:=v j e;omega)
 have o:∀y,y<k+1->y=k\/(y≠k/\y<k):=λy I=>ap;refine ⟨λy I=>?_,λy I=>?_,λy I=>?_,λy z N U=>?_,λy I=>?_⟩<;>rcases o y ap with rfl | ⟨e,p⟩
 .simp only [bF];exact Q
 .simp only [bD _ _ e];exact C.mach y p
 .simp only [bF];exact λj e=>⟨x j e,v j e⟩
 .simp only [bD _ _ e];exact C.win y p
 .simp only [bF];exact ⟨L,hs,hl,J⟩
 .simp only [bD _ _ e];exact C.chain y p
 .omega
 .rcases o z U with rfl | ⟨V,O⟩
  .simp only [bF,bD _ _ e];exact (h.chain y p).2.2.2
  .simp only [bD _ _ e,bD _ _ V];exact C.next y z N O
 .simp only [bF];exact R
 .simp only [bD _ _ e];exact C.lnk y p
theorem iM.mem (h:iM i w lo b l a s t (ax i).W) {X:Nat} (hX:X<lo) (Q:X<w.heap.size) {E:Nat->Prop} (L:∀j,E j->j<lo/\j≠X) (Y:lo<=w.heap.size):
  gL E i w ⟨X,b,l,a,λ_=>none⟩ (Ve w) ⟨λ_=>fm i,λ_=>LSt.new i.cfg.cap.toNat⟩:=by
 have p:∀y z,y<z->z<(ax i).W->t y<=s z/\l y<s z:=λy z O o=>by
  have h1:=h.next y z O o;have h2:=h.chain y ap;omega
 have J:∀y z j,y<(ax i).W->z<(ax i).W->Mut (b y) (a y) j->Mut (b z) (a z) j->y=z:=λy z j A o D u=>by
  have I:=h.win y A j D;have w2:=h.win z o j u;rcases Nat.lt_trichotomy y z with e | e | e
  .have:=p y z e o;omega
  .exact e
  .have:=p z y e A;omega
 have B:∀y z,y<(ax i).W->z<(ax i).W->l z<s y\/t y<=l z:=λy z A o=>by
  rcases Nat.lt_trichotomy y z with e | e | e
  .have:=p y z e o;have:=h.chain z o;omega
  .subst e;have:=h.chain y A;omega
  .have:=p z y e A;omega
 refine ⟨λx v=>(h.mach x v).step (Keep.refl _ _) ?_ (λj e u=>u.2 e),λx v=>h.lnk x v _,J,λy z j A o D u=>?_,λy z j A o D u=>?_,λx v=>⟨λe=>?_,λe=>?_⟩,λx v=>?_,PV _,Q,λj e u=>?_,λj e=>by have:=L j e;omega⟩
 .rintro j R ⟨(e | ⟨z,o,e | e⟩) | e,u⟩
  .have U:j=X:=e;have:=h.chain x v;omega
  .have N:z≠x:=λH=>by subst H;exact u e
   have I:=h.win z o j e;rcases Nat.lt_or_gt_of_ne N with H | H
   .have:=p z x H v;omega
   .have:=p x z H o;omega
  .have C:j=l z:=lp e;rw [C];exact B x z v o
  .have:=h.chain x v;have:=L j e;omega
 .have C:j=l z:=lp u;have I:=h.win y A j D;have:=B y z A o;omega
 .have Z:j=l y:=lp D;have T:j=l z:=lp u;rcases Nat.lt_trichotomy y z with e | e | e
  .have:=p y z e o;have:=h.chain z o;omega
  .exact e
  .have:=p z y e A;have:=h.chain y A;omega
 .have I:s x<=X/\X<t x:=h.win x v _ e;have:=h.chain x v;omega
 .have V:X=l x:=lp e;have:=h.chain x v;omega
 .have hl:=λj (e:Mut (b x) (a x) j)=>(h.mach x v).mlt j e;exact ⟨hl _ (.inl rfl),hl _ (.inr (.inl rfl)),hl _ (.inr (.inr (.inl rfl))),hl _ (.inr (.inr (.inr (.inl rfl))))⟩
 .have R:=L j e;rcases u with u | ⟨z,o,u | u⟩
  .exact R.2 u
  .have:=h.win z o j u;have:=h.chain z o;omega
  .have V:j=l z:=lp u;have:=h.chain z o;omega
end
section
variable {E:Nat->Prop} {i:Inp} {w w':R8} {D:WAd} {B:Nat} {M M1:WSt} {x C:Nat}
theorem gL.oth_lt (h:gL E i w D B M):∀k,w.heap.size<=k->¬D.oth (ax i).W E x k:=by
 rintro k hk ⟨e | e,_⟩
 .have:=h.lt k e;omega
 .have:=h.ex k e;omega
theorem gL.restE (h:gL E i w D B M) {k:Nat} (p:x<(ax i).W) (u:pvW (ax i).W x<(ax i).W) (e:E k):D.rest (ax i).W E x k:=
 ⟨.inr e,λo=>h.ne k e (.inr ⟨x,p,.inl o⟩),λo=>h.ne k e (.inr ⟨_,u,.inr o⟩),λo=>h.ne k e (.inr ⟨x,p,.inr o⟩)⟩
theorem gL.try (h:gL E i w D B M) (o:x<(ax i).W) (N:2<=(ax i).W) {m1:Mst} {s1 t1:LSt} (Q:kF (D.rest (ax i).W E x) B w (D.b x) (D.l (pvW (ax i).W x)) (D.l x) i x (D.a x) (D.g (pvW (ax i).W x)) (D.g x) m1 s1 t1 w'):
  Dr E i w D B x ⟨aY M.m x m1,aY (aY M.s (pvW (ax i).W x) s1) x t1⟩ w':=by
 have J:pvW (ax i).W x<(ax i).W:=lI ap;have L:=JC o N;obtain ⟨a1,g1,hw,hk,hn⟩:=Q;have V:=h.wld o N
 refine h.did o J (C:=Nq (D.b x) (D.a x) (D.l (pvW (ax i).W x)) (D.g (pvW (ax i).W x)) (D.l x) (D.g x)) (λk e=>e.imp id id) hw.mach ?_ hk (λ_=>hw.lf) hw.lt (λe=>absurd e L) (λk e=>hn k (.inl e)) (λk e=>hn k (.inr (.inr e))) (λk e=>⟨λA=>hw.hn k e (.inl (.inr A)),λA=>hw.hn k e (.inl (.inl A)),λA=>hw.hn k e (.inr ?_)⟩)
  (λ_ k e A=>hw.dj k A e) (λk e A=>?_) hw.lo.2
 .rintro k ⟨e,T⟩;by_cases O:ed (D.l x) g1 k
  .exact .inl (.inr O)
  by_cases I:D.li (pvW (ax i).W x) k
  .exact .inl (.inl I)
  refine .inr ?_;rcases e with (e | ⟨y,H,e⟩) | e
  .have U:k=D.X:=e;subst U;exact ⟨.inl (.inl rfl),(h.xm x o).1,I,(h.xm x o).2⟩
  .by_cases v:y=x
   .subst v;rcases e with e | e
    .exact absurd e T
    .refine absurd ?_ O;have R:aY D.g y g1 y=g1:=bF _ _ _;unfold WAd.li WAd.upd at e;simp only [R] at e;exact e
   .have p:D.mu y k\/D.li y k:=by
     unfold WAd.mu WAd.li WAd.upd at e;simp only [bD _ _ v] at e;exact e
    refine ⟨.inl (.inr ⟨y,H,p⟩),λu=>?_,I,λu=>?_⟩
    .rcases p with p | p
     .exact v (h.mm y x k H o p u)
     .exact h.ml x y k o H u p
    .rcases p with p | p
     .exact h.ml y x k H o p u
     .exact v (h.ll y x k H o p u)
  .exact ⟨.inr e,λu=>h.ne k e (.inr ⟨x,o,.inl u⟩),I,λu=>h.ne k e (.inr ⟨x,o,.inr u⟩)⟩
 .exact h.restE o J A
 .exact absurd (h.restE o J A) (hw.ne k (.inr e))
theorem gL.lone (h:gL E i w D B M) (o:x<(ax i).W) {a1:MAd} {m1:Mst} (hm:aU (D.oth (ax i).W E x) w' (D.b x) i x a1 m1) (hk:Keep (λk=>D.mu x k) w w') (J:∀k,Mut (D.b x) a1 k->D.mu x k\/w.heap.size<=k) (U:Fxd (D.a x) a1):
  Dr E i w D B x ⟨aY M.m x m1,aY (aY M.s x (M.s x)) x (M.s x)⟩ w':=by
 have L:=h.lo x o
 have out:∀k,Mut (D.b x) a1 k->¬D.li x k/\¬E k:=λk e=>by
  rcases J k e with e | e
  .exact ⟨h.ml x x k o o e,λu=>h.ne k u (.inr ⟨x,o,.inl e⟩)⟩
  .exact ⟨λu=>by have:=h.lt k (.inr ⟨x,o,.inr u⟩);omega,λu=>by have:=h.ex k u;omega⟩
 have T:aX w' B (D.l x) (D.g x) (M.s x):=(h.lnk x o).keep hk (λe=>h.ml x x _ o o e (.inl rfl)) (λj N e=>h.ml x x _ o o e (.inr N)) λj c N hb e=>by
  rcases (h.mach x o).i64 N e with e | e | e<;>omega
 refine h.did o o (C:=λk=>D.mu x k\/D.li x k) (H:=D.oth (ax i).W E x) (a1:=a1) (g1:=D.g x) (m1:=m1) (s1:=M.s x) (t1:=M.s x) (λk e=>e.imp id .inr) hm ?_ (hk.mono λk _ e=>.inl e) (λe=>absurd rfl e) T (λ_=>rfl) (λk e=>(J k e).imp .inl id) (λk e=>.inl (.inr e)) (λk e=>⟨(out k e).1,(out k e).1,(out k e).2⟩) (λe=>absurd rfl e)
  (λk e u=>h.ne k u (.inr ⟨x,o,.inr e⟩)) (by obtain ⟨R,V,Z⟩:=U;rw [R,V,Z];exact L.2)
 rintro k ⟨e,Y⟩;rcases e with (e | ⟨y,I,e⟩) | e
 .have Q:k=D.X:=e;subst Q;exact ⟨.inl (.inl rfl),(h.xm x o).1⟩
 .by_cases p:y=x
  .subst p;rcases e with e | e
   .exact absurd e Y
   .have O:aY D.g y (D.g y) y=D.g y:=bF _ _ _;unfold WAd.li WAd.upd at e;simp only [O] at e;exact ⟨.inl (.inr ⟨y,I,.inr e⟩),λv=>h.ml y y k I I v e⟩
  .have A:D.mu y k\/D.li y k:=by
    unfold WAd.mu WAd.li WAd.upd at e;simp only [bD _ _ p] at e;exact e
   refine ⟨.inl (.inr ⟨y,I,A⟩),λv=>?_⟩;rcases A with A | A
   .exact p (h.mm y x k I o A v)
   .exact h.ml x y k o I v A
 .exact ⟨.inr e,λv=>h.ne k e (.inr ⟨x,o,.inl v⟩)⟩
theorem JX (h:x<(ax i).W) (h1:(ax i).W<2):pvW (ax i).W x=x:=by
 unfold pvW;rw [show (ax i).W=1 by omega,Nat.mod_one];omega
theorem jx (h1:(ax i).W<2) {m:Mst} {y:Itm} {h:Acn} (p:(cC i x m.st)[m.nx]?=some y) (o:y.a=some h):False:=by
 have:=yJ (kE (dm p).2 o);omega
theorem gL.pick (h:gL E i w D B M) (hs:bK i) (o:x<(ax i).W) (hw:WOk i M) (p:(M.s x).msgs.length<100000000000) (v: -9223372036854775808<=i.cfg.rate/\i.cfg.rate<=9223372036854775807) (u: -9223372036854775808<=i.cfg.mom/\i.cfg.mom<=9223372036854775807) (I:Pk i M x M1 C):Vj 216 #[.pointer (some ⟨D.b x,0,none⟩),.pointer (some ⟨D.l (pvW (ax i).W x),0,none⟩),.pointer (some ⟨D.l x,0,none⟩)] w λe w'=>Vi e (Vd C)/\Dr E i w D B x M1 w':=by
 obtain ⟨m1,s1,t1,hr,rfl⟩:=I;rcases Qf (ax i).W 2 with h1 | A
 .rw [JX o h1] at hr |-
  cases hr with
  | fin hf=>
   refine (D7 (h.mach x o) hf _ _).mono ?_;rintro e w' ⟨he,k⟩;exact ⟨he,h.lone o ((h.below k).mach x o) (Keep.below k) (λk e=>.inl e) ⟨rfl,rfl,rfl⟩⟩
  | own y hy ha=>
   refine (Aq (h.mach x o) (λk e O=>O.2 e) h.oth_lt hs hy ((hw.mok x o).okAt hs hy ha) v u _ _).mono ?_;rintro e w' ⟨he,R,Q,h1, -, -,L,N,J,rfl⟩;exact ⟨he,h.lone o h1 (L.mono λk _ e=>e.elim id False.elim) N J⟩
  | send y ac hy ha=>exact (jx h1 hy ha).elim
  | full y ac hy ha=>exact (jx h1 hy ha).elim
  | recv y ac hy ha=>exact (jx h1 hy ha).elim
  | none y ac hy ha=>exact (jx h1 hy ha).elim
  | other y ac hy ha=>exact (jx h1 hy ha).elim
 .refine (MV (h.wld o A) hs (hw.mok x o) (hw.msgI o) p v u hr).mono ?_;rintro e w' ⟨he,H⟩;exact ⟨he,h.try o A H⟩
theorem gL.enabled (h:gL E i w D B M) (hs:bK i) (p:x<(ax i).W) (hw:WOk i M) (o:(M.s x).msgs.length<100000000000) (u:Pk i M x M1 C):Vj 217 #[.pointer (some ⟨D.b x,0,none⟩),.pointer (some ⟨D.l (pvW (ax i).W x),0,none⟩),.pointer (some ⟨D.l x,0,none⟩)] w λe w'=>Vi e (.bool (decide (C=0)))/\aq w w':=by
 obtain ⟨m1,s1,t1,hr,rfl⟩:=u;rcases Qf (ax i).W 2 with h1 | v
 .cases hr with
  | fin hf=>exact D6 (h.mach x p) hf _ _
  | own y hy ha=>
   have hk:=jp (dm hy).2 ha;exact D5 (h.mach x p) hy ap ap _ _
  | send y ac hy ha=>exact (jx h1 hy ha).elim
  | full y ac hy ha=>exact (jx h1 hy ha).elim
  | recv y ac hy ha=>exact (jx h1 hy ha).elim
  | none y ac hy ha=>exact (jx h1 hy ha).elim
  | other y ac hy ha=>exact (jx h1 hy ha).elim
 .exact MT (h.wld p v) hs (hw.mok x p) o hr
end
theorem EI {X z:Nat} {l D:Value} {cnt:Nat} {R:R8->Prop} (u:∀i,aq w i->Vj 47 #[(au X),Vd z] i λe h=>Vi e (.tuple #[.iface 97 ((au b)),l,D,.bool true])/\aq i h) (p:∀i,aq w i->Vj 216 #[(au b),l,D] i λe h=>Vi e (Vd C)/\Vg h X #[v0,v1,Vd cnt] 96/\R h) (hc:cnt<=1000000000) (J:C=0):Vj 15 #[(au X),Vd z] w λe i=>Vi e (.bool true)/\∃v,R v/\i=v.setCell (ar X 2) (QZ ((cnt+1:Nat):Int)):=by
 subst J;have ⟨x,A⟩:=ae u p;have hm:∀w:R8,(method 496 97 ((au b)) "Do").run prog w=.ok (216,(au b)) w:=λ_=>by kernel_rfl
 have H:=br w;clear u p;go_enter func15,ntmps15;go_wp2_with fail;refine (x.o _ H).mono ?_;rintro e v ⟨rfl,I⟩;go_wp2_with fail;refine (A.o _ I).mono ?_;rintro e N ⟨rfl,y,B⟩;have t:=bx3 y;have ⟨L,Q⟩:=ae B y;have O:IntKind.i64.wrap ((cnt:Int)+1)=(cnt:Int)+1:=P3 _ ap;clear y B;go_wp2;go_ret;exact ⟨rfl,_,L.o,by push_cast;rfl⟩
theorem IO {X z:Nat} {l A:Value} {R:R8->Prop} (u:∀h,aq w h->Vj 47 #[(au X),Vd z] h λe i=>Vi e (.tuple #[.iface 97 ((au b)),l,A,.bool true])/\aq h i) (p:∀h,aq w h->Vj 216 #[(au b),l,A] h λe i=>Vi e (Vd C)/\R i) (L:C≠0):Vj 15 #[(au X),Vd z] w λe h=>Vi e (.bool false)/\R h:=by
 have ⟨v,x⟩:=ae u p;have hm:∀w:R8,(method 496 97 ((au b)) "Do").run prog w=.ok (216,(au b)) w:=λ_=>by kernel_rfl
 have B:=br w;clear u p;go_enter func15,ntmps15;go_wp2_with fail;refine (v.o _ B).mono ?_;rintro e I ⟨rfl,D⟩;go_wp2_with fail;refine (x.o _ D).mono ?_;rintro e N ⟨rfl,y⟩;have H:=aa y;clear y;have J:¬(C:Int)=0:=ap;go_wp2;go_ret;exact ⟨rfl,H.o⟩
theorem EJ (i:∀h,aq w h->Vj 47 #[X,QZ z] h λe u=>Vi e (.tuple #[.nilIface,.pointer none,.pointer none,.bool false])/\aq h u):Vj 15 #[X,QZ z] w λe h=>Vi e (.bool false)/\aq w h:=by
 have p:=aa i;have x:=br w;clear i;go_enter func15,ntmps15;go_wp2_with fail;refine (p.o _ x).mono ?_;rintro e A ⟨rfl,y⟩;have v:=aa y;go_wp2;go_ret;exact ⟨rfl,v.o⟩
def mC {σ:Type} (st:σ->Int->σ×Bool) (s:σ) (l:Q_):σ×Nat:=l.foldl (λp z=>((st p.1 z).1,p.2+if (st p.1 z).2 then 1 else 0)) (s,0)
theorem qU {σ:Type} (st:σ->Int->σ×Bool) (s:σ) (l:Q_) (z:Int):mC st s (l++[z])=((st (mC st s l).1 z).1,(mC st s l).2+if (st (mC st s l).1 z).2 then 1 else 0):=by
 unfold mC;rw [List.foldl_append];rfl
theorem xV {σ:Type} (st:σ->Int->σ×Bool) (s:σ) (l:Q_):∀k,(mC st s (l.take k)).2<=k
 | 0=>by simp [mC]
 | k+1=>by
  have i:=xV st s l k;rw [List.take_add_one]
  cases h:l[k]? with
  | none=>simp;omega
  | some z=>
   rw [Option.toList_some,qU];dsimp only
   split<;>omega
theorem IN {σ:Type} {st:σ->Int->σ×Bool} {I:R8->σ->Prop} {c:Nat} {s:σ} (hl:l.length<=1000000) (hA:∀w s,I w s->Rd w A (aA .i64 l)) (R:∀w s z,I w s->z∈l->Vj 15 #[X,QZ z] w λe J=>Vi e (.bool (st s z).2)/\I J (st s z).1) (Q:I w s):Vj 19 #[X,.slice A l.length c] w λe J=>Vi e (QZ ((mC st s l).2:Nat))/\I J (mC st s l).1:=by
 have ⟨n,hn⟩:=Vb l.length;rw [hn] at hl |-;have ⟨HA,HP,V,T⟩:=ag hA R Q hn;clear hA R Q hn;go_enter func19,ntmps19;go_wp2
 go_loopw [5,10] (λv i wr=>∃k:Nat,k<=n/\i=QZ k/\v=QZ ((mC st s (l.take k)).2:Nat)/\I wr (mC st s (l.take k)).1) (λ_ i _=>n-(intOf i).toNat)
 .exact ⟨0,PZ _,rfl,rfl,V.o⟩
 case round=>
  obtain ⟨k,hk,rfl,rfl,u⟩:=hrel;by_cases H:k<n
  .have h:k<l.length:=by rw [T.o];exact H
   obtain ⟨b,o,rfl,p⟩:=(HA.o _ _ u).num h;have Z:(k:Int)<n:=ap;have N:=xV st s l k;have ⟨M,B⟩:=Vb (mC st s (l.take k))
   have y:mC st s (l.take (k+1))=((st M.1 (nth l k)).1,M.2+if (st M.1 (nth l k)).2 then 1 else 0):=by
    rw [List.take_add_one,Qv h,Option.toList_some,qU,B,dN _ _ h]
   rw [B] at u N |-;have hc:=HP.o _ _ (nth l k) u (by rw [dN _ _ h];exact List.getElem_mem h);have ⟨Y,C,HM⟩:=af hc y B;clear u hc y B h;have w1:IntKind.i64.wrap ((M.2:Int)+1)=(M.2:Int)+1:=P3 _ ap;go_wp2_with fail;refine Y.o.mono ?_;rintro e w5 ⟨rfl,x⟩;have D:=aa x;clear x p
   cases hb:(st M.1 (nth l k)).2 with
   | true=>
    have L:=aa hb;clear hb;go_wp2;go_roundw
    .exact ⟨k+1,ap,Vc,by rw [C.o,L.o];simp,by rw [C.o];exact D.o⟩
    .simp [intOf];omega
   | false=>
    have L:=aa hb;clear hb;go_wp2;go_roundw
    .exact ⟨k+1,ap,Vc,by rw [C.o,L.o];simp,by rw [C.o];exact D.o⟩
    .simp [intOf];omega
  .obtain rfl:k=n:=ap;have D:=aa u;clear u;have O:l.take k=l:=by rw [<-T.o,QF]
   have U:=aa O;clear O;go_wp2;go_ret;exact ⟨by rw [U.o];rfl,by rw [<-U.o];exact D.o⟩
structure fW (i:Inp) (M:WSt):Prop where
 ok:WOk i M
 wG:∀x,x<(ax i).W->W64 (M.m x).G
theorem CV (i:Inp) (P:Q_):∀(l:Rl) (G:Q_),W64 G->W64 (dh i P G l):=by
 intro l
 induction l with
 | nil=>intro G h;exact h
 | cons x l ih=>intro G h;exact ih _ (eZ λ_ _=>fD _)
theorem vJ (n:Nat):W64 (List.replicate n 0):=λk hk=>by
 rw [QA] at hk;simp [nth,hk]
theorem Kt (h:W64 m.G):W64 (gY i x m y).G:=by
 unfold gY
 split
 .exact CV i _ _ _ h
 .split
  .exact h
  .split
   .exact h
   .exact vJ _
theorem LO:(adv i x m).G=m.G:=by unfold adv;split<;>rfl
theorem jG.w64 (h:jG i x m s t m1 s1 t1 C) (hw:W64 m.G) (o:∀j,j<s.msgs.length->W64 (aO s.msgs j).vals):W64 m1.G:=by
 cases h with
 | fin=>exact hw
 | full=>exact hw
 | none=>exact hw
 | other=>exact hw
 | own=>rw [LO];exact Kt hw
 | send=>rw [LO];exact hw
 | recv y a _ _ _ hlt=>rw [LO];exact vd hw (o _ hlt)
theorem fW.zero (hs:bK i):fW i (lE i):=⟨WOk.zero i,λx _=>vJ _⟩
theorem fW.pick {M v:WSt} (h:fW i M) (hs:bK i) (u:x<(ax i).W) (p:Pk i M x v C):fW i v:=by
 have o:pvW (ax i).W x<(ax i).W:=lI ap;refine ⟨(p.ok h.ok hs u (h.wG x u)).1,λz y=>?_⟩;obtain ⟨m1,s1,t1,B,rfl⟩:=p
 show W64 (aY M.m x m1 z).G
 by_cases e:z=x
 .subst e;rw [bF];exact B.w64 (h.wG z y) λj A=>(h.ok.tg _ o j A).choose_spec.2.2.2
 .rw [bD _ _ e];exact h.wG z y
noncomputable def pkF (i:Inp) (M:WSt) (x:Nat):WSt×Bool:=open Classical in
 if h:∃p:WSt×Nat,Pk i M x p.1 p.2 then ((Classical.choose h).1,decide ((Classical.choose h).2=0)) else (M,false)
theorem pN {M:WSt} (h:fW i M) (hs:bK i) (v:x<(ax i).W):∃C,Pk i M x (pkF i M x).1 C/\(pkF i M x).2=decide (C=0):=by
 have ⟨y,C,u⟩:=h.ok.pick hs v;have o:∃p:WSt×Nat,Pk i M x p.1 p.2:=⟨(y,C),u⟩;unfold pkF;rw [dif_pos o];exact ⟨_,Classical.choose_spec o,rfl⟩
noncomputable def pkZ (i:Inp) (M:WSt) (z:Int):WSt×Bool:=if 0<=z/\z<((ax i).W:Int) then pkF i M z.toNat else (M,false)
noncomputable def lV (i:Inp) (M:WSt) (l:Q_):WSt×Nat:=l.foldl (λp z=>((pkZ i p.1 z).1,p.2+if (pkZ i p.1 z).2 then 1 else 0)) (M,0)
def WSt.sum (i:Inp) (M:WSt):Nat:=((List.range (ax i).W).map λx=>M.pos i x).sum
def vw (i:Inp):Nat:=((List.range (ax i).W).map λx=>(dA i x).length).sum
def WSt.fin (i:Inp) (M:WSt):Prop:=∀x,x<(ax i).W->M.pos i x=(dA i x).length
theorem Mj (p:x<W) (h1:g x=f x+1) (h:∀z,z≠x->g z=f z):((List.range W).map g).sum=((List.range W).map f).sum+1:=by
 induction W with
 | zero=>omega
 | succ W ih=>
  rw [QL,List.map_append,List.map_append,List.sum_append,List.sum_append];simp only [List.map_cons,List.map_nil,List.sum_cons,List.sum_nil,Nat.add_zero];by_cases e:x=W
  .subst e;rw [h1,List.map_congr_left (g:=f) (λz o=>h z (by have:=List.mem_range.1 o;omega))];omega
  .rw [ih ap,h W (λi=>e i.symm)];omega
theorem IH:∀{W:Nat},(∀x,x<W->f x<=g x)->((List.range W).map f).sum<=((List.range W).map g).sum
 | 0,_=>PV _
 | W+1,h=>by
  rw [QL,List.map_append,List.map_append,List.sum_append,List.sum_append];simp only [List.map_cons,List.map_nil,List.sum_cons,List.sum_nil,Nat.add_zero];have:=IH (W:=W) λx i=>h x ap;have:=h W ap;omega
theorem II:∀{W:Nat},(∀x,x<W->f x<=g x)->((List.range W).map f).sum=((List.range W).map g).sum->∀x,x<W->f x=g x
 | 0,_,_,x,o=>ap
 | W+1,h,e,x,o=>by
  rw [QL,List.map_append,List.map_append,List.sum_append,List.sum_append] at e;simp only [List.map_cons,List.map_nil,List.sum_cons,List.sum_nil,Nat.add_zero] at e;have h1:=IH (W:=W) λx o=>h x ap;have p:=h W ap;rcases Qf x W with hl | hl
  .exact II (W:=W) (λx o=>h x ap) ap x hl
  .obtain rfl:x=W:=ap;omega
section
variable {i:Inp} {M:WSt}
theorem fW.pos_le (h:fW i M) (hs:bK i) {x:Nat} (o:x<(ax i).W):M.pos i x<=(dA i x).length:=(h.ok.mok x o).done hs
theorem fW.sum_le (h:fW i M) (hs:bK i):M.sum i<=vw i:=IH λ_ o=>h.pos_le hs o
theorem fW.fin_iff (h:fW i M) (hs:bK i):M.fin i↔M.sum i=vw i:=by
 constructor
 .intro p;unfold WSt.sum vw
  congr 1
  exact List.map_congr_left λx o=>p x (List.mem_range.1 o)
 .intro he;exact II (λ_ o=>h.pos_le hs o) he
theorem Cy (h:fW i M) (hs:bK i) {x:Nat} (o:x<(ax i).W):fW i (pkF i M x).1/\((pkF i M x).2=true↔can i i.cfg.cap.toNat (M.pos i) x)/\((pkF i M x).2=true->(pkF i M x).1.pos i x=M.pos i x+1/\(∀z,z≠x->(pkF i M x).1.pos i z=M.pos i z)/\(pkF i M x).1.sum i=M.sum i+1)/\((pkF i M x).2=false->(pkF i M x).1=M):=by
 obtain ⟨C,p,hb⟩:=pN h hs o;obtain ⟨_,B,H,D⟩:=p.ok h.ok hs o (h.wG x o);refine ⟨h.pick hs o p,by rw [hb,<-D];simp,λA=>?_,λu=>H (by rw [hb] at u;simpa using u)⟩;obtain ⟨v,I,_⟩:=B (by rw [hb] at A;simpa using A);have y:∀z,z≠x->(pkF i M x).1.pos i z=M.pos i z:=λz J=>by unfold WSt.pos;rw [I z J]
 exact ⟨v,y,Mj o v y⟩
theorem JH (h:fW i M) (hs:bK i) (z:Int):fW i (pkZ i M z).1/\(pkZ i M z).1.sum i=M.sum i+(if (pkZ i M z).2 then 1 else 0)/\((pkZ i M z).2=false->(pkZ i M z).1=M):=by
 unfold pkZ
 split
 .next hz=>
  have ⟨h1,_,p,o⟩:=Cy h hs (x:=z.toNat) ap;refine ⟨h1,?_,o⟩
  cases hb:(pkF i M z.toNat).2 with
  | true=>rw [if_pos rfl];exact (p hb).2.2
  | false=>rw [o hb];simp
 .exact ⟨h,by simp,λ_=>rfl⟩
theorem wg (l:Q_) (z:Int):lV i M (l++[z])=((pkZ i (lV i M l).1 z).1,(lV i M l).2+if (pkZ i (lV i M l).1 z).2 then 1 else 0):=by
 unfold lV;rw [List.foldl_append];rfl
theorem DH (h:fW i M) (hs:bK i):∀l:Q_,fW i (lV i M l).1/\(lV i M l).1.sum i=M.sum i+(lV i M l).2:=by
 have o:∀l:Q_,fW i (lV i M l.reverse).1/\(lV i M l.reverse).1.sum i=M.sum i+(lV i M l.reverse).2:=by
  intro l
  induction l with
  | nil=>exact ⟨h,rfl⟩
  | cons z l ih=>
   rw [List.reverse_cons,wg];have ⟨h1,p,_⟩:=JH ih.1 hs z;refine ⟨h1,?_⟩
   show (pkZ i (lV i M l.reverse).1 z).1.sum i=_
   rw [p,ih.2];omega
 intro l;have:=o l.reverse
 rwa [List.reverse_reverse] at this
end
section
variable {i:Inp} {M:WSt}
end
theorem xK {p:Pln} (h:bU p):tp p<=810000:=by
 have h1:=Dz h (PV p.buks.length);have i:=h.W8;have v:=h.mi;have o:=h.buks;have u:p.W*(p.mi+2*p.buks.length+1)<=8*141:=Nat.mul_le_mul i ap;unfold tp;omega
theorem sK (o:bU (ax i)):vw i=tp (ax i)*i.cfg.steps.toNat:=by
 have h:vw i=bH (ax i).W λx=>bH i.cfg.steps.toNat λst=>(aE (ax i) x st).length:=by
  unfold vw bH dA
  congr 1
  refine List.map_congr_left λx _=>?_
  show (iW i x i.cfg.steps.toNat).length=_
  unfold iW;rw [List.length_flatMap]
 rw [h,iO,dY λst _=>Dw o st,ft,Nat.mul_comm]
def th (D:WAd) (n:Nat):R7:=(List.range n).map λy=>.iface 97 (.pointer (some ⟨D.b y,0,none⟩))
def yp (D:WAd) (n:Nat):R7:=(List.range n).map λy=>.pointer (some ⟨D.l y,0,none⟩)
theorem OJ (D:WAd) {y:Nat} (h:y<n):(th D n)[y]?=some (.iface 97 (.pointer (some ⟨D.b y,0,none⟩))):=by simp [th,h]
theorem Nz (D:WAd) {y:Nat} (h:y<n):(yp D n)[y]?=some (.pointer (some ⟨D.l y,0,none⟩)):=by simp [yp,h]
def WAd.hid (D:WAd) (n:Nat) (E:Nat->Prop) (k:Nat):Prop:=D.all n k\/E k
structure WAt (E:Nat->Prop) (i:Inp) (w:R8) (D:WAd) (B:Nat) (M:WSt):Prop where
 mem:gL E i w D B M
 al:fW i M
 rows:∃AW cw AL cl,w.heap[D.X]?=some (.cells #[.slice AW (ax i).W cw,.slice AL (ax i).W cl,QZ (M.sum i:Nat)] 96 (0,0))/\Rd (aH (D.hid (ax i).W E) w) AW (th D (ax i).W)/\Rd (aH (D.hid (ax i).W E) w) AL (yp D (ax i).W)
section
variable {E:Nat->Prop} {i:Inp} {w w':R8} {D:WAd} {B x:Nat} {M:WSt}
theorem WAt.more {o:Nat->Prop} (h:WAt E i w D B M) (hb:aq w w') (he:∀k,o k->k<w'.heap.size/\(E k\/w.heap.size<=k)):WAt o i w' D B M:=by
 obtain ⟨x,A,u,v,h1,y,C⟩:=h.rows;have p:Ext (aH (D.hid (ax i).W E) w) (aH (D.hid (ax i).W o) w'):=bC (Keep.below hb) λk hk e=>e.imp id λe=>(he k e).2.elim id λe=>absurd hk ap;exact ⟨h.mem.more hb he,h.al,x,A,u,v,(hb.block _ h.mem.xl).trans h1,aW y p,aW C p⟩
theorem WAt.below (h:WAt E i w D B M) (hb:aq w w'):WAt E i w' D B M:=h.more hb λk e=>⟨P6 (h.mem.ex k e) hb.size,.inl e⟩
theorem WAt.at (h:WAt E i w D B M) (hs:bK i) (o:x<(ax i).W):Vj 47 #[(au D.X),Vd x] w λe w'=>Vi e (.tuple #[.iface 97 (.pointer (some ⟨D.b x,0,none⟩)),.pointer (some ⟨D.l (pvW (ax i).W x),0,none⟩),.pointer (some ⟨D.l x,0,none⟩),.bool true])/\aq w w':=by
 obtain ⟨C,H,y,A,h1,u,v⟩:=h.rows;have p:=hs.ok.W8;exact NN h1 (aW u (dO _ _)) (aW v (dO _ _)) o ap rfl (OJ D o) (Nz D (lI ap)) (Nz D o)
theorem WAt.did (h:WAt E i w D B M) {I:WSt} (L:Dr E i w D B x I w'):∃o,o.X=D.X/\gL E i w' o B I/\Keep (λk=>D.all (ax i).W k/\k≠D.X) w w'/\(∀k,o.all (ax i).W k->D.all (ax i).W k\/(Ve w)<=k)/\
  ∃u A p v,Vg w' D.X #[.slice u (ax i).W A,.slice p (ax i).W v,Vd (M.sum i)] 96/\Rd (aH (o.hid (ax i).W E) w') u (th o (ax i).W)/\Rd (aH (o.hid (ax i).W E) w') p (yp o (ax i).W):=by
 obtain ⟨a1,g1,h1,y,C⟩:=L;obtain ⟨u,A,p,v,J,N,O⟩:=h.rows;have H:Ext (aH (D.hid (ax i).W E) w) (aH ((D.upd x a1 g1).hid (ax i).W E) w'):=bC (y.mono λk _ e=>.inl e.1) λk hk e=>e.imp (λe=>(C k e).elim id λe=>absurd hk ap) id;exact ⟨D.upd x a1 g1,rfl,h1,y,C,u,A,p,v,(y.block _ h.mem.xl λe=>e.2 rfl).trans J,aW N H,aW O H⟩
theorem WAt.sum_le (h:WAt E i w D B M) (hs:bK i):M.sum i<=1000000000:=by
 have h1:=h.al.sum_le hs;have p:=sK hs.ok;have o:=xK hs.ok;have u:=hs.s;have v:tp (ax i)*i.cfg.steps.toNat<=810000*6:=Nat.mul_le_mul o ap;omega
theorem Nx (i:Inp) (x p:Nat):sN i x p<=p:=by
 unfold sN ie cF;rw [List.length_map];refine P4 (List.length_filter_le _ _) (P4 (List.length_filterMap_le _ _) ?_);rw [Qy];omega
theorem Ea (f:Nat->Nat):∀{n x:Nat},x<n->f x<=((List.range n).map f).sum
 | 0,_,h=>ap
 | n+1,x,h=>by
  rw [QL,List.map_append,List.sum_append];simp only [List.map_cons,List.map_nil,List.sum_cons,List.sum_nil,Nat.add_zero];by_cases e:x=n
  .subst e;omega
  .have:=Ea f (n:=n) (x:=x) ap;omega
theorem DT (h:x<(ax i).W):M.pos i x<=M.sum i:=Ea _ h
def Pj (E:Nat->Prop) (i:Inp) (w:R8) (D:WAd) (B:Nat) (o:WSt) (w':R8):Prop:=∃h,h.X=D.X/\WAt E i w' h B o/\Keep (λk=>D.all (ax i).W k) w w'/\∀k,h.all (ax i).W k->D.all (ax i).W k\/w.heap.size<=k
theorem Ew (h:WAt E i w D B M) (hs:bK i) (Y: -9223372036854775808<=i.cfg.rate/\i.cfg.rate<=9223372036854775807) (a0: -9223372036854775808<=i.cfg.mom/\i.cfg.mom<=9223372036854775807) (z:Int):Vj 15 #[(au D.X),QZ z] w λe w'=>Vi e (.bool (pkZ i M z).2)/\Pj E i w D B (pkZ i M z).1 w':=by
 by_cases hz:0<=z/\z<((ax i).W:Int)
 .obtain ⟨x,rfl⟩:∃x:Nat,z=x:=⟨z.toNat,ap⟩;have y:x<(ax i).W:=ap;have e1:pkZ i M x=pkF i M x:=by unfold pkZ;rw [if_pos hz,Int.toNat_natCast]
  rw [e1];have ⟨C,hp,hb⟩:=pN h.al hs y;obtain ⟨hA, -,O,U⟩:=Cy h.al hs y
  have v:(M.s x).msgs.length<100000000000:=by
   have h1:=h.al.ok.sn x y;have h2:=h.al.pos_le hs y;have h3:sN i x (M.pos i x)<=M.pos i x:=Nx i x _;have h4:M.pos i x<=M.sum i:=DT y;have h5:=h.sum_le hs;omega
  have L:=λw' (q:aq w w')=>(h.below q).at hs y;have I:=λw' (q:aq w w')=>(h.below q).mem.pick hs y h.al.ok v Y a0 hp;by_cases T:C=0
  .have ht:(pkF i M x).2=true:=by rw [hb];simp [T]
   rw [ht];obtain ⟨-, -,J⟩:=O ht;have Z:=h.sum_le hs;obtain ⟨AW,cw,AL,cl,k1,k2,k3⟩:=h.rows;refine (EI (X:=D.X) (v0:=.slice AW (ax i).W cw) (v1:=.slice AL (ax i).W cl) L (R:=λp=>∃o,aq w o/\Dr E i o D B x (pkF i M x).1 p) (λo q=>(I o q).mono λe p A=>⟨A.1,?_,o,q,A.2⟩) Z T).mono ?_
   .obtain ⟨a1,g1, -,Q, -⟩:=A.2;exact (Q.block _ (P6 h.mem.xl q.size) λe=>e.2 rfl).trans (sb k1 o q)
   .rintro e w3 ⟨he,p,⟨o,q,V⟩,rfl⟩;have ⟨N,u,Q,f3,f4,BW,dw,BL,dl,g1,g2,g3⟩:=(h.below q).did V;have hk:Keep (λk=>k=D.X) p (p.setCell (ar D.X 2) (QZ ((M.sum i+1:Nat):Int))):=Vk D.X (Keep.refl _ _) _ (.inr rfl) _;have H:Ext (aH (N.hid (ax i).W E) p) (aH (N.hid (ax i).W E) (p.setCell (ar D.X 2) (QZ ((M.sum i+1:Nat):Int)))):=bC (hk.mono λk _ e=>.inl (.inl (e.trans u.symm))) λk _ e=>e;refine ⟨he,N,u,⟨Q.keepQ hk (λk e=>.inl (e.trans u.symm)) (λj c hj _ e=>nJ hj g1 V0 e),hA,BW,dw,BL,dl,?_,aW g2 H,aW g3 H⟩,?_,λk e=>(f4 k e).imp id λe=>P4 q.size e⟩
    .rw [u,J];exact ss g1
    .refine (Keep.below q).trans ((f3.mono λk _ e=>e.1).trans (hk.mono λk _ e=>.inl e))
  .have hf:(pkF i M x).2=false:=by rw [hb];simp [T]
   rw [hf];refine (IO L (λw' q=>(I w' q).mono λe p A=>⟨A.1,(⟨w',q,A.2⟩:∃o,aq w o/\Dr E i o D B x (pkF i M x).1 p)⟩) T).mono ?_;rintro e p ⟨he,o,q,V⟩;have ⟨N,u,Q,f3,f4,f5⟩:=(h.below q).did V;exact ⟨he,N,u,⟨Q,hA,by rw [U hf,u];exact f5⟩,(Keep.below q).trans (f3.mono λk _ e=>e.1),λk e=>(f4 k e).imp id λe=>P4 q.size e⟩
 .have e1:pkZ i M z=(M,false):=by unfold pkZ;rw [if_neg hz]
  rw [e1];obtain ⟨AW,cw,AL,cl,h1, -, -⟩:=h.rows;refine (EJ λw' q=>Mr (sb h1 w' q) ap).mono ?_;rintro e p ⟨he,q⟩;exact ⟨he,D,rfl,h.below q,Keep.below q,λk e=>.inl e⟩
end
theorem CO {base l c:Nat} (hc:1<=c) (h:c<=1048576) (hb:aD w l (Ra) c 0 0 0):aX w base l none (LSt.new c):=
 ⟨⟨hc,h,PV _,by simp [LSt.new],PZ _,by simp [LSt.new],by simp [LSt.new]⟩,Ra,[],hb,by simpa [LSt.new] using Qb _ _ _ _,rfl,by simp [LSt.new],by simp,by simp [LSt.new]⟩
def WMk (i:Inp) (X:Nat) (bs h:List Nat) (rb:Nat->Prop) (w:R8):Prop:=∃b l a s t,bs=(List.range bs.length).map b/\h=(List.range bs.length).map l/\iM i w (X+1) b l a s t bs.length/\X<w.heap.size/\
 ∀j,rb j->X<j/\j<w.heap.size/\∀y,y<bs.length->(j<s y\/t y<=j)/\j≠l y
theorem At (b:Nat->Nat) (k v:Nat):(List.range (k+1)).map (aY b k v)=(List.range k).map b++[v]:=by
 rw [QL,List.map_append]
 congr 1
 .exact List.map_congr_left λx h=>bD _ _ (by have:=List.mem_range.1 h;omega)
 .simp [bF]
theorem WMk.next {X D l1:Nat} {T:List Nat} {u:Nat->Prop} {I O:R8} (h:WMk i X bs T rb w) (hk:bs.length=k) (v:i.cfg.cap.toNat=cap) (hc:1<=cap/\cap<=1048576) (U:aq w I) (L:∀j,Mut D a1 j->w.heap.size<=j) (hm:∀(H:Nat->Prop) w'',Keep (λk=>k<w.heap.size) I w''->(∀k,H k->k<w.heap.size)->aU H w'' D i k a1 (fm i)) (hs:LY X cap rb u l1 I O):WMk i X (bs++[D]) (T++[l1]) u O:=by
 obtain ⟨b,l,a,s,t,h1,R,A,Z,p⟩:=h;rw [hk] at h1 R A p;have V:=U.size;have x:=A.below U;have Q:∀j,(j=X\/rb j)->j<w.heap.size:=λj e=>e.elim (λe=>ap) λe=>(p j e).2.1
 have J:iM i O (X+1) b l a s t k:=x.keep hs.hk λj _ e=>by
  refine ⟨λy N=>?_,λc=>hs.hty j c e⟩;rcases e with rfl | e
  .have:=A.chain y N;omega
  .exact (p j e).2.2 y N
 have Y:=A.more (l1:=l1) ap L hm x J V (hs.hk.mono λj _ e=>.inl (Q j e)) hs.hl.1 hs.hl.2 (λB=>by
  rw [v];exact CO hc.1 hc.2 hs.hb)
 have o:(bs++[D]).length=k+1:=by simp [hk]
 refine ⟨_,_,_,_,_,?_,?_,by rw [o];exact Y,by have:=hs.hk.size;omega,λj e=>?_⟩
 .rw [o,At,<-h1]
 .rw [o,At,<-R]
 .rw [o];refine ⟨(hs.hrb j e).elim (λe=>(p j e).1) λe=>ap,hs.hrl j e,λy N=>?_⟩;by_cases C:y=k
  .subst C;simp only [bF];rcases hs.hrb j e with e | e
   .have:=(p j e).2.1;have:=hs.hl.1;omega
   .omega
  .simp only [bD _ _ C];rcases hs.hrb j e with e | e
   .exact (p j e).2.2 y ap
   .have:=A.chain y ap;omega
theorem yT (i:Inp):(lE i).sum i=0:=by
 unfold WSt.sum;have:∀x,(lE i).pos i x=0:=λx=>by simp [WSt.pos,lE,bq,fm]
 rw [List.map_congr_left (g:=λ_=>0) λx _=>this x]
 induction (List.range (ax i).W) with
 | nil=>rfl
 | cons _ l ih=>simpa using ih
def Dq (E:Nat->Prop) (i:Inp) (w:R8) (e:Ending) (h:R8):Prop:=∃D B,e=.returned (.tuple #[(au D.X),QZ 0])/\WAt E i h D B (lE i)/\aq w h/\∀j,D.all (ax i).W j->w.heap.size<=j
theorem vQ (A:N_) (c:Nat) (D:N_) (N:Nat) (T:N_) (ct:Nat) (R:N_) (L:Nat) (i:Inp) (w:R8) (h:gM w A c D T ct R i) (hs:bK i) (hE:∀j,E j->j<w.heap.size):Vj 13 #[.agg (aL A c D N T ct R L i)] w (Dq E i w):=by
 obtain ⟨W1,u⟩:=Vb (w.alloc (.cells (aL A c D N T ct R L i) 29));have U:aq w W1:=by rw [<-u];exact (br w).alloc (PV _) _
 have ab:W1.heap.size=w.heap.size+1:=by rw [<-u];simp
 have hg:=hs.g.c;have a8:=hg.w;have a6:=hg.ca;have ew:((ax i).W:Int)=i.cfg.workers:=by simp only [ax];omega
 have ec:((i.cfg.cap.toNat:Nat):Int)=i.cfg.cap:=ap;have ao:=hs.ok.W8;have hI:=λo (q:aq W1 o)=>(h.below U).below q;have I:=λo (q:aq W1 o)=>xc A c D N T ct R L i o (hI o q);have V:=λ(x:Nat) o (q:aq W1 o) (hx:x<(ax i).W)=>Gn A c D N T ct R L i x o (hI o q) hs hx;have hv:aL A c D N T ct R L i=#[.slice A i.cfg.sizes.length c,QZ i.cfg.shift,QZ i.cfg.rate,QZ i.cfg.mom,QZ ((ax i).W:Nat),QZ i.cfg.batch,QZ i.cfg.micros,QZ i.cfg.steps,QZ i.cfg.bucket,QZ i.cfg.chunk,QZ i.cfg.window,Vd i.cfg.cap.toNat,.slice D i.data.length N,.slice T i.start.length ct,.slice R i.draws.length L]:=by unfold Vd;rw [ew,ec]
 rw [oE.2 hs.g] at I;rw [hv] at I V u |-;refine (IP (J:=λX bs ls rb o=>WMk i X bs ls rb o) u ap ap I (λo=>MX _ o ap) (λX o _ hX _=>⟨λ_=>0,λ_=>0,λ_=>⟨0,none,0,0,0,none,0,0,0,0,0,0,0,0,0,none,0,Ra⟩,λ_=>0,λ_=>0,rfl,rfl,iM.zero,hX,λj e=>e.elim⟩) (λX k bs ls rb o hk a4 hX q a0 a5 hJ=>?_)).mono ?_
 .refine (V k o q hk).mono ?_;rintro e w1 ⟨b,a,rfl,Z,a3,hm⟩;exact ⟨b,rfl,Z,λl1 a9 w2 a1=>hJ.next a0 rfl ap Z a3 hm a1⟩
 .rintro e o ⟨X,bs,ls,AW,AL,cw,cl,rfl,m⟩;obtain ⟨b,l,a,s,t,h1,h2,O,h4,h5⟩:=m.j;rw [m.hb] at h1 h2 O h5;have hq:=m.q.size;have a4:=m.lo;have Y:gL E i o ⟨X,b,l,a,λ_=>none⟩ o.heap.size (lE i):=O.mem (Nat.lt_succ_self X) h4 (λj e=>by have:=hE j e;omega) ap
  have H:∀{e:R9} {v:Value} {xs:R7},o.ownsRow (X+1) e 1 v (ax i).W xs->(∀j,v.ownBlock=some j->m8 (.slice AW (ax i).W cw) (.slice AL (ax i).W cl) j)->∀A n c',v=.slice A n c'->n=(ax i).W->Rd (aH ((⟨X,b,l,a,λ_=>none⟩:WAd).hid (ax i).W E) o) A xs:=by
   rintro e v xs ho hv A n c' rfl rfl;refine mL (Rd.own ho) λy p C=>?_
   have a7:X+1<=y.block:=by
    rcases ho.2 with ⟨B,_⟩ | ⟨g,_,_,B,_⟩
    .injection B with e1;rw [e1] at p;cases p
    .have Q:=(ho.lt g (by rw [B];simp [Value.ownBlock])).1;injection B with e1;rw [e1] at p;cases p;exact Q
   have a2:m8 (.slice AW (ax i).W cw) (.slice AL (ax i).W cl) y.block:=by
    rcases ho.2 with ⟨B,_⟩ | ⟨g,_,_,B,_⟩
    .injection B with e1;rw [e1] at p;cases p
    .have Q:=hv g (by rw [B];simp [Value.ownBlock]);injection B with e1;rw [e1] at p;cases p;exact Q
   have Q:=h5 _ a2;rcases C with (C | ⟨z,hz,C | C⟩) | C
   .have ad:y.block=X:=C;omega
   .have:=O.win z hz _ C;have:=(Q.2.2 z hz).1;omega
   .exact (Q.2.2 z hz).2 (lp C)
   .have:=hE _ C;omega
  refine ⟨⟨X,b,l,a,λ_=>none⟩,o.heap.size,rfl,⟨Y,fW.zero hs,AW,cw,AL,cl,?_,?_,?_⟩,U.trans (m.q.mono ap),?_⟩
  .have:=m.box;rw [yT];exact this
  .have:=H m.oW (λj e=>.inl e) AW _ cw rfl rfl;rw [h1,List.map_map] at this;exact this
  .have:=H m.oL (λj e=>.inr e) AL _ cl rfl rfl;rw [h2,List.map_map] at this;exact this
  .rintro j (e | ⟨y,p,e | e⟩)
   .have hj:j=X:=e;omega
   .have:=O.win y p j e;have:=O.chain y p;omega
   .have hj:j=l y:=lp e;have:=O.chain y p;omega
theorem zh:dg prog 152 12:=⟨⟨_,underlying152,rfl⟩,by kernel_rfl⟩
theorem EW (w:R8):Vj 32 #[.pointer none] w λe h=>Vi e (.bool true)/\aq w h:=by
 go_enter func32,ntmps32;have i:=br w;go_wp2;go_ret;exact ⟨rfl,i⟩
theorem BS {X:Nat} {cnt:Nat} (hb:Vg w X #[v0,v1,Vd cnt] 96):Vj 27 #[(au X)] w λe h=>Vi e (Vd cnt)/\aq w h:=by
 have t:=bx3 hb;have i:=br w;clear hb;go_enter func27,ntmps27;go_wp2;go_ret;exact ⟨rfl,i⟩
theorem EU {X:Nat} {ok:Nat->Bool} (hb:Vg w X #[.slice Z n cw,v1,v2] 96) (U:Rd w Z (bs.map λb=>.iface 97 ((au b)))) (hn:bs.length=n) (a1:n<=1000) (hB:B=true↔∀k,k<n->ok k=false) (hx:∀k b u,bs[k]?=some b->aq w u->Vj 218 #[(au b)] u λe Q=>∃H:R6,Vi e (.tuple #[.agg H,.bool (ok k)])/\(H.size=12/\H.toList.all (·.oneCell')=true)/\aq u Q):Vj 32 #[(au X)] w λe u=>Vi e (.bool B)/\aq w u:=by
 have t:=λu q=>bx3 (sb hb u q);have hm:∀(b:Nat) (w:R8),(method 496 97 ((au b)) "Next").run prog w=.ok (218,(au b)) w:=λ_ _=>by kernel_rfl
 have ⟨HW,HX,V,Hn,HM⟩:=ah U hx hB hn hm;have q0:=br w;clear hb U hx hB hn hm;go_enter func32,ntmps32;go_wp2
 go_loopw [14] (λv wr=>∃k:Nat,k<=n/\v=QZ k/\(∀j,j<k->ok j=false)/\aq w wr) (λv _=>n-(intOf v).toNat)
 .exact ⟨0,PZ _,rfl,λj hj=>absurd hj (Nat.not_lt_zero j),q0⟩
 case round=>
  obtain ⟨k,hk,rfl,p,q⟩:=hrel;have HA:=aa p;clear p;by_cases y:k<n
  .have a0:(k:Int)<n:=ap;obtain ⟨b,x⟩:∃b,bs[k]?=some b:=⟨_,Qv (by rw [Hn.o];exact y)⟩;have hr:=HW.o k (.iface 97 ((au b))) (by rw [List.getElem?_map,x];rfl);obtain ⟨b1,o1,rfl,c1⟩:=hr;have c2:=(World.cell?_of_block (q.block b1 (aB c1))).trans c1;have Y:=HX.o k b wr x q;have ⟨CX,D⟩:=ae Y q;have L:=HM.o b;clear Y x c1;have tq:=t wr q;clear t;go_wp2_with fail;refine CX.o.mono ?_;rintro e w1 ⟨H,rfl,⟨C,i⟩,T⟩;have ⟨I,HO,h⟩:=af C i (D.o.trans (T.mono D.o.size));clear C i T q tq c2 L
   cases hok:ok k with
   | true=>
    have O:=aa hok;clear hok;go_wp2_with (refine aI (PW _ _) zh rfl rfl rfl rfl I.o (by rw [I.o];rfl) HO.o ?_;intro w3 R A;have J:=aa A;clear R A);go_ret
    have N:B=false:=by
     cases hBB:B with
     | false=>rfl
     | true=>have:=V.o.1 hBB k y;rw [O.o] at this;cases this
    refine ⟨by rw [N];rfl,?_⟩;exact (h.o.alloc h.o.size _).trans (J.o.toBelow (by rw [Qg];have:=h.o.size;omega) (λj e=>by have:=h.o.size;omega))
   | false=>
    have O:=aa hok;clear hok;go_wp2_with (refine aI (PW _ _) zh rfl rfl rfl rfl I.o (by rw [I.o];rfl) HO.o ?_;intro w3 R A;have J:=aa ((h.o.alloc h.o.size _).trans (A.toBelow (by rw [Qg];have:=h.o.size;omega) (λj e=>by have:=h.o.size;omega)));clear R A);go_roundw
    case rel=>
     refine ⟨k+1,ap,Vc,λj hj=>?_,J.o⟩;rcases Qf j k with h1 | h1
     .exact HA.o j h1
     .obtain rfl:j=k:=ap;exact O.o
    case measure=>exact Va
  .obtain rfl:k=n:=ap;have D:=aa q;clear t q;go_wp2;go_ret;exact ⟨by rw [V.o.2 HA.o];rfl,D.o⟩
structure WIn (E:Nat->Prop) (i:Inp) (V:R8) (X:Nat) (M:WSt) (w:R8):Prop where
 ex:∃D B,D.X=X/\WAt E i w D B M/\∀j,D.all (ax i).W j->V.heap.size<=j
 q:aq V w
section
variable {E:Nat->Prop} {i:Inp} {V w w':R8} {X:Nat} {M:WSt}
theorem WIn.below (h:WIn E i V X M w) (hb:aq w w'):WIn E i V X M w':=by
 obtain ⟨⟨D,B,h1,o,u⟩,p⟩:=h;exact ⟨⟨D,B,h1,o.below hb,u⟩,bt p hb⟩
theorem WIn.al (h:WIn E i V X M w):fW i M:=by
 obtain ⟨⟨D,B,h1,o,u⟩,p⟩:=h;exact o.al
theorem Dq.win {e:Ending} (h:Dq E i w e w'):∃X,Vi e (.tuple #[(au X),QZ 0])/\WIn E i w X (lE i) w'/\w.heap.size<=X/\aq w w':=by
 obtain ⟨D,B,h1,u,p,o⟩:=h;exact ⟨D.X,h1,⟨⟨D,B,rfl,u,o⟩,p⟩,o _ (.inl rfl),p⟩
theorem WIn.done (h:WIn E i V X M w) (hs:bK i) {Bo:Bool} (hB:Bo=true↔M.fin i):Vj 32 #[(au X)] w λe w'=>Vi e (.bool Bo)/\aq w w':=by
 obtain ⟨⟨D,B,rfl,v,Y⟩,T⟩:=h;obtain ⟨U,Z,Q,cl,I,L,R⟩:=v.rows;have N:=hs.ok.W8;have O:((List.range (ax i).W).map D.b).map (λb=>Value.iface 97 ((au b)))=th D (ax i).W:=by rw [List.map_map];rfl
 refine EU (ok:=λx=>decide (M.pos i x<(dA i x).length)) (bs:=(List.range (ax i).W).map D.b) I (by rw [O];exact aW L (dO _ _)) V3 ap ?_ λx b w' hb q=>?_
 .rw [hB];constructor
  .intro C x p;have:=C x p;simp [this]
  .intro C x p;have J:=C x p;have h6:=v.al.pos_le hs p;simp only [QU] at J;omega
 .have p:x<(ax i).W:=by
   have:=(Qu.1 hb).1;simpa using this
  have A:b=D.b x:=by
   rw [List.getElem?_map,List.getElem?_range p] at hb;simpa using hb.symm
  subst A;have hm:=(v.below q).mem.mach x p;have u:=v.al.ok.mok x p
  cases hy:(cC i x (M.m x).st)[(M.m x).nx]? with
  | none=>
   refine (yn hm (List.getElem?_eq_none_iff.1 hy)).mono ?_;rintro e H ⟨rfl,k⟩;have o:=u.cur hs;rw [hy] at o;have:=List.getElem?_eq_none_iff.1 o.symm;exact ⟨_,by rw [show decide (M.pos i x<(dA i x).length)=false from QT (by unfold WSt.pos;omega)],⟨rfl,by decide⟩,k⟩
  | some y=>
   refine (jQ hm hy).mono ?_;rintro e H ⟨rfl,k⟩;have o:=u.cur hs;rw [hy] at o;have:=(Qu.1 o.symm).1;exact ⟨_,by rw [show decide (M.pos i x<(dA i x).length)=true from QS this],⟨by simp [jz],by rw [List.all_eq_true];exact mU y⟩,k⟩
end
theorem WIn.cnt {X:Nat} {M:WSt} (h:WIn E i V X M w):Vj 27 #[(au X)] w λe p=>Vi e (Vd (M.sum i))/\aq w p:=by
 obtain ⟨⟨D,B,rfl,u,I⟩,H⟩:=h;obtain ⟨A,J,v,x,o,y,C⟩:=u.rows;exact BS o
def dZ (mv:Nat->R6) (n:Nat):R7:=((List.range n).map λx=>(mv x).toList).flatten
theorem mJ (mv:Nat->R6) (n:Nat):dZ mv (n+1)=dZ mv n++(mv n).toList:=by simp [dZ,QL]
theorem zk (h:∀x,x<n->mv x=mv' x):dZ mv n=dZ mv' n:=by
 unfold dZ
 congr 1
 exact List.map_congr_left λx i=>by rw [h x (List.mem_range.1 i)]
section
variable {mv:Nat->R6} {n k x:Nat}
theorem lW (h:∀x,x<n->(mv x).size=k):(dZ mv n).length=n*k:=by
 induction n with
 | zero=>simp [dZ]
 | succ n ih=>rw [mJ,Qt,ih (λx i=>h x ap),Array.length_toList,h n ap,QM]
theorem qu (h:∀x,x<n->(mv x).size=k) (i:x<n) {f:Nat} (o:f<k):(dZ mv n)[x*k+f]?=(mv x)[f]?:=by
 induction n with
 | zero=>omega
 | succ n ih=>
  have hl:=lW (n:=n) (λx i=>h x ap);rw [mJ];by_cases e:x=n
  .subst e;rw [Qx ap,hl,Nat.add_sub_cancel_left,Array.getElem?_toList]
  .have:x*k+k<=n*k:=by rw [<-QM];exact QY k ap
   rw [Qw ap];exact ih (λx i=>h x ap) ap
theorem wl (h:∀x,x<n->(mv x).toList.all (·.oneCell')=true):∀u∈dZ mv n,u.oneCell'=true:=by
 intro u i;simp only [dZ,List.mem_flatten,List.mem_map,List.mem_range] at i;obtain ⟨l,⟨x,o,rfl⟩,i⟩:=i;exact List.all_eq_true.1 (h x o) u i
theorem ig {w:R8} {A:N_} (hr:Rd w A (dZ mv n)) (h:∀x,x<n->(mv x).size=k) (hk:0<k) (i:x<n):∃b o,A=some (ar b o)/\w.rangeAt b (o+x*k) (mv x).toList:=by
 have y:=qu h i hk;rw [Nat.add_zero] at y;obtain ⟨v,C⟩:∃v,(mv x)[0]?=some v:=⟨_,Array.getElem?_eq_getElem (by rw [h x i];exact hk)⟩;obtain ⟨b,o,rfl,_⟩:=hr _ _ (y.trans C);refine ⟨b,o,rfl,λj u p=>?_⟩;have B:j<k:=by have:=(Qu.1 p).1;rw [Array.length_toList,h x i] at this;exact this
 have ⟨D,H,e,hc⟩:=hr (x*k+j) u (by rw [qu h i B,<-Array.getElem?_toList];exact p);injection e with e;injection e with e1 e2 _
 subst e1;subst e2;rw [QO];exact hc
end
def EQ:R7->Nat->R7->R7
 | xs,_,[]=>xs
 | xs,o,v::r=>EQ (xs.set o v) (o+1) r
theorem DC:∀(ys xs:R7) (o j:Nat),o+ys.length<=xs.length->(EQ xs o ys)[j]?=if o<=j/\j<o+ys.length then ys[j-o]? else xs[j]?
 | [],xs,o,j,_=>by rw [if_neg (by simp [List.length_nil];try omega)];rfl
 | v::r,xs,o,j,h=>by
  rw [List.length_cons] at h;rw [EQ,DC r (xs.set o v) (o+1) j (by rw [List.length_set];omega),List.length_cons];by_cases h1:j=o
  .subst h1;rw [if_neg ap,if_pos ap,Nat.sub_self,List.getElem?_set_self ap];rfl
  .by_cases i:o+1<=j/\j<o+1+r.length
   .rw [if_pos i,if_pos ap,show j-o=(j-(o+1))+1 by omega,Qo]
   .rw [if_neg i,if_neg ap,List.getElem?_set_ne ap]
theorem Fg (h:∀x,x<n->(mv x).size=k) (i:∀x,x<n->(mv' x).size=k) (B:x<n) (hm:∀y,y≠x->mv' y=mv y):EQ (dZ mv n) (x*k) (mv' x).toList=dZ mv' n:=by
 have hl:=lW h;have v:=lW i;have A:x*k+k<=n*k:=by rw [<-QM];exact QY k ap
 have o:(mv' x).toList.length=k:=by rw [Array.length_toList,i x B]
 refine List.ext_getElem? λj=>?_;rw [DC _ _ _ _ ap,o];by_cases C:j<n*k
 .by_cases hk:k=0
  .subst hk;omega
  obtain ⟨y,f,rfl,p⟩:∃y f,j=y*k+f/\f<k:=⟨j/k,j%k,by rw [Nat.mul_comm,Nat.div_add_mod],Nat.mod_lt _ ap⟩
  have u:y<n:=by
   refine Classical.byContradiction λhc=>?_;have:=QY k (show n<=y by omega);omega
  rw [qu i u p];by_cases e:y=x
  .subst e;rw [if_pos ap,Nat.add_sub_cancel_left,Array.getElem?_toList]
  .rw [if_neg ?_,qu h u p,hm y e];rintro ⟨h1,D⟩;rcases Nat.lt_or_gt_of_ne e with e | e
   .have:=QY k (show y+1<=x by omega);rw [QM] at this;omega
   .have:=QY k (show x+1<=y by omega);rw [QM] at this;omega
 .rw [if_neg ap,List.getElem?_eq_none ap,List.getElem?_eq_none ap]
theorem qA:∀(ys:R7) {w:R8} {base g c n o:Nat} {e:R9} {size:Nat} {xs:R7},w.ownsRow base e size (Vf g 0 n c) n xs->(w.setCells g o ys).ownsRow base e size (Vf g 0 n c) n (EQ xs o ys)
 | [],_,_,_,_,_,_,_,_,_,h=>h
 | v::r,w,base,g,c,n,o,e,size,xs,h=>qA r (h.stored o v).1
theorem iZ:∀(ys:R7) (w:R8) (g o:Nat),Keep (λj=>j=g) w (w.setCells g o ys)
 | [],w,_,_=>Keep.refl _ w
 | v::r,w,g,o=>(Vk g (Keep.refl _ w) (ar g o) (.inr rfl) v).trans (iZ r _ g (o+1))
theorem ot {base g c:Nat} (h:w.ownsRow base e size (Vf g 0 n c) n xs) (B:x<n):w.there g (x*size) size:=λj v=>by
 rcases h.2 with ⟨p,_⟩ | ⟨C,cap,i,p,hb,hg,h1,y,u,A⟩
 .cases p
 .injection p with e1;injection e1 with e1;injection e1 with e1 _ _
  subst e1
  have o:x*size+j<i.size:=by
   rw [u];have:=QY size (show x+1<=cap by omega);rw [QM] at this;omega
  exact ⟨by rw [PX w g _ _ _ _ hg,Array.getElem?_eq_getElem o];rfl,P8 w g _ _ _ hg⟩
theorem bW:dg prog 39 3:=⟨⟨_,underlying39,rfl⟩,by kernel_rfl⟩
theorem jv:dg prog 106 22:=⟨⟨_,underlying106,rfl⟩,by kernel_rfl⟩
theorem gS:dg prog 75 4:=⟨⟨_,underlying75,rfl⟩,by kernel_rfl⟩
structure RWv (u:R8) (vs:R6) (n:Nat) (mv lv:Nat->R6) (cnt:Nat):Prop where
 ex:∃AM cm AL cl,vs=#[.slice AM n cm,.slice AL n cl,QZ (cnt:Nat)]/\Rd u AM (dZ mv n)/\Rd u AL (dZ lv n)/\n<=cm/\n<=cl
 sm:∀x,x<n->(mv x).size=22/\(mv x).toList.all (·.oneCell')=true
 sl:∀x,x<n->(lv x).size=4/\(lv x).toList.all (·.oneCell')=true
theorem RWv.below {u o:R8} {i:Nat->R6} {cnt:Nat} (h:RWv u vs n mv i cnt) (hb:aq u o):RWv o vs n mv i cnt:=by
 obtain ⟨⟨B,cm,p,v,h1,y,D,A⟩,C,x⟩:=h;exact ⟨⟨B,cm,p,v,h1,y.below hb,D.below hb,A⟩,C,x⟩
def Nr (R:R6->R6->R6->R8->Prop) (C:Int) (w:R8) (e:Ending) (i:R8):Prop:=∃m1 h v1:R6,e=Ending.returned (.tuple #[.agg m1,.agg h,.agg v1,QZ C])/\(m1.size=22/\h.size=4/\v1.size=4)/\(m1.toList.all (·.oneCell')=true/\h.toList.all (·.oneCell')=true/\v1.toList.all (·.oneCell')=true)/\R m1 h v1 i/\aq w i
theorem zg {p cnt:Nat} {N:Nat->R6} {C:Int} (h:RWv w vs n mv N cnt) (A:x<n) (hn:n<=1000) (hp:(x+n-1)%n=p) (a0:∀i,w.heap.size+4<=i.heap.size->aq w i->Vj 89 #[.agg (mv x),.agg (N p),.agg (N x)] i (Nr R C (i))) (hR:∀m1 u1 v1 w1 w2,R m1 u1 v1 w1->Keep (λk=>w.heap.size<=k/\k<w.heap.size+4) w1 w2->R m1 u1 v1 w2):Vj 48 #[.agg vs,Vd x] w (Nr R C (w)):=by
 obtain ⟨⟨AM,cm,AL,cl,rfl,hM,hL, -, -⟩,D,u⟩:=h;have ab:p<n:=by rw [<-hp];exact Nat.mod_lt _ ap
 obtain ⟨L,o1,rfl,r1⟩:=ig hM (λx A=>(D x A).1) V0 A;obtain ⟨V,Z,rfl,r2⟩:=ig hL (λx A=>(u x A).1) V0 ab;obtain ⟨b3,o3,e3,r3⟩:=ig hL (λx A=>(u x A).1) V0 A
 cases e3
 obtain ⟨B,H⟩:=Vb ((((w.alloc (.cells #[Vf L o1 n cm,Vf V Z n cl,Vd cnt] 39)).alloc (.cells Re 106)).alloc (.cells #[QZ 0,Ra,QZ 0,QZ 0] 75)).alloc (.cells #[QZ 0,Ra,QZ 0,QZ 0] 75));have a4:vl w [.cells #[Vf L o1 n cm,Vf V Z n cl,Vd cnt] 39,.cells Re 106,.cells #[QZ 0,Ra,QZ 0,QZ 0] 75,.cells #[QZ 0,Ra,QZ 0,QZ 0] 75]=B:=H;have q0:=eJ [.cells #[Vf L o1 n cm,Vf V Z n cl,Vd cnt] 39,.cells Re 106,.cells #[QZ 0,Ra,QZ 0,QZ 0] 75,.cells #[QZ 0,Ra,QZ 0,QZ 0] 75] w;have g0:=cu [.cells #[Vf L o1 n cm,Vf V Z n cl,Vd cnt] 39,.cells Re 106,.cells #[QZ 0,Ra,QZ 0,QZ 0] 75,.cells #[QZ 0,Ra,QZ 0,QZ 0] 75] w 0 rfl;have g1:=cu [.cells #[Vf L o1 n cm,Vf V Z n cl,Vd cnt] 39,.cells Re 106,.cells #[QZ 0,Ra,QZ 0,QZ 0] 75,.cells #[QZ 0,Ra,QZ 0,QZ 0] 75] w 1 rfl;have g2:=cu [.cells #[Vf L o1 n cm,Vf V Z n cl,Vd cnt] 39,.cells Re 106,.cells #[QZ 0,Ra,QZ 0,QZ 0] 75,.cells #[QZ 0,Ra,QZ 0,QZ 0] 75] w 2 rfl;have g3:=cu [.cells #[Vf L o1 n cm,Vf V Z n cl,Vd cnt] 39,.cells Re 106,.cells #[QZ 0,Ra,QZ 0,QZ 0] 75,.cells #[QZ 0,Ra,QZ 0,QZ 0] 75] w 3 rfl;have a6:B.heap.size=w.heap.size+4:=by rw [<-H];simp
 rw [a4] at q0 g0 g1 g2 g3;rw [Nat.add_zero] at g0
 have l1:L<w.heap.size:=by
  obtain ⟨v,hv⟩:∃v,(mv x).toList[0]?=some v:=⟨_,Qv (by rw [Array.length_toList,(D x A).1];decide)⟩;exact aB (r1 0 v hv)
 have l2:V<w.heap.size:=by
  obtain ⟨v,hv⟩:∃v,(N x).toList[0]?=some v:=⟨_,Qv (by rw [Array.length_toList,(u x A).1];decide)⟩;exact aB (r3 0 v hv)
 have rg:∀{b o cs},b<w.heap.size->w.rangeAt b o cs->∀i,Keep (λk=>w.heap.size<k/\k<w.heap.size+4) B i->i.rangeAt b o cs:=λhb hr i k j v hv=>by
  have h1:=hr j v hv;exact (World.cell?_of_block ((k.block _ (P6 hb q0.size) (λe=>ap)).trans (q0.block _ hb))).trans h1
 obtain ⟨R1,R2,R3⟩:=af (λi q=>rg l1 r1 i q) (λi q=>rg l2 r2 i q) (λi q=>rg l2 r3 i q);have t:∀i,Keep (λk=>w.heap.size<k/\k<w.heap.size+4) B i->_:=λi q=>bx3 ((q.block _ (PU g0) (λe=>ap)).trans g0)
 have O:((x:Int)+(n:Int)-1).tmod (n:Int)=(p:Int):=by
  rw [<-hp,Int.tmod_eq_emod_of_nonneg ap,Int.natCast_emod,show ((x+n-1:Nat):Int)=(x:Int)+n-1 by omega]
 have aG:((x:Int)+(n:Int)-1)%(n:Int)=(p:Int):=by rw [<-Int.tmod_eq_emod_of_nonneg ap];exact O
 have b0:¬(n=0):=ap;have h1:0<=(x:Int):=ap;have h2:(x:Int)<(n:Int):=ap;have h3:0<=(p:Int):=ap;have h4:(p:Int)<(n:Int):=ap;have w1:IntKind.i64.wrap ((x:Int)+n)=(x:Int)+n:=P3 _ ap;have w2:IntKind.i64.wrap ((x:Int)+n-1)=(x:Int)+n-1:=P3 _ ap;have w3:IntKind.i64.wrap (p:Int)=(p:Int):=P3 _ ap;have w5:IntKind.i64.wrap (((x:Int)+n-1).tmod n)=(p:Int):=by rw [O];exact w3
 have w6:IntKind.i64.wrap (((x:Int)+n-1)%n)=(p:Int):=by rw [aG];exact w3
 have a8:=D x A;have ad:=u p ab;have a5:=u x A;obtain ⟨aM,HR,aR,Q0,G1,G2,G3,Hm⟩:=ak a0 hR H q0 g1 g2 g3 a8;obtain ⟨Hl,ao⟩:=ae ad a5;have s0:Keep (λk=>w.heap.size<k/\k<w.heap.size+4) B B.drew:=(Keep.refl _ _).drew;have av:=aa a6;have tl:=sl g3;clear a0 hR H a4 q0 g0 g1 g2 g3 a8 ad a5 D u hM hL r1 r2 r3 rg hp a6;go_enter func48,ntmps48;go_wp2_with fail;rw [aR.o];refine HA.g (λi:R8=>Keep (λk=>w.heap.size<k/\k<w.heap.size+4) B i) ?_;refine HA.t ?_ [0,1,2,3] s0 ?_;refine HA.lr 4 R1.o (by rw [Array.length_toList,Hm.o.1];exact jv) s0 ?_;refine HA.t ?_ [5,6,7,8,9,10,11,12,13] s0 ?_;refine HA.lr 14 R2.o (by rw [Array.length_toList,Hl.o.1];exact gS) s0 ?_;refine HA.t ?_ [15,16,17,18] s0 ?_;refine HA.lr 19 R3.o (by rw [Array.length_toList,ao.o.1];exact gS) s0 ?_;have ea:(mv x).toList.toArray=mv x:=Array.toArray_toList;have eb:(N p).toList.toArray=N p:=Array.toArray_toList;have ec:(N x).toList.toArray=N x:=Array.toArray_toList;rw [ea,eb,ec];refine HA.c 20 (aM.o _ (by rw [QG,av.o];omega) (Q0.o.drew)) ?_;rintro _ w7 ⟨m1,u1,v1,rfl,⟨z1,z2,z3⟩,⟨a1,a2,a3⟩,hr,k7⟩;have b7:=bt (br B).drew k7;have s1:=s0.trans (Keep.below (S:=λk=>w.heap.size<k/\k<w.heap.size+4) k7);refine ⟨_,rfl,s1,λ_=>?_⟩;refine HA.t ?_ [21,22,23,24] s1 ?_;refine HA.st 25 (sb G1.o _ b7) jv (λw8 e8 J=>⟨s1.trans (J.mono λk _ e=>ap),?_⟩) (hn:=z1) (hs:=by rw [z1];rfl) (h1:=a1);refine HA.st 26 ((J.block _ (PU (sb G2.o _ b7)) ap).trans (sb G2.o _ b7)) gS (λw9 e9 T=>⟨(s1.trans (J.mono λk _ e=>ap)).trans (T.mono λk _ e=>ap),?_⟩) (hn:=z2) (hs:=by rw [z2];rfl) (h1:=a2);have a7:=(T.block _ (P6 (PU (sb G3.o _ b7)) J.size) ap).trans ((J.block _ (PU (sb G3.o _ b7)) ap).trans (sb G3.o _ b7));refine HA.st 27 a7 gS (λI a9 y=>⟨((s1.trans (J.mono λk _ e=>ap)).trans (T.mono λk _ e=>ap)).trans (y.mono λk _ e=>ap),?_⟩) (hn:=z3) (hs:=by rw [z3];rfl) (h1:=a3);have Y:=((s1.trans (J.mono λk _ e=>ap)).trans (T.mono λk _ e=>ap)).trans (y.mono λk _ (e:k=w.heap.size+3)=>by omega:Keep (λk=>w.heap.size<k/\k<w.heap.size+4) w9 I);refine HA.t ?_ [28] Y ?_;refine HA.d ?_;have f8:I.heap[w.heap.size+1]?=_:=(y.block _ (by have:=PU e8;have:=T.size;omega) ap).trans ((T.block _ (PU e8) ap).trans e8);have f9:I.heap[w.heap.size+1+1]?=_:=(y.block _ (PU e9) ap).trans e9;have U:=HR.o _ _ _ _ _ hr (((J.mono λk _ (e:k=w.heap.size+1)=>by omega:Keep (λk=>w.heap.size<=k/\k<w.heap.size+4) w7 w8).trans (T.mono λk _ (e:k=w.heap.size+2)=>ap)).trans (y.mono λk _ (e:k=w.heap.size+3)=>ap));have Q:aq w I:=Q0.o.trans (Y.toBelow Q0.o.size (λj e=>ap));obtain ⟨HF,F8,F9,aP,Z1,Z2,Z3,A1⟩:=ak (P7 U Q) f8 f9 a9 z1 z2 z3 a1;obtain ⟨A2,A3⟩:=ae a2 a3;clear U Q f8 f9 e8 e9 a9 z1 z2 z3 a1 a2 a3 J T y Y s1 b7 a7 k7 hr t;go_wp2_with fail
 try simp only [Exit.inBlock,Exit.then]
 refine Qd (fG rfl rfl rfl rfl F8.o F9.o aP.o (by rw [Z1.o];exact jv) (by rw [Z2.o];exact gS) (by rw [Z3.o];exact gS)) rfl ?_;exact ⟨m1,u1,v1,rfl,⟨Z1.o,Z2.o,Z3.o⟩,⟨A1.o,A2.o,A3.o⟩,HF.o.1,HF.o.2⟩
theorem Lc:dM prog 36 106 (.agg Re) 22 320:=⟨underlying36,info_parts V1,rfl,by decide⟩
theorem Ld:dM prog 37 75 (.agg #[QZ 0,Ra,QZ 0,QZ 0]) 4 48:=⟨underlying37,info_parts V1,rfl,by decide⟩
section
variable {P:Program} {ops:Rn} {Q:Exit->Ro->R8->Prop} {S:R8->Prop} {n:Nat}
theorem XA.sole {L:List Nat} {a:Ro} {w:R8} (i:Nat) (p:XAS P ops Q S n i L a w) (hr:dz ops L=[i]:=by decide +kernel):XA P ops Q S n L a w:=by
 obtain ⟨o,u,h⟩:=p;exact XA.one i u hr h
theorem XA.three {L:List Nat} {a:Ro} {w:R8} (i j k:Nat) (B:XAS P ops Q S n i L a w) (y:XAS P ops Q S n j L a w) (hk:XAS P ops Q S n k L a w) (hr:dz ops L=[i,j,k]:=by decide +kernel):XA P ops Q S n L a w:=by
 obtain ⟨N,A,B⟩:=B;obtain ⟨O,x,y⟩:=y;obtain ⟨ok,v,hk⟩:=hk;have D:unl (bP ops.size L)=unl (bP ops.size (i::L))+1:=cW (by rw [hr];simp);have I:unl (bP ops.size L)=unl (bP ops.size (j::L))+1:=cW (by rw [hr];simp);have J:unl (bP ops.size L)=unl (bP ops.size (k::L))+1:=cW (by rw [hr];simp);have H:unl (bP ops.size (j::L))=unl (bP ops.size (i::L)):=ap;have C:unl (bP ops.size (k::L))=unl (bP ops.size (i::L)):=ap;refine ⟨?_⟩;rw [D];refine cJ (by rw [ep];exact hr) V3 (aT.cons A (λu p=>B u λa w o hw=>p.out a w o λh=>(hw h).out) (aT.cons x (λu p=>y u λa w o hw=>p.out a w o λh=>?_) (aT.cons v (λu p=>hk u λa w o hw=>p.out a w o λh=>?_) aT.nil)))
 .have:=(hw h).out;rw [H] at this;exact this
 .have:=(hw h).out;rw [C] at this;exact this
end
def Pr (S:Nat->Prop) (R:R6->R6->R6->R8->Prop) (vs:R6) (n:Nat) (mv u:Nat->R6) (cnt x p:Nat) (C:Int) (w:R8) (e:Ending) (i:R8):Prop:= (C≠0/\e=.returned (.tuple #[.agg vs,.bool false])/\aq w i)\/(C=0/\∃m1 o v1 h:R6,e=.returned (.tuple #[.agg h,.bool true])/\RWv (aH S i) h n (aY mv x m1) (if 1<n then aY (aY u p o) x v1 else u) (cnt+1)/\R m1 o v1 i/\aq w i)
theorem Ff {cnt:Nat} {T:Nat->R6} (h:RWv w vs n mv T cnt) (Y:z<0\/(n:Int)<=z):Vj 16 #[.agg vs,QZ z] w λe H=>Vi e (.tuple #[.agg vs,.bool false])/\aq w H:=by
 obtain ⟨⟨D,cm,v,C,rfl, -, -, -, -⟩, -, -⟩:=h;obtain ⟨u,i⟩:=Vb ((w.alloc (.cells #[.slice D n cm,.slice v n C,Vd cnt] 39)).alloc (.cells #[Ra,Ra,QZ 0] 39));have J:Vg u w.heap.size #[.slice D n cm,.slice v n C,Vd cnt] 39:=by rw [<-i];exact sb (PW w _) _ ((br _).alloc (PV _) _)
 have g1:Vg u (w.heap.size+1) #[Ra,Ra,QZ 0] 39:=by rw [<-i];have:=PW (w.alloc (.cells #[.slice D n cm,.slice v n C,Vd cnt] 39)) (.cells #[Ra,Ra,QZ 0] 39);rwa [Qg] at this
 have N:aq w u:=by rw [<-i];exact ((br w).alloc (PV _) _).alloc (by rw [Qg];omega) _
 have tl:=sl g1;have t0:=λH q=>bx3 (sb J H q);have V:=br u;obtain ⟨y,Q,R,G0⟩:=ag i g1 N J;clear i J g1 N;have p:∀x,Keep (λj=>j=w.heap.size+1) u x->aq w x:=λx k=>R.o.trans (k.toBelow R.o.size (λj e=>ap));have O:=aa p;clear p;by_cases h1:z<0
 .go_enter func16,ntmps16;go_upto_region 1 with (fail);rw [y.o];go_wp2_with (first | (refine aQ #[.slice D n cm,.slice v n C,Vd cnt] (b:=w.heap.size) G0.o bW rfl rfl rfl rfl ?_) | (refine aI (b:=w.heap.size+1) Q.o bW rfl rfl rfl rfl rfl rfl rfl ?_;intro x A B;obtain ⟨L,I⟩:=ae A B;clear A B))
  try simp only [Exit.inBlock,Exit.then]
  refine Qd (dV rfl rfl L.o bW) rfl ?_;exact ⟨rfl,O.o _ I.o⟩
 .have U:(n:Int)<=z:=ap;go_enter func16,ntmps16;go_upto_region 1 with (fail);rw [y.o];go_wp2_with (first | (refine aQ #[.slice D n cm,.slice v n C,Vd cnt] (b:=w.heap.size) G0.o bW rfl rfl rfl rfl ?_) | (refine aI (b:=w.heap.size+1) Q.o bW rfl rfl rfl rfl rfl rfl rfl ?_;intro x A B;obtain ⟨L,I⟩:=ae A B;clear A B))
  try simp only [Exit.inBlock,Exit.then]
  refine Qd (dV rfl rfl L.o bW) rfl ?_;exact ⟨rfl,O.o _ I.o⟩
theorem zG {B i W:R8} {cnt I A:Nat} {u:Nat->R6} {m1 p v1:R6} (Y:∀k,S k->k<w.heap.size) (L:aq w B) (Q:aq B i) (q:aq i W) (k:Keep (λj=>j=b) W h) (hb:w.heap.size<=b/\b<w.heap.size+2) (V:b<i.heap.size) (oM:W.ownsRow i.heap.size 106 22 (Vf I 0 n cm) n (dZ mv n)) (oL:W.ownsRow i.heap.size 75 4 (Vf C 0 n A) n (dZ u n)) (hm:∀x,x<n->(mv x).size=22/\(mv x).toList.all (·.oneCell')=true) (hl:∀x,x<n->(u x).size=4/\(u x).toList.all (·.oneCell')=true) (hr:R m1 p v1 B) (Z:∀m1 p v1 D T,R m1 p v1 D->Keep (λk=>w.heap.size<=k/\k<w.heap.size+6) D T->R m1 p v1 T):
  RWv (aH S h) #[Vf I 0 n cm,Vf C 0 n A,QZ ((cnt+1:Nat):Int)] n mv u (cnt+1)/\R m1 p v1 h/\aq w h:=by
 have hz:=L.size;have U:=Q.size;have y:=k.own oM (λj h1 H=>by have:=(oM.lt j h1).1;omega);have v:=k.own oL (λj h1 H=>by have:=(oL.lt j h1).1;omega)
 have hc:n<=cm/\n<=A:=by
  obtain ⟨_,_,O,h1⟩:=aC oM;obtain ⟨_,_,J,H⟩:=aC oL;injection O with _ _ O;injection J with _ _ J
  omega
 have o:∀k,S k->k<i.heap.size:=λk e=>by have:=Y k e;omega
 have N:=bt Q q;exact ⟨⟨⟨_,_,_,_,rfl,iA y o,iA v o,hc⟩,hm,hl⟩,Z _ _ _ _ _ hr ((Keep.below N).trans (k.mono λj _ e=>ap)),(bt L N).trans (k.toBelow (by have:=q.size;omega) (λj e=>ap))⟩
theorem RWv.upd (h:∀x,x<n->(mv x).size=k/\(mv x).toList.all (·.oneCell')=true) (p:u.size=k) (i:u.toList.all (·.oneCell')=true):∀y,y<n->(aY mv x u y).size=k/\(aY mv x u y).toList.all (·.oneCell')=true:=λy o=>by
 by_cases e:y=x
 .subst e;rw [bF];exact ⟨p,i⟩
 .rw [bD _ _ e];exact h y o
theorem qX (h:∀x,x<n->(mv x).size=k/\(mv x).toList.all (·.oneCell')=true) (v:u.size=k) (p:u.toList.all (·.oneCell')=true) (o:x<n):EQ (dZ mv n) (x*k) u.toList=dZ (aY mv x u) n:=by
 have:=Fg (mv:=mv) (mv':=aY mv x u) (λx o=>(h x o).1) (λy i=>(RWv.upd h v p y i).1) o (λy i=>bD _ _ i)
 rwa [bF] at this
theorem Jg {cnt p:Nat} {C:Int} (hS:∀k,S k->k<w.heap.size) (h:RWv w vs n mv lv cnt) (Z:x<n) (hn:n<=1000) (hp:(x+n-1)%n=p) (f5:cnt<=1000000000) (bX:∀u,w.heap.size+6<=u.heap.size->aq w u->Vj 89 #[.agg (mv x),.agg (lv p),.agg (lv x)] u (Nr R C u)) (hR:∀m1 I v1 w1 w2,R m1 I v1 w1->Keep (λk=>w.heap.size<=k/\k<w.heap.size+6) w1 w2->R m1 I v1 w2):Vj 16 #[.agg vs,Vd x] w (Pr S R vs n mv lv cnt x p C w):=by
 have bG:p<n:=by rw [<-hp];exact Nat.mod_lt _ ap
 have b4:=λu (q:aq w u) (hz:u.heap.size=w.heap.size+2)=>zg (R:=R) (C:=C) (show RWv u vs n mv lv cnt from by
  obtain ⟨⟨AM,cm,AL,cl,h1,L,h3,h4⟩,h5,h6⟩:=h
  exact ⟨⟨AM,cm,AL,cl,h1,L.below q,h3.below q,h4⟩,h5,h6⟩) Z hn hp (λeB h1 q'=>bX eB ap (bt q q')) (λm1 I v1 w1 w2 hr k=>hR m1 I v1 w1 w2 hr (k.mono λj _ e=>ap))
 obtain ⟨⟨AM,cm,AL,cl,rfl,hM,hL,fc,fn⟩,aR,b1⟩:=h;obtain ⟨W0,a5⟩:=Vb ((w.alloc (.cells #[.slice AM n cm,.slice AL n cl,Vd cnt] 39)).alloc (.cells #[Ra,Ra,QZ 0] 39));have g0:Vg W0 w.heap.size #[.slice AM n cm,.slice AL n cl,Vd cnt] 39:=by rw [<-a5];exact sb (PW w _) _ ((br _).alloc (PV _) _)
 have g1:Vg W0 (w.heap.size+1) #[Ra,Ra,QZ 0] 39:=by rw [<-a5];have:=PW (w.alloc (.cells #[.slice AM n cm,.slice AL n cl,Vd cnt] 39)) (.cells #[Ra,Ra,QZ 0] 39);rwa [Qg] at this
 have q0:aq w W0:=by rw [<-a5];exact ((br w).alloc (PV _) _).alloc (by rw [Qg];omega) _
 have cP:W0.heap.size=w.heap.size+2:=by rw [<-a5];simp
 have tl:=sl g1;have t0:=λu q=>bx3 (sb g0 u q);have q1:=br W0;have fa:(x:Int)<n:=ap;have f8:¬((x:Int)<0):=ap;have cA:∀u,aq w u->Rd u AM (dZ mv n):=λu q=>hM.below q;have hrl:∀u,aq w u->Rd u AL (dZ lv n):=λu q=>hL.below q;have d7:=lW (λx Z=>(aR x Z).1);have e0:=lW (λx Z=>(b1 x Z).1);have cb:=wl (λx Z=>(aR x Z).2);have cO:=wl (λx Z=>(b1 x Z).2);obtain ⟨f0,G1,Q0,G0,dk,HR,ek,eb⟩:=ak a5 g1 q0 g0 b4 hR cP aR;obtain ⟨bw,cj,e3,f1,eX,ei,ef,HS⟩:=ak b1 cA hrl d7 e0 cb cO hS;have Hp:=aa hp;clear a5 g0 g1 q0 b4 hR cP aR b1 hM hL cA hrl d7 e0 cb cO bX hS hp;go_enter func16,ntmps16;go_upto_region 1 with (fail);rw [f0.o];go_wp2_with (refine aQ #[.slice AM n cm,.slice AL n cl,Vd cnt] (b:=w.heap.size) G0.o bW rfl rfl rfl rfl ?_);refine (dk.o _ Q0.o (by rw [ek.o])).mono ?_;rintro e D ⟨m1,I,v1,rfl,⟨z1,z2,z3⟩,⟨a1,a2,a3⟩,hr,k5⟩;have q5:=bt q1 k5;obtain ⟨Z1,Z2,J,O1,O2,O3,e4⟩:=aj z1 z2 z3 a1 a2 a3 hr;clear z1 z2 z3 a1 a2 a3 hr k5 q1;have b5:aq D (((D.alloc (.cells Re 106)).alloc (.cells #[QZ 0,Ra,QZ 0,QZ 0] 75)).alloc (.cells #[QZ 0,Ra,QZ 0,QZ 0] 75)):=eJ [Obj.cells Re 106,.cells #[QZ 0,Ra,QZ 0,QZ 0] 75,.cells #[QZ 0,Ra,QZ 0,QZ 0] 75] D;obtain ⟨bO,bs,aP,B5⟩:=ag (show (((D.alloc (.cells Re 106)).alloc (.cells #[QZ 0,Ra,QZ 0,QZ 0] 75)).alloc (.cells #[QZ 0,Ra,QZ 0,QZ 0] 75)).heap[D.heap.size]?=_ from cu [Obj.cells Re 106,.cells #[QZ 0,Ra,QZ 0,QZ 0] 75,.cells #[QZ 0,Ra,QZ 0,QZ 0] 75] D 0 rfl) (show (((D.alloc (.cells Re 106)).alloc (.cells #[QZ 0,Ra,QZ 0,QZ 0] 75)).alloc (.cells #[QZ 0,Ra,QZ 0,QZ 0] 75)).heap[D.heap.size+1]?=_ from cu [Obj.cells Re 106,.cells #[QZ 0,Ra,QZ 0,QZ 0] 75,.cells #[QZ 0,Ra,QZ 0,QZ 0] 75] D 1 rfl) (show (((D.alloc (.cells Re 106)).alloc (.cells #[QZ 0,Ra,QZ 0,QZ 0] 75)).alloc (.cells #[QZ 0,Ra,QZ 0,QZ 0] 75)).heap[D.heap.size+1+1]?=_ from cu [Obj.cells Re 106,.cells #[QZ 0,Ra,QZ 0,QZ 0] 75,.cells #[QZ 0,Ra,QZ 0,QZ 0] 75] D 2 rfl) b5;clear b5
 go_upto_region 5 with (first
  | (refine aI (b:=D.heap.size) bO.o jv rfl rfl rfl rfl Z1.o (by rw [Z1.o];rfl) O1.o ?_;intro w6 e6 k6;obtain ⟨E6,K6⟩:=ae e6 k6;clear e6 k6)
  | (refine aI (b:=D.heap.size+1) ((K6.o.block _ (PU bs.o) ap).trans bs.o) gS rfl rfl rfl rfl Z2.o (by rw [Z2.o];rfl) O2.o ?_;intro w7 e7 k7;obtain ⟨E7,K7⟩:=ae e7 k7;clear e7 k7)
  | (refine aI (b:=D.heap.size+1+1) ((K7.o.block _ (P6 (PU aP.o) K6.o.size) ap).trans ((K6.o.block _ (PU aP.o) ap).trans aP.o)) gS rfl rfl rfl rfl J.o (by rw [J.o];rfl) O3.o ?_;intro y e8 k8;obtain ⟨E8,K8⟩:=ae e8 k8;clear e8 k8))
 have bf:aq D y:=B5.o.trans (((K6.o.toBelow B5.o.size (λj e=>ap)).trans (K7.o.toBelow (P4 B5.o.size K6.o.size) (λj e=>ap))).trans (K8.o.toBelow (P4 (P4 B5.o.size K6.o.size) K7.o.size) (λj e=>ap)));have e5:y.heap[D.heap.size]?=_:=(K8.o.block _ (P6 (PU E6.o) K7.o.size) ap).trans ((K7.o.block _ (PU E6.o) ap).trans E6.o);have dT:y.heap[D.heap.size+1]?=_:=(K8.o.block _ (PU E7.o) ap).trans E7.o;obtain ⟨ew,cn⟩:=ae e5 dT;have q8:=bt q5 bf;obtain ⟨Q5,d8⟩:=ae q5 bf;clear e5 dT bf B5 bO bs aP E6 E7 K6 K7 K8 q5;by_cases hC:C=0;rotate_left
 .have fd:(C != 0)=true:=by rw [bne_iff_ne];exact hC
  have HC:=aa hC;have h1:=sb G1.o _ q8;obtain ⟨H1,Q8⟩:=ae h1 q8;clear h1 hC;go_wp2_with (first | (refine aQ #[.slice AM n cm,.slice AL n cl,Vd cnt] (b:=w.heap.size) (sb G0.o _ Q8.o) bW rfl rfl rfl rfl ?_) | (refine aI (b:=w.heap.size+1) H1.o bW rfl rfl rfl rfl rfl rfl rfl ?_;intro w9 e9 k9;obtain ⟨E9,K9⟩:=ae e9 k9;clear e9 k9))
  try simp only [Exit.inBlock,Exit.then]
  refine Qd (dV rfl rfl E9.o bW) rfl ?_;exact .inl ⟨HC.o,rfl,(Q0.o.trans (Q8.o.mono Q0.o.size)).trans (K9.o.toBelow (P4 Q0.o.size Q8.o.size) (λj e=>ap))⟩
 subst hC;go_upto_region 7 with (fail);have cw:=sb G0.o _ q8;have dG:=sb G1.o _ q8;obtain ⟨cv,a7,Q8⟩:=af cw dG q8;have bh:IntKind.i64.wrap ((cnt:Int)+1)=((cnt+1:Nat):Int):=by rw [P3 _ ap];push_cast;rfl
 have eo:=aa bh;clear cw dG q8 t0 tl bh
 go_cut [11] (λv wx=>∃N A3 c3 A7 c7,v=(au N)/\Vg wx N #[.slice A3 n c3,.slice A7 n c7,QZ ((cnt+1:Nat):Int)] 39/\y.heap.size<=N/\wx.ownsRow y.heap.size 106 22 (.slice A3 n c3) n (dZ mv n)/\wx.ownsRow y.heap.size 75 4 (.slice A7 n c7) n (dZ lv n)/\aq y wx)
 case first=>
  have t8:=λu q=>bx3 (sb cv.o u q);obtain ⟨el,eq⟩:=ae (λu (q:aq y u)=>cj.o u (Q0.o.trans ((bt Q8.o q).mono Q0.o.size))) (λu (q:aq y u)=>e3.o u (Q0.o.trans ((bt Q8.o q).mono Q0.o.size)));have bh:=eo.o;have tl:=λu (q:aq y u)=>P6 (PU cv.o) q.size;have q:=(br y).drew;refine XA.g 13 (λu:R8=>aq y u) ?_;refine XA.t ?_ [1,2,5,6,8,9,10] q ?_;obtain ⟨U,hU⟩:=Vb y.drew;rw [hU] at q |-;clear hU
  repeat' first
   | (refine XA.three 0 4 12 ?_ ?_ ?_)
   | (refine XA.three 3 4 12 ?_ ?_ ?_)
   | (refine XA.two 0 4 ?_ ?_)
   | (refine XA.two 0 12 ?_ ?_)
   | (refine XA.two 3 4 ?_ ?_)
   | (refine XA.two 3 12 ?_ ?_)
   | (refine XA.two 4 12 ?_ ?_)
   | (refine XA.two 7 12 ?_ ?_)
   | (refine XA.sole 0 ?_)
   | (refine XA.sole 3 ?_)
   | (refine XA.sole 4 ?_)
   | (refine XA.sole 7 ?_)
   | (refine XA.sole 12 ?_)
   | (refine XAS.v (i:=0) (U.alloc (.cells #[] 106)) (Vf U.heap.size 0 0 0) (q.alloc q.size _) ?_;have nM:(U.alloc (.cells #[] 106)).ownsRow y.heap.size 106 22 (Vf U.heap.size 0 0 0) 0 []:=aF (fg U 106 22) q.size;have B:=(br U).alloc (PV _) (.cells #[] 106);obtain ⟨V,hv⟩:=Vb (U.alloc (.cells #[] 106));rw [hv] at nM B |-;clear hv;(try replace oM:=az oM B);(try replace oL:=az oL B);(try replace A:=sb A _ B);replace q:=bt q B;have oM:=nM;obtain ⟨bM,d1⟩:∃b,U.heap.size=b:=⟨_,rfl⟩;rw [d1] at oM |-;clear nM B d1;obtain ⟨U,rfl⟩:∃U,U=V:=⟨_,rfl⟩)
   | (refine XAS.v (i:=4) (U.alloc (.cells #[] 75)) (Vf U.heap.size 0 0 0) (q.alloc q.size _) ?_;have nL:(U.alloc (.cells #[] 75)).ownsRow y.heap.size 75 4 (Vf U.heap.size 0 0 0) 0 []:=aF (fg U 75 4) q.size;have B:=(br U).alloc (PV _) (.cells #[] 75);obtain ⟨V,hv⟩:=Vb (U.alloc (.cells #[] 75));rw [hv] at nL B |-;clear hv;(try replace oM:=az oM B);(try replace oL:=az oL B);(try replace A:=sb A _ B);replace q:=bt q B;have oL:=nL;obtain ⟨bL,dr⟩:∃b,U.heap.size=b:=⟨_,rfl⟩;rw [dr] at oL |-;clear nL B dr;obtain ⟨U,rfl⟩:∃U,U=V:=⟨_,rfl⟩)
   | (refine XAS.v (i:=12) (U.alloc (.cells #[Ra,Ra,QZ 0] 39)) ((au U.heap.size)) (q.alloc q.size _) ?_;have nN:=PW U (.cells #[Ra,Ra,QZ 0] 39);have lN:=q.size;have B:=(br U).alloc (PV _) (.cells #[Ra,Ra,QZ 0] 39);obtain ⟨V,hv⟩:=Vb (U.alloc (.cells #[Ra,Ra,QZ 0] 39));rw [hv] at nN B |-;clear hv;(try replace oM:=az oM B);(try replace oL:=az oL B);(try replace A:=sb A _ B);replace q:=bt q B;have A:=nN;obtain ⟨N,hN⟩:∃b,U.heap.size=b:=⟨_,rfl⟩;rw [hN] at A lN |-;clear nN B hN;obtain ⟨U,rfl⟩:∃U,U=V:=⟨_,rfl⟩)
   | (refine XAS.o (i:=3) (λK' hK=>?_);refine bY Lc (.tmp 34) (.tmp 36) rfl rfl y.heap.size (Vf bM 0 0 0) 0 [] rfl oM AM n cm (dZ mv n) rfl (el.o _ q) f1.o ei.o ap V2 q.size ?_;intro A3 c3 V o3 b3 g3 n3;rw [QP,List.nil_append] at o3;have kG:Keep (λj=>(Vf bM 0 0 0).ownBlock=some j) U V:=(Keep.refl _ U).grown g3 (λk hk=>.inr hk);(try replace oL:=kG.own oL (λj h1 L=>fZ oL oM V0 j h1 L));(try replace A:=(kG.block _ (PU A) (λe=>ay A V0 oM e.symm)).trans A);rw [QP];refine hK.out _ _ (q.trans b3) λ_=>?_;replace q:=q.trans b3;clear hK K' n3 g3 b3 kG oM;have oM:=o3;clear o3;obtain ⟨U,rfl⟩:∃U,U=V:=⟨_,rfl⟩)
   | (refine XAS.o (i:=7) (λK' hK=>?_);refine bY Ld (.tmp 38) (.tmp 40) rfl rfl y.heap.size (Vf bL 0 0 0) 0 [] rfl oL AL n cl (dZ lv n) rfl (eq.o _ q) eX.o ef.o ap V2 q.size ?_;intro A7 c7 V o7 b7 g7 n7;rw [QP,List.nil_append] at o7;have kG:Keep (λj=>(Vf bL 0 0 0).ownBlock=some j) U V:=(Keep.refl _ U).grown g7 (λk hk=>.inr hk);(try replace oM:=kG.own oM (λj h1 L=>fZ oM oL V0 j h1 L));(try replace A:=(kG.block _ (PU A) (λe=>ay A V0 oL e.symm)).trans A);rw [QP];refine hK.out _ _ (q.trans b7) λ_=>?_;replace q:=q.trans b7;clear hK K' n7 g7 b7 kG oL;have oL:=o7;clear o7;obtain ⟨U,rfl⟩:∃U,U=V:=⟨_,rfl⟩)
   | (refine XA.t ?_ [11] q ?_)
   | fail
  all_goals
   refine XA.e ?_;simp only [Qq,Qs];obtain ⟨GN,OM,OL,QQ⟩:=ag A oM oL q;clear A oM oL q t8;go_wp2_with (refine aI (b:=N) GN.o bW rfl rfl rfl rfl rfl rfl rfl ?_;intro w9 e9 k9;obtain ⟨E9,K9⟩:=ae e9 k9;clear e9 k9);go_meet;exact ⟨N,_,_,_,_,rfl,E9.o,lN,K9.o.own OM.o (λj h1 L=>ay GN.o V0 OM.o (by rw [h1,L])),K9.o.own OL.o (λj h1 L=>ay GN.o V0 OL.o (by rw [h1,L])),QQ.o.trans (K9.o.toBelow QQ.o.size (λj e=>ap))⟩
 case rest=>
  obtain ⟨N,A3,c3,A7,c7,rfl,A,lN,oM,oL,kc⟩:=hcut;obtain ⟨gm,cM,eM,_⟩:=oM.form ap;injection eM with eM _ eM2
  subst eM;subst eM2;obtain ⟨gl,cL,eL,_⟩:=oL.form ap;injection eL with eL _ eL2
  subst eL;subst eL2;have tm:=ot oM Z;have d6:=sb ew.o _ kc;have d3:=sb cn.o _ kc;have dc:=sb E8.o _ kc;have cc:=sb a7.o _ kc;have tN:=bx3 A;have e2:=oM.lt gm rfl;have cd:=oL.lt gl rfl;have fe:¬(n=0):=ap;have h1:0<=(x:Int):=ap;have dw:(m1.toList.drop 0).take m1.toList.length=m1.toList:=by rw [Qs,QF]
  have d9:(I.toList.drop 0).take I.toList.length=I.toList:=by rw [Qs,QF]
  have c6:(v1.toList.drop 0).take v1.toList.length=v1.toList:=by rw [Qs,QF]
  obtain ⟨f2,ej,f7,f6,fi,bz,a9,bd⟩:=ak tm d6 d3 dc cc A oM oL;obtain ⟨KC,em,es,eV,dp,ci⟩:=ai kc dw d9 c6 e2 cd;clear tm d6 d3 dc cc A oM oL kc dw d9 c6 e2 cd;have hI:(prog.info? 106).map (·.size)=some m1.size:=by rw [Z1.o];exact jv.s
  have hJ:m1.all (·.oneCell')=true:=by rw [<-Array.all_toList];exact O1.o
  obtain ⟨HI,HJ⟩:=ae hI hJ;clear hI hJ;go_upto_region 9 with (first | (refine aQ m1 ej.o (by rw [Z1.o];exact jv) rfl rfl rfl em.o ?_) | (refine wpList_store_mid rfl 106 _ _ rfl gm (x*22) m1 rfl rfl (by rw [Z1.o];exact f2.o) HI.o HJ.o ?_));have H:=iZ m1.toList wc gm (x*22);have b0:=qA m1.toList (o:=x*22) a9.o;have bl:=H.own bd.o (λj h1 L=>fZ bd.o a9.o V0 j h1 (by rw [L];rfl));have b2:=(H.block N (PU bz.o) (λe=>(ay bz.o V0 a9.o) (by rw [e];rfl))).trans bz.o;obtain ⟨W9,ds⟩:=Vb (wc.setCells gm (x*22) m1.toList);rw [ds] at H b0 bl b2 |-;have eS:Keep (λj=>y.heap.size<=j) y W9:=(Keep.below KC.o).trans (H.mono λj _ e=>by have:=dp.o.1;omega);rw [qX eb.o Z1.o O1.o Z] at b0;have da:=RWv.upd (x:=x) eb.o Z1.o O1.o;have q9:aq y W9:=KC.o.trans (H.toBelow KC.o.size (λj e=>by have:=dp.o.1;omega));have co:=sb cn.o _ q9;have cf:=sb E8.o _ q9;have cr:=sb a7.o _ q9;have ec:=bx3 b2;obtain ⟨bi,a0,a4,Q9,ee,fb,eu,e1⟩:=ak b0 bl b2 q9 co cf cr da;clear ds H b0 bl b2 eS q9 co cf cr da tN;by_cases cy:1<n
  .have d5:(1:Int)<n:=ap;have dn:(prog.info? 75).map (·.size)=some I.size:=by rw [Z2.o];exact gS.s
   have d0:I.all (·.oneCell')=true:=by rw [<-Array.all_toList];exact O2.o
   have d4:(prog.info? 75).map (·.size)=some v1.size:=by rw [J.o];exact gS.s
   have ea:v1.all (·.oneCell')=true:=by rw [<-Array.all_toList];exact O3.o
   have c8:=ot a0.o bG;obtain ⟨ev,er,ey,eY,f9⟩:=ah dn d0 d4 ea c8;clear dn d0 d4 ea c8;go_upto_region 10 with (fail)
   have ab:((x:Int)+(n:Int)-1).tmod (n:Int)=(p:Int):=by
    rw [<-Hp.o,Int.tmod_eq_emod_of_nonneg ap,Int.natCast_emod,show ((x+n-1:Nat):Int)=(x:Int)+n-1 by omega]
   have cs:((x:Int)+(n:Int)-1)%(n:Int)=(p:Int):=by rw [<-Int.tmod_eq_emod_of_nonneg ap];exact ab
   have h3:0<=(p:Int):=ap;have h4:(p:Int)<(n:Int):=ap;have w1:IntKind.i64.wrap ((x:Int)+n)=(x:Int)+n:=P3 _ ap;have w2:IntKind.i64.wrap ((x:Int)+n-1)=(x:Int)+n-1:=P3 _ ap;have w3:IntKind.i64.wrap (p:Int)=(p:Int):=P3 _ ap;have en:IntKind.i64.wrap (((x:Int)+n-1).tmod n)=(p:Int):=by rw [ab];exact w3
   have w6:IntKind.i64.wrap (((x:Int)+n-1)%n)=(p:Int):=by rw [cs];exact w3
   have tq:=λu q=>bx3 (sb a4.o u q);have tl:=sl a4.o;have q:=(br W9).drew;refine XA.g 10 (λu:R8=>aq W9 u) ?_;refine XA.t ?_ [0,1,2,3,4,5,6,7] q ?_;refine XA.ld 8 I (λu q=>sb ee.o u q) (by rw [Z2.o];exact gS) q ?_ (hcs:=es.o);refine XA.t ?_ [9] q ?_;refine XA.e ?_;simp only [Qq,Qs];clear tq tl q ab cs h3 h4 w1 w2 w3 en w6 ec;go_upto_region 11 with (refine wpList_store_mid rfl 75 _ _ rfl gl (p*4) I rfl rfl (by rw [Z2.o];exact ot a0.o.drew bG) ev.o er.o ?_);have H:=(Keep.refl (λj=>j=gl) W9).drew.trans (iZ I.toList W9.drew gl (p*4));have Y:=qA I.toList (o:=p*4) a0.o.drew;have av:=H.own bi.o (λj h1 L=>fZ bi.o a0.o V0 j h1 (by rw [L];rfl));have Q:=(H.block N (PU a4.o) (λe=>(ay a4.o V0 a0.o) (by rw [e];rfl))).trans a4.o;obtain ⟨aM,b6⟩:=Vb (W9.drew.setCells gl (p*4) I.toList);rw [b6] at H av Y Q |-;rw [qX bw.o Z2.o O2.o bG] at Y;have cx:=RWv.upd (x:=p) bw.o Z2.o O2.o;have bN:aq y aM:=Q9.o.trans (H.toBelow Q9.o.size (λj e=>by have:=ci.o.1;omega));have bb:=sb E8.o _ bN;have c9:=bx3 Q;obtain ⟨b8,O,a8,bV,dv,d2⟩:=ai av Y Q bN bb cx;clear b6 H av Y Q bN bb cx;go_upto_region 12 with (first | (refine aQ v1 dv.o (by rw [J.o];exact gS) rfl rfl rfl eV.o ?_) | (refine wpList_store_mid rfl 75 _ _ rfl gl (x*4) v1 rfl rfl (by rw [J.o];exact ot O.o Z) ey.o eY.o ?_));have H:=iZ v1.toList aM gl (x*4);have T:=qA v1.toList (o:=x*4) O.o;have ad:=H.own b8.o (λj h1 L=>fZ b8.o O.o V0 j h1 (by rw [L];rfl));have a6:=(H.block N (PU a8.o) (λe=>(ay a8.o V0 O.o) (by rw [e];rfl))).trans a8.o;obtain ⟨bn,b9⟩:=Vb (aM.setCells gl (x*4) v1.toList);rw [b9] at H ad T a6 |-;rw [qX d2.o J.o O3.o Z] at T;have bA:aq y bn:=bV.o.trans (H.toBelow bV.o.size (λj e=>by have:=ci.o.1;omega));obtain ⟨be,bv,eG,f3,Qe⟩:=ah (sb a7.o _ bA) a6 ad T bA;clear b9 H ad T a6 bA c9;go_wp2_with (first | (refine aQ #[Vf gm 0 n c3,Vf gl 0 n c7,QZ ((cnt+1:Nat):Int)] (b:=N) bv.o bW rfl rfl rfl rfl ?_) | (refine aI (b:=w.heap.size+1) be.o bW rfl rfl rfl rfl rfl rfl rfl ?_;intro f4 ao aG;obtain ⟨bI,bo⟩:=ae ao aG;clear ao aG))
   try simp only [Exit.inBlock,Exit.then]
   refine Qd (dV rfl rfl bI.o bW) rfl ?_
   exact .inr ⟨rfl,m1,I,v1,_,rfl,by
    rw [if_pos cy]
    exact zG HS.o (Q0.o.trans ((show aq W0 D from Q5.o).mono Q0.o.size)) d8.o Qe.o bo.o ap (PU a7.o) eG.o f3.o e1.o (RWv.upd d2.o J.o O3.o) e4.o HR.o⟩
  .have d5:¬((1:Int)<n):=ap;obtain ⟨be,bv⟩:=ae eu.o a4.o;clear ec;go_wp2_with (first | (refine aQ #[Vf gm 0 n c3,Vf gl 0 n c7,QZ ((cnt+1:Nat):Int)] (b:=N) bv.o bW rfl rfl rfl rfl ?_) | (refine aI (b:=w.heap.size+1) be.o bW rfl rfl rfl rfl rfl rfl rfl ?_;intro f4 ao aG;obtain ⟨bI,bo⟩:=ae ao aG;clear ao aG))
   try simp only [Exit.inBlock,Exit.then]
   refine Qd (dV rfl rfl bI.o bW) rfl ?_
   exact .inr ⟨rfl,m1,I,v1,_,rfl,by
    rw [if_neg cy]
    exact zG HS.o (Q0.o.trans ((show aq W0 D from Q5.o).mono Q0.o.size)) d8.o Q9.o bo.o ap (PU a7.o) bi.o a0.o e1.o bw.o e4.o HR.o⟩
section
variable {P:Program} {ops:Rn} {Q:Exit->Ro->R8->Prop} {S:R8->Prop} {n:Nat}
theorem XAS.c {L:List Nat} {a:Ro} {w:R8} {i:Nat} {f:FuncId} {args:R6} {R:Ending->R8->Prop} {o:Oper} (hc:Calls P f args w R) (k:∀e p,R e p->∃v,Vi e v/\S p/\(S p->XA P ops Q S n (i::L) (a.put o.dst v) p)) (u:ops[i]?=some o:=by (simp only [Qn,Qo,Qp];rfl)) (hw:Region.wanted o (yielded ops a.tmps)=true:=by rfl) (he:(execOp a.eval o).run P w=.ok (.enter f args) w:=by go_simp):XAS P ops Q S n i L a w:=by
 refine ⟨o,u,λB A=>?_⟩;rw [if_pos hw];unfold Oper.wp;rw [he];refine hc.mono λe p y=>?_;obtain ⟨v,rfl,x,h⟩:=k e p y;exact A.out _ _ x h
end
theorem Fy {cnt:Nat} (h:RWv w vs n mv lv cnt) (hn:n<=1000) (hc:∀x,x<n->∃I c,(mv x)[20]?=some (.slice I (il x) c)/\(mv x)[21]?=some (Vd (dn x))) (hB:B=true↔∀x,x<n->il x<=dn x):Vj 33 #[.agg vs] w λe i=>Vi e (.bool B)/\aq w i:=by
 obtain ⟨⟨Z,cm,AL,cl,rfl,hM,hL, -, -⟩,J,U⟩:=h;have ⟨u,y⟩:=Vb (w.alloc (.cells #[.slice Z n cm,.slice AL n cl,Vd cnt] 39));have V:Vg u (Ve w) #[.slice Z n cm,.slice AL n cl,Vd cnt] 39:=by rw [<-y];exact PW w _
 have C:aq w u:=by rw [<-y];exact (br w).alloc (PV _) _
 have t0:=λi q=>bx3 (sb V i q);have tl:=sl V
 have p:∀x,x<n->∃b o I c,Z=some (ar b o)/\(∀i,aq u i->Vh i b (o+x*22+20) (.slice I (il x) c))/\∀i,aq u i->Vh i b (o+x*22+21) (Vd (dn x)):=λx O=>by
  have ⟨b,o,e,hr⟩:=ig hM (λx O=>(J x O).1) V0 O;have ⟨I,c,h1,h2⟩:=hc x O;have c1:=hr 20 _ (by rw [Array.getElem?_toList];exact h1);have c2:=hr 21 _ (by rw [Array.getElem?_toList];exact h2);exact ⟨b,o,I,c,e,λi q=>(World.cell?_of_block ((C.trans (q.mono C.size)).block _ (aB c1))).trans c1,λi q=>(World.cell?_of_block ((C.trans (q.mono C.size)).block _ (aB c2))).trans c2⟩
 have ⟨HC,HB,T,Q⟩:=ag p hB y C;have q:=br u;clear p hB y C V hM hL J U hc;go_enter func33,ntmps33;go_wp2_with fail;rw [T.o]
 go_loopw [3] (λv wr=>∃k:Nat,k<=n/\v=QZ k/\(∀j,j<k->il j<=dn j)/\aq u wr) (λv _=>n-(intOf v).toNat)
 .exact ⟨0,PZ _,rfl,λj hj=>absurd hj (Nat.not_lt_zero j),q⟩
 case round=>
  clear q;obtain ⟨k,hk,rfl,A,q⟩:=hrel;have N:=aa A;clear A;by_cases D:k<n
  .have R:(k:Int)<n:=ap;have a0:0<=(k:Int):=ap;obtain ⟨b,o,I,c,rfl,c1,c2⟩:=HC.o k D;by_cases L:il k<=dn k
   .have hd:¬((dn k:Int)<il k):=ap;go_upto_region 4 with (fail);refine HA.g (λi:R8=>aq u i) ?_;refine HA.t ?_ [0,1,2,3,4,5,6,7,8,9,10,11,12,13] q.drew ?_;refine HA.d ?_;have H:=aa q.drew;clear c1 c2 q;go_wp2;go_roundw
    case rel=>
     refine ⟨k+1,ap,Vc,λj hj=>?_,H.o⟩;rcases Qf j k with h1 | h1
     .exact N.o j h1
     .obtain rfl:j=k:=ap;exact L
    case measure=>exact Va
   .have hd:(dn k:Int)<il k:=ap;go_upto_region 4 with (fail);refine HA.g (λi:R8=>aq u i) ?_;refine HA.t ?_ [0,1,2,3,4,5,6,7,8,9,10,11,12,13] q.drew ?_;refine HA.d ?_;have H:=aa q.drew;clear c1 c2 q;go_wp2;go_ret
    have Y:B=false:=by
     cases hBB:B with
     | false=>rfl
     | true=>exact absurd (HB.o.1 hBB k D) L
    exact ⟨by rw [Y];rfl,Q.o.trans (H.o.mono Q.o.size)⟩
  .obtain rfl:k=n:=ap;have H:=aa q;have R:¬((k:Int)<k):=ap;go_wp2;go_ret;exact ⟨by rw [HB.o.2 N.o];rfl,Q.o.trans (H.o.mono Q.o.size)⟩
def Pn {σ:Type} (J:R8->R6->σ->Prop) (S:Nat->Prop) (s:σ) (k:Nat) (w:R8) (e:Ending) (i:R8):Prop:=
 ∃h:R6,e=.returned (.tuple #[.agg h,QZ (k:Nat)])/\h.size=3/\h.toList.all (·.oneCell')=true/\J (aH S i) h s/\aq w i
def LX {σ:Type} (J:R8->R6->σ->Prop) (S:Nat->Prop) (s:σ) (b:Bool) (w:R8) (e:Ending) (i:R8):Prop:=
 ∃h:R6,e=.returned (.tuple #[.agg h,.bool b])/\h.size=3/\h.toList.all (·.oneCell')=true/\J (aH S i) h s/\aq w i
theorem Jf {σ:Type} {st:σ->Int->σ×Bool} {J:R8->R6->σ->Prop} {c:Nat} {s:σ} (hS:∀k,S k->k<w.heap.size) (hl:l.length<=1000000) (hA:Rd w A (aA .i64 l)) (hJ:∀u v vs s,J u vs s->Ext u v->J v vs s) (hp:∀(S:Nat->Prop) w vs s z,(∀k,S k->k<w.heap.size)->J (aH S w) vs s->z∈l->Vj 16 #[.agg vs,QZ z] w (LX J S (st s z).1 (st s z).2 w)) (h0:J (aH S w) vs s) (hz:vs.size=3) (ho:vs.toList.all (·.oneCell')=true):Vj 20 #[.agg vs,.slice A l.length c] w (Pn J S (mC st s l).1 (mC st s l).2 w):=by
 obtain ⟨n,hn⟩:=Vb l.length;rw [hn] at hl |-;obtain ⟨W0,B⟩:=Vb ((w.alloc (.cells vs 39)).alloc (.cells #[Ra,Ra,QZ 0] 39));have g0:Vg W0 w.heap.size vs 39:=by rw [<-B];exact sb (PW w _) _ ((br _).alloc (PV _) _)
 have g1:Vg W0 (w.heap.size+1) #[Ra,Ra,QZ 0] 39:=by rw [<-B];have:=PW (w.alloc (.cells vs 39)) (.cells #[Ra,Ra,QZ 0] 39);rwa [Qg] at this
 have q0:aq w W0:=by rw [<-B];exact ((br w).alloc (PV _) _).alloc (by rw [Qg];omega) _
 have a1:W0.heap.size=w.heap.size+2:=by rw [<-B];simp
 have j0:J (aH (λk=>S k\/k=w.heap.size\/k=w.heap.size+1) W0) vs s:=hJ _ _ _ _ h0 (bC (Keep.below q0) λk hk e=>e.elim id λe=>ap);obtain ⟨ad,HP,HJ,Hn,ao,G0,G1,Q0⟩:=ak hA hp hJ hn B g0 g1 q0;obtain ⟨J0,HZ,HO,HS,a7⟩:=ah j0 hz ho hS a1;clear hA hp hJ h0 hn B g0 g1 q0 j0 hz ho hS a1;go_enter func20,ntmps20;go_wp2_with fail;rw [ao.o]
 go_loopw [6,7] (λv i wr=>∃k:Nat,k<=n/\i=QZ k/\v=QZ ((mC st s (l.take k)).2:Nat)/\∃x,Vg wr w.heap.size x 39/\Vg wr (w.heap.size+1) #[Ra,Ra,QZ 0] 39/\x.size=3/\x.toList.all (·.oneCell')=true/\J (aH (λk=>S k\/k=w.heap.size\/k=w.heap.size+1) wr) x (mC st s (l.take k)).1/\aq w wr/\w.heap.size+2<=wr.heap.size) (λ_ i _=>n-(intOf i).toNat)
 .exact ⟨0,PZ _,rfl,rfl,vs,G0.o,G1.o,HZ.o,HO.o,J0.o,Q0.o,by rw [a7.o];omega⟩
 case round=>
  obtain ⟨k,hk,rfl,rfl,x,gx,gy,zz,oo,jj,qq,ss⟩:=hrel;obtain ⟨GX,GY,ZZ,OO,JJ,QQ⟩:=ai gx gy zz oo jj qq;clear gx gy zz oo jj qq;by_cases a8:k<n
  .have O:k<l.length:=by rw [Hn.o];exact a8
   obtain ⟨b,o,rfl,p⟩:=(ad.o.below QQ.o).num O;have aG:(k:Int)<n:=ap;have aM:0<=(k:Int):=ap;have a9:=xV st s l k;obtain ⟨M,hM⟩:=Vb (mC st s (l.take k))
   have a4:mC st s (l.take (k+1))=((st M.1 (nth l k)).1,M.2+if (st M.1 (nth l k)).2 then 1 else 0):=by
    rw [List.take_add_one,Qv O,Option.toList_some,qU,hM,dN _ _ O]
   rw [hM] at JJ a9 |-;have Z:nth l k∈l:=by rw [dN _ _ O];exact List.getElem_mem O
   obtain ⟨HX,HM,T⟩:=af a4 hM Z;have p':=λw' (q:aq wr w')=>(World.cell?_of_block (q.block b (aB p))).trans p;have P':=aa p';clear a4 hM Z p p';go_upto_region 5 with (fail)
   go_cut [8,9] (λv u wx=>∃N h,v=(au N)/\u=.bool (st M.1 (nth l k)).2/\Vg wx N h 39/\wr.heap.size<=N/\h.size=3/\h.toList.all (·.oneCell')=true/\J (aH (λk=>S k\/k=w.heap.size\/k=w.heap.size+1) wx) h (st M.1 (nth l k)).1/\aq wr wx)
   case first=>
    have p':=P'.o;have s0:=(br wr).drew;have j1:=HJ.o _ _ _ _ JJ.o (bC (S':=(λk=>S k\/k=w.heap.size\/k=w.heap.size+1)) ((Keep.refl (λk=>S k\/k=w.heap.size\/k=w.heap.size+1) wr).drew) (λ_ _ e=>e));have tl:=λw' (q:aq wr w')=>P6 (PU GX.o) q.size;refine XA.g 10 (λw':R8=>aq wr w') ?_;refine XA.ld 0 x (λw' q=>sb GX.o w' q) (by rw [ZZ.o];exact bW) s0 ?_ (hcs:=by rw [Qs,QF]);refine XA.t ?_ [1,2,3,4] s0 ?_
    have Q:∀k,(λk=>S k\/k=w.heap.size\/k=w.heap.size+1) k->k<wr.heap.size:=λk e=>by
     rcases e with e | e | e
     .have:=HS.o k e;omega
     .omega
     .omega
    refine XA.two 5 9 ?_ ?_
    .refine XAS.c (HP.o (λk=>S k\/k=w.heap.size\/k=w.heap.size+1) wr.drew x M.1 (nth l k) Q j1 T.o) ?_;rintro e V ⟨h,rfl,z2,Y,j2,k6⟩;have y:=bt s0 k6;refine ⟨_,rfl,y,λ_=>?_⟩;refine XA.t ?_ [6,7] y ?_;refine XA.t0 ?_ [8] y ?_;refine XA.v 9 (V.alloc (.cells #[Ra,Ra,QZ 0] 39)) ((au V.heap.size)) (y.alloc y.size _) ?_;refine XA.e ?_;simp only [Qq,Qs];obtain ⟨GN,S6,J2,C,R⟩:=ah (PW V (.cells #[Ra,Ra,QZ 0] 39)) y j2 z2 Y;clear j2 z2 Y y k6 p' s0 j1 tl Q;go_wp2_with (refine aI (b:=V.heap.size) GN.o bW rfl rfl rfl rfl C.o (by rw [C.o];rfl) R.o ?_;intro w7 H I;obtain ⟨U,D⟩:=ae H I;clear H I);go_meet;have a6:aq V w7:=((br V).alloc (PV _) _).trans (D.o.toBelow (by rw [Qg];omega) (λj e=>ap));exact ⟨V.heap.size,h,rfl,rfl,U.o,S6.o.size,C.o,R.o,HJ.o _ _ _ _ J2.o (dI a6),S6.o.trans (a6.mono S6.o.size)⟩
    .refine XAS.v (wr.drew.alloc (.cells #[Ra,Ra,QZ 0] 39)) ((au wr.drew.heap.size)) (s0.alloc (PV _) _) ?_;have s5:aq wr (wr.drew.alloc (.cells #[Ra,Ra,QZ 0] 39)):=s0.alloc (PV _) _;have gN:=PW wr.drew (.cells #[Ra,Ra,QZ 0] 39);have a3:(wr.drew.alloc (.cells #[Ra,Ra,QZ 0] 39)).heap.size=wr.heap.size+1:=by simp
     have j5:=HJ.o _ _ _ _ j1 (bC (S':=λk=>(λk=>S k\/k=w.heap.size\/k=w.heap.size+1) k\/k=wr.heap.size) (Keep.below ((br wr.drew).alloc (PV _) (.cells #[Ra,Ra,QZ 0] 39))) (λk hk e=>e.elim id (λe=>absurd hk (by rw [QG];omega))))
     refine XA.c 5 (HP.o (λk=>(λk=>S k\/k=w.heap.size\/k=w.heap.size+1) k\/k=wr.heap.size) _ x M.1 (nth l k) (λk e=>by
      rw [a3];rcases e with e | e
      .have:=Q k e;omega
      .omega) j5 T.o) ?_
     rintro e V ⟨h,rfl,z2,Y,j2,k6⟩;have y:=bt s5 k6;refine ⟨_,rfl,y,λ_=>?_⟩;refine XA.t ?_ [6,7] y ?_;refine XA.t0 ?_ [8] y ?_;refine XA.e ?_;simp only [Qq,Qs];obtain ⟨GN,S6,J2,C,R⟩:=ah (sb gN _ k6) y j2 z2 Y;clear j2 z2 Y y k6 p' s0 j1 tl Q s5 gN a3 j5;go_wp2_with (refine aI (b:=wr.heap.size) GN.o bW rfl rfl rfl rfl C.o (by rw [C.o];rfl) R.o ?_;intro w7 H I;obtain ⟨U,D⟩:=ae H I;clear H I);go_meet;exact ⟨wr.heap.size,h,rfl,rfl,U.o,PV _,C.o,R.o,HJ.o _ _ _ _ J2.o (bC (D.o.mono λk _ e=>.inr e) (λk _ e=>.inl e)),S6.o.trans (D.o.toBelow S6.o.size (λj e=>ap))⟩
   case rest=>
    obtain ⟨N,h,rfl,rfl,gN,lN,z2,Y,j2,kc⟩:=hcut;obtain ⟨GN,C,R,J2,KC,ab,a0⟩:=aj gN z2 Y j2 kc (sb GX.o wc kc) (sb GY.o wc kc);have L:(h.toList.drop 0).take h.toList.length=h.toList:=by rw [Qs,QF]
    have EM:=aa L;clear gN z2 Y j2 kc L;have w1:IntKind.i64.wrap ((M.2:Int)+1)=(M.2:Int)+1:=P3 _ ap;have w2:IntKind.i64.wrap ((k:Int)+1)=(k:Int)+1:=P3 _ ap;go_upto_region 7 with (first | (refine aQ h GN.o (by rw [C.o];exact bW) rfl rfl rfl EM.o ?_) | (refine aI (b:=w.heap.size) ab.o bW rfl rfl rfl rfl C.o (by rw [C.o,ZZ.o]) R.o ?_;intro w7 H I;obtain ⟨U,D⟩:=ae H I;clear H I));have a2:=aa ((D.o.block _ (PU a0.o) ap).trans a0.o);have qc:=QQ.o.trans (KC.o.mono (by have:=QQ.o.size;omega));have Q7:=aa (qc.trans (D.o.toBelow qc.size (λj e=>ap)));have J7:=aa (HJ.o _ _ _ _ J2.o (bC (S':=(λk=>S k\/k=w.heap.size\/k=w.heap.size+1)) (D.o.mono λk _ e=>.inr (.inl e)) (λ_ _ e=>e)));have a5:w.heap.size+2<=w7.heap.size:=by have:=KC.o.size;have:=D.o.size;omega
    clear qc
    cases hb:(st M.1 (nth l k)).2 with
    | true=>
     have HB:=aa hb;clear hb;go_wp2;go_roundw
     .exact ⟨k+1,ap,Vc,by rw [HX.o,HB.o];simp,h,U.o,a2.o,C.o,R.o,by rw [HX.o];exact J7.o,Q7.o,a5⟩
     .simp [intOf];omega
    | false=>
     have HB:=aa hb;clear hb;go_wp2;go_roundw
     .exact ⟨k+1,ap,Vc,by rw [HX.o,HB.o];simp,h,U.o,a2.o,C.o,R.o,by rw [HX.o];exact J7.o,Q7.o,a5⟩
     .simp [intOf];omega
  .obtain rfl:k=n:=ap;have ht:l.take k=l:=by rw [<-Hn.o,QF]
   have HT:=aa ht;have L:(x.toList.drop 0).take x.toList.length=x.toList:=by rw [Qs,QF]
   have EM:=aa L;have av:¬((k:Int)<k):=ap;clear ht L;go_wp2_with (first | (refine aQ x GX.o (by rw [ZZ.o];exact bW) rfl rfl rfl EM.o ?_) | (refine aI (b:=w.heap.size+1) GY.o bW rfl rfl rfl rfl ZZ.o (by rw [ZZ.o];rfl) OO.o ?_;intro w7 H I;obtain ⟨U,D⟩:=ae H I;clear H I))
   try simp only [Exit.inBlock,Exit.then]
   refine Qd (dV rfl rfl U.o (by rw [ZZ.o];exact bW)) rfl ?_;refine ⟨x,by rw [HT.o];rfl,ZZ.o,OO.o,?_,QQ.o.trans (D.o.toBelow QQ.o.size (λj e=>ap))⟩;have:=JJ.o;rw [HT.o] at this;exact HJ.o _ _ _ _ this (bC (D.o.mono λk _ e=>.inr (.inr e)) (λ_ _ e=>.inl e))
theorem DK:dg prog 29 15:=⟨⟨_,underlying29,rfl⟩,by kernel_rfl⟩
theorem Pi {m:R6} (h:m.size=22):∃U a1 V N Q O T L J R v x D I p y u A o C H B,m=#[U,a1,V,N,Q,O,T,L,J,R,v,x,D,I,p,y,u,A,o,C,H,B]:=by
 obtain ⟨l⟩:=m;have i:l.length=22:=h;clear h;obtain _ | ⟨U,l⟩:=l
 .simp at i
 obtain _ | ⟨a1,l⟩:=l
 .simp at i
 obtain _ | ⟨V,l⟩:=l
 .simp at i
 obtain _ | ⟨N,l⟩:=l
 .simp at i
 obtain _ | ⟨Q,l⟩:=l
 .simp at i
 obtain _ | ⟨O,l⟩:=l
 .simp at i
 obtain _ | ⟨T,l⟩:=l
 .simp at i
 obtain _ | ⟨L,l⟩:=l
 .simp at i
 obtain _ | ⟨J,l⟩:=l
 .simp at i
 obtain _ | ⟨R,l⟩:=l
 .simp at i
 obtain _ | ⟨v,l⟩:=l
 .simp at i
 obtain _ | ⟨x,l⟩:=l
 .simp at i
 obtain _ | ⟨D,l⟩:=l
 .simp at i
 obtain _ | ⟨I,l⟩:=l
 .simp at i
 obtain _ | ⟨p,l⟩:=l
 .simp at i
 obtain _ | ⟨y,l⟩:=l
 .simp at i
 obtain _ | ⟨u,l⟩:=l
 .simp at i
 obtain _ | ⟨A,l⟩:=l
 .simp at i
 obtain _ | ⟨o,l⟩:=l
 .simp at i
 obtain _ | ⟨C,l⟩:=l
 .simp at i
 obtain _ | ⟨H,l⟩:=l
 .simp at i
 obtain _ | ⟨B,l⟩:=l
 .simp at i
 obtain _ | ⟨b,l⟩:=l
 .exact ⟨U,a1,V,N,Q,O,T,L,J,R,v,x,D,I,p,y,u,A,o,C,H,B,rfl⟩
 .simp at i
theorem ge {a b c:R8} (h:Keep S a b) (k:Keep T b c) (hs:∀j,j<a.heap.size->T j->S j):Keep S a c:=
 ⟨k.os.trans h.os,k.tape.trans h.tape,k.output.trans h.output,P4 h.size k.size,λi o hn=>(k.block i (P6 o h.size) (λe=>hn (hs i o e))).trans (h.block i o hn)⟩
structure L7 (Rm:Nat->R6->R8->Prop) (w:R8) (X cap k:Nat) (wr:R8) (mv:Nat->R6) (AM AL:N_) (cm cl:Nat):Prop where
 box:wr.heap[X]?=some (.cells #[.slice AM k cm,.slice AL k cl,QZ 0] 39 (0,0))
 oM:wr.ownsRow (X+1) 106 22 (.slice AM k cm) k (dZ mv k)
 oL:wr.ownsRow (X+1) 75 4 (.slice AL k cl) k (dZ (λ_=>#[QZ (cap:Nat),Ra,QZ 0,QZ 0]) k)
 sm:∀x,x<k->(mv x).size=22/\(mv x).toList.all (·.oneCell')=true
 g:∀x,x<k->∀w2,Keep (λj=>j=w.heap.size+1\/j=X\/m8 (.slice AM k cm) (.slice AL k cl) j) wr w2->Rm x (mv x) w2
 lo:w.heap.size+2<=X
 q:aq w wr
def Pp (S:Nat->Prop) (Rm:Nat->R6->R8->Prop) (N cap:Nat) (w:R8) (e:Ending) (h:R8):Prop:=
 ∃(vs':R6) (mv:Nat->R6),e=.returned (.tuple #[.agg vs',QZ 0])/\RWv (aH S h) vs' N mv (λ_=>#[QZ (cap:Nat),Ra,QZ 0,QZ 0]) 0/\(∀x,x<N->Rm x (mv x) h)/\aq w h
theorem Jk {i0 i1 i2 i3 i5 i6 i7 i8 i9 U ab T L:Value} {N:Nat} (hS:∀k,S k->k<w.heap.size) (hN:N<=1000) (cr:cap<=1048576) (c7:∀i,aq w i->Vj 18 #[.agg #[i0,i1,i2,i3,Vd N,i5,i6,i7,i8,i9,U,Vd cap,ab,T,L]] i λe b5=>Vi e (QZ 0)/\aq i b5) (hm:∀k i,k<N->aq w i->Vj 46 #[.agg #[i0,i1,i2,i3,Vd N,i5,i6,i7,i8,i9,U,Vd cap,ab,T,L],Vd k] i λe b5=>∃m:R6,Vi e (.tuple #[.agg m,QZ 0])/\(m.size=22/\m.toList.all (·.oneCell')=true)/\aq i b5/\∀p,aq w p->Keep (λj=>j<i.heap.size) b5 p->Rm k m p):Vj 14 #[.agg #[i0,i1,i2,i3,Vd N,i5,i6,i7,i8,i9,U,Vd cap,ab,T,L]] w (Pp S Rm N cap w):=by
 obtain ⟨W1,ao⟩:=Vb ((w.alloc (.cells #[i0,i1,i2,i3,Vd N,i5,i6,i7,i8,i9,U,Vd cap,ab,T,L] 29)).alloc (.cells #[Ra,Ra,QZ 0] 39));have g0:Vg W1 w.heap.size #[i0,i1,i2,i3,Vd N,i5,i6,i7,i8,i9,U,Vd cap,ab,T,L] 29:=by rw [<-ao];exact sb (PW w _) _ ((br _).alloc (PV _) _)
 have g1:Vg W1 (w.heap.size+1) #[Ra,Ra,QZ 0] 39:=by rw [<-ao];have:=PW (w.alloc (.cells #[i0,i1,i2,i3,Vd N,i5,i6,i7,i8,i9,U,Vd cap,ab,T,L] 29)) (.cells #[Ra,Ra,QZ 0] 39);rwa [Qg] at this
 have q0:aq w W1:=by rw [<-ao];exact ((br w).alloc (PV _) _).alloc (by rw [Qg];omega) _
 have bN:W1.heap.size=w.heap.size+2:=by rw [<-ao];simp
 have t4:∀i,aq W1 i->Vh i w.heap.size 4 (Vd N):=λi q=>PX i w.heap.size 4 _ _ _ (sb g0 i q);have cy:∀i,aq W1 i->Vh i w.heap.size 11 (Vd cap):=λi q=>PX i w.heap.size 11 _ _ _ (sb g0 i q);have tl:=sl g1;obtain ⟨co,Hm,bO,G0,G1,Q0,HS,aR⟩:=ak c7 hm ao g0 g1 q0 hS bN;have q1:=br W1;clear c7 hm ao g0 g1 q0 hS bN;go_enter func14,ntmps14;go_wp2_with (refine aQ #[i0,i1,i2,i3,Vd N,i5,i6,i7,i8,i9,U,Vd cap,ab,T,L] (b:=w.heap.size) (by rw [bO.o];exact G0.o) DK rfl rfl rfl rfl ?_);rw [bO.o];refine (co.o _ Q0.o).mono ?_;rintro e p ⟨rfl,k2⟩;have q2:=bt q1 k2;clear k2;go_wp2_with fail;obtain ⟨X,hX⟩:=Vb p.heap.size;obtain ⟨W3,bd⟩:=Vb (p.alloc (.cells #[Ra,Ra,QZ 0] 39));have g3:Vg W3 X #[Ra,Ra,QZ 0] 39:=by rw [<-bd,<-hX];exact PW p _
 have q3:aq W1 W3:=by rw [<-bd];exact q2.alloc q2.size _
 have gX:w.heap.size+2<=X:=by rw [<-hX,<-aR.o];exact q2.size
 have m3:L7 Rm w X cap 0 W3 (λ_=>#[]) none none 0 0:=⟨g3,Qb ..,Qb ..,λx hx=>absurd hx (Nat.not_lt_zero _),λx hx=>absurd hx (Nat.not_lt_zero _),gX,Q0.o.trans (q3.mono Q0.o.size)⟩;rw [hX,bd];obtain ⟨M3,Q3⟩:=ae m3 q3;clear m3 g3 bd hX q2 q1 q3
 go_loopw [6] (λv wr=>∃k:Nat,k<=N/\v=QZ k/\∃mv AM AL cm cl,L7 Rm w X cap k wr mv AM AL cm cl/\aq W1 wr) (λv _=>N-(intOf v).toNat)
 .exact ⟨0,PZ _,rfl,_,_,_,_,_,M3.o,Q3.o⟩
 case round=>
  obtain ⟨k,hk,rfl,mv,AM,AL,cm,cl,m,q⟩:=hrel;have h:=aa m;have tb:=bx3 m.box;have bv:=PU m.box;have QR:=aa q;clear m;by_cases cb:k<N
  .have d1:(k:Int)<N:=ap;have cs:IntKind.i64.wrap ((k:Int)+1)=(k:Int)+1:=P3 _ ap;go_wp2_with (refine aQ #[i0,i1,i2,i3,Vd N,i5,i6,i7,i8,i9,U,Vd cap,ab,T,L] (b:=w.heap.size) (sb G0.o _ QR.o) DK rfl rfl rfl rfl ?_);refine (Hm.o k wr cb h.o.q).mono ?_;rintro e w5 ⟨m1,rfl,⟨z,o⟩,k5,hR⟩;obtain ⟨a0,a1,a2,a3,a4,a5,a6,a7,a8,a9,D,I,H,Z,B,Y,C,V,A,Q,R,J,rfl⟩:=Pi z;obtain ⟨O,K5,HR⟩:=af o k5 hR;clear z o hR k5 tb q;go_upto_region 9 with (refine aI (PW _ _) jv rfl rfl rfl rfl rfl rfl O.o ?_;intro w6 e6 k6;obtain ⟨E6,K6⟩:=ae e6 (aN k6);clear e6 k6);have k6:=bt K5.o K6.o;have b6:=sb h.o.box w6 k6;have ci:=bx3 b6;obtain ⟨B6,bo,bG⟩:=af b6 (az h.o.oM k6) (az h.o.oL k6);have cx:=k6.size;have b4:=aa k6;clear b6 k6;go_wp2_with (first | (refine aQ #[a0,a1,a2,a3,a4,a5,a6,a7,a8,a9,D,I,H,Z,B,Y,C,V,A,Q,R,J] E6.o jv rfl rfl rfl rfl ?_) | (at_builtin;refine dQ Lc _ rfl (.tmp 29) (.tmp 31) rfl (X+1) (.slice AM k cm) k _ rfl (bo.o.alloc _) (some (ar w6.heap.size 0)) 1 1 #[a0,a1,a2,a3,a4,a5,a6,a7,a8,a9,D,I,H,Z,B,Y,C,V,A,Q,R,J].toList rfl (dW w6 _ _ w6.heap.size rfl) rfl (λu hu=>List.all_eq_true.1 O.o u hu) ap V2 V6 ?_));intro A2 c2 w7 o7 b7 g7 n7;have kA:aq w6 (w6.alloc (.cells #[a0,a1,a2,a3,a4,a5,a6,a7,a8,a9,D,I,H,Z,B,Y,C,V,A,Q,R,J] 106)):=(br w6).alloc (PV _) _;have bb:w7.heap[X]?=_:=(b7.block X ap).trans (sb B6.o _ kA);have kM:Keep (λj=>(Value.slice AM k cm).ownBlock=some j) w6 w7:=((Keep.refl _ w6).alloc _).grown g7 (λk hk=>.inr hk);have bV:=kM.own bG.o (λj h1 h2=>fZ bG.o bo.o V0 j h1 h2);have cO:=kM.size;have cj:=bx3 bb;have cM:=PU bb;obtain ⟨cc,KM,bX,O7,N7⟩:=ah bb kM bV o7 n7;clear kA bb kM bV o7 n7 b7 g7 ci;go_upto_region 10 with (fail);obtain ⟨W8,be⟩:=Vb (w7.setCell (ar X 0) (.slice A2 (k+1) c2));have k8:Keep (λj=>j=X) w7 W8:=by rw [<-be];exact Vk X (Keep.refl _ _) _ (.inr rfl) _
   have b8:Vg W8 X #[.slice A2 (k+1) c2,.slice AL k cl,QZ 0] 39:=by rw [<-be];exact ss cc.o
   have bM:=k8.own O7.o (λj h1 h2=>by have:=(O7.o.lt j h1).1;omega);have bz:=k8.own bX.o (λj h1 h2=>by have:=(bX.o.lt j h1).1;omega);rw [be];have q8:aq W1 W8:=(bt QR.o b4.o).trans ((KM.o.toBelow (by have:=QR.o.size;omega) (λj e=>by have:=(bo.o.lt j e).1;have:=h.o.lo;have:=aR.o;omega)).trans (k8.toBelow (by have:=QR.o.size;omega) (λj e=>by have:=h.o.lo;have:=aR.o;omega)));have cL:=k8.size;have d0:=PU b8;have cd:=bx3 b8;obtain ⟨cn,K8,c8,c6,Q8⟩:=ah b8 k8 bM bz q8;clear b8 k8 bM bz be cj;go_wp2_with (at_builtin;refine dQ Ld _ rfl (.tmp 35) (.tmp 40) rfl (X+1) (.slice AL k cl) k _ rfl (c6.o.alloc _) (some (ar W8.heap.size 0)) 1 1 #[Vd cap,Ra,QZ 0,QZ 0].toList rfl (dW W8 _ _ W8.heap.size rfl) rfl V5 ap V2 V6 ?_);intro A3 c3 w9 o9 b9 g9 n9;have kA:aq W8 (W8.alloc (.cells #[Vd cap,Ra,QZ 0,QZ 0] 75)):=(br W8).alloc (PV _) _;have bf:w9.heap[X]?=_:=(b9.block X ap).trans (sb cn.o _ kA);have kL:Keep (λj=>(Value.slice AL k cl).ownBlock=some j) W8 w9:=((Keep.refl _ W8).alloc _).grown g9 (λk hk=>.inr hk);have bn:=kL.own c8.o (λj h1 h2=>fZ c8.o c6.o V0 j h1 h2);have cP:=bx3 bf;have cw:=PU bf;have av:Keep (λj=>j=X) w9 (w9.setCell (ar X 1) (.slice A3 (k+1) c3)):=Vk X (Keep.refl _ _) _ (.inr rfl) _;have bh:Vg (w9.setCell (ar X 1) (.slice A3 (k+1) c3)) X #[.slice A2 (k+1) c2,.slice A3 (k+1) c3,QZ 0] 39:=ss bf;have b3:=av.own bn (λj h1 h2=>by have:=(bn.lt j h1).1;omega);have bi:=av.own o9 (λj h1 h2=>by have:=(o9.lt j h1).1;omega)
   have b0:dZ mv k++(#[a0,a1,a2,a3,a4,a5,a6,a7,a8,a9,D,I,H,Z,B,Y,C,V,A,Q,R,J]:R6).toList=dZ (aY mv k #[a0,a1,a2,a3,a4,a5,a6,a7,a8,a9,D,I,H,Z,B,Y,C,V,A,Q,R,J]) (k+1):=by
    rw [mJ,bF,zk λy hy=>(bD (f:=mv) (v:=#[a0,a1,a2,a3,a4,a5,a6,a7,a8,a9,D,I,H,Z,B,Y,C,V,A,Q,R,J]) (show y≠k by omega)).symm]
   have ad:dZ (λ_=>#[Vd cap,Ra,QZ 0,QZ 0]) k++(#[Vd cap,Ra,QZ 0,QZ 0]:R6).toList=dZ (λ_=>#[Vd cap,Ra,QZ 0,QZ 0]) (k+1):=(mJ _ _).symm
   have aP:Keep (λj=>j=w.heap.size+1\/j=X\/m8 (.slice AM k cm) (.slice AL k cl) j) wr (w9.setCell (ar X 1) (.slice A3 (k+1) c3)):=
    ge (Keep.below b4.o) (ge (S:=(λj=>j=w.heap.size+1\/j=X\/m8 (.slice AM k cm) (.slice AL k cl) j)) (KM.o.mono λj _ e=>.inr (.inr (.inl e))) (ge (S:=(λj=>j=w.heap.size+1\/j=X\/m8 (.slice AM k cm) (.slice AL k cl) j)) (K8.o.mono λj _ e=>.inr (.inl e)) (ge (S:=(λj=>j=w.heap.size+1\/j=X\/m8 (.slice AM k cm) (.slice AL k cl) j)) (kL.mono λj _ e=>.inr (.inr (.inr e))) (av.mono λj _ (e:j=X)=>(.inr (.inl e):(λj=>j=w.heap.size+1\/j=X\/m8 (.slice AM k cm) (.slice AL k cl) j) j)) (λ_ _ e=>e)) (λ_ _ e=>e)) (λ_ _ e=>e)) (λ_ _ e=>e)
   have b2:∀j,j<wr.heap.size->(λj=>j=w.heap.size+1\/j=X\/m8 (.slice A2 (k+1) c2) (.slice A3 (k+1) c3) j) j->(λj=>j=w.heap.size+1\/j=X\/m8 (.slice AM k cm) (.slice AL k cl) j) j:=λj hj e=>by
    rcases e with e | e | e | e
    .exact .inl e
    .exact .inr (.inl e)
    .rcases N7.o with h1 | h1
     .rw [h1] at e;exact .inr (.inr (.inl e))
     .rw [h1] at e;simp at e;have:=b4.o.size;omega
    .rcases n9 with h1 | h1
     .rw [h1] at e;exact .inr (.inr (.inr e))
     .rw [h1] at e;simp at e;have:=b4.o.size;omega
   have aM:∀p,Keep (λj=>j=w.heap.size+1\/j=X\/m8 (.slice A2 (k+1) c2) (.slice A3 (k+1) c3) j) (w9.setCell (ar X 1) (.slice A3 (k+1) c3)) p->aq w p:=λp kk=>by
    have h1:=ge aP kk b2
    exact h.o.q.trans (h1.toBelow h.o.q.size (λj e=>by
     rcases e with e | e | e | e
     .omega
     .have:=h.o.lo;omega
     .have:=(h.o.oM.lt j e).1;have:=h.o.lo;omega
     .have:=(h.o.oL.lt j e).1;have:=h.o.lo;omega))
   have hg:∀x,x<k+1->∀p,Keep (λj=>j=w.heap.size+1\/j=X\/m8 (.slice A2 (k+1) c2) (.slice A3 (k+1) c3) j) (w9.setCell (ar X 1) (.slice A3 (k+1) c3)) p->Rm x (aY mv k #[a0,a1,a2,a3,a4,a5,a6,a7,a8,a9,D,I,H,Z,B,Y,C,V,A,Q,R,J] x) p:=λx hx p kk=>by
    by_cases aG:x=k
    .subst aG;rw [bF];refine HR.o p (aM p kk) ?_
     have cf:Keep (λj=>j<wr.heap.size) w5 (w9.setCell (ar X 1) (.slice A3 (x+1) c3)):=
      ge (Keep.below K6.o) (ge (S:=λj=>j<wr.heap.size) (KM.o.mono λj _ e=>(h.o.oM.lt j e).2) (ge (S:=λj=>j<wr.heap.size) (K8.o.mono λj _ (e:j=X)=>by rw [e];exact bv) (ge (S:=λj=>j<wr.heap.size) (kL.mono λj _ e=>(h.o.oL.lt j e).2) (av.mono λj _ (e:j=X)=>by rw [e];exact bv) (λ_ _ e=>e)) (λ_ _ e=>e)) (λ_ _ e=>e)) (λ_ _ e=>e)
     refine ge cf kk λj hj e=>?_;refine Classical.byContradiction λhc=>?_;rcases e with e | e | e | e
     .have:=h.o.q.size;have:=h.o.lo;omega
     .omega
     .rcases N7.o with h1 | h1
      .rw [h1] at e;exact hc (h.o.oM.lt j e).2
      .rw [h1] at e;simp at e;have:=K6.o.size;omega
     .rcases n9 with h1 | h1
      .rw [h1] at e;exact hc (h.o.oL.lt j e).2
      .rw [h1] at e;simp at e;have:=K6.o.size;omega
    .rw [bD _ _ aG];exact h.o.g x ap p (ge aP kk b2)
   rw [b0] at b3;have bl:=bi;rw [ad] at bl
   have b1:L7 Rm w X cap (k+1) (w9.setCell (ar X 1) (.slice A3 (k+1) c3)) (aY mv k #[a0,a1,a2,a3,a4,a5,a6,a7,a8,a9,D,I,H,Z,B,Y,C,V,A,Q,R,J]) A2 A3 c2 c3:=⟨bh,b3,bl,λx hx=>by
    by_cases aG:x=k
    .subst aG;rw [bF];exact ⟨rfl,O.o⟩
    .rw [bD _ _ aG];exact h.o.sm x ap,hg,h.o.lo,aM _ (Keep.refl _ _)⟩
   have qn:=Q8.o.trans ((kL.toBelow (by have:=Q8.o.size;omega) (λj e=>by have:=(h.o.oL.lt j e).1;have:=h.o.lo;have:=aR.o;omega)).trans (av.toBelow (by have:=Q8.o.size;have:=kL.size;omega) (λj e=>by have:=h.o.lo;have:=aR.o;omega)));obtain ⟨bs,QN⟩:=ae b1 qn;clear b1 qn hg aM b2 aP b0 ad bl b3 bi bh av bn kL bf kA n9 g9 b9 o9 cd;go_wp2;go_roundw
   .exact ⟨k+1,ap,Vc,_,_,_,_,_,bs.o,QN.o⟩
   .simp [intOf];omega
  .obtain rfl:k=N:=ap;have cv:¬((k:Int)<k):=ap;obtain ⟨GX,c9⟩:=ae h.o.box (sb G1.o _ q);go_wp2_with (first | (refine aQ #[.slice AM k cm,.slice AL k cl,QZ 0] (b:=X) GX.o bW rfl rfl rfl rfl ?_) | (refine aI (b:=w.heap.size+1) c9.o bW rfl rfl rfl rfl rfl rfl rfl ?_;intro w9 e9 k9;obtain ⟨E9,K9⟩:=ae e9 k9;clear e9 k9))
   try simp only [Exit.inBlock,Exit.then]
   refine Qd (dV rfl rfl E9.o bW) rfl ?_;have cA:=h.o.lo;have bA:=K9.o.own h.o.oM (λj h1 h2=>by have:=(h.o.oM.lt j h1).1;omega);have bI:=K9.o.own h.o.oL (λj h1 h2=>by have:=(h.o.oL.lt j h1).1;omega)
   have hc:k<=cm/\k<=cl:=by
    obtain ⟨_,_,e1,h1⟩:=aC bA;obtain ⟨_,_,e2,h2⟩:=aC bI;injection e1 with _ _ e1;injection e2 with _ _ e2
    omega
   have bw:∀j,S j->j<X+1:=λj e=>by have:=HS.o j e;omega
   exact ⟨_,mv,rfl,⟨⟨AM,cm,AL,cl,rfl,iA bA bw,iA bI bw,hc⟩,h.o.sm,λx hx=>⟨rfl,rfl⟩⟩,λx hx=>h.o.g x hx _ (K9.o.mono λj _ e=>.inl e),h.o.q.trans (K9.o.toBelow h.o.q.size (λj e=>ap))⟩
theorem RWv.ext {u o:R8} {i:Nat->R6} {cnt:Nat} (h:RWv u vs n mv i cnt) (hb:Ext u o):RWv o vs n mv i cnt:=by
 obtain ⟨⟨B,cm,p,v,h1,y,D,A⟩,C,x⟩:=h;exact ⟨⟨B,cm,p,v,h1,aW y hb,aW D hb,A⟩,C,x⟩
structure RWm (u:R8) (vs:R6) (i:Inp) (M:WSt):Prop where
 ex:∃mv lv,RWv u vs (ax i).W mv lv (M.sum i)/\(∀x,x<(ax i).W->fO u (mv x) i x (M.m x))/\∀x,x<(ax i).W->RL u (lv x) (M.s x)
 al:fW i M
theorem RWm.ext {u p:R8} {M:WSt} (h:RWm u vs i M) (hb:Ext u p):RWm p vs i M:=by
 obtain ⟨⟨mv,A,h1,v,B⟩,y⟩:=h;exact ⟨⟨mv,A,h1.ext hb,λx o=>jV (v x o) hb,λx o=>kw (B x o) hb⟩,y⟩
theorem RWm.sz {u:R8} {M:WSt} (h:RWm u vs i M):vs.size=3/\vs.toList.all (·.oneCell')=true:=by
 obtain ⟨⟨mv,x,⟨⟨v,cm,o,p,rfl, -⟩, -, -⟩, -, -⟩, -⟩:=h;exact ⟨rfl,rfl⟩
theorem NZ {M:WSt} (h:x<(ax i).W):pkZ i M x=pkF i M x:=by
 unfold pkZ;rw [if_pos ⟨ap,ap⟩,Int.toNat_natCast]
theorem MI {M:WSt} (h:¬(0<=z/\z<((ax i).W:Int))):pkZ i M z=(M,false):=by
 unfold pkZ;rw [if_neg h]
theorem fW.msgs_le {M:WSt} (h:fW i M) (hs:bK i) (o:x<(ax i).W):(M.s x).msgs.length<=1000000000:=by
 have h1:=h.ok.sn x o;have C:sN i x (M.pos i x)<=M.pos i x:=Nx i x _;have A:M.pos i x<=M.sum i:=DT o;have B:=h.sum_le hs;have u:=sK hs.ok;have p:=xK hs.ok;have y:=hs.s;have v:tp (ax i)*i.cfg.steps.toNat<=810000*6:=Nat.mul_le_mul p ap;omega
theorem fW.sum_lt {M:WSt} (h:fW i M) (hs:bK i):M.sum i<=1000000000:=by
 have x:=h.sum_le hs;have p:=sK hs.ok;have o:=xK hs.ok;have v:=hs.s;have u:tp (ax i)*i.cfg.steps.toNat<=810000*6:=Nat.mul_le_mul o ap;omega
theorem I6 {M:WSt} (hs:bK i) (hS:∀k,S k->k<w.heap.size) (h:RWm (aH S w) vs i M) (z:Int):Vj 16 #[.agg vs,QZ z] w (LX (λu vs M=>RWm u vs i M) S (pkZ i M z).1 (pkZ i M z).2 w):=by
 have H:=h.sz;have ao:=hs.ok.W8;obtain ⟨⟨mv,lv,h1,h2,N⟩,D⟩:=h;have Z:=h1.ext (dO S w);by_cases T:0<=z/\z<((ax i).W:Int);rotate_left
 .rw [MI T];refine (Ff Z ap).mono ?_;rintro e o ⟨rfl,hb⟩;exact ⟨vs,rfl,H.1,H.2,(⟨⟨mv,lv,h1,h2,N⟩,D⟩:RWm (aH S w) vs i M).ext (dI hb),hb⟩
 obtain ⟨x,rfl⟩:∃x:Nat,z=x:=⟨z.toNat,ap⟩;have A:x<(ax i).W:=ap;have hp:pvW (ax i).W x<(ax i).W:=lI ap;rw [NZ A];obtain ⟨C,a6,hb⟩:=pN D hs A;obtain ⟨hA, -,Y,a0⟩:=Cy D hs A;obtain ⟨m1,s1,t1,U,Q⟩:=a6
 have a9:=λo (q:aq w o) (hl:w.heap.size+6<=o.heap.size)=>by
  have he:Ext (aH S w) (aH (λk=>S k\/(w.heap.size<=k/\k<w.heap.size+6)) o):=bC (Keep.below q) (λk hk e=>e.elim id (λe=>absurd hk ap));exact DO (S:=(λk=>S k\/(w.heap.size<=k/\k<w.heap.size+6))) (w:=o) (λk e=>e.elim (λe=>by have:=hS k e;omega) (λe=>ap)) (jV (h2 x A) he) (kw (N _ hp) he) (kw (N x A) he) hs (D.ok.mok x A) (D.ok.msgI A) (D.ok.lok x A).2.1 (by have:=D.msgs_le hs hp;unfold Vp;omega) (by have:=D.msgs_le hs A;unfold Vp;omega) A U
 refine (Jg (S:=S) (R:=λm u v o=>fO (aH (λk=>S k\/(w.heap.size<=k/\k<w.heap.size+6)) o) m i x m1/\RL (aH (λk=>S k\/(w.heap.size<=k/\k<w.heap.size+6)) o) u s1/\RL (aH (λk=>S k\/(w.heap.size<=k/\k<w.heap.size+6)) o) v t1) (C:=(C:Nat)) (p:=pvW (ax i).W x) hS Z A ap rfl (D.sum_lt hs) (λo hl q=>(a9 o q hl).mono ?_) (λm u v w1 w2 hr k=>?_)).mono ?_
 .rintro e ad ⟨v1,v2,v3,he,z1,o1,r1,⟨B2,c2,rfl,r2⟩,⟨B3,c3,rfl,r3⟩,a8⟩;exact ⟨v1,_,_,he,⟨z1,rfl,rfl⟩,⟨o1,rfl,rfl⟩,⟨r1,⟨B2,c2,rfl,r2⟩,⟨B3,c3,rfl,r3⟩⟩,a8⟩
 .have he:Ext (aH (λk=>S k\/(w.heap.size<=k/\k<w.heap.size+6)) w1) (aH (λk=>S k\/(w.heap.size<=k/\k<w.heap.size+6)) w2):=bC (k.mono λj _ e=>.inr e) (λ_ _ e=>e);exact ⟨jV hr.1 he,kw hr.2.1 he,kw hr.2.2 he⟩
 .rintro e o (⟨hC,he,B⟩ | ⟨hC,a1,a2,a3,V,he,hv,hr,B⟩)
  .have hf:(pkF i M x).2=false:=by rw [hb];simp;omega
   rw [hf,a0 hf];exact ⟨vs,he,H.1,H.2,(⟨⟨mv,lv,h1,h2,N⟩,D⟩:RWm (aH S w) vs i M).ext (dI B),B⟩
  .have a4:C=0:=ap;have ht:(pkF i M x).2=true:=by rw [hb];simp [a4]
   rw [ht];have O:=(Y ht).2.2;have L:Ext (aH (λk=>S k\/(w.heap.size<=k/\k<w.heap.size+6)) o) (aH S o):=bC (Keep.refl _ _) (λk _ e=>.inl e);have J:Ext (aH S w) (aH S o):=dI B
   have I:RWm (aH S o) V i (pkF i M x).1:=by
    refine ⟨⟨_,_,by rw [O];exact hv,λy hy=>?_,λy hy=>?_⟩,hA⟩
    .rw [Q]
     show fO _ (aY mv x a1 y) i y (aY M.m x m1 y)
     by_cases e:y=x
     .subst e;rw [bF,bF];exact jV hr.1 L
     .rw [bD _ _ e,bD _ _ e];exact jV (h2 y hy) J
    .rw [Q]
     show RL _ ((if 1<(ax i).W then aY (aY lv (pvW (ax i).W x) a2) x a3 else lv) y) (aY (aY M.s (pvW (ax i).W x) s1) x t1 y)
     by_cases hW:1<(ax i).W
     .rw [if_pos hW];by_cases e:y=x
      .subst e;rw [bF,bF];exact kw hr.2.2 L
      .rw [bD _ _ e,bD _ _ e];by_cases e2:y=pvW (ax i).W x
       .rw [e2,bF,bF];exact kw hr.2.1 L
       .rw [bD _ _ e2,bD _ _ e2];exact kw (N y hy) J
     .rw [if_neg hW];have a5:y=x:=ap;have ab:=JX A ap;subst a5;rw [bF]
      have a7:t1=M.s y:=by
       cases U with
       | own=>rfl
       | fin=>rfl
       | full=>rfl
       | none=>rfl
       | other=>rfl
       | send z ac T ha=>exact (jx ap T ha).elim
       | recv z ac T ha=>exact (jx ap T ha).elim
      rw [a7];exact kw (N y hy) J
   exact ⟨V,he,I.sz.1,I.sz.2,I,B⟩
theorem OT {M:WSt} (hs:bK i) (v:∀k,S k->k<w.heap.size) (h:RWm (aH S w) vs i M) {c:Nat} (hl:l.length<=1000000) (hA:Rd w A (aA .i64 l)):Vj 20 #[.agg vs,.slice A l.length c] w (Pn (λu vs M=>RWm u vs i M) S (lV i M l).1 (lV i M l).2 w):=
 Jf (st:=pkZ i) v hl hA (λ_ _ _ _ h e=>h.ext e) (λ_ _ _ _ z o p _=>I6 hs o p z) h h.sz.1 h.sz.2
theorem I7 {M:WSt} (hs:bK i) (h:RWm w vs i M) (hB:B=true↔M.fin i):Vj 33 #[.agg vs] w λe u=>Vi e (.bool B)/\aq w u:=by
 have H:=hs.ok.W8;obtain ⟨⟨mv,lv,h1,v,V⟩,C⟩:=h;refine Fy (dn:=λx=>M.pos i x) (il:=λx=>(dA i x).length) h1 ap (λx o=>?_) ?_
 .obtain ⟨A,c,D,Q,T,ct,R,N,J,Y,I,L,O,U,SA,Z,IA,ic,y, -⟩:=v x o;rw [y];exact ⟨IA,ic,rfl,rfl⟩
 .rw [hB];constructor
  .intro p x o;exact Nat.le_of_eq (p x o).symm
  .intro p x o;have:=p x o;have:=C.pos_le hs o;omega
theorem OU (A:N_) (c:Nat) (D:N_) (B:Nat) (T:N_) (ct:Nat) (R:N_) (y:Nat) (i:Inp) (J:∀k,S k->k<w.heap.size) (h:gM w A c D T ct R i) (hI:∀o,aq w o->gM (aH S o) A c D T ct R i) (hs:bK i):Vj 14 #[.agg (aL A c D B T ct R y i)] w λe o=>∃p:R6,Vi e (.tuple #[.agg p,QZ 0])/\p.size=3/\p.toList.all (·.oneCell')=true/\RWm (aH S o) p i (lE i)/\aq w o:=by
 have hg:=hs.g.c;have U:=hg.w;have O:=hg.ca;have V:((ax i).W:Int)=i.cfg.workers:=by simp only [ax];omega
 have Q:((i.cfg.cap.toNat:Nat):Int)=i.cfg.cap:=ap;have a1:=hs.ok.W8;have v:=λo (q:aq w o)=>iP A c D B T ct R y i o (h.below q);have C:=λ(x:Nat) o (q:aq w o) (I:x<(ax i).W)=>Cg A c D B T ct R y i x o (h.below q) hs I;have hv:aL A c D B T ct R y i=#[.slice A i.cfg.sizes.length c,QZ i.cfg.shift,QZ i.cfg.rate,QZ i.cfg.mom,QZ ((ax i).W:Nat),QZ i.cfg.batch,QZ i.cfg.micros,QZ i.cfg.steps,QZ i.cfg.bucket,QZ i.cfg.chunk,QZ i.cfg.window,Vd i.cfg.cap.toNat,.slice D i.data.length B,.slice T i.start.length ct,.slice R i.draws.length y]:=by unfold Vd;rw [V,Q]
 rw [oE.2 hs.g] at v;rw [hv] at v C |-;refine (Jk (S:=S) (Rm:=λx m o=>fO (aH S o) m i x (fm i)) (N:=(ax i).W) (cap:=i.cfg.cap.toNat) J ap ap v (λk o hk q=>(C k o q hk).mono ?_)).mono ?_
 .rintro e a0 ⟨m,rfl,Y,Z,hb,hr⟩;refine ⟨m,rfl,⟨Y,Z⟩,hb,λL q2 k2=>hr _ (ge k2 (GL S L) λj _ e=>by have:=J j e;have:=q.size;omega) (hI L q2)⟩
 .rintro e o ⟨p,mv,rfl,H,hm,hb⟩;have u:RWm (aH S o) p i (lE i):=⟨⟨mv,_,by rw [yT];exact H,hm,λx I=>⟨none,0,rfl,fX.nil _ _ none,PV _⟩⟩,fW.zero hs⟩;exact ⟨p,rfl,u.sz.1,u.sz.2,u,hb⟩
def onL (ok:Nat->Bool) (n:Nat):Q_:=((List.range n).filter ok).map λk:Nat=>(k:Int)
theorem qE (ok:Nat->Bool) (n:Nat):onL ok (n+1)=onL ok n++if ok n then [(n:Int)] else []:=by
 unfold onL;rw [QL,List.filter_append,List.map_append]
 cases h:ok n<;>simp [h]
theorem yk (ok:Nat->Bool) (n:Nat):(onL ok n).length<=n:=by
 unfold onL;rw [List.length_map];exact P4 (List.length_filter_le _ _) V3
theorem xO {X:Nat} {AW:N_} {la lb:Nat->Value} {ok:Nat->Bool} (hb:Vg w X #[.slice AW n cw,v1,v2] 96) (hn:n<=1000) (B:∀k h,k<n->aq w h->Vj 47 #[(au X),Vd k] h λe i=>Vi e (.tuple #[.iface 97 (.pointer (some ⟨bb k,0,none⟩)),la k,lb k,.bool true])/\aq h i) (C:∀k h,k<n->aq w h->Vj 217 #[.pointer (some ⟨bb k,0,none⟩),la k,lb k] h λe i=>Vi e (.bool (ok k))/\aq h i):Vj 30 #[(au X)] w λe h=>∃v,Vi e v/\h.ownsRow w.heap.size 3 1 v (onL ok n).length (aA .i64 (onL ok n))/\aq w h:=by
 have t:=λh q=>bx3 (sb hb h q);have hm:∀(b:Nat) (w:R8),(method 496 97 ((au b)) "Enabled").run prog w=.ok (217,(au b)) w:=λ_ _=>by kernel_rfl
 have ⟨H,L,HM,T⟩:=ag B C hm t;have q0:=br w;clear hb B C hm;go_enter func30,ntmps30;go_wp2_with fail;clear t
 go_loopw [3,16] (λv u wr=>∃k:Nat,k<=n/\u=QZ k/\wr.ownsRow w.heap.size 3 1 v (onL ok k).length (aA .i64 (onL ok k))/\aq w wr) (λ_ u _=>n-(intOf u).toNat)
 .exact ⟨0,PZ _,rfl,Qb ..,q0⟩
 case round=>
  obtain ⟨k,hk,rfl,O,q⟩:=hrel;have ⟨A,c,e,hc⟩:=aC O;subst e;have ⟨HO,I⟩:=ae O q;have Y:=yk ok k;clear O;by_cases x:k<n
  .have a0:(k:Int)<n:=ap;have c1:=H.o k wr x q;have C1:=aa c1;clear c1 q;go_wp2_with fail;refine C1.o.mono ?_;rintro e w1 ⟨rfl,D⟩;have J:=I.o.trans (D.mono I.o.size);have ⟨O1,Q1⟩:=ae (az HO.o D) J;have c2:=L.o k w1 x J;have C2:=aa c2;have Q:=HM.o (bb k);clear c2 D J;go_wp2_with fail;refine C2.o.mono ?_;rintro e w2 ⟨rfl,U⟩;have ⟨V,Z⟩:=ae (Q1.o.trans (U.mono Q1.o.size)) (az O1.o U);clear U Q
   cases hok:ok k with
   | true=>
    have R:=aa hok;have N:=V.o.size;clear hok;go_wp2_with (at_builtin;refine aV gi _ rfl (.tmp 31) (.tmp 33) rfl (Ve w) (.slice A (onL ok k).length c) (onL ok k).length _ rfl Z.o [Vd k] rfl rfl V5 ap V2 N ?_);intro g c3 w3 o3 b3 _;have p:onL ok (k+1)=onL ok k++[(k:Int)]:=by rw [qE,R.o];rfl
    have y:w3.ownsRow w.heap.size 3 1 (Vf g 0 ((onL ok k).length+1) c3) (onL ok (k+1)).length (aA .i64 (onL ok (k+1))):=by
     have e4:(onL ok (k+1)).length=(onL ok k).length+1:=by rw [p];simp
     have e5:aA .i64 (onL ok (k+1))=aA .i64 (onL ok k)++[Vd k]:=by rw [p];simp [aA]
     rw [e4,e5];exact o3
    have ⟨O3,Q3⟩:=ae y (V.o.trans b3);clear o3 b3 y p;go_wp2;go_roundw
    .exact ⟨k+1,ap,Vc,O3.o,Q3.o⟩
    .simp [intOf];omega
   | false=>
    have R:=aa hok;have p:onL ok (k+1)=onL ok k:=by rw [qE,R.o];simp
    have E3:=aa p;clear hok p;go_wp2;go_roundw
    .exact ⟨k+1,ap,Vc,by rw [E3.o];exact Z.o,V.o⟩
    .simp [intOf];omega
  .obtain rfl:k=n:=ap;have a1:¬((k:Int)<k):=ap;clear q;go_wp2;go_ret;exact ⟨_,rfl,HO.o,I.o⟩
theorem EK {z:Nat} {R:Ending->R8->Prop} (p:Vj 47 #[X,Vd z] w λe h=>Vi e (.tuple #[.iface 97 ((au b)),la,lb,.bool true])/\aq w h) (i:∀x,aq w x->Vj 219 #[(au b)] x λe h=>(∃v,Vi e v)/\R e h):Vj 34 #[X,Vd z] w R:=by
 have hm:∀(w:R8),(method 496 97 ((au b)) "Open").run prog w=.ok (219,(au b)) w:=λ_=>by kernel_rfl
 have ⟨u,B⟩:=ae p i;clear p i;go_enter func34,ntmps34;go_wp2_with fail;refine u.o.mono ?_;rintro e A ⟨rfl,y⟩;have C:=aa (B.o A y);clear y;go_wp2_with fail;refine C.o.mono ?_;rintro e H ⟨⟨v,rfl⟩,hr⟩;have D:=aa hr;clear hr;go_wp2_with fail;exact D.o
theorem EH {z:Nat} {R:Ending->R8->Prop} (p:Vj 47 #[X,Vd z] w λe h=>Vi e (.tuple #[.iface 97 ((au b)),la,lb,.bool true])/\aq w h) (i:∀x,aq w x->Vj 220 #[(au b)] x λe h=>(∃v,Vi e v)/\R e h):Vj 26 #[X,Vd z] w R:=by
 have hm:∀(w:R8),(method 496 97 ((au b)) "Trajectory").run prog w=.ok (220,(au b)) w:=λ_=>by kernel_rfl
 have ⟨u,B⟩:=ae p i;clear p i;go_enter func26,ntmps26;go_wp2_with fail;refine u.o.mono ?_;rintro e A ⟨rfl,y⟩;have C:=aa (B.o A y);clear y;go_wp2_with fail;refine C.o.mono ?_;rintro e H ⟨⟨v,rfl⟩,hr⟩;have D:=aa hr;clear hr;go_wp2_with fail;exact D.o
theorem EL {z l pk:Nat} {R:Value->R8->Prop} (x:Vj 47 #[X,Vd z] w λe h=>Vi e (.tuple #[.iface 97 ((au b)),la,(au l),.bool true])/\aq w h) (i:∀p,aq w p->Vj 69 #[(au l)] p λe h=>∃v,Vi e v/\R v h) (u:∀v p,R v p->Vj 70 #[(au l)] p λe h=>Vi e (Vd pk)/\R v h):Vj 35 #[X,Vd z] w λe p=>∃v,Vi e (.tuple #[v,Vd pk])/\R v p:=by
 have ⟨A,H,L⟩:=af x i u;clear x i u;go_enter func35,ntmps35;go_wp2_with fail;refine A.o.mono ?_;rintro e D ⟨rfl,B⟩;have C:=aa (H.o D B);clear B;go_wp2_with fail;refine C.o.mono ?_;rintro e J ⟨v,rfl,hr⟩;have I:=aa hr;clear hr;go_wp2_with fail;refine (L.o v J I.o).mono ?_;rintro e N ⟨rfl,hr⟩;have y:=aa hr;clear hr;go_wp2;go_ret2;exact ⟨v,rfl,y.o⟩
theorem ya {cnt:Nat} {AM N:N_} {U:Nat} {C:Nat->Int} (hn:n<=1000) (ht:∀k y,k<n->aq w y->Vj 48 #[.agg #[.slice AM n cm,.slice N n U,Vd cnt],Vd k] y (Nr (λ_ _ _ _=>True) (C k) y)):Vj 50 #[.agg #[.slice AM n cm,.slice N n U,Vd cnt]] w λe y=>∃v,Vi e v/\y.ownsRow w.heap.size 3 1 v (onL (λk=>decide (C k=0)) n).length (aA .i64 (onL (λk=>decide (C k=0)) n))/\aq w y:=by
 obtain ⟨ok,I⟩:∃ok:Nat->Bool,ok=λk=>decide (C k=0):=⟨_,rfl⟩;rw [<-I];have V:∀k,ok k=decide (C k=0):=λk=>by rw [I]
 clear I;obtain ⟨i,x⟩:=Vb (w.alloc (.cells #[.slice AM n cm,.slice N n U,Vd cnt] 39));have g0:Vg i w.heap.size #[.slice AM n cm,.slice N n U,Vd cnt] 39:=by rw [<-x];exact PW w _
 have q0:aq w i:=by rw [<-x];exact (br w).alloc (PV _) _
 have t0:=λy q=>bx3 (sb g0 y q);have tl:=sl g0;have q:=br i;obtain ⟨Ht,T,a4,G0,Q0⟩:=ah ht V x g0 q0;clear ht V x g0 q0;go_enter func50,ntmps50;go_wp2_with fail;rw [a4.o]
 go_loopw [3,4] (λv u wr=>∃k:Nat,k<=n/\u=QZ k/\wr.ownsRow i.heap.size 3 1 v (onL ok k).length (aA .i64 (onL ok k))/\aq i wr) (λ_ u _=>n-(intOf u).toNat)
 .exact ⟨0,PZ _,rfl,Qb ..,q⟩
 case round=>
  clear q;obtain ⟨k,hk,rfl,ho,q⟩:=hrel;obtain ⟨A,c,e,hc⟩:=aC ho;subst e;obtain ⟨HO,Q⟩:=ae ho q;have a6:=yk ok k;clear ho;by_cases a0:k<n
  .have a7:(k:Int)<n:=ap;have w2:IntKind.i64.wrap ((k:Int)+1)=(k:Int)+1:=P3 _ ap;go_wp2_with (refine aQ #[.slice AM n cm,.slice N n U,Vd cnt] (b:=w.heap.size) (sb G0.o _ Q.o) bW rfl rfl rfl rfl ?_);refine (Ht.o k wr a0 (Q0.o.trans (Q.o.mono Q0.o.size))).mono ?_;rintro e h ⟨m1,u1,v1,rfl,⟨z1,z2,z3⟩,⟨a1,a2,a3⟩, -,k5⟩;obtain ⟨Z1,Z2,L,O1,O2,O3⟩:=ai z1 z2 z3 a1 a2 a3;have b5:aq h (((h.alloc (.cells Re 106)).alloc (.cells #[QZ 0,Ra,QZ 0,QZ 0] 75)).alloc (.cells #[QZ 0,Ra,QZ 0,QZ 0] 75)):=eJ [Obj.cells Re 106,.cells #[QZ 0,Ra,QZ 0,QZ 0] 75,.cells #[QZ 0,Ra,QZ 0,QZ 0] 75] h;obtain ⟨J,H,p,Z,K5⟩:=ah (show (((h.alloc (.cells Re 106)).alloc (.cells #[QZ 0,Ra,QZ 0,QZ 0] 75)).alloc (.cells #[QZ 0,Ra,QZ 0,QZ 0] 75)).heap[h.heap.size]?=_ from cu [Obj.cells Re 106,.cells #[QZ 0,Ra,QZ 0,QZ 0] 75,.cells #[QZ 0,Ra,QZ 0,QZ 0] 75] h 0 rfl) (show (((h.alloc (.cells Re 106)).alloc (.cells #[QZ 0,Ra,QZ 0,QZ 0] 75)).alloc (.cells #[QZ 0,Ra,QZ 0,QZ 0] 75)).heap[h.heap.size+1]?=_ from cu [Obj.cells Re 106,.cells #[QZ 0,Ra,QZ 0,QZ 0] 75,.cells #[QZ 0,Ra,QZ 0,QZ 0] 75] h 1 rfl) (show (((h.alloc (.cells Re 106)).alloc (.cells #[QZ 0,Ra,QZ 0,QZ 0] 75)).alloc (.cells #[QZ 0,Ra,QZ 0,QZ 0] 75)).heap[h.heap.size+1+1]?=_ from cu [Obj.cells Re 106,.cells #[QZ 0,Ra,QZ 0,QZ 0] 75,.cells #[QZ 0,Ra,QZ 0,QZ 0] 75] h 2 rfl) b5 k5;clear b5 z1 z2 z3 a1 a2 a3 k5
   go_upto_region 6 with (first
    | (refine aI (b:=h.heap.size) J.o jv rfl rfl rfl rfl Z1.o (by rw [Z1.o];rfl) O1.o ?_;intro w6 e6 k6;have D:=aa k6;clear e6 k6)
    | (refine aI (b:=h.heap.size+1) ((D.o.block _ (PU H.o) ap).trans H.o) gS rfl rfl rfl rfl Z2.o (by rw [Z2.o];rfl) O2.o ?_;intro w7 e7 k7;have K7:=aa k7;clear e7 k7)
    | (refine aI (b:=h.heap.size+1+1) ((K7.o.block _ (P6 (PU p.o) D.o.size) ap).trans ((D.o.block _ (PU p.o) ap).trans p.o)) gS rfl rfl rfl rfl L.o (by rw [L.o];rfl) O3.o ?_;intro w8 e8 k8;have K8:=aa k8;clear e8 k8))
   have R:aq h w8:=Z.o.trans (((D.o.toBelow Z.o.size (λj e=>ap)).trans (K7.o.toBelow (P4 Z.o.size D.o.size) (λj e=>ap))).trans (K8.o.toBelow (P4 (P4 Z.o.size D.o.size) K7.o.size) (λj e=>ap)));have B:=bt K5.o R;obtain ⟨O8,Q8⟩:=ae (az HO.o B) (Q.o.trans (B.mono Q.o.size));clear R B Z J H p D K7 K8 q;by_cases hC:C k=0
   .have Y:onL ok (k+1)=onL ok k++[(k:Int)]:=by rw [qE,T.o,hC];rfl
    have E3:=aa Y;have a5:=Q8.o.size;clear Y;go_wp2_with (at_builtin;refine aV gi _ rfl (.tmp 26) (.tmp 28) rfl i.heap.size (.slice A (onL ok k).length c) (onL ok k).length _ rfl O8.o [Vd k] rfl rfl V5 ap V2 a5 ?_);intro g c3 w9 o9 b9 _
    have O:w9.ownsRow i.heap.size 3 1 (Vf g 0 ((onL ok k).length+1) c3) (onL ok (k+1)).length (aA .i64 (onL ok (k+1))):=by
     have e4:(onL ok (k+1)).length=(onL ok k).length+1:=by rw [E3.o];simp
     have e5:aA .i64 (onL ok (k+1))=aA .i64 (onL ok k)++[Vd k]:=by rw [E3.o];simp [aA]
     rw [e4,e5];exact o9
    obtain ⟨O9,Q9⟩:=ae O (Q8.o.trans b9);clear o9 b9 O;go_wp2;go_roundw
    .exact ⟨k+1,ap,Vc,O9.o,Q9.o⟩
    .simp [intOf];omega
   .have Y:onL ok (k+1)=onL ok k:=by rw [qE,T.o,QT hC];simp
    have E3:=aa Y;have a9:(C k==0)=false:=by rw [beq_eq_false_iff_ne];exact hC
    clear Y;go_wp2;go_roundw
    .exact ⟨k+1,ap,Vc,by rw [E3.o];exact O8.o,Q8.o⟩
    .simp [intOf];omega
  .obtain rfl:k=n:=ap;have a8:¬((k:Int)<k):=ap;go_wp2;go_ret;exact ⟨_,rfl,aF HO.o Q0.o.size,Q0.o.trans (Q.o.mono Q0.o.size)⟩
noncomputable def Pg (i:Inp) (M:WSt) (x:Nat):Bool:=(pkF i M x).2
noncomputable def Df (i:Inp) (M:WSt):Q_:=onL (Pg i M) (ax i).W
section
variable {E:Nat->Prop} {i:Inp} {V w w':R8} {X:Nat} {M:WSt}
theorem WIn.on (h:WIn E i V X M w) (hs:bK i):Vj 30 #[(au X)] w λe w'=>∃v,Vi e v/\w'.ownsRow w.heap.size 3 1 v (Df i M).length (aA .i64 (Df i M))/\aq w w':=by
 obtain ⟨⟨D,B,rfl,o,Q⟩,O⟩:=h;obtain ⟨L,R,H,I,u,J,N⟩:=o.rows;have A:=hs.ok.W8;refine xO (bb:=D.b) (la:=λx=>.pointer (some ⟨D.l (pvW (ax i).W x),0,none⟩)) (lb:=λx=>.pointer (some ⟨D.l x,0,none⟩)) u ap (λx w' p q=>(o.below q).at hs p) (λx w' p q=>?_);have ⟨C,y,hb⟩:=pN o.al hs p;have:=(o.below q).mem.enabled hs p o.al.ok (by have:=o.al.msgs_le hs p;omega) y;rw [<-hb] at this;exact this
theorem Af (hs:bK i) {x:Nat} {m:Mst} (h:MOk i x m):m.op.length<=60:=by
 rw [h.op];exact P4 (DZ hs.ok x m.st m.nx).2 hs.ok.buks
theorem wT (hs:bK i) {x:Nat} {m:Mst} (h:MOk i x m):m.rc.length<=100:=by
 have h1:=h.rc;have p:=hs.s;rcases h.ps with o | o<;>omega
theorem WIn.openIn (h:WIn E i V X M w) (hs:bK i) {x:Nat} (p:x<(ax i).W):Vj 34 #[(au X),Vd x] w λe w'=>∃v,Vi e v/\w'.ownsRow w.heap.size 3 1 v (M.m x).op.length (aA .i64 (eg (M.m x).op))/\aq w w':=by
 obtain ⟨⟨D,B,rfl,o,H⟩,C⟩:=h;refine (EK (R:=λe w'=>∃v,Vi e v/\w'.ownsRow w.heap.size 3 1 v (M.m x).op.length (aA .i64 (eg (M.m x).op))/\aq w w') (o.at hs p) λA q=>?_).mono λe w' hr=>hr;refine (Gk ((o.below q).mem.mach x p) (Af hs (o.al.ok.mok x p))).mono ?_;rintro e I ⟨v,rfl,u,y⟩;exact ⟨⟨v,rfl⟩,v,rfl,aF u q.size,bt q y⟩
theorem WIn.trajIn (h:WIn E i V X M w) (hs:bK i) {x:Nat} (p:x<(ax i).W):Vj 26 #[(au X),Vd x] w λe w'=>∃v,Vi e v/\StL (Ve w) w' (M.m x).rc v/\aq w w':=by
 obtain ⟨⟨D,B,rfl,u,O⟩,N⟩:=h;refine (EH (R:=λe w'=>∃v,Vi e v/\StL (Ve w) w' (M.m x).rc v/\aq w w') (u.at hs p) λL q=>?_).mono λe w' hr=>hr;have o:=u.al.ok.mok x p;refine (Gi ((u.below q).mem.mach x p) o.rl hs.n (wT hs o)).mono ?_;rintro e Q ⟨v,rfl,C,J⟩;obtain ⟨rows,H,y,I,A⟩:=C;exact ⟨⟨v,rfl⟩,v,rfl,⟨rows,aF H q.size,y,I,λj x p=>(A j x p).base q.size⟩,bt q J⟩
end
structure kK (P:R8->Prop) (E:Nat->Prop) (i:Inp) (V:R8) (X:Nat) (M:WSt) (w:R8):Prop where
 ex:∃D B,D.X=X/\WAt E i w D B M/\(∀j,D.all (ax i).W j->V.heap.size<=j)/\P (aH (D.hid (ax i).W E) w)
 q:Keep E V w
def vH (P:R8->Prop):Prop:=∀u h,Ext u h->P u->P h
theorem pU {w':R8} (h:Keep E V w) (hb:aq w w'):Keep E V w':=h.trans (Keep.below hb)
theorem yz {u:R8} (hb:aq u w) (h:∀k,S k->u.heap.size<=k):Ext u (aH S w):=λk hk=>.inr (by
 rw [jq (λe=>by have:=h k e;omega)]
 exact hb.block k hk)
section
variable {P:R8->Prop} {E:Nat->Prop} {i:Inp} {V w w':R8} {X:Nat} {M:WSt}
theorem kK.win (h:kK P E i V X M w):WIn E i {w with heap:=#[]} X M w:=by
 obtain ⟨⟨D,B,h1,o,v,p⟩,u⟩:=h;exact ⟨⟨D,B,h1,o,λ_ _=>PZ _⟩,⟨rfl,rfl,rfl,PZ _,λk hk=>absurd hk (Nat.not_lt_zero k)⟩⟩
theorem kK.p (h:kK P E i V X M w) (hP:vH P):P w:=by
 obtain ⟨⟨D,B,h1,u,x,o⟩,v⟩:=h;exact hP _ _ (dO _ _) o
theorem kK.below (h:kK P E i V X M w) (hP:vH P) (hb:aq w w'):kK P E i V X M w':=by
 obtain ⟨⟨D,B,h1,o,v,p⟩,u⟩:=h;exact ⟨⟨D,B,h1,o.below hb,v,hP _ _ (dI hb) p⟩,pU u hb⟩
theorem kK.ref (h:kK P E i V X M w):∃S:Nat->Prop,(∀k,S k->k<w.heap.size)/\P (aH S w)/\(∀k,S k->V.heap.size<=k\/E k)/\∀(p:R8->Prop) w',aq w w'->p (aH S w')->kK p E i V X M w':=by
 obtain ⟨⟨D,B,h1,o,u,x⟩,y⟩:=h;refine ⟨D.hid (ax i).W E,λk e=>e.elim (o.mem.lt k) (o.mem.ex k),x,λk e=>e.imp (u k) id,λp w' hb v=>⟨⟨D,B,h1,o.below hb,u,v⟩,pU y hb⟩⟩
theorem kK.keepQ (h:kK P E i V X M w) (hP:vH P) {Q:Nat->Prop} (hk:Keep Q w w') (p:∀k,Q k->E k) (he:∀(j:Nat) (c:R6),Vg w j c 2->¬Q j):kK P E i V X M w':=by
 obtain ⟨⟨D,B,h1,o,N,J⟩,L⟩:=h;have u:Ext (aH (D.hid (ax i).W E) w) (aH (D.hid (ax i).W E) w'):=bC (hk.mono λk _ e=>.inr (p k e)) λk _ e=>e;refine ⟨⟨D,B,h1,⟨o.mem.keepQ hk (λk e=>.inr (p k e)) (λj c I _=>he j c I),o.al,?_⟩,N,hP _ _ u J⟩,L.trans (hk.mono λk _ e=>p k e)⟩;obtain ⟨C,O,v,y,x,A,H⟩:=o.rows;exact ⟨C,O,v,y,(hk.block _ o.mem.xl λe=>o.mem.ne _ (p _ e) (.inl rfl)).trans x,aW A u,aW H u⟩
theorem Dq.q {e:Ending} (h:Dq E i w e w'):aq w w':=by
 obtain ⟨D,B,h1,p,o,u⟩:=h;exact o
theorem Dq.winP {e:Ending} (h:Dq E i w e w') (hP:∀S:Nat->Prop,(∀k,S k->w.heap.size<=k\/E k)->P (aH S w')):∃X,Vi e (.tuple #[(au X),QZ 0])/\kK P E i w X (lE i) w'/\w.heap.size<=X/\aq w w':=by
 obtain ⟨D,B,h1,u,p,o⟩:=h;exact ⟨D.X,h1,⟨⟨D,B,rfl,u,o,hP _ λk e=>e.imp (o k) id⟩,Keep.below p⟩,o _ (.inl rfl),p⟩
end
theorem FX {f g:Nat->Bool} (h:∀k,k<n->f k=g k):onL f n=onL g n:=by
 unfold onL;rw [List.filter_congr λx i=>h x (List.mem_range.1 i)]
theorem PD {M:WSt} (hs:bK i) (h:RWm w vs i M):Vj 50 #[.agg vs] w λe o=>∃v,Vi e v/\o.ownsRow w.heap.size 3 1 v (Df i M).length (aA .i64 (Df i M))/\aq w o:=by
 have O:=hs.ok.W8;obtain ⟨⟨mv,R,h1,I,H⟩,p⟩:=h
 obtain ⟨C,B⟩:∃C:Nat->Nat,∀k,k<(ax i).W->∃x,Pk i M k x (C k)/\(pkF i M k).2=decide (C k=0):=by
  classical
  refine ⟨λk=>if h:k<(ax i).W then Classical.choose (pN p hs h) else 0,λk hk=>?_⟩;simp only [dif_pos hk];exact ⟨_,Classical.choose_spec (pN p hs hk)⟩
 have e:Df i M=onL (λk=>decide ((C k:Int)=0)) (ax i).W:=FX λk hk=>by
  obtain ⟨x, -,L⟩:=B k hk;unfold Pg;rw [L,decide_eq_decide];omega
 rw [e];have Q:∀o,aq w o->RWv o vs (ax i).W mv R (M.sum i):=λo q=>h1.below q;obtain ⟨⟨AM,cm,U,cl,rfl, -⟩, -, -⟩:=h1;refine ya (C:=λk=>(C k:Int)) ap λk o hk q=>?_;obtain ⟨x,⟨m1,s1,t1,y, -⟩, -⟩:=B k hk;have D:pvW (ax i).W k<(ax i).W:=lI ap;refine zg (Q o q) hk ap rfl (λu hl T=>?_) (λ_ _ _ _ _ _ _=>trivial);have he:Ext w (aH (λj=>o.heap.size<=j/\j<o.heap.size+4) u):=yz (bt q T) λj e=>by have:=q.size;omega
 refine (DO (S:=λj=>o.heap.size<=j/\j<o.heap.size+4) (w:=u) (λj e=>ap) (jV (I k hk) he) (kw (H _ D) he) (kw (H k hk) he) hs (p.ok.mok k hk) (p.ok.msgI hk) (p.ok.lok k hk).2.1 (by have:=p.msgs_le hs D;unfold Vp;omega) (by have:=p.msgs_le hs hk;unfold Vp;omega) hk y).mono ?_;rintro e Z ⟨v1,v2,v3,he,J,N,Y,⟨B2,c2,rfl,r2⟩,⟨B3,c3,rfl,V⟩,A⟩;exact ⟨v1,_,_,he,⟨J,rfl,rfl⟩,⟨N,rfl,rfl⟩,trivial,A⟩
def jg (w:R8) (base:Nat) (v:Value) (ms:List Msg):Prop:=
 ∃rows,w.ownsRow base 79 6 v ms.length (List.flatten rows)/\rows.length=ms.length/\(∀r∈rows,r.length=6)/\∀j,j<ms.length->yM w base (eR rows j) (aO ms j)
theorem N0 {base base':Nat} {B:R9} {o D:Nat} {v v':Value} {u:R7} (h:w.ownsRow base e size v n xs) (H:w.ownsRow base' B o v' D u) (x:e≠B):∀k,v.ownBlock=some k->v'.ownBlock≠some k:=λk hk p=>by
 rcases h.2 with ⟨hn,_⟩ | ⟨g,cap,C,rfl,_,hg,_⟩
 .rw [hn] at hk;cases hk
 .obtain rfl:g=k:=by simpa [Value.ownBlock] using hk
  rcases H.2 with ⟨hn,_⟩ | ⟨I,y,A,rfl,_,i,_⟩
  .rw [hn] at p;cases p
  .obtain rfl:I=g:=by simpa [Value.ownBlock] using p
   rw [hg] at i;injection i with i;injection i with _ i;exact x i
theorem Gj {wr y u:R8} {base hb:Nat} {x:N_} {c c2 Q L:Nat} {t0 t1 t2 C D:Int} {zs:Q_} (hk:ms.length=k) (H:base<=wr.heap.size) (N:wr.ownsRow base 79 6 (.slice A k c) k (List.flatten rows)) (J:rows.length=ms.length) (V:∀r∈rows,r.length=6) (hm:∀j,j<ms.length->yM wr base (eR rows j) (aO ms j)) (hB:aq wr y) (o:y.ownsRow hb 2 1 (.slice x zs.length c2) zs.length (aA .i64 zs)) (Y:wr.heap.size<hb) {v:Value} (hg:(y.setCell (ar wr.heap.size 5) v).grownBy u (Value.slice A k c).ownBlock) (I:u.ownsRow base 79 6 (Vf Q 0 (k+1) L) (k+1) (List.flatten rows++[QZ t0,QZ t1,QZ t2,QZ C,QZ D,.slice x zs.length c2])):
  jg u base (Vf Q 0 (k+1) L) (ms++[⟨⟨t0,t1,t2,C,D⟩,zs⟩]):=by
 have U:Keep (λi=>(Value.slice A k c).ownBlock=some i) wr u:=((Keep.below hB).setCell _ (.inl (PV _)) _).grown hg λi p=>.inr p;have R:Keep (λi=>i=wr.heap.size\/(Value.slice A k c).ownBlock=some i) y u:=((Keep.refl _ _).setCell _ (.inr (.inl rfl)) _).grown hg λi p=>.inr (.inr p);refine ⟨rows++[[QZ t0,QZ t1,QZ t2,QZ C,QZ D,.slice x zs.length c2]],?_,by simp [J],?_,?_⟩
 .rw [QE,List.flatten_cons,List.flatten_nil,List.append_nil,Qt,QC,hk];exact I
 .intro r hr;rcases QI.1 hr with hr | hr
  .exact V r hr
  .rw [List.mem_singleton.1 hr];rfl
 .intro j Z;rcases Qf j ms.length with h | h
  .rw [j4 _ _ _ ap,ko _ _ _ h];obtain ⟨B,d,e,O⟩:=hm j h;exact ⟨B,d,e,U.own O λi p=>N0 O N V0 i p⟩
  .obtain rfl:j=ms.length:=by simp at Z;omega
   rw [kp,<-J,j6];refine ⟨x,c2,rfl,aF (base:=hb) (R.own o λi p=>?_) ap⟩;have:=(o.lt i p).1;rintro (rfl | T)
   .omega
   .have:=(N.lt i T).2;omega
theorem Ky (base b:Nat) (g:Option Nat) (s:LSt) (w:R8) (h:aX w base b g s):Vj 69 #[.pointer (some ⟨b,0,none⟩)] w λe x=>∃A c,Vi e (.slice A (s.msgs.length-s.recv) c)/\jg x w.heap.size (.slice A (s.msgs.length-s.recv) c) (s.msgs.drop s.recv)/\aq w x:=by
 have B:=h.ok;obtain ⟨ring,rows,hc,_⟩:=h.ex;have hl:=mQ b _ _ _ _ _ _ hc B.rs (by have:=B.many;omega);obtain ⟨n,hn⟩:=Vb (s.msgs.length-s.recv);have a1:(s.msgs.length:Int)-s.recv=(n:Int):=by have:=B.rs;omega
 rw [a1] at hl;rw [hn];obtain ⟨H,Hl,J,Hn⟩:=ag h hl B hn;clear h hl B hn a1 hc;go_enter func69,ntmps69;go_wp2_with fail;refine Hl.o.mono ?_;rintro e x ⟨rfl,k,rfl⟩;go_wp2
 go_loopw [8,3] (λi out wr=>∃k A c,k<=n/\i=QZ (k:Int)/\out=.slice A k c/\jg wr w.heap.size (.slice A k c) ((s.msgs.drop s.recv).take k)/\aq w wr) (λi _ _=>n-(intOf i).toNat)
 case atStart=>
  refine ⟨0,none,0,PZ _,rfl,rfl,⟨[],?_,rfl,by simp,by simp⟩,Qa (PY _ _) _⟩;exact ⟨rfl,.inl ⟨rfl,rfl⟩⟩
 case round=>
  obtain ⟨k,A,c,hk,rfl,rfl,hM,hW⟩:=hrel;by_cases b7:k<n
  .have b3:=(H.o.below (hW.mono (PV _))).at_ (s.recv+k) ap (by have:=Hn.o;omega);obtain ⟨Q,rc,A',c',_,y,hi,h6,v⟩:=b3;have Y:=J.o.cap1;have a2:=J.o.cap2;have aG:=J.o.many;have a1:=Hn.o;obtain ⟨m,hm⟩:=Vb (aO s.msgs (s.recv+k))
   have a4:m.vals.length<=17592186043904:=by
    refine J.o.vals m ?_;rw [<-hm,aO,List.getD,Qv ap];exact List.getElem_mem _
   rw [hm] at h6 v;obtain ⟨i,T⟩:=Vb ((s.recv+k)%s.cap);rw [T] at hi h6;obtain ⟨L,hL⟩:=Vb (min s.msgs.length s.cap);rw [hL] at hi y;obtain ⟨⟨t0,t1,t2,t3,t4⟩,zs⟩:=m;have hp:=λW' b1=>ks b (.slice (some ⟨Q,0,none⟩) L rc) s.cap s.msgs.length s.recv s.peak (s.recv+k) i W' b1 Y a2 T;have c0:=y.c0;have c3:=y.c3;obtain ⟨d0,d1,d2,d3,d4,d5⟩:=h6;dsimp only at d0 d1 d2 d3 d4 d5 v a4;have b9:IntKind.i64.wrap ((s.recv:Int)+(k:Int))=((s.recv+k:Nat):Int):=by rw [P3 _ ap];omega
   have b8:=PU y;have b6:=aB d0;obtain ⟨Hp,b4,a5,HM,HW,Hm⟩:=ai hp y v hM hW hm;clear hp y v hM hW hm T hL;go_wp2
   go_region_held3 (λx=>x.cell? ⟨b,0,none⟩=some (.slice (some ⟨Q,0,none⟩) L rc)/\x.cell? ⟨b,3,none⟩=some (QZ (s.recv:Int))/\x.cell? ⟨Q,i*6,none⟩=some (QZ t0)/\x.cell? ⟨Q,i*6+1,none⟩=some (QZ t1)/\
     x.cell? ⟨Q,i*6+2,none⟩=some (QZ t2)/\x.cell? ⟨Q,i*6+3,none⟩=some (QZ t3)/\x.cell? ⟨Q,i*6+4,none⟩=some (QZ t4)/\x.cell? ⟨Q,i*6+5,none⟩=some (.slice A' zs.length c')) (simp [go_sem, *])
    ((go_at_call 105;refine (Hp.o _ ?_).mono ?_;(focus (repeat' (first | (with_reducible exact b4.o) | (with_reducible refine aD.drew ?_) | (with_reducible refine aD.drewN ?_ _) | (with_reducible refine aD.alloc ?_ _) | (with_reducible refine aD.set0 (ring:=.slice RA L rc) ?_ _) | (with_reducible refine aD.set2 (sent:=s.msgs.length) ?_ _ _ ?_) | (with_reducible refine aD.set4 (peak:=s.peak) ?_ _ _ ?_) | (with_reducible refine aD.far ?_ _ _ ?_) | omega | (push_cast;omega))));rintro e x ⟨rfl,rfl⟩))
   all_goals
    go_wp2_with fail;refine (nE A' zs c' _ ?_ a4).mono ?_
    .repeat' (first | exact Rd.own a5.o | (with_reducible refine Rd.alloc ?_ _) | (with_reducible refine Rd.drewN ?_ _) | (with_reducible refine Rd.drew ?_))
    rintro e I ⟨v2,rfl,u,p⟩;have e0:I.cell? ⟨wr.heap.size,0,none⟩=some (QZ t0):=by rw [p.cell V3];simp [go_sem]
    have e1:I.cell? ⟨wr.heap.size,1,none⟩=some (QZ t1):=by rw [p.cell V3];simp [go_sem]
    have e2:I.cell? ⟨wr.heap.size,2,none⟩=some (QZ t2):=by rw [p.cell V3];simp [go_sem]
    have e3:I.cell? ⟨wr.heap.size,3,none⟩=some (QZ t3):=by rw [p.cell V3];simp [go_sem]
    have e4:I.cell? ⟨wr.heap.size,4,none⟩=some (QZ t4):=by rw [p.cell V3];simp [go_sem]
    have e5:I.cell? ⟨wr.heap.size,5,none⟩=some (.slice A' zs.length c'):=by rw [p.cell V3];simp [go_sem]
    have f5:I.frozen? ⟨wr.heap.size,5,none⟩=false:=by rw [p.frozen V3];simp [go_sem]
    obtain ⟨A2,c2,rfl,_⟩:=aC u
    have V:aq wr I:=by
     refine Below.trans ?_ (p.mono V3);exact am
    obtain ⟨U,D,a6,ad,a3⟩:=HM.o;have R:((s.msgs.drop s.recv).take k).length=k:=by simp;omega
    rw [R] at D;have O:=(az D V);have N:(I.setCell ⟨wr.heap.size,5,none⟩ (.slice A2 zs.length c2)).ownsRow w.heap.size 79 6 (.slice A k c) k (List.flatten U):=ownsRow_setCell_other O (λe=>by have:=(D.lt _ e).2;simp at this) _;have b5:wr.heap.size<I.heap.size:=by have:=p.size;simp at this;omega
    obtain ⟨a0,a7,b2,av,a8,aR,aM,b0⟩:=ak u V R a3 N D a6 ad;clear u p V R a3 D O N a6 ad;go_wp2_with (at_builtin;refine aV lA _ rfl (.tmp 30) (.tmp 32) rfl w.heap.size _ k _ rfl a8.o [QZ t0,QZ t1,QZ t2,QZ t3,QZ t4,.slice A2 zs.length c2] (by simp [go_sem]) rfl (qG _ _ _ _ _ _ rfl) ap V2 (by have:=HW.o.size;simp;omega) ?_);intro gO cO w5 C a9 ab;obtain ⟨Z,aP,ao⟩:=af C a9 ab;clear C a9 ab;go_wp2;go_roundw
    case rel=>
     refine ⟨k+1,some ⟨gO,0,none⟩,cO,ap,Vc,rfl,?_,?_⟩
     .rw [show (s.msgs.drop s.recv).take (k+1)=(s.msgs.drop s.recv).take k++[⟨⟨t0,t1,t2,t3,t4⟩,zs⟩] by
       rw [<-Hm.o,List.take_add_one,aO,List.getD]
       simp [List.getElem?_drop,Qv (show s.recv+k<s.msgs.length by omega)]]
      exact Gj b2.o HW.o.size aR.o aM.o b0.o av.o a7.o a0.o V3 ao.o Z.o
     .have hs:=HW.o.size;refine HW.o.trans (Below.trans (a7.o.mono hs) (Below.trans ((PY _ _).setCell ?_ _) aP.o));exact hs
    case measure=>exact Va
  .obtain rfl:k=n:=ap;obtain ⟨HM,HW⟩:=ae hM hW;clear hM hW;go_wp2;go_ret;refine ⟨A,c,rfl,?_,HW.o⟩;have:=HM.o
   rwa [List.take_of_length_le (by simp;have:=Hn.o;omega)] at this
section
variable {E:Nat->Prop} {i:Inp} {V w w':R8} {X:Nat} {M:WSt}
theorem jg.base {w:R8} {b i:Nat} {v:Value} {ms:List Msg} (h:jg w b v ms) (hb:i<=b):jg w i v ms:=by
 obtain ⟨rows,h1,p,y,u⟩:=h;refine ⟨rows,aF h1 hb,p,y,λj x=>?_⟩;have ⟨B,d,e,o⟩:=u j x;exact ⟨B,d,e,aF o hb⟩
def PQ (s:LSt) (w:R8) (e:Ending) (w':R8):Prop:=∃A c,e=.returned (.tuple #[.slice A (s.msgs.length-s.recv) c,QZ (s.peak:Nat)])/\jg w' w.heap.size (.slice A (s.msgs.length-s.recv) c) (s.msgs.drop s.recv)/\aq w w'
theorem WIn.linkIn (h:WIn E i V X M w) (hs:bK i) {x:Nat} (u:x<(ax i).W):Vj 35 #[(au X),Vd x] w (PQ (M.s x) w):=by
 obtain ⟨⟨D,B,rfl,p,J⟩,I⟩:=h;refine (EL (R:=λv w'=>∃A c,v=.slice A ((M.s x).msgs.length-(M.s x).recv) c/\jg w' (Ve w) (.slice A ((M.s x).msgs.length-(M.s x).recv) c) ((M.s x).msgs.drop (M.s x).recv)/\aq w w') (pk:=(M.s x).peak) (p.at hs u) (λC q=>?_) (λv C hr=>?_)).mono ?_
 .refine (Ky _ _ _ _ _ ((p.below q).mem.lnk x u)).mono ?_;rintro e y ⟨A,c,rfl,o,H⟩;exact ⟨_,rfl,A,c,rfl,o.base q.size,bt q H⟩
 .obtain ⟨A,c,rfl,o,q⟩:=hr;have ⟨ring,rows,hc,_⟩:=((p.below q).mem.lnk x u).ex;refine (Kx _ _ _ _ _ _ _ hc).mono ?_;rintro e y ⟨rfl,rfl⟩;exact ⟨rfl,A,c,rfl,o,q⟩
 .rintro e y ⟨v,rfl,A,c,rfl,o,q⟩;exact ⟨A,c,rfl,o,q⟩
end
theorem zt (A1 h:N_) (ms:List Msg) (n c1 c2:Nat) (w:R8) (hn:ms.length=n) (h1:cY w A1 ms) (p:cY w h ms) (hl:ms.length<=17592186043904) (o:∀m∈ms,m.vals.length<=17592186043904):Vj 51 #[.slice A1 n c1,.slice h n c2] w λe i=>Vi e (.bool true)/\aq w i:=by
 subst hn;exact Co A1 h ms c1 c2 w h1 p hl o
theorem jg.rd {base:Nat} {c:Nat} (h:jg w base (.slice A n c) ms):cY w A ms:=by
 obtain ⟨rows,h1,u,y,v⟩:=h;refine ⟨rows,?_,u,y,λj p=>?_⟩
 .obtain rfl:n=ms.length:=by
   have ⟨D,C,o,_⟩:=aC h1;injection o
  exact Rd.own h1
 .have ⟨B,x,e,i⟩:=v j p;exact ⟨B,x,e,Rd.own i⟩
theorem KW {u:R8} (q:aq u h):Ext u h:=λk hk=>.inr (q.block k hk)
theorem Lk (A1 h:N_) (l:Q_) (n c1 c2:Nat) (w:R8) (hn:l.length=n) (h1:Rd w A1 (aA .i64 l)) (o:Rd w h (aA .i64 l)) (hl:l.length<=100000):Vj 49 #[.slice A1 n c1,.slice h n c2] w λe i=>Vi e (.bool true)/\aq w i:=by
 subst hn;refine (GQ A1 h l l c1 c2 w h1 o ap).mono ?_;rintro e i ⟨rfl,n,rfl⟩;exact ⟨by simp,Qa (br w) n⟩
theorem NQ {X:Nat} {M:WSt} (h:WIn E i V X M w) (hs:bK i) (r:RWm w vs i M):Vj 17 #[(au X),.agg vs] w λe p=>Vi e (QZ 1)/\aq w p:=by
 have ei:=hs.ok.W8;have e2:=h.al.sum_lt hs;have bI:(Df i M).length<=1000:=P4 (yk _ _) ap;have O:=λp (q:aq w p)=>(h.below q).cnt;obtain ⟨fb,bo⟩:∃fb:Bool,fb=true↔M.fin i:=by classical exact ⟨decide (M.fin i),decide_eq_true_iff⟩
 have cA:=λp (q:aq w p)=>(h.below q).done hs bo;have ab:=λp (q:aq w p)=>I7 hs (r.ext (KW q)) bo;have bh:=λp (q:aq w p)=>(h.below q).on hs;have a2:=λp (q:aq w p)=>PD hs (r.ext (KW q));obtain ⟨⟨mv,lv,⟨⟨AM,cm,AL,cl,rfl,cf,bM, -⟩,b7,aG⟩,a0,hrl⟩,cc⟩:=r;have c8:∀k,k<(ax i).W->(∃b o,AM=some (ar b o)/\w.rangeAt b (o+k*22) (mv k).toList)/\(∃b o,AL=some (ar b o)/\w.rangeAt b (o+k*4) (lv k).toList):=λk hk=>P7 (ig cf (λx I=>(b7 x I).1) V0 hk) (ig bM (λx I=>(aG x I).1) V0 hk);obtain ⟨CL,bN⟩:=Vb (Df i M);rw [bN] at bh a2 bI;obtain ⟨cnt,c6⟩:=Vb (M.sum i);rw [c6] at O e2 ab a2 |-;obtain ⟨n,hn⟩:=Vb ((ax i).W);rw [hn] at ab a2 |-;have eX:n<=8:=by rw [<-hn];exact ei
 obtain ⟨W0,ad⟩:=Vb (w.alloc (.cells #[.slice AM n cm,.slice AL n cl,Vd cnt] 39));have g0:Vg W0 w.heap.size #[.slice AM n cm,.slice AL n cl,Vd cnt] 39:=by rw [<-ad];exact PW w _
 have q0:aq w W0:=by rw [<-ad];exact (br w).alloc (PV _) _
 have bw:∀p,aq W0 p->aq w p:=λp q=>q0.trans (q.mono q0.size);obtain ⟨N,aP,bX,d6,d4,bO⟩:=ai bw O cA ab bh a2;have tl:=sl g0;obtain ⟨av,en,ej,eB,da,ew,H,Hs⟩:=ak g0 ad c8 cc a0 hrl h hs;obtain ⟨Hn,f0,em⟩:=af hn b7 bI;have q:=br W0;clear O cA ab bh a2 ad c8 cc a0 hrl h hn b7 aG cf bM bo bN c6 bI hs bw;go_enter func17,ntmps17;go_upto_region 1 with (fail);rw [en.o];have t0:=λp q=>bx3 (sb g0 p q);refine HA.g (λp:R8=>aq W0 p) ?_;refine HA.t ?_ [0,2,3] q.drew ?_;refine HA.c 1 (aP.o W0.drew (N.o _ q.drew)) ?_;rintro e w1 ⟨rfl,k1⟩;have q1:=bt q.drew k1;refine ⟨_,rfl,q1,λ_=>?_⟩;have ek:((cnt:Int) != cnt)=false:=by simp
 refine HA.t ?_ [4,5,6] q1 ?_;refine HA.ld 8 #[.slice AM n cm,.slice AL n cl,Vd cnt] (b:=w.heap.size) (off:=0) (λp q=>sb av.o p q) bW q1 ?_;refine HA.c 7 (bX.o w1 (N.o _ q1)) ?_;rintro e w2 ⟨rfl,k2⟩;have q2:=bt q1 k2;refine ⟨_,rfl,q2,λ_=>?_⟩;refine HA.c 9 (d6.o w2 (N.o _ q2)) ?_;rintro e w3 ⟨rfl,k3⟩;have q3:=bt q2 k3;refine ⟨_,rfl,q3,λ_=>?_⟩;have d2:(fb != fb)=false:=by simp
 refine HA.t ?_ [10,11,12,13] q3 ?_;refine HA.ld 15 #[.slice AM n cm,.slice AL n cl,Vd cnt] (b:=w.heap.size) (off:=0) (λp q=>sb av.o p q) bW q3 ?_;refine HA.c 14 (d4.o w3 (N.o _ q3)) ?_;rintro e w4 ⟨v4,rfl,o4,k4⟩;obtain ⟨A4,c4,rfl, -⟩:=aC o4;have q4:=bt q3 k4;refine ⟨_,rfl,q4,λ_=>?_⟩;refine HA.c 16 (bO.o w4 (N.o _ q4)) ?_;rintro e w5 ⟨v5,rfl,o5,k5⟩;obtain ⟨A5,c5,rfl, -⟩:=aC o5;have q5:=bt q4 k5;refine ⟨_,rfl,q5,λ_=>?_⟩;refine HA.c 17 (Lk A4 A5 CL _ c4 c5 w5 rfl ((Rd.own o4).below k5) (Rd.own o5) (by have:=em.o;omega)) ?_;rintro e w6 ⟨rfl,k6⟩;have q6:=bt q5 k6;refine ⟨_,rfl,q6,λ_=>?_⟩;refine HA.t ?_ [18,19] q6 ?_;refine HA.d ?_;have Q6:=aa q6;clear q q1 q2 q3 q4 q5 q6 k1 k2 k3 k4 k5 k6 o4 o5 ek d2 aP bX d6 d4 bO;go_wp2
 go_loopw [32] (λu wr=>∃k:Nat,k<=n/\u=QZ k/\aq W0 wr) (λu _=>n-(intOf u).toNat)
 .exact ⟨0,PZ _,rfl,Q6.o⟩
 case round=>
  clear Q6;obtain ⟨k,hk,rfl,q⟩:=hrel;by_cases e0:k<n
  .have eY:(k:Int)<n:=ap;have eL:(0:Int)<=k:=ap;have I:k<(ax i).W:=by rw [Hn.o];exact e0
   obtain ⟨⟨b1,o1,rfl,r1⟩,b2,o2,rfl,r2⟩:=ej.o k I;have a0:=da.o k I;have Z:=eB.o.ok.mok k I;have cb:=Z.done Hs.o;have bs:=Z.opn Hs.o;have y:=λp (q:aq w p)=>Fj p (a0.below q) Hs.o cb;rw [<-bs] at y;have a1:=Af Hs.o Z;have B:=wT Hs.o Z;have b5:=λp (q:aq w p)=>(H.o.below q).linkIn Hs.o I;have b6:=λp (q:aq w p)=>(H.o.below q).trajIn Hs.o I;have U:=λp (q:aq w p)=>(H.o.below q).openIn Hs.o I;obtain ⟨BL,cL,d7,bn,bf⟩:=ew.o k I;obtain ⟨A,c,D,cd,T,ct,R,cr,PA,pc,MA,mc,GA,gc,SA,sc,IA,ic,h0,hI,hP,dk,hG,hR,ds,hl⟩:=a0;rw [h0] at r1 y;rw [d7] at r2;obtain ⟨v,bV⟩:=Vb (M.s k);obtain ⟨J,bb⟩:=Vb (M.m k)
   have C:LSt.Ok (M.s k):=by
    obtain ⟨⟨D9,B9, -,h9, -⟩, -⟩:=H.o;exact (h9.mem.lnk k I).ok
   rw [bV] at b5 bn bf C r2;rw [bb] at b6 U y hR a1 B bs;have b0:=λp (q:aq w p)=>Mz (v.cap:Nat) BL v.msgs cL v.recv (v.peak:Nat) p (bn.below q) C.rs bf (by have:=C.many;omega);have b3:=λp A1 A2 c1 c2 (h1:cY p A1 (v.msgs.drop v.recv)) (h2:cY p A2 (v.msgs.drop v.recv))=>zt A1 A2 (v.msgs.drop v.recv) (v.msgs.length-v.recv) c1 c2 p V3 h1 h2 (by simp;have:=C.many;omega) (λm hm=>C.vals m (List.mem_of_mem_drop hm));have bz:=λp A1 c1 (h1:dx rEx 2 p A1 J.rc)=>xr A1 J.rc c1 p h1 ap;have a7:=λp (q:aq w p) A1 c1 (h1:dx rEx 2 p A1 J.rc)=>vW A1 SA J.rc J.rc c1 sc p h1 (hR.below dB q) ap ap;simp only [decide_true] at a7;have cx:=λp A1 A2 c1 c2 (h1:Rd p A1 (aA .i64 (eg J.op))) (h2:Rd p A2 (aA .i64 (eg J.op)))=>Lk A1 A2 (eg J.op) J.op.length c1 c2 p (ma _) h1 h2 (by rw [ma];omega);rw [bb] at r1;obtain ⟨rl,hrl⟩:=Vb J.rc.length;obtain ⟨il,d5⟩:=Vb ((dA i k).length);obtain ⟨dn,aR⟩:=Vb (bq i k J);rw [hrl] at r1 y a7 bz;rw [d5,aR] at r1 y;obtain ⟨R1,R2,dr,d0,cw,ea,dv,d8⟩:=ak (λp (q:aq w p)=>sw r1 q) (λp (q:aq w p)=>sw r2 q) b5 b0 b3 b6 bz a7;obtain ⟨cv,dc,eu,dp,Q⟩:=ah U y cx hrl q;clear b5 b0 b3 b6 bz a7 U y cx hrl d5 aR r1 r2 C bn bf Z cb bs a1 B bV bb d7 h0 hI hP dk hG hR ds hl I q;go_upto_region 6 with (first | (refine fu (R1.o _ (N.o _ Q.o)) jv rfl rfl rfl ?_) | (refine aI (PW _ _) jv rfl rfl rfl rfl rfl rfl rfl ?_;intro w9 e9 k9;obtain ⟨E9,K9⟩:=ae e9 (aN k9);clear e9 k9));have Q9:=aa (bt Q.o K9.o);go_wp2_with fail;refine (dr.o w9 (N.o _ Q9.o)).mono ?_;rintro e bl ⟨e6,dw,rfl,co,be⟩;obtain ⟨a3,c9⟩:=ae (bt Q9.o be) co.rd;clear co;have rL:=R2.o bl (N.o _ a3.o);have tY:=bx3 (sb av.o bl a3.o);go_wp2_with (refine fu rL gS rfl rfl rfl ?_);refine (d0.o bl (N.o _ a3.o)).mono ?_;rintro e e7 ⟨dG,eq,rfl,cs,ao⟩;obtain ⟨e4,cn,aM⟩:=af (bt a3.o ao) cs (c9.o.below ao);clear cs rL tY;go_wp2_with fail;refine (cw.o e7 e6 dG dw eq aM.o cn.o).mono ?_;rintro e bG ⟨rfl,bA⟩;have ci:=aa (bt e4.o bA);have cP:=R2.o bG (N.o _ ci.o) 3 (Vd v.peak) rfl;have tY:=bx3 (sb av.o bG ci.o);have eo:((v.peak:Int) != v.peak)=false:=by simp
   have c7:=aa (bt (bt be ao) bA);clear be ao bA c9 cn aM;go_upto_region 9 with (fail);clear cP tY eo;obtain ⟨Y,hY⟩:=Vb wr.heap.size;rw [hY] at E9;rw [hY];have ec:∀p,aq w9 p->Vh p Y 19 (.slice SA rl sc):=λp q=>PX p Y 19 _ _ _ (sb E9.o p q);have a5:=c7.o.drew;have a8:=aa (λp (q:aq w9 p)=>N.o _ (bt Q9.o q));refine HA.g (λp:R8=>aq w9 p) ?_;refine HA.t ?_ [0,1,4,5] a5 ?_;refine HA.c 2 (ea.o bG.drew (a8.o _ a5)) ?_;rintro e ee ⟨eG,rfl,b4,cO⟩;obtain ⟨er,ev,rfl, -⟩:=b4.form;have bd:=bt a5 cO;refine ⟨_,rfl,bd,λ_=>?_⟩;rw [dp.o];refine HA.c 3 (dv.o ee er ev b4.rd) ?_;rintro e ef ⟨e5,d9,rfl,d1,cj⟩;have a4:=bt bd cj;refine ⟨_,rfl,a4,λ_=>?_⟩;refine HA.c 6 (d8.o ef (a8.o _ a4) e5 d9 d1) ?_;rintro e e3 ⟨rfl,cy⟩;have L:=bt a4 cy;refine ⟨_,rfl,L,λ_=>?_⟩;refine HA.t ?_ [7,8,9,10] L ?_;refine HA.ld 12 #[.slice A i.cfg.sizes.length c,QZ i.cfg.shift,QZ i.cfg.rate,QZ i.cfg.mom,QZ i.cfg.workers,QZ i.cfg.batch,QZ i.cfg.micros,QZ i.cfg.steps,QZ i.cfg.bucket,QZ i.cfg.chunk,QZ i.cfg.window,QZ i.cfg.cap,.slice D i.data.length cd,.slice T i.start.length ct,.slice R i.draws.length cr,Vd k,.slice PA i.start.length pc,.slice MA i.start.length mc,.slice GA i.start.length gc,.slice SA rl sc,.slice IA il ic,Vd dn] (b:=Y) (off:=0) (λp q=>sb E9.o p q) jv L ?_;refine HA.c 11 (cv.o e3 (a8.o _ L)) ?_;rintro e el ⟨eS,rfl,b8,cM⟩;obtain ⟨eb,dT,rfl, -⟩:=aC b8;have a6:=bt L cM;refine ⟨_,rfl,a6,λ_=>?_⟩;refine HA.c 13 (dc.o el (a8.o _ a6)) ?_;rintro e es ⟨eV,rfl,bi,bv⟩;obtain ⟨ey,e8,rfl, -⟩:=aC bi;have b9:=bt a6 bv;refine ⟨_,rfl,b9,λ_=>?_⟩;refine HA.c 14 (eu.o es eb ey dT e8 ((Rd.own b8).below bv) (Rd.own bi)) ?_;rintro e f1 ⟨rfl,d3⟩;have a9:=bt b9 d3;refine ⟨_,rfl,a9,λ_=>?_⟩;refine HA.t ?_ [15,16] a9 ?_;refine HA.d ?_;have e1:=aa (bt Q9.o a9);have w1:IntKind.i64.wrap ((k:Int)+1)=(k:Int)+1:=P3 _ ap;clear ec a5 bd a4 L a6 b9 a9 cO cj cy cM bv d3 b4 d1 b8 bi;go_wp2;go_roundw
   .exact ⟨k+1,ap,Vc,e1.o⟩
   .simp [intOf];omega
  .obtain rfl:k=n:=ap;have eM:¬((k:Int)<k):=ap;have Q:=aa q;go_wp2;go_ret;exact ⟨rfl,N.o _ Q.o⟩
section
variable {P P':R8->Prop} {E:Nat->Prop} {i:Inp} {V w w':R8} {X Y:Nat} {M:WSt} {vs:R6}
theorem kK.refE (h:kK P E i V X M w):∃S:Nat->Prop,(∀k,S k->k<w.heap.size)/\P (aH S w)/\(∀k,S k->V.heap.size<=k\/E k)/\∀(P':R8->Prop) (o:Nat->Prop) w',aq w w'->(∀k,E k->o k)->(∀k,o k->k<w'.heap.size/\(E k\/w.heap.size<=k))->P' (aH (λk=>S k\/o k) w')->kK P' o i V X M w':=by
 obtain ⟨⟨D,B,h1,u,x,y⟩,A⟩:=h;refine ⟨D.hid (ax i).W E,λk e=>e.elim (u.mem.lt k) (u.mem.ex k),y,λk e=>e.imp (x k) id,λP' o w' hb p he v=>⟨⟨D,B,h1,u.more hb he,x,?_⟩,pU (A.mono λk _ e=>p k e) hb⟩⟩;rw [show (λk=>D.hid (ax i).W E k\/o k)=D.hid (ax i).W o from funext λk=>propext ⟨λe=>e.elim (λe=>e.imp id (p k)) .inr,λe=>e.elim (λe=>.inl (.inl e)) .inr⟩] at v;exact v
theorem kK.pickE (h:kK P E i V X M w) (hP:vH P) (hs:bK i) (u: -9223372036854775808<=i.cfg.rate/\i.cfg.rate<=9223372036854775807) (v: -9223372036854775808<=i.cfg.mom/\i.cfg.mom<=9223372036854775807) (z:Int):Vj 15 #[(au X),QZ z] w λe w'=>Vi e (.bool (pkZ i M z).2)/\kK P E i V X (pkZ i M z).1 w'/\∀k,E k->w'.heap[k]?=w.heap[k]?:=by
 obtain ⟨⟨D,B,rfl,p,A,I⟩,y⟩:=h;refine (Ew p hs u v z).mono ?_;rintro e w' ⟨he,J,C,L,o,x⟩;have N:=y.size;refine ⟨he,⟨⟨J,B,C,L,λj H=>(x j H).elim (A j) λh=>ap,hP _ _ (bC (o.mono λk _ e=>.inl e) λk hk e=>e.imp (λe=>(x k e).elim id λe=>absurd hk ap) id) I⟩,?_⟩,λk hk=>o.block k (p.mem.ex k hk) (p.mem.ne k hk)⟩;exact ge y o λk hk e=>absurd (A k e) ap
structure WB (P:R8->Prop) (Y:Nat) (vs:R6) (i:Inp) (V:R8) (X:Nat) (M:WSt) (w:R8):Prop where
 j:kK P (λk=>k=Y) i V X M w
 b:w.heap[Y]?=some (.cells vs 39 (0,0))
theorem WB.below (h:WB P Y vs i V X M w) (hP:vH P) (hb:aq w w'):WB P Y vs i V X M w':=⟨h.j.below hP hb,sb h.b w' hb⟩
theorem WB.pick (h:WB P Y vs i V X M w) (hP:vH P) (hs:bK i) (p: -9223372036854775808<=i.cfg.rate/\i.cfg.rate<=9223372036854775807) (o: -9223372036854775808<=i.cfg.mom/\i.cfg.mom<=9223372036854775807) (z:Int):Vj 15 #[(au X),QZ z] w λe w'=>Vi e (.bool (pkZ i M z).2)/\WB P Y vs i V X (pkZ i M z).1 w':=by
 refine (h.j.pickE hP hs p o z).mono ?_;rintro e w' ⟨he,u,hb⟩;exact ⟨he,u,(hb Y rfl).trans h.b⟩
theorem WB.run (h:WB P Y vs i V X M w) (hP:vH P) (hs:bK i) (y: -9223372036854775808<=i.cfg.rate/\i.cfg.rate<=9223372036854775807) (x: -9223372036854775808<=i.cfg.mom/\i.cfg.mom<=9223372036854775807) {A:N_} {c:Nat} {l:Q_} (hl:l.length<=1000000) (u:∀w,P w->Rd w A (aA .i64 l)):Vj 19 #[(au X),.slice A l.length c] w λe w'=>Vi e (QZ ((lV i M l).2:Nat))/\WB P Y vs i V X (lV i M l).1 w':=by
 refine (IN (I:=λw' v=>WB P Y vs i V X v w') (st:=pkZ i) hl (λw' v o=>u w' (o.j.p hP)) (λw' v z o _=>o.pick hP hs y x z) h).mono ?_;rintro e w' ⟨he,o⟩;exact ⟨he,o⟩
theorem WB.put {o:R6} (h:WB P Y vs i V X M w) (hP:vH P) (hk:Keep (λk=>k=Y) w w') (hb:Vg w' Y o 39):WB P Y o i V X M w':=
 ⟨h.j.keepQ hP hk (λk e=>e) (λj c p e=>nJ p h.b V0 e),hb⟩
end
end Go.Proofs.YtgmajkppbhiopaaGreat
