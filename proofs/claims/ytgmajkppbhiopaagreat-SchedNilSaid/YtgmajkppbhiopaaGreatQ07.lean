/- No condition. -/
import Derived.Test.YtgmajkppbhiopaaGreatQ06
set_option linter.unusedSimpArgs false
set_option linter.unusedVariables false
set_option maxRecDepth 100000
set_option maxHeartbeats 4000000
namespace Go.Proofs.YtgmajkppbhiopaaGreat
open Go.RowKit
open Tryz
structure km (w:Qd) (A:N_) (c:Nat) (D:N_) (T:N_) (ct:Nat) (R:N_) (i:Inp):Prop where
 c:lj w A c i.cfg
 d:de rEx 2 w D i.data
 dl:i.data.length<=17592186043904
 t:cB w T i.start ct
 r:Rd w R (aA .u64 i.draws)
 rl:i.draws.length<=17592186043904
 ru:U64 i.draws
 ra: -9223372036854775808<=i.cfg.rate/\i.cfg.rate<=9223372036854775807
 rm: -9223372036854775808<=i.cfg.mom/\i.cfg.mom<=9223372036854775807
theorem km.below {w p:Qd} {A:N_} {c:Nat} {D T R:N_} {o:Nat} {i:Inp} (h:km w A c D T o R i) (hb:aq w p):km p A c D T o R i:=
 ⟨h.c.below hb,h.d.below dE hb,h.dl,h.t.below hb,h.r.below hb,h.rl,h.ru,h.ra,h.rm⟩
def ji (i:Inp):Prop:=i.data.length<=60/\i.start.length<=600/\i.draws.length<=2000/\i.cfg.sizes.length<=40
theorem km.rd {w:Qd} {A:N_} {c:Nat} {D T R:N_} {o:Nat} {i:Inp} (h:km w A c D T o R i) (hs:ji i):fY w A c D T o R i:=
 ⟨h.c,h.d,by have:=hs.1;omega,h.t,by have:=hs.2.1;omega,h.r,by have:=hs.2.2.1;omega,h.ru,h.ra,h.rm⟩
def qS (q:Prop) (w:Qd) (e:Ending) (h:Qd):Prop:=(∃b:Bool,e=.returned (.bool b)/\(b=true->q))/\aq w h
theorem tw {q:Prop} {w h:Qd} (b:Bool) (i:q) (hb:aq w h):qS q w (.returned (.bool b)) h:=⟨⟨b,rfl,fun _=>i⟩,hb⟩
theorem xk {q:Prop} {w i:Qd} (hb:aq w i):qS q w (.returned (.bool false)) i:=⟨⟨false,rfl,fun h=>by cases h⟩,hb⟩
theorem I4 {p:Prop} [Decidable p] {q:Prop} {w i:Qd} (o:p->q) (hb:aq w i):qS q w (.returned (.bool (decide p))) i:=⟨⟨_,rfl,fun h=>o (of_decide_eq_true h)⟩,hb⟩
theorem IU (A:N_) (c:Nat) (D:N_) (x:Nat) (T:N_) (B:Nat) (R:N_) (C:Nat) (i:Inp) (w:Qd) (h:km w A c D T B R i):Calls prog 110 #[.agg (aN A c D x T B R C i)] w (qS (ji i) w):=by
 have hf:=fun w' (q:aq w w')=>GL x D i.data w' (h.d.below dE q) h.dl;have hq:i.data.length<=60->i.start.length<=600->i.draws.length<=2000->i.cfg.sizes.length<=40->ji i:=fun a b c d=>⟨a,b,c,d⟩;generalize ji i=Q at hq ⊢;clear h;unfold LE at hf;obtain ⟨⟨sz,sh,ra,H,V,ba,mi,st,bu,ch,wi,ca⟩,data,start,draws⟩:=i;dsimp only [aN,dx] at *;obtain ⟨L,hL⟩:∃L,sz.length=L:=⟨_,rfl⟩;obtain ⟨N,hN⟩:∃N,data.length=N:=⟨_,rfl⟩;obtain ⟨M,hM⟩:∃M,start.length=M:=⟨_,rfl⟩;obtain ⟨P,hP⟩:∃P,draws.length=P:=⟨_,rfl⟩;rw [hL,hN,hM,hP] at hq;rw [hN] at hf;rw [hL,hN,hM,hP];obtain ⟨Hf,Hq⟩:=ae hf hq;clear hf hq hL hN hM hP;have U:¬(L<=40)->¬((L:Int)<=40):=ap;have J:L<=40->(L:Int)<=40:=ap;have Z:¬(M<=600)->¬((M:Int)<=600):=ap;have O:M<=600->(M:Int)<=600:=ap;have Y:¬(P<=2000)->¬((P:Int)<=2000):=ap;have I:P<=2000->(P:Int)<=2000:=ap;obtain ⟨NL,YL,NM,YM,NP,YP⟩:=ai U J Z O Y I;clear U J Z O Y I;by_cases h1:¬(L<=40)
 ·have k1:=NL.o h1;go_enter func110,ntmps110;go_wp2_with fail
  all_goals
   go_ret;exact xk ((NI _ w).alloc (NF _) _)
 have y:L<=40:=ap;have k1:=YL.o y;have G1:=aa y;clear h1 y;go_enter func110,ntmps110;go_wp2_with fail;have hz:=NG w (.cells #[.slice A L c,OH sh,OH ra,OH H,OH V,OH ba,OH mi,OH st,OH bu,OH ch,OH wi,OH ca,.slice D N x,.slice T M B,.slice R P C] 29);have hB:=(NI _ w).alloc (NF _) (.cells #[.slice A L c,OH sh,OH ra,OH H,OH V,OH ba,OH mi,OH st,OH bu,OH ch,OH wi,OH ca,.slice D N x,.slice T M B,.slice R P C] 29);refine (Hf.o _ hB).mono ?_;rintro e w' ⟨⟨b,rfl,hb⟩,d,rfl⟩;have u:((w.alloc (.cells #[.slice A L c,OH sh,OH ra,OH H,OH V,OH ba,OH mi,OH st,OH bu,OH ch,OH wi,OH ca,.slice D N x,.slice T M B,.slice R P C] 29)).drewN d).heap[w.heap.size]?=some (.cells #[.slice A L c,OH sh,OH ra,OH H,OH V,OH ba,OH mi,OH st,OH bu,OH ch,OH wi,OH ca,.slice D N x,.slice T M B,.slice R P C] 29 (0,0)):=hz;have p:=NU hB d;have Hb:=aa hb;clear hz hB hb;generalize (w.alloc (.cells #[.slice A L c,OH sh,OH ra,OH H,OH V,OH ba,OH mi,OH st,OH bu,OH ch,OH wi,OH ca,.slice D N x,.slice T M B,.slice R P C] 29)).drewN d=W1 at u p ⊢;have HB:=aa p;obtain ⟨⟨z0,z1,z2,z3,z4,z5,z6,z7,z8,z9,a0,a4,a3,a1,a2⟩,zf⟩:=lA u;clear u p;rcases dI b with rfl | rfl
 ·go_wp2_with fail
  all_goals
   go_ret;exact xk HB.o
 by_cases h2:¬(M<=600)
 ·have k2:=NM.o h2;go_wp2_with fail
  all_goals
   go_ret;exact xk HB.o
 have v:M<=600:=ap;have k2:=YM.o v;have G2:=aa v;clear h2 v;clear NL YL NM YM YP;go_wp2_with fail
 all_goals
  go_ret;exact I4 (fun h=>Hq.o (Hb.o trivial) G2.o ap G1.o) HB.o
theorem BI (A:N_) (c:Nat) (D:N_) (cd:Nat) (T:N_) (U:Nat) (R:N_) (Z:Nat) (i:Inp) (w:Qd) (h:km w A c D T U R i):Calls prog 74 #[.agg (aN A c D cd T U R Z i)] w (qS (ji i) w):=by
 have p:=fun u (q:aq w u)=>IU A c D cd T U R Z i u (h.below q);have J:=fun u (q:aq w u)=>pR A c i.cfg u (h.c.below q);have V:=fun (hR:cU i.cfg.sizes) u (q:aq w u)=>jR A i.cfg.sizes i.cfg.sizes.length c u (h.c.hr.below q) hR (by have:=hR.1;omega) (NF _);have a0:=@ix i.cfg;generalize ji i=QQ at p ⊢;clear h;have p:∀u,aq w u->Calls prog 110 #[.agg (aN A c D cd T U R Z i)] u (fun e aR=>∃b:Bool,e=.returned (.bool b)/\(b=true->QQ)/\aq u aR):=fun u q=>(p u q).mono fun e aR ⟨⟨b,h1,h2⟩,h3⟩=>⟨b,h1,h2,h3⟩;obtain ⟨⟨sz,sh,ra,H,I,ba,mi,st,bu,ch,wi,ca⟩,data,start,draws⟩:=i;dsimp only [aN,dx] at *;obtain ⟨cc,b0⟩:∃cc,cE ⟨sz,sh,ra,H,I,ba,mi,st,bu,ch,wi,ca⟩=cc:=⟨_,rfl⟩;rw [b0] at J a0;have av:cc=0->cU sz:=fun e=>(a0.1 e).z.1;obtain ⟨L,hL⟩:∃L,sz.length=L:=⟨_,rfl⟩;obtain ⟨N,hN⟩:∃N,data.length=N:=⟨_,rfl⟩;obtain ⟨M,hM⟩:∃M,start.length=M:=⟨_,rfl⟩;obtain ⟨Q,hQ⟩:∃Q,draws.length=Q:=⟨_,rfl⟩;rw [hL] at J V p ⊢;rw [hN,hM,hQ] at p ⊢;obtain ⟨CN,aM⟩:∃CN,bR sz (L-1)=CN:=⟨_,rfl⟩;rw [aM] at V;obtain ⟨b4,b3,ad,b2⟩:=ag J V p av;clear J V p a0 hL hN hM hQ b0 aM av;go_enter func74,ntmps74;go_wp2_with fail;have hz:=(NW (w.alloc (.cells #[.slice A L c,OH sh,OH ra,OH H,OH I,OH ba,OH mi,OH st,OH bu,OH ch,OH wi,OH ca,.slice D N cd,.slice T M U,.slice R Q Z] 29)) (.cells #[.slice A L c,OH sh,OH ra,OH H,OH I,OH ba,OH mi,OH st,OH bu,OH ch,OH wi,OH ca] 24) w.heap.size (by simp)).trans (NG w _);have hy:=NG (w.alloc (.cells #[.slice A L c,OH sh,OH ra,OH H,OH I,OH ba,OH mi,OH st,OH bu,OH ch,OH wi,OH ca,.slice D N cd,.slice T M U,.slice R Q Z] 29)) (.cells #[.slice A L c,OH sh,OH ra,OH H,OH I,OH ba,OH mi,OH st,OH bu,OH ch,OH wi,OH ca] 24);rw [show (w.alloc (.cells #[.slice A L c,OH sh,OH ra,OH H,OH I,OH ba,OH mi,OH st,OH bu,OH ch,OH wi,OH ca,.slice D N cd,.slice T M U,.slice R Q Z] 29)).heap.size=w.heap.size+1 by simp] at hy;have hB:aq w ((w.alloc (.cells #[.slice A L c,OH sh,OH ra,OH H,OH I,OH ba,OH mi,OH st,OH bu,OH ch,OH wi,OH ca,.slice D N cd,.slice T M U,.slice R Q Z] 29)).alloc (.cells #[.slice A L c,OH sh,OH ra,OH H,OH I,OH ba,OH mi,OH st,OH bu,OH ch,OH wi,OH ca] 24)):=((NI _ w).alloc (NF _) _).alloc (by simp) _;obtain ⟨W0,aP⟩:∃W0,W0=(w.alloc (.cells #[.slice A L c,OH sh,OH ra,OH H,OH I,OH ba,OH mi,OH st,OH bu,OH ch,OH wi,OH ca,.slice D N cd,.slice T M U,.slice R Q Z] 29)).alloc (.cells #[.slice A L c,OH sh,OH ra,OH H,OH I,OH ba,OH mi,OH st,OH bu,OH ch,OH wi,OH ca] 24):=⟨_,rfl⟩;rw [<-aP] at hz hy hB ⊢;clear aP;refine (ad.o _ hB).mono ?_;rintro e w1 ⟨b,rfl,hb,Y⟩;have y:=(Y.block _ (NE hz)).trans hz;have v:=(Y.block _ (NE hy)).trans hy;obtain ⟨HB,Hb⟩:=ae (hB.trans (Y.mono hB.size)) hb;obtain ⟨⟨z0,z1,z2,z3,z4,z5,z6,z7,z8,z9,a1,ao,ab,a3,a6⟩,zf⟩:=lA y;obtain ⟨⟨y0,y1,y2,y3,y4,y5,y6,y7,y8,y9,a2,a4⟩,yf⟩:=lB v;obtain ⟨HZ,HY⟩:=ae y v;clear hz hy hB Y hb;rcases dI b with rfl | rfl
 ·clear y v;go_wp2_with fail;refine (ad.o _ HB.o).mono ?_;rintro e w2 ⟨b',rfl,C,B⟩;obtain ⟨a7,a8⟩:=ae (HB.o.trans (B.mono HB.o.size)) C;clear B C;go_wp2_with fail;go_ret;exact ⟨⟨b',rfl,a8.o⟩,a7.o⟩
 have HQ:=aa (Hb.o rfl);go_wp2_with fail;refine (b4.o _ HB.o).mono ?_;rintro e w3 ⟨rfl,O⟩;have aG:=(O.block _ (NE y)).trans y;have b1:=(O.block _ (NE v)).trans v;have x:=aa (HB.o.trans (O.mono HB.o.size));clear z0 z1 z2 z3 z4 z5 z6 z7 z8 z9 a1 ao ab a3 a6 zf y0 y1 y2 y3 y4 y5 y6 y7 y8 y9 a2 a4 yf y v O HZ HY;obtain ⟨⟨z0,z1,z2,z3,z4,z5,z6,z7,z8,z9,a1,ao,ab,a3,a6⟩,zf⟩:=lA aG;obtain ⟨⟨y0,y1,y2,y3,y4,y5,y6,y7,y8,y9,a2,a4⟩,yf⟩:=lB b1;clear aG b1;by_cases h3:cc≠0
 ·have hq:(cc != 0)=true:=by rw [bne_iff_ne];exact h3
  go_wp2_with fail;refine (ad.o _ x.o).mono ?_;rintro e w2 ⟨b',rfl,C,B⟩;obtain ⟨a7,a8⟩:=ae (x.o.trans (B.mono x.o.size)) C;clear B C;go_wp2_with fail;go_ret;exact ⟨⟨b',rfl,a8.o⟩,a7.o⟩
 obtain rfl:cc=0:=ap;clear h3;have HR:=aa (b2.o rfl);by_cases h4:12<st
 ·have hq:¬(st<=12):=ap;go_wp2_with fail
  all_goals
   go_ret;exact tw _ HQ.o x.o
 have hq:st<=12:=ap;go_wp2_with fail;refine (b3.o HR.o _ x.o).mono ?_;rintro e w4 ⟨rfl,d,rfl⟩;have a9:=aa (NU x.o d);obtain ⟨W4,a5⟩:∃W4,W4=w3.drewN d:=⟨_,rfl⟩;have b5:W4.cell? (ar (w.heap.size+1) 5)=some (OH ba):=by rw [a5];exact y5
 rw [<-a5] at a9 ⊢;clear a5 z0 z1 z2 z3 z4 z5 z6 z7 z8 z9 a1 ao ab a3 a6 zf y0 y1 y2 y3 y4 y5 y6 y7 y8 y9 a2 a4 yf;by_cases h5:CN<=150
 ·have k5:(CN:Int)<=150:=ap;go_wp2_with fail
  all_goals
   go_ret;exact tw _ HQ.o a9.o
 ·have k5:¬((CN:Int)<=150):=ap;go_wp2_with fail
  all_goals
   go_ret;exact tw _ HQ.o a9.o
theorem tA:dB prog 185 187 (.agg #[OH 0,OH 0]) 2 16:=⟨underlying185,info_parts (by kernel_rfl),rfl,by decide⟩
def B7 (n s k:Nat):List Rg:=(List.range k).map fun j=>(j*s,min (j*s+s) n)
theorem Fl (n s k:Nat):B7 n s (k+1)=B7 n s k++[(k*s,min (k*s+s) n)]:=by simp [B7,Ow]
theorem JF (n s k:Nat):(B7 n s k).length=k:=by simp [B7]
theorem Mx (n s:Nat):fC n s=B7 n s (dD n s):=rfl
theorem Lp {n s k:Nat} (hs:1<=s) (h:dD n s<=k):n<=k*s:=by
 rcases Nat.eq_zero_or_pos n with rfl | hn
 ·omega
 ·rw [rO n s hs] at h;have h1:=Nat.div_add_mod (n+s-1) s;have i:=Nat.mod_lt (n+s-1) (show 0<s by omega);have p:s*((n+s-1)/s)<=s*k:=Nat.mul_le_mul_left s h;have o:s*k=k*s:=Nat.mul_comm _ _;omega
theorem sJ (n s:Nat) (w:Qd) (hn:n<=1048576) (hs:1<=s) (a5:s<=1048576):Calls prog 148 #[OH n,OH s] w fun e V=>∃v,e=.returned v/\V.ownsRow w.heap.size 187 2 v (fC n s).length (aT (fC n s))/\aq w V:=by
 have a4:¬((s:Int)<1):=ap;by_cases h0:n=0
 ·subst h0;go_enter func148,ntmps148;go_wp2;go_ret;exact ⟨_,rfl,NV _ _ _ _,NI _ _⟩
 ·have a2:¬((n:Int)<1):=ap;have hc:=fR n s;have hl:=fun k (h:k<dD n s)=>jt h;have hg:=fun k (h:dD n s<=k)=>Lp hs h;rw [Mx,JF];obtain ⟨m,hm⟩:∃m,dD n s=m:=⟨_,rfl⟩;rw [hm] at hc hl hg ⊢;obtain ⟨Hl,Hg⟩:=ae hl hg;clear hm hl hg;go_enter func148,ntmps148;go_wp2_with fail
  go_loopw [5,6] (fun v x wr=>∃k:Nat,k<=m/\x=OH (min (k*s) n:Nat)/\wr.ownsRow w.heap.size 187 2 v k (aT (B7 n s k))/\aq w wr) (fun _ x _=>n-(intOf x).toNat)
  ·exact ⟨0,NJ _,by simp,NV _ _ _ _,NI _ _⟩
  case round=>
   obtain ⟨k,hk,rfl,L,hb⟩:=hrel;by_cases T:k<m
   ·have U:=Hl.o k T;have u:=Fl n s k;have D:(k+1)*s=k*s+s:=Ox k s;obtain ⟨y,Z⟩:∃y,k*s=y:=⟨_,rfl⟩;rw [Z] at U u D ⊢;rw [show min y n=y by omega];have a3:(y:Int)<n:=ap;obtain ⟨A,c,rfl,_⟩:=aC L;obtain ⟨z,R⟩:∃z,min (y+s) n=z:=⟨_,rfl⟩;rw [R] at u;obtain ⟨N,I,Q,O,Y⟩:=ah u D L hb R;have J:=hb.size;clear u D L hb Z;by_cases a0:(s:Int)<(n:Int)-y
    ·obtain rfl:z=y+s:=ap;clear R;go_wp2_with (at_builtin;refine aW tA _ rfl (.tmp 26) (.tmp 30) rfl w.heap.size (.slice A k c) k _ rfl Q.o [OH (y:Int),OH ((y:Int)+s)] rfl rfl (cJ .i64 [_,_]) ap (by unfold maxLen;omega) J ?_);intro g6 c6 w6 i p H;obtain ⟨C,B⟩:=ae i (O.o.trans p);clear i p H;go_wp2_with fail;go_roundw
     ·exact ⟨k+1,by omega,by rw [I.o,Y.o];push_cast;rfl,by rw [N.o,iF];exact C.o,B.o⟩
     ·simp [intOf];omega
    ·obtain rfl:z=n:=ap;clear R;go_wp2_with (at_builtin;refine aW tA _ rfl (.tmp 26) (.tmp 30) rfl w.heap.size (.slice A k c) k _ rfl Q.o [OH (y:Int),OH (z:Nat)] rfl rfl (cJ .i64 [_,_]) ap (by unfold maxLen;omega) J ?_);intro g6 c6 w6 i p H;obtain ⟨C,B⟩:=ae i (O.o.trans p);clear i p H;go_wp2_with fail;go_roundw
     ·exact ⟨k+1,by omega,by rw [I.o,Y.o],by rw [N.o,iF];exact C.o,B.o⟩
     ·simp [intOf];omega
   ·have a1:=Hg.o k ap;obtain rfl:k=m:=ap;rw [show min (k*s) n=n by omega];have a6:¬((n:Int)<n):=ap;obtain ⟨Q,O⟩:=ae L hb;clear L hb;go_wp2_with fail;go_ret;exact ⟨_,rfl,Q.o,O.o⟩
theorem xZ (n s:Nat) (w:Qd) (hn:n<=1048576) (hs:1<=s) (h:s<=1048576):Calls prog 102 #[OH n,OH s] w fun e p=>∃v,e=.returned v/\p.ownsRow w.heap.size 187 2 v (fC n s).length (aT (fC n s))/\aq w p:=by
 have hb:=sJ n s w hn hs h;have A:=aa hb;clear hb;go_enter func102,ntmps102;go_wp2_with fail;refine A.o.mono ?_;rintro e B ⟨v,rfl,u,i⟩;obtain ⟨y,x⟩:=ae u i;clear u i;go_wp2_with fail;go_ret;exact ⟨_,rfl,y.o,x.o⟩
def szs (k m:Nat):Qa:=(List.range k).map fun i=>(szE k m i:Int)
theorem nu (k m:Nat):(szs k m).length=k:=by simp [szs]
theorem Cl {k m i:Nat} (h:i<k):nth (szs k m) i=(szE k m i:Int):=by rw [dd _ _ (by rw [nu];exact h)];simp [szs]
theorem FL (k:Nat):List.replicate k (0:Int)=szs k 0:=by
 refine List.ext_getElem (by simp [nu]) fun i h1 h=>?_;simp [szs,FN]
theorem FM {k m:Nat} (hk:0<k):(szs k m).set (m%k) ((szE k m (m%k):Int)+1)=szs k (m+1):=by
 refine List.ext_getElem (by simp [nu]) fun i h1 u=>?_;have p:i<k:=by simpa [nu] using h1
 rw [List.getElem_set];have o:=FO (m:=m) p;by_cases h:m%k=i
 ·subst h;rw [if_pos rfl];simp only [szs,List.getElem_map,List.getElem_range];rw [o,if_pos rfl];push_cast;rfl
 ·rw [if_neg h];simp only [szs,List.getElem_map,List.getElem_range];rw [o,if_neg (fun e=>h e.symm),Nat.add_zero]
theorem FQ (k m i:Nat):szE k m i<=m+1:=by
 unfold szE;have:=Nat.div_le_self m k
 split<;>omega
def evK (n k m:Nat):List Rg:=(List.range m).map fun i=>(bdN n k i,bdN n k (i+1))
theorem I9 (n k m:Nat):evK n k (m+1)=evK n k m++[(bdN n k m,bdN n k m+szE k n m)]:=by
 rw [<-ql];exact tz n k m
theorem uO (n k:Nat) (w:Qd) (h1:1<=k) (h2:k<=1048576) (h3:n<=1048576):Calls prog 180 #[OH n,OH k] w fun e V=>∃v,e=.returned v/\V.ownsRow w.heap.size 187 2 v k (aT (fX n k))/\aq w V:=by
 have av:¬((n:Int)<0):=ap;have aP:¬((k:Int)<1):=ap;have aG:¬(k=0):=ap;obtain ⟨W0,O,o0,Q⟩:=m6 fQ w rfl k ap (by unfold maxLen;omega);rw [fp,FL] at o0;obtain ⟨a1,O0⟩:=ae Q o0;clear Q o0;go_enter func180,ntmps180;go_wp2_with fail;clear O
 go_loopw [6] (fun y wr=>∃m:Nat,m<=n/\y=OH m/\wr.ownsRow w.heap.size 3 1 (.slice (some (ar w.heap.size 0)) k k) k (aA .i64 (szs k m))/\aq w wr) (fun y _=>n-(intOf y).toNat)
 ·exact ⟨0,NJ _,rfl,O0.o,a1.o⟩
 case round=>
  obtain ⟨m,hm,rfl,J,hb⟩:=hrel;by_cases u:m<n
  ·have I:(m:Int)<n:=ap;have a9:(m:Int).tmod (k:Int)=((m%k:Nat):Int):=rfl;have a3:(m:Int)%(k:Int)=((m%k:Nat):Int):=rfl;have C:m%k<k:=Nat.mod_lt _ h1;have h:=FM (m:=m) h1;have hc:=J.cellAt (m%k) ap;rw [lK _ _ _ (by rw [nu];exact C),Cl C] at hc;have x:=FQ k m (m%k);have hf:=fun j=>J.frozenAt j;obtain ⟨r,hr⟩:∃r,m%k=r:=⟨_,rfl⟩;rw [hr] at a9 a3 C h hc x;have ad:(r:Int)<k:=ap;obtain ⟨s,hs⟩:∃s,szE k m r=s:=⟨_,rfl⟩;rw [hs] at h hc x;have a8:IntKind.i64.wrap ((m:Int)+1)=((m+1:Nat):Int):=by rw [NK _ ap];push_cast;rfl
   have D:=(J.stored r (OH ((s:Int)+1))).1;rw [yB,h] at D;have U:=Keep.setCell (S:=fun j=>j=w.heap.size) (Keep.refl _ wr) (ar w.heap.size r) (.inr rfl) (OH ((s:Int)+1));obtain ⟨a0,N⟩:=ae D (hb.trans (U.toBelow hb.size (fun j hj=>ap)));clear J hb hr hs h D U;go_wp2_with fail;go_roundw
   ·exact ⟨m+1,by omega,by go_num,a0.o,N.o⟩
   ·simp [intOf];omega
  ·have I:¬((m:Int)<n):=ap;obtain rfl:n=m:=ap;obtain ⟨Ho,N⟩:=ae J hb;clear J hb;go_wp2_with fail;obtain ⟨R,rfl⟩:∃R:Qd,R=wr:=⟨_,rfl⟩
   go_loopw [7,8,9] (fun v z y wr=>∃m:Nat,m<=k/\y=OH m/\z=OH (bdN n k m:Nat)/\wr.ownsRow R.heap.size 187 2 v m (aT (evK n k m))/\aq R wr) (fun _ _ y _=>k-(intOf y).toNat)
   ·exact ⟨0,NJ _,rfl,by simp [bdN],NV _ _ _ _,NI _ _⟩
   case round=>
    obtain ⟨m,hm,rfl,rfl,i,q⟩:=hrel;by_cases u:m<k
    ·have I:(m:Int)<k:=ap;have a8:IntKind.i64.wrap ((m:Int)+1)=((m+1:Nat):Int):=by rw [NK _ ap];push_cast;rfl
     have hc:=Ho.o.cellAt m ap;rw [lK _ _ _ (by rw [nu];exact u),Cl u] at hc;have x:=FQ k n m;have Z:=gh n k m h1 hm;have ao:=gh n k (m+1) h1 u;have h:=I9 n k m;have p:=ql n k m;obtain ⟨s,hs⟩:∃s,szE k n m=s:=⟨_,rfl⟩;rw [hs] at hc x h p;have T:=aw q hc;obtain ⟨b,hb⟩:∃b,bdN n k m=b:=⟨_,rfl⟩;rw [hb] at Z h p ⊢;obtain ⟨A,c,rfl,_⟩:=aC i;obtain ⟨B,Y,ab,a6⟩:=ag i q h p;have a4:=q.size;have aM:=aB T;have d2:=fun V (q':aq wr V)=>aw q' T;have Hc:=aa hc;clear i q h p hb hs hc;go_wp2_with (at_builtin;refine aW tA _ rfl (.tmp 36) (.tmp 45) rfl R.heap.size (.slice A m c) m _ rfl B.o [OH (b:Nat),OH ((b:Int)+s)] rfl rfl (cJ .i64 [_,_]) ap (by unfold maxLen;omega) a4 ?_);intro g6 c6 w6 L H a7;obtain ⟨a5,a2⟩:=ae L (Y.o.trans H);have d6:=aw (Y.o.trans H) Hc.o;clear L H a7;go_wp2_with fail;go_roundw
     ·exact ⟨m+1,by omega,by go_num,by rw [a6.o];push_cast;rfl,by rw [ab.o,iF];exact a5.o,a2.o⟩
     ·simp [intOf];omega
    ·have I:¬((m:Int)<k):=ap;obtain rfl:k=m:=ap;obtain ⟨B,Y⟩:=ae (aE (base':=w.heap.size) i N.o.size) (N.o.trans (q.mono N.o.size));clear i q;go_wp2_with fail;go_ret;exact ⟨_,rfl,B.o,Y.o⟩
theorem Gf {d:Nat} {l:List Rg} {m:Nat} (h:m<l.length):shR d (l.take (m+1))=shR d (l.take m)++[((aS l m).1+d,(aS l m).2+d)]:=by
 rw [List.take_succ_eq_append_getElem h,cS _ _ h,shR,List.map_append];rfl
theorem uI (A:N_) (l:List Rg) (n c d:Nat) (w:Qd) (hA:Rd w A (aT l)) (hn:l.length=n) (h1:n<=1048576) (h2:d<=1048576) (h3:∀r∈l,r.1<=1048576/\r.2<=1048576):Calls prog 193 #[.slice A n c,OH d] w fun e x=>∃v,e=.returned v/\x.ownsRow w.heap.size 187 2 v n (aT (shR d l))/\aq w x:=by
 obtain ⟨O,H3,Hn⟩:=af hA h3 hn;clear hA h3 hn;go_enter func193,ntmps193;go_wp2_with fail
 go_loopw [5,6] (fun v y wr=>∃m:Nat,m<=n/\y=OH m/\wr.ownsRow w.heap.size 187 2 v m (aT (shR d (l.take m)))/\aq w wr) (fun _ y _=>n-(intOf y).toNat)
 ·exact ⟨0,NJ _,rfl,NV _ _ _ _,NI _ _⟩
 case round=>
  obtain ⟨m,hm,rfl,B,q⟩:=hrel;by_cases Z:m<n
  ·have a4:(m:Int)<n:=ap;have a5:IntKind.i64.wrap ((m:Int)+1)=((m+1:Nat):Int):=by rw [NK _ ap];push_cast;rfl
   obtain ⟨Av,cv,rfl,_⟩:=aC B;obtain ⟨v,hv⟩:∃v,Value.slice Av m cv=v:=⟨_,rfl⟩;rw [hv] at B ⊢;have I:m<l.length:=by rw [Hn.o];exact Z
   have D:=ez I;obtain ⟨bb,bo,rfl,i⟩:=O.o _ _ D.1;obtain ⟨J,a2,e',h⟩:=O.o _ _ D.2;obtain ⟨rfl,rfl⟩:J=bb/\a2=bo:=by simpa using e'.symm
   rw [<-Oy] at h;have R:=H3.o (aS l m) (by rw [cS _ _ I];exact List.getElem_mem _);have p:=Gf (d:=d) I;obtain ⟨C,H,Q⟩:∃C H,aS l m=(C,H):=⟨_,_,rfl⟩;rw [Q] at i h R p;dsimp only at i h R p;have L:=aB i;have nb:¬v.ownBlock=some J:=fun e=>by have:=(B.lt _ e).1;simp only at L;omega
   have d0:=fun x (q':Keep (fun j=>v.ownBlock=some j) wr x)=>q'.cell (aw q i) nb;have d1:=fun x (q':Keep (fun j=>v.ownBlock=some j) wr x)=>q'.cell (aw q h) nb;have w1:IntKind.i64.wrap ((C:Int)+d)=(C:Int)+d:=NK _ ap;have w2:IntKind.i64.wrap ((H:Int)+d)=(H:Int)+d:=NK _ ap;have a3:=q.size;obtain ⟨Y,Hq,a0⟩:=af B q p;have U:Keep (fun j=>v.ownBlock=some j) wr wr.drew:=(Keep.refl _ _).drew;clear B q p Q D e' i h nb L;go_wp2_with fail;refine HA.g (fun x:Qd=>Keep (fun j=>v.ownBlock=some j) wr x) ?_;refine HA.t ?_ [0,1,2,3,4,5,6,7,8,9,10,11,12,13,14,15] U ?_;refine HA.v 16 (wr.drew.alloc (.cells #[OH ((C:Int)+d),OH ((H:Int)+d)] 187)) (.slice (some (ar wr.heap.size 0)) 1 1) (U.alloc _) ?_;refine HA.o 17 (fun K' hK=>?_);have hO:=(Y.o.drew).alloc (.cells #[OH ((C:Int)+d),OH ((H:Int)+d)] 187);refine bT tA (.tmp 13) (.tmp 29) rfl rfl w.heap.size v m _ rfl hO (some (ar wr.heap.size 0)) 1 1 [OH ((C:Int)+d),OH ((H:Int)+d)] rfl (fun k u hu=>⟨_,_,rfl,by rw [Oz,NH _ wr.heap.size k _ 187 (0,0) (NG wr.drew _)];simpa using hu⟩) rfl (by simp [Value.oneCell']) ap (by unfold maxLen;omega) (by simp;omega) ?_;intro A5 c5 w5 N a1 T _;have V:Keep (fun j=>v.ownBlock=some j) wr w5:=(U.alloc _).grown T (fun k hk=>.inr hk);refine hK.out _ _ V fun _=>?_;refine HA.t ?_ [18] V ?_;refine HA.d ?_;obtain ⟨O5,Q5⟩:=ae N (Hq.o.trans (V.toBelow a3 (fun j hj=>(Y.o.lt j hj).1)));clear N a1 T d0 d1 w1 w2 U V hK K' hO;go_wp2_with fail;go_roundw
   ·exact ⟨m+1,by omega,by go_num,by rw [a0.o,iF];simpa [aT] using O5.o,Q5.o⟩
   ·simp [intOf];omega
  ·have a4:¬((m:Int)<n):=ap;obtain rfl:n=m:=ap;rw [List.take_of_length_le (by rw [Hn.o];exact NF _)] at B;obtain ⟨Y,Hb⟩:=ae B q;clear B q;go_wp2_with fail;go_ret;exact ⟨_,rfl,Y.o,Hb.o⟩
theorem GO {l:List Rg} {m:Nat} (h:m<l.length):l.reverse.take (m+1)=l.reverse.take m++[aS l (l.length-1-m)]:=by
 rw [List.take_succ_eq_append_getElem (by simpa using h),List.getElem_reverse,<-cS l _ ap]
theorem AX (n s:Nat) (w:Qd) (hn:n<=1048576) (hs:1<=s) (a2:s<=1048576):Calls prog 138 #[OH n,OH s] w fun e w'=>∃v,e=.returned v/\w'.ownsRow w.heap.size 187 2 v (pB n s).length (aT (pB n s))/\aq w w':=by
 have hb:=sJ n s w hn hs a2;have p:pB n s=(fC n s).reverse:=rfl;have C:(pB n s).length=(fC n s).length:=by rw [p,List.length_reverse]
 rw [C];have u:=fR n s;rw [<-eP] at u;obtain ⟨l,hl⟩:∃l,fC n s=l:=⟨_,rfl⟩;rw [hl] at hb p u ⊢;obtain ⟨N,hN⟩:∃N,l.length=N:=⟨_,rfl⟩;rw [hN] at hb u ⊢;rw [p];obtain ⟨Hb,HN⟩:=ae hb hN;clear hb p C hl hN;go_enter func138,ntmps138;go_wp2_with fail;refine Hb.o.mono ?_;rintro e L ⟨v1,rfl,o1,k1⟩;obtain ⟨A,c,rfl,_⟩:=aC o1;obtain ⟨O1,V⟩:=ae o1 k1;clear o1 k1;go_wp2_with fail
 go_loopw [6,7] (fun v y wr=>∃m:Nat,m<=N/\y=OH ((N:Int)-1-m)/\wr.ownsRow L.heap.size 187 2 v m (aT (l.reverse.take m))/\aq L wr) (fun _ y _=>(intOf y+1).toNat)
 ·exact ⟨0,NJ _,by go_num,NV _ _ _ _,NI _ _⟩
 case round=>
  obtain ⟨m,hm,rfl,x,q⟩:=hrel;by_cases O:m<N
  ·obtain ⟨j,hj⟩:∃j,N-1-m=j:=⟨_,rfl⟩;have i:(N:Int)-1-m=(j:Int):=ap;have a6:(0:Int)<=(j:Int):=ap;have a3:j<N:=ap;have a4:(j:Int)<N:=ap;rw [i];have h:=GO (l:=l) (m:=m) (by rw [HN.o];exact O);rw [HN.o,hj] at h
   obtain ⟨g,rfl⟩:∃g,A=some (ar g 0):=by
    obtain ⟨g,e,hv,_⟩:=O1.o.form ap;simp only [Ou] at hv;exact ⟨g,hv.1⟩
   have J:=iP O1.o a3;obtain ⟨Q,b2,I⟩:∃Q b2,aS l j=(Q,b2):=⟨_,_,rfl⟩;rw [I] at J h;have c0:=aw q J.1;have c1:=aw q J.2;dsimp only at c0 c1;obtain ⟨Av,cv,rfl,_⟩:=aC x;obtain ⟨Z,U,T,Hj,H⟩:=ah x q h hj i;have Y:=q.size;have a5:IntKind.i64.wrap ((j:Int)-1)=(j:Int)-1:=NK _ ap;clear x q h hj I J i;go_wp2_with (at_builtin;refine aW tA _ rfl (.tmp 18) (.tmp 23) rfl L.heap.size (.slice Av m cv) m _ rfl Z.o [OH (Q:Nat),OH (b2:Nat)] rfl rfl (cJ .i64 [_,_]) ap (by unfold maxLen;omega) Y ?_);intro g6 c6 w6 B D a1;obtain ⟨a0,R⟩:=ae B (U.o.trans D);clear B D a1;go_wp2_with fail;go_roundw
   ·exact ⟨m+1,by omega,by have:=H.o;go_num,by rw [T.o,iF];exact a0.o,R.o⟩
   ·have:=H.o;simp [intOf]
  ·have i:¬((0:Int)<=(N:Int)-1-m):=ap;obtain rfl:N=m:=ap;rw [List.take_of_length_le (by rw [List.length_reverse,HN.o];exact NF _)] at x;obtain ⟨Z,U⟩:=ae (aE (base':=w.heap.size) x V.o.size) (V.o.trans (q.mono V.o.size));clear x q;go_wp2_with fail;go_ret;exact ⟨_,rfl,Z.o,U.o⟩
theorem DL (lo h k:Nat) (w:Qd) (h1:1<=k) (N:k<=1048576) (h3:lo<=h) (h4:h<=1048576):Calls prog 184 #[.agg #[OH lo,OH h],OH k] w fun e x=>∃v,e=.returned v/\x.ownsRow w.heap.size 187 2 v k (aT (eh (lo,h) k))/\aq w x:=by
 obtain ⟨u,i⟩:∃u,w.alloc (.cells #[OH lo,OH h] 187)=u:=⟨_,rfl⟩;have O:u.heap[w.heap.size]?=some (.cells #[OH lo,OH h] 187 (0,0)):=by rw [<-i];exact NG w _
 have y:aq w u:=by rw [<-i];exact (br w).alloc (NF _) _
 have t0:=fun x q=>bx2 (sb O x q);obtain ⟨D,p⟩:=ae i y;clear i O y;have J:an (eh (lo,h) k=shR lo (fX (h-lo) k)):=aa rfl;have T:(h:Int)-lo=((h-lo:Nat):Int):=ap;have V:IntKind.i64.wrap ((h-lo:Nat):Int)=((h-lo:Nat):Int):=NK _ ap;go_enter func184,ntmps184;have L:=br u;go_wp2_with fail;rw [D.o];refine HA.g (fun x:Qd=>aq u x) ?_;refine HA.t ?_ [0,1,2,3,4,5,7,8] L.drew ?_;refine HA.c 6 (uO (h-lo) k _ h1 N ap) ?_;rintro e Y ⟨v2,rfl,H,Q⟩;obtain ⟨A,c,rfl,_⟩:=aC H;have C:=bt L.drew Q;refine ⟨_,rfl,C,fun _=>?_⟩;refine HA.c 9 (uI A (fX (h-lo) k) k c lo Y (Rd.own H) (fP _ _) N ap (zl h1 ap)) ?_;rintro e Z ⟨v4,rfl,I,R⟩;have B:=bt C R;refine ⟨_,rfl,B,fun _=>?_⟩;refine HA.t ?_ [10] B ?_;refine HA.d ?_;have hB:=aa (p.o.trans (B.mono p.o.size));rw [<-J.out] at I;have U:=aa (aE (base':=w.heap.size) I (NN p.o.size C.size));clear I H Q R C B t0;go_wp2_with fail;go_ret;exact ⟨_,rfl,U.o,hB.o⟩
theorem D4 (lo h k:Nat) (w:Qd) (h1:1<=k) (U:k<=1048576) (h3:lo<=h) (h4:h<=1048576):Calls prog 183 #[.agg #[OH lo,OH h],OH k] w fun e x=>∃v,e=.returned v/\x.ownsRow w.heap.size 187 2 v (chR (lo,h) k).length (aT (chR (lo,h) k))/\aq w x:=by
 obtain ⟨u,i⟩:∃u,w.alloc (.cells #[OH lo,OH h] 187)=u:=⟨_,rfl⟩;have Q:u.heap[w.heap.size]?=some (.cells #[OH lo,OH h] 187 (0,0)):=by rw [<-i];exact NG w _
 have y:aq w u:=by rw [<-i];exact (br w).alloc (NF _) _
 have t0:=fun x q=>bx2 (sb Q x q);obtain ⟨H,p⟩:=ae i y;clear i Q y;have B:an (chR (lo,h) k=shR lo (fC (h-lo) k)):=aa rfl;have V:(h:Int)-lo=((h-lo:Nat):Int):=ap;have Z:IntKind.i64.wrap ((h-lo:Nat):Int)=((h-lo:Nat):Int):=NK _ ap;have N:=fR (h-lo) k;rw [<-eP] at N;go_enter func183,ntmps183;have O:=br u;go_wp2_with fail;rw [H.o];refine HA.g (fun x:Qd=>aq u x) ?_;refine HA.t ?_ [0,1,2,3,4,5,7,8] O.drew ?_;refine HA.c 6 (sJ (h-lo) k _ ap h1 U) ?_;rintro e w2 ⟨v2,rfl,I,R⟩;obtain ⟨A,c,rfl,_⟩:=aC I;have D:=bt O.drew R;refine ⟨_,rfl,D,fun _=>?_⟩;refine HA.c 9 (uI A (fC (h-lo) k) _ c lo w2 (Rd.own I) rfl ap ap (C6 ap)) ?_;rintro e w4 ⟨v4,rfl,J,T⟩;have C:=bt D T;refine ⟨_,rfl,C,fun _=>?_⟩;refine HA.t ?_ [10] C ?_;refine HA.d ?_;have hB:=aa (p.o.trans (C.mono p.o.size));have L:(chR (lo,h) k).length=(fC (h-lo) k).length:=by rw [B.out,me]
 rw [<-B.out,<-L] at J;have Y:=aa (aE (base':=w.heap.size) J (NN p.o.size D.size));clear J I R T D C t0;go_wp2_with fail;go_ret;exact ⟨_,rfl,Y.o,hB.o⟩
theorem rK:dB prog 258 189 (.agg OT) 9 64:=⟨underlying258,info_parts (by kernel_rfl),rfl,by decide⟩
theorem Gz (st bk lo C W c x ph r:Nat) (w:Qd) (h1:1<=W) (N:W<=1048576) (R:x<W) (Q:ph<2) (hr:r+1<W):Calls prog 171 #[.agg #[OH (st:Nat),OH (bk:Nat),OH (lo:Nat),OH (C:Nat),OH (W:Nat),OH (c:Nat)],OH x,OH ph,OH r,.bool true] w fun e u=>e=.returned (.tuple #[OH (eI W x ph r:Nat),.bool true])/\aq w u:=by
 obtain ⟨s,hs⟩:∃s,x+(2*W+ph-r)=s:=⟨_,rfl⟩;have U:(x:Int)-r+ph+2*W=(s:Int):=ap;have D:eI W x ph r=s%W:=by unfold eI;rw [<-hs]
 rw [D];have A:(s:Int).tmod (W:Int)=((s%W:Nat):Int):=rfl;have B:(s:Int)%(W:Int)=((s%W:Nat):Int):=rfl;have J:¬(W=0):=ap;have O:¬((W:Int)<=x):=ap;have T:¬(1<(ph:Int)):=ap;have V:¬((W:Int)-2<(r:Int)):=ap;obtain ⟨q,I⟩:∃q,s%W=q:=⟨_,rfl⟩;rw [I] at A B ⊢;obtain ⟨i,h⟩:∃i,w.alloc (.cells #[OH (st:Nat),OH (bk:Nat),OH (lo:Nat),OH (C:Nat),OH (W:Nat),OH (c:Nat)] 261)=i:=⟨_,rfl⟩;have H:i.heap[w.heap.size]?=some (.cells #[OH (st:Nat),OH (bk:Nat),OH (lo:Nat),OH (C:Nat),OH (W:Nat),OH (c:Nat)] 261 (0,0)):=by rw [<-h];exact NG w _
 have p:aq w i:=by rw [<-h];exact (br w).alloc (NF _) _
 have t0:=fun u q=>bx6 (sb H u q);obtain ⟨y,v⟩:=ae h p;have L:=br i;clear h H p hs I D;go_enter func171,ntmps171;go_wp2_with fail
 try rw [y.o]
 try go_wp2_with fail
 go_ret2;exact ⟨rfl,v.o⟩
theorem Kt (st bk lo C W c x ph r:Nat) (w:Qd) (h1:1<=W) (N:W<=1048576) (R:x<W) (Q:ph<2) (hr:r+1<W):Calls prog 171 #[.agg #[OH (st:Nat),OH (bk:Nat),OH (lo:Nat),OH (C:Nat),OH (W:Nat),OH (c:Nat)],OH x,OH ph,OH r,.bool false] w fun e u=>e=.returned (.tuple #[OH (fV W x ph r:Nat),.bool true])/\aq w u:=by
 obtain ⟨s,hs⟩:∃s,x+(2*W+ph-r-1)=s:=⟨_,rfl⟩;have U:(x:Int)-r+ph-1+2*W=(s:Int):=ap;have D:fV W x ph r=s%W:=by unfold fV;rw [<-hs]
 rw [D];have A:(s:Int).tmod (W:Int)=((s%W:Nat):Int):=rfl;have B:(s:Int)%(W:Int)=((s%W:Nat):Int):=rfl;have J:¬(W=0):=ap;have O:¬((W:Int)<=x):=ap;have T:¬(1<(ph:Int)):=ap;have V:¬((W:Int)-2<(r:Int)):=ap;obtain ⟨q,I⟩:∃q,s%W=q:=⟨_,rfl⟩;rw [I] at A B ⊢;obtain ⟨i,h⟩:∃i,w.alloc (.cells #[OH (st:Nat),OH (bk:Nat),OH (lo:Nat),OH (C:Nat),OH (W:Nat),OH (c:Nat)] 261)=i:=⟨_,rfl⟩;have H:i.heap[w.heap.size]?=some (.cells #[OH (st:Nat),OH (bk:Nat),OH (lo:Nat),OH (C:Nat),OH (W:Nat),OH (c:Nat)] 261 (0,0)):=by rw [<-h];exact NG w _
 have p:aq w i:=by rw [<-h];exact (br w).alloc (NF _) _
 have t0:=fun u q=>bx6 (sb H u q);obtain ⟨y,v⟩:=ae h p;have L:=br i;clear h H p hs I D;go_enter func171,ntmps171;go_wp2_with fail
 try rw [y.o]
 try go_wp2_with fail
 go_ret2;exact ⟨rfl,v.o⟩
theorem Ct {b:Rg} {k:Nat} (h1:1<=k) (hb:b.1<=b.2):∀r∈eh b k,r.1<=r.2/\r.2<=b.2:=by
 intro r hr;simp only [eh,shR,fX,List.map_map,List.mem_map,List.mem_range,Function.comp] at hr;obtain ⟨i,h,rfl⟩:=hr;have c:=gh (b.2-b.1) k (i+1) h1 ap;have d:=qm (b.2-b.1) k (show i<=i+1 by omega);exact ⟨by simp only;omega,by simp only;omega⟩
theorem CC (st bk lo h W c s:Nat) (w:Qd) (h1:1<=W) (h2:W<=1048576) (hs:s<W) (Y:lo<=h) (h4:h<=1048576) (h5:1<=c) (h6:c<=1048576):Calls prog 172 #[.agg #[OH (st:Nat),OH (bk:Nat),OH (lo:Nat),OH (h:Nat),OH (W:Nat),OH (c:Nat)],OH s] w fun e y=>∃v,e=.returned v/\y.ownsRow w.heap.size 187 2 v (chR (aS (eh (lo,h) W) s) c).length (aT (chR (aS (eh (lo,h) W) s) c))/\aq w y:=by
 obtain ⟨x,i⟩:∃x,w.alloc (.cells #[OH (st:Nat),OH (bk:Nat),OH (lo:Nat),OH (h:Nat),OH (W:Nat),OH (c:Nat)] 261)=x:=⟨_,rfl⟩;have V:x.heap[w.heap.size]?=some (.cells #[OH (st:Nat),OH (bk:Nat),OH (lo:Nat),OH (h:Nat),OH (W:Nat),OH (c:Nat)] 261 (0,0)):=by rw [<-i];exact NG w _
 have C:aq w x:=by rw [<-i];exact (br w).alloc (NF _) _
 have t0:=fun y q=>bx6 (sb V y q);have J:=Ct (b:=(lo,h)) h1 Y;have N:=pN (lo,h) W;have a0:(s:Int)<W:=ap;obtain ⟨L,u⟩:=ae i C;have U:=br x;clear i V C;go_enter func172,ntmps172;go_wp2_with fail;rw [L.o];refine HA.g (fun y:Qd=>aq x y) ?_;refine HA.t ?_ [0,1,2,3,5,8,9] U.drew ?_;refine HA.c 4 (DL lo h W _ h1 h2 Y h4) ?_;rintro e T ⟨v2,rfl,O,Z⟩;have A:=bt U.drew Z;obtain ⟨g,c2,rfl,_⟩:=O.form ap;have Q:=iP O hs;have p:=J (aS (eh (lo,h) W) s) (by rw [cS _ _ (by rw [N];exact hs)];exact List.getElem_mem _)
 try dsimp only at p
 obtain ⟨D,I,B⟩:∃D I,aS (eh (lo,h) W) s=(D,I):=⟨_,_,rfl⟩;rw [B] at Q p
 try dsimp only at Q p
 obtain ⟨d0,d1⟩:=Q;refine ⟨_,rfl,A,fun _=>?_⟩;refine HA.v 6 T (.pointer (some (ar g (s*2)))) A ?_;refine HA.v 7 T (.agg #[OH (D:Nat),OH (I:Nat)]) A ?_;refine HA.c 10 (D4 D I c T h5 h6 p.1 ap) ?_;rintro e w4 ⟨v4,rfl,R,k4⟩;have H:=bt A k4;refine ⟨_,rfl,H,fun _=>?_⟩;refine HA.t ?_ [11] H ?_;refine HA.d ?_;have hB:=aa (u.o.trans (H.mono u.o.size));rw [<-B] at R;have O4:=aa (aE (base':=w.heap.size) R (NN u.o.size A.size));clear R O Z k4 A H t0;go_wp2_with fail;go_ret;exact ⟨_,rfl,O4.o,hB.o⟩
theorem AB (st bk lo H W c x ph r:Nat) (w:Qd) (h1:1<=W) (h2:W<=1048576) (hx:x<W) (hp:ph<2) (hr:r+1<W) (h3:lo<=H) (h4:H<=1048576) (h5:1<=c) (h6:c<=1048576):Calls prog 149 #[.agg #[OH (st:Nat),OH (bk:Nat),OH (lo:Nat),OH (H:Nat),OH (W:Nat),OH (c:Nat)],OH x,OH ph,OH r] w fun e p=>∃v,e=.returned v/\p.ownsRow w.heap.size 189 9 v (dt st bk (lo,H) W c x ph r).length (eF (dt st bk (lo,H) W c x ph r))/\aq w p:=by
 obtain ⟨W0,aM⟩:∃W0,w.alloc (.cells #[OH (st:Nat),OH (bk:Nat),OH (lo:Nat),OH (H:Nat),OH (W:Nat),OH (c:Nat)] 261)=W0:=⟨_,rfl⟩;have h0:W0.heap[w.heap.size]?=some (.cells #[OH (st:Nat),OH (bk:Nat),OH (lo:Nat),OH (H:Nat),OH (W:Nat),OH (c:Nat)] 261 (0,0)):=by rw [<-aM];exact NG w _
 have bO:aq w W0:=by rw [<-aM];exact (br w).alloc (NF _) _
 have t0:=fun p q=>bx6 (sb h0 p q);obtain ⟨cb,bh,H0⟩:=af aM bO h0;have q0:=br W0;clear aM h0 bO;go_enter func149,ntmps149;go_wp2_with fail;rw [cb.o];refine (Gz st bk lo H W c x ph r W0 h1 h2 hx hp hr).mono ?_;rintro e w1 ⟨rfl,k1⟩;have q1:=bt q0 k1;go_wp2_with fail;refine (Kt st bk lo H W c x ph r w1 h1 h2 hx hp hr).mono ?_;rintro e w2 ⟨rfl,k2⟩;have q2:=bt q1 k2;have bV:eI W x ph r<W:=Nat.mod_lt _ h1;have bG:fV W x ph r<W:=Nat.mod_lt _ h1;go_wp2_with fail;refine (CC st bk lo H W c _ w2 h1 h2 bV h3 h4 h5 h6).mono ?_;rintro e w3 ⟨v3,rfl,o3,k3⟩;have q3:=bt q2 k3;obtain ⟨A3,c3,rfl,_⟩:=aC o3;go_wp2_with fail;refine (CC st bk lo H W c _ w3 h1 h2 bG h3 h4 h5 h6).mono ?_;rintro e w4 ⟨v4,rfl,o4,k4⟩;have q4:=bt q3 k4;obtain ⟨A4,c4,rfl,_⟩:=aC o4;have bo:=ay o3 k4;have c9:(chR (aS (eh (lo,H) W) (eI W x ph r)) c).length<=1048576:=tM h1 h3 h4;have c7:(chR (aS (eh (lo,H) W) (fV W x ph r)) c).length<=1048576:=tM h1 h3 h4;have HR:an (dt st bk (lo,H) W c x ph r=jT (chR (aS (eh (lo,H) W) (eI W x ph r)) c) (chR (aS (eh (lo,H) W) (fV W x ph r)) c) (fun i s=>(⟨true,false,st,bk,ph,r,i,s⟩:Acn)) (fun i s=>(⟨false,ph==0,st,bk,ph,r,i,s⟩:Acn))):=aa rfl;obtain ⟨X,hX⟩:∃X,chR (aS (eh (lo,H) W) (eI W x ph r)) c=X:=⟨_,rfl⟩;obtain ⟨Y,hY⟩:∃Y,chR (aS (eh (lo,H) W) (fV W x ph r)) c=Y:=⟨_,rfl⟩;rw [hX] at bo c9 HR ⊢;rw [hY] at o4 c7 HR ⊢;obtain ⟨so,b5⟩:∃so,eI W x ph r=so:=⟨_,rfl⟩;obtain ⟨si,b6⟩:∃si,fV W x ph r=si:=⟨_,rfl⟩;rw [b5] at bV ⊢;rw [b6] at bG ⊢;obtain ⟨M,hM⟩:∃M:Nat,max X.length Y.length=M:=⟨_,rfl⟩;obtain ⟨O3,O4,Q4,HM⟩:=ag bo o4 q4 hM;clear o3 bo o4 q0 q1 q2 q3 q4 k1 k2 k3 k4 hX hY b5 b6 hM t0;go_wp2_with fail
 go_loopw [15,16] (fun v y wr=>∃m:Nat,m<=M/\y=OH m/\wr.ownsRow w4.heap.size 189 9 v (jU X Y (fun i s=>(⟨true,false,st,bk,ph,r,i,s⟩:Acn)) (fun i s=>(⟨false,ph==0,st,bk,ph,r,i,s⟩:Acn)) m).length (eF (jU X Y (fun i s=>(⟨true,false,st,bk,ph,r,i,s⟩:Acn)) (fun i s=>(⟨false,ph==0,st,bk,ph,r,i,s⟩:Acn)) m))/\aq w4 wr) (fun _ y _=>M-(intOf y).toNat)
 ·exact ⟨0,NJ _,rfl,NV _ _ _ _,NI _ _⟩
 case round=>
  obtain ⟨m,hm,rfl,ho,q⟩:=hrel;have cd:=yu X Y (fun i s=>(⟨true,false,st,bk,ph,r,i,s⟩:Acn)) (fun i s=>(⟨false,ph==0,st,bk,ph,r,i,s⟩:Acn)) m;have ci:M<=1048576:=by have:=HM.o;omega
  obtain ⟨Av,cv,rfl,_⟩:=aC ho;obtain ⟨v,hv⟩:∃v,Value.slice Av (jU X Y (fun i s=>(⟨true,false,st,bk,ph,r,i,s⟩:Acn)) (fun i s=>(⟨false,ph==0,st,bk,ph,r,i,s⟩:Acn)) m).length cv=v:=⟨_,rfl⟩;rw [hv] at ho ⊢;clear hv;have aR:((ph:Int)==0)=(ph==0):=by rw [Bool.eq_iff_iff];simp
  have cf:IntKind.i64.wrap ((m:Int)+1)=((m+1:Nat):Int):=by rw [NK _ ap];push_cast;rfl
  have uJ:=fun p (q':aq wr p)=>bx6 (sb H0.o p (bt Q4.o (q.trans (q'.mono q.size))));obtain ⟨A,b0⟩:∃A,wr.alloc (.cells #[OH (st:Nat),OH (bk:Nat),OH (ph:Nat),OH (r:Nat),OH (m:Nat)] 77)=A:=⟨_,rfl⟩;have gT:A.heap[wr.heap.size]?=some (.cells #[OH (st:Nat),OH (bk:Nat),OH (ph:Nat),OH (r:Nat),OH (m:Nat)] 77 (0,0)):=by rw [<-b0];exact NG wr _
  have kt:aq wr A:=by rw [<-b0];exact (br wr).alloc (NF _) _
  have qr:=br wr;obtain ⟨Ho,HT,HQ,B,C,bb⟩:=ai ho gT q (q.trans (kt.mono q.size)) (ay ho kt) b0;clear ho q gT kt b0;by_cases h1:m<X.length
  ·have cc:(m:Int)<X.length:=ap
   obtain ⟨gx,rfl⟩:∃gx,A3=some (ar gx 0):=by
    obtain ⟨g,e,hv,_⟩:=O3.o.form ap;simp only [Ou] at hv;exact ⟨g,hv.1⟩
   have px:=iP O3.o h1;have be:aS X m=((aS X m).1,(aS X m).2):=rfl;obtain ⟨b1,bX⟩:∃b,(aS X m).1=b:=⟨_,rfl⟩;obtain ⟨b2,bM⟩:∃b,(aS X m).2=b:=⟨_,rfl⟩;rw [bX,bM] at px be;obtain ⟨aG,aP,bN⟩:=af px.1 px.2 be;clear px bX bM be;by_cases h2:m<Y.length
   ·have bv:(m:Int)<Y.length:=ap
    obtain ⟨gy,rfl⟩:∃gy,A4=some (ar gy 0):=by
     obtain ⟨g,e,hv,_⟩:=O4.o.form ap;simp only [Ou] at hv;exact ⟨g,hv.1⟩
    have py:=iP O4.o h2;have Q:aS Y m=((aS Y m).1,(aS Y m).2):=rfl;obtain ⟨b3,a3⟩:∃b,(aS Y m).1=b:=⟨_,rfl⟩;obtain ⟨b4,ao⟩:∃b,(aS Y m).2=b:=⟨_,rfl⟩;rw [a3,ao] at py Q;obtain ⟨a2,a8,b9⟩:=af py.1 py.2 Q;clear py a3 ao Q;go_wp2_with fail;rw [bb.o];clear uJ qr;have R:=fun p (q:Keep (fun j=>v.ownBlock=some j) A p)=>(q.block _ (NE HT.o) (fun e=>ax HT.o (by decide) C.o e.symm)).trans HT.o;have bf:=fun p q=>bx5 (R p q)
    have U:∀g,g<w4.heap.size->¬v.ownBlock=some g:=fun g hg e=>by
     have h:=(C.o.lt g e).1;omega
    have bd:=fun p (q:Keep (fun j=>v.ownBlock=some j) A p)=>q.cell (aw B.o aG.o) (U _ (aB aG.o));have bz:=fun p (q:Keep (fun j=>v.ownBlock=some j) A p)=>q.cell (aw B.o aP.o) (U _ (aB aP.o));have I:Keep (fun j=>v.ownBlock=some j) A A.drew:=(Keep.refl _ _).drew;have L:=aa R;clear R U;refine HA.g (fun p:Qd=>Keep (fun j=>v.ownBlock=some j) A p) ?_;refine HA.t ?_ [0,1,2,3,4,5,6] I ?_;obtain ⟨a5,O⟩:∃a:Acn,a=⟨true,false,st,bk,ph,r,m,(b1,b2)⟩:=⟨_,rfl⟩;refine HA.v 7 (A.drew.alloc (.cells (aZ a5).toArray 189)) (.slice (some (ar A.heap.size 0)) 1 1) (I.alloc _) ?_ (he:=by subst O;go_simp;simp [aZ,aR];try rfl);refine HA.o 8 (fun K' hK=>?_);have a0:=(C.o.drew).alloc (.cells (aZ a5).toArray 189);have a7:=B.o.size;refine bT rK (.tmp 66) (.tmp 73) rfl rfl w4.heap.size v _ _ rfl a0 (some (ar A.heap.size 0)) 1 1 (aZ a5) rfl (fun k u hu=>⟨_,_,rfl,by rw [Oz,NH _ A.heap.size k (aZ a5).toArray 189 (0,0) (NG A.drew _)];simpa using hu⟩) rfl (by simp [aZ,Value.oneCell']) ap (by unfold maxLen;omega) (by simp;omega) ?_;intro A5 c5 N a1 bs av _;have q5:Keep (fun j=>v.ownBlock=some j) A N:=(I.alloc _).grown av (fun k hk=>.inr hk);refine hK.out _ _ q5 fun _=>?_;refine HA.t ?_ [9] q5 ?_;refine HA.d ?_
    try simp only [Exit.then]
    obtain ⟨O5,T5,Q5,b7⟩:=ag a1 (L.o N q5) (B.o.trans (q5.toBelow B.o.size (fun j hj=>(C.o.lt j hj).1))) O;clear a1 bs av bf bd bz I q5 hK K' a0 O L a7;go_wp2_with fail;obtain ⟨v5,bI⟩:∃v,Value.slice A5 ((jU X Y (fun i s=>(⟨true,false,st,bk,ph,r,i,s⟩:Acn)) (fun i s=>(⟨false,ph==0,st,bk,ph,r,i,s⟩:Acn)) m).length+1) c5=v:=⟨_,rfl⟩;rw [bI] at O5 ⊢;clear bI;have T:=fun p (q:Keep (fun j=>v5.ownBlock=some j) N p)=>(q.block _ (NE T5.o) (fun e=>ax T5.o (by decide) O5.o e.symm)).trans T5.o;have bi:=fun p q=>bx5 (T p q)
    have V:∀g,g<w4.heap.size->¬v5.ownBlock=some g:=fun g hg e=>by
     have h:=(O5.o.lt g e).1;omega
    have bn:=fun p (q:Keep (fun j=>v5.ownBlock=some j) N p)=>q.cell (aw Q5.o a2.o) (V _ (aB a2.o));have b8:=fun p (q:Keep (fun j=>v5.ownBlock=some j) N p)=>q.cell (aw Q5.o a8.o) (V _ (aB a8.o));have D:Keep (fun j=>v5.ownBlock=some j) N N.drew:=(Keep.refl _ _).drew;have J:=aa T;clear T V;refine HA.g (fun p:Qd=>Keep (fun j=>v5.ownBlock=some j) N p) ?_;refine HA.t ?_ [0,1,2,3,4,5,6,7,8] D ?_;obtain ⟨a6,Z⟩:∃a:Acn,a=⟨false,ph==0,st,bk,ph,r,m,(b3,b4)⟩:=⟨_,rfl⟩;refine HA.v 9 (N.drew.alloc (.cells (aZ a6).toArray 189)) (.slice (some (ar N.heap.size 0)) 1 1) (D.alloc _) ?_ (he:=by subst Z;go_simp;simp [aZ,aR];try rfl);refine HA.o 10 (fun K' hK=>?_);have ad:=(O5.o.drew).alloc (.cells (aZ a6).toArray 189);have ab:=Q5.o.size;refine bT rK (.tmp 79) (.tmp 88) rfl rfl w4.heap.size v5 _ _ rfl ad (some (ar N.heap.size 0)) 1 1 (aZ a6) rfl (fun k u hu=>⟨_,_,rfl,by rw [Oz,NH _ N.heap.size k (aZ a6).toArray 189 (0,0) (NG N.drew _)];simpa using hu⟩) rfl (by simp [aZ,Value.oneCell']) ap (by unfold maxLen;omega) (by simp;omega) ?_;intro A6 c6 w6 a4 bl a9 _;have q6:Keep (fun j=>v5.ownBlock=some j) N w6:=(D.alloc _).grown a9 (fun k hk=>.inr hk);refine hK.out _ _ q6 fun _=>?_;refine HA.t ?_ [11] q6 ?_;refine HA.d ?_
    try simp only [Exit.then]
    obtain ⟨O6,T6,Q6,bw⟩:=ag a4 (J.o w6 q6) (Q5.o.trans (q6.toBelow Q5.o.size (fun j hj=>(O5.o.lt j hj).1))) Z;clear a4 bl a9 bi bn b8 D q6 hK K' ad Z J ab;go_wp2_with fail;go_roundw
    ·exact ⟨m+1,by have:=HM.o;omega,by go_num,by rw [<-nF];simp only [jg,h1,h2,if_true,if_false,Bool.not_true,Bool.not_false,Bool.false_and,Bool.true_and];have:=O6.o;rw [b7.o,bw.o] at this;simpa [eF,bN.o,b9.o,Od] using this,Q6.o⟩
    ·have:=HM.o;simp [intOf];omega
   ·have bv:¬((m:Int)<Y.length):=ap;go_wp2_with fail;rw [bb.o];clear uJ qr;have R:=fun p (q:Keep (fun j=>v.ownBlock=some j) A p)=>(q.block _ (NE HT.o) (fun e=>ax HT.o (by decide) C.o e.symm)).trans HT.o;have bf:=fun p q=>bx5 (R p q)
    have U:∀g,g<w4.heap.size->¬v.ownBlock=some g:=fun g hg e=>by
     have h:=(C.o.lt g e).1;omega
    have bd:=fun p (q:Keep (fun j=>v.ownBlock=some j) A p)=>q.cell (aw B.o aG.o) (U _ (aB aG.o));have bz:=fun p (q:Keep (fun j=>v.ownBlock=some j) A p)=>q.cell (aw B.o aP.o) (U _ (aB aP.o));have I:Keep (fun j=>v.ownBlock=some j) A A.drew:=(Keep.refl _ _).drew;have L:=aa R;clear R U;refine HA.g (fun p:Qd=>Keep (fun j=>v.ownBlock=some j) A p) ?_;refine HA.t ?_ [0,1,2,3,4,5,6] I ?_;obtain ⟨a5,O⟩:∃a:Acn,a=⟨true,false,st,bk,ph,r,m,(b1,b2)⟩:=⟨_,rfl⟩;refine HA.v 7 (A.drew.alloc (.cells (aZ a5).toArray 189)) (.slice (some (ar A.heap.size 0)) 1 1) (I.alloc _) ?_ (he:=by subst O;go_simp;simp [aZ,aR];try rfl);refine HA.o 8 (fun K' hK=>?_);have a0:=(C.o.drew).alloc (.cells (aZ a5).toArray 189);have a7:=B.o.size;refine bT rK (.tmp 66) (.tmp 73) rfl rfl w4.heap.size v _ _ rfl a0 (some (ar A.heap.size 0)) 1 1 (aZ a5) rfl (fun k u hu=>⟨_,_,rfl,by rw [Oz,NH _ A.heap.size k (aZ a5).toArray 189 (0,0) (NG A.drew _)];simpa using hu⟩) rfl (by simp [aZ,Value.oneCell']) ap (by unfold maxLen;omega) (by simp;omega) ?_;intro A5 c5 N a1 bs av _;have q5:Keep (fun j=>v.ownBlock=some j) A N:=(I.alloc _).grown av (fun k hk=>.inr hk);refine hK.out _ _ q5 fun _=>?_;refine HA.t ?_ [9] q5 ?_;refine HA.d ?_
    try simp only [Exit.then]
    obtain ⟨O5,T5,Q5,b7⟩:=ag a1 (L.o N q5) (B.o.trans (q5.toBelow B.o.size (fun j hj=>(C.o.lt j hj).1))) O;clear a1 bs av bf bd bz I q5 hK K' a0 O L a7;go_wp2_with fail;go_roundw
    ·exact ⟨m+1,by have:=HM.o;omega,by go_num,by rw [<-nF];simp only [jg,h1,h2,if_true,if_false,Bool.not_true,Bool.not_false,Bool.false_and,Bool.true_and];have:=O5.o;rw [b7.o] at this;simpa [eF,bN.o,Od] using this,Q5.o⟩
    ·have:=HM.o;simp [intOf];omega
  ·have cc:¬((m:Int)<X.length):=ap;by_cases h2:m<Y.length
   ·have bv:(m:Int)<Y.length:=ap
    obtain ⟨gy,rfl⟩:∃gy,A4=some (ar gy 0):=by
     obtain ⟨g,e,hv,_⟩:=O4.o.form ap;simp only [Ou] at hv;exact ⟨g,hv.1⟩
    have py:=iP O4.o h2;have Q:aS Y m=((aS Y m).1,(aS Y m).2):=rfl;obtain ⟨b3,a3⟩:∃b,(aS Y m).1=b:=⟨_,rfl⟩;obtain ⟨b4,ao⟩:∃b,(aS Y m).2=b:=⟨_,rfl⟩;rw [a3,ao] at py Q;obtain ⟨a2,a8,b9⟩:=af py.1 py.2 Q;clear py a3 ao Q;go_wp2_with fail;rw [bb.o];clear uJ qr;have T:=fun p (q:Keep (fun j=>v.ownBlock=some j) A p)=>(q.block _ (NE HT.o) (fun e=>ax HT.o (by decide) C.o e.symm)).trans HT.o;have bi:=fun p q=>bx5 (T p q)
    have V:∀g,g<w4.heap.size->¬v.ownBlock=some g:=fun g hg e=>by
     have h:=(C.o.lt g e).1;omega
    have bn:=fun p (q:Keep (fun j=>v.ownBlock=some j) A p)=>q.cell (aw B.o a2.o) (V _ (aB a2.o));have b8:=fun p (q:Keep (fun j=>v.ownBlock=some j) A p)=>q.cell (aw B.o a8.o) (V _ (aB a8.o));have D:Keep (fun j=>v.ownBlock=some j) A A.drew:=(Keep.refl _ _).drew;have J:=aa T;clear T V;refine HA.g (fun p:Qd=>Keep (fun j=>v.ownBlock=some j) A p) ?_;refine HA.t ?_ [0,1,2,3,4,5,6,7,8] D ?_;obtain ⟨a6,Z⟩:∃a:Acn,a=⟨false,ph==0,st,bk,ph,r,m,(b3,b4)⟩:=⟨_,rfl⟩;refine HA.v 9 (A.drew.alloc (.cells (aZ a6).toArray 189)) (.slice (some (ar A.heap.size 0)) 1 1) (D.alloc _) ?_ (he:=by subst Z;go_simp;simp [aZ,aR];try rfl);refine HA.o 10 (fun K' hK=>?_);have ad:=(C.o.drew).alloc (.cells (aZ a6).toArray 189);have ab:=B.o.size;refine bT rK (.tmp 79) (.tmp 88) rfl rfl w4.heap.size v _ _ rfl ad (some (ar A.heap.size 0)) 1 1 (aZ a6) rfl (fun k u hu=>⟨_,_,rfl,by rw [Oz,NH _ A.heap.size k (aZ a6).toArray 189 (0,0) (NG A.drew _)];simpa using hu⟩) rfl (by simp [aZ,Value.oneCell']) ap (by unfold maxLen;omega) (by simp;omega) ?_;intro A6 c6 w6 a4 bl a9 _;have q6:Keep (fun j=>v.ownBlock=some j) A w6:=(D.alloc _).grown a9 (fun k hk=>.inr hk);refine hK.out _ _ q6 fun _=>?_;refine HA.t ?_ [11] q6 ?_;refine HA.d ?_
    try simp only [Exit.then]
    obtain ⟨O6,T6,Q6,bw⟩:=ag a4 (J.o w6 q6) (B.o.trans (q6.toBelow B.o.size (fun j hj=>(C.o.lt j hj).1))) Z;clear a4 bl a9 bi bn b8 D q6 hK K' ad Z J ab;go_wp2_with fail;go_roundw
    ·exact ⟨m+1,by have:=HM.o;omega,by go_num,by rw [<-nF];simp only [jg,h1,h2,if_true,if_false,Bool.not_true,Bool.not_false,Bool.false_and,Bool.true_and];have:=O6.o;rw [bw.o] at this;simpa [eF,b9.o,Od] using this,Q6.o⟩
    ·have:=HM.o;simp [intOf];omega
   ·have bv:¬((m:Int)<Y.length):=ap;have c8:m=M:=by have:=HM.o;omega
    have hb:=aE (base':=w.heap.size) Ho.o (NN bh.o.size Q4.o.size)
    have bA:dt st bk (lo,H) W c x ph r=jU X Y (fun i s=>(⟨true,false,st,bk,ph,r,i,s⟩:Acn)) (fun i s=>(⟨false,ph==0,st,bk,ph,r,i,s⟩:Acn)) m:=by
     rw [HR.out,c8,<-HM.o];rfl
    rw [<-bA] at hb;obtain ⟨Hb,Hq⟩:=ae hb (bh.o.trans ((bt Q4.o (HQ.o)).mono bh.o.size));clear hb bA uJ;go_wp2_with fail;go_ret;exact ⟨_,rfl,Hb.o,Hq.o⟩
theorem iJ:dB prog 104 191 (.agg OS) 12 88:=⟨underlying104,info_parts (by kernel_rfl),rfl,by decide⟩
def jl (w:Qd) (v:Value) (h:Qd) (v':Value):Prop:=Keep (fun j=>v.ownBlock=some j) w h/\(v'.ownBlock=v.ownBlock\/∀k,v'.ownBlock=some k->w.heap.size<=k)
theorem jl.trans {a b c:Qd} {v v' i:Value} (h:jl a v b v') (k:jl b v' c i):jl a v c i:=by
 refine ⟨⟨k.1.os.trans h.1.os,k.1.tape.trans h.1.tape,k.1.output.trans h.1.output,NN h.1.size k.1.size,fun j o hn=>(k.1.block j (NQ o h.1.size) fun x=>?_).trans (h.1.block j o hn)⟩,?_⟩
 ·rcases h.2 with u | u
  ·exact hn (u▸x)
  ·have:=u j x;omega
 ·rcases k.2 with p | p
  ·rw [p];exact h.2
  ·exact .inr fun j o=>NN h.1.size (p j o)
theorem jl.below {b c:Qd} {v:Value} (h:aq b c):jl b v c v:=⟨Keep.below h,.inl rfl⟩
theorem jl.refl (w:Qd) (v:Value):jl w v w v:=⟨Keep.refl _ _,.inl rfl⟩
theorem hZ {P:Program} {t e:Qf} {z:Value} {size i:Nat} (T:dB P t e z size i) (w:Qd) {ops:Qh} {rest:List Oper} {o:Oper} {a:Qi} {Q:Exit->Qi->Qd->Prop} (B:o.guard=none) (s x:Operand) (C:o.op=.call {callee:=.builtin .append,args:=#[s,x],argTypes:=#[t,t]}) (base:Nat) (v:Value) (n:Nat) (xs:Qc) (hs:a.eval s=v) (hown:w.ownsRow base e size v n xs) (us:Qc) (hx:a.eval x=.slice (some (ar w.heap.size 0)) 1 1) (hus:us.length=size) (h1:∀u∈us,u.oneCell'=true) (hb:(n+1)*i<=140737488355328) (h63:n+1<=maxLen) (hbase:base<=w.heap.size) (h:∀A y p,p.ownsRow base e size (.slice A (n+1) y) (n+1) (xs++us)->jl w v p (.slice A (n+1) y)->
   wpList P ops Q rest (a.put o.dst (.slice A (n+1) y)) p):wpList P ops Q (o::rest) a (w.alloc (.cells us.toArray e)):=by
 refine dJ T (w:=w.alloc (.cells us.toArray e)) B s x C base v n xs hs (hown.alloc _) (some (ar w.heap.size 0)) 1 1 us hx (dN w us e w.heap.size rfl) ap h1 hb h63 (by simp;omega) ?_;intro A y p D _ hg hn;refine h A y p D ⟨((Keep.refl _ w).alloc _).grown hg (fun k hk=>.inr hk),?_⟩;rcases hn with hn | hn
 ·exact .inl hn
 ·exact .inr fun k hk=>by rw [hn] at hk;simp at hk;omega
theorem ss6 {w:Qd} {b:Nat} {t:Qf} {x p i v o u v0 v1 v2 v3 v4 v5:Value} (h:w.heap[b]?=some (.cells #[x,p,i,v,o,u] t (0,0))): ((((((w.setCell (ar b 0) v0).setCell (ar b 1) v1).setCell (ar b 2) v2).setCell (ar b 3) v3).setCell (ar b 4) v4).setCell (ar b 5) v5).heap[b]?=some (.cells #[v0,v1,v2,v3,v4,v5] t (0,0)):=
 ss (ss (ss3 (ss h rfl) rfl) rfl) (by simp)
theorem pS (p:Pln) (R a1 T J L Q I u x:Value) (w:Qd) (O:cW p) (B:p.bu<=1048576):Calls prog 91 #[.agg #[R,a1,T,J,OH (p.W:Nat),L,Q,I,OH (p.bu:Nat),OH (p.ck:Nat),u,x,OH (p.n:Nat)]] w fun e H=>∃v,e=.returned v/\H.ownsRow w.heap.size 187 2 v p.buks.length (aT p.buks)/\aq w H:=by
 obtain ⟨A,i⟩:∃A,w.alloc (.cells #[R,a1,T,J,OH (p.W:Nat),L,Q,I,OH (p.bu:Nat),OH (p.ck:Nat),u,x,OH (p.n:Nat)] 64)=A:=⟨_,rfl⟩;have y:aq w A:=by rw [<-i];exact (br w).alloc (NF _) _
 have hb:=AX p.n p.bu A (by have:=O.n;omega) O.bu B;obtain ⟨C,h,V⟩:=af i y hb;clear i y hb;go_enter func91,ntmps91;go_wp2_with fail;rw [C.o];refine V.o.mono ?_;rintro e Z ⟨v,rfl,N,D⟩;obtain ⟨Y,U⟩:=ae (aE (base':=w.heap.size) N h.o.size) (h.o.trans (D.mono h.o.size));clear N D;go_wp2_with fail;go_ret;exact ⟨_,rfl,Y.o,U.o⟩
theorem GH (p:Pln) (Y a1 Z Q R V N u x:Value) (st j:Nat) (w:Qd) (hp:cW p) (a4:p.bu<=1048576) (hj:j<p.buks.length):Calls prog 150 #[.agg #[Y,a1,Z,Q,OH (p.W:Nat),R,V,N,OH (p.bu:Nat),OH (p.ck:Nat),u,x,OH (p.n:Nat)],OH (st:Nat),OH (j:Nat)] w fun e L=>e=.returned (.agg #[OH (st:Nat),OH (j:Nat),OH ((aS p.buks j).1:Nat),OH ((aS p.buks j).2:Nat),OH (p.W:Nat),OH (p.ck:Nat)])/\aq w L:=by
 obtain ⟨h,i⟩:∃h,(w.alloc (.cells #[Y,a1,Z,Q,OH (p.W:Nat),R,V,N,OH (p.bu:Nat),OH (p.ck:Nat),u,x,OH (p.n:Nat)] 64)).alloc (.cells OU 261)=h:=⟨_,rfl⟩
 have g0:h.heap[w.heap.size]?=some (.cells #[Y,a1,Z,Q,OH (p.W:Nat),R,V,N,OH (p.bu:Nat),OH (p.ck:Nat),u,x,OH (p.n:Nat)] 64 (0,0)):=by
  rw [<-i,NW _ _ _ (by simp)];exact NG w _
 have g1:h.heap[w.heap.size+1]?=some (.cells OU 261 (0,0)):=by
  rw [<-i];have:=NG (w.alloc (.cells #[Y,a1,Z,Q,OH (p.W:Nat),R,V,N,OH (p.bu:Nat),OH (p.ck:Nat),u,x,OH (p.n:Nat)] 64)) (.cells OU 261);simpa using this
 have U:aq w h:=by rw [<-i];exact ((br w).alloc (NF _) _).alloc (by simp) _
 have t0:=fun L (q:Keep (fun j=>j=w.heap.size+1) h L)=>xr ((q.block _ (NE g0) ap).trans g0);have ao:(j:Int)<p.buks.length:=ap;obtain ⟨a9,J,G1⟩:=af i U g1;have q0:Keep (fun j=>j=w.heap.size+1) h h.drew:=(Keep.refl _ _).drew;clear i g0 g1 U;go_enter func150,ntmps150;go_wp2_with fail;rw [a9.o];refine HA.g (fun L:Qd=>Keep (fun j=>j=w.heap.size+1) h L) ?_;refine HA.t ?_ [0,1,2,4,7,8,9,10,11,12] q0 ?_;refine HA.c 3 (pS p Y a1 Z Q R V N u x _ hp a4) ?_;rintro e D ⟨v2,rfl,o2,k2⟩;have b2:=bt (br h).drew k2;have H:Keep (fun j=>j=w.heap.size+1) h D:=Keep.below b2;obtain ⟨g,c2,rfl,_⟩:=o2.form ap;obtain ⟨d0,d1⟩:=iP o2 hj;obtain ⟨I,C⟩:∃b,(aS p.buks j).1=b:=⟨_,rfl⟩;obtain ⟨T,A⟩:∃b,(aS p.buks j).2=b:=⟨_,rfl⟩;rw [C] at d0;rw [A] at d1;refine ⟨_,rfl,H,fun _=>?_⟩;refine HA.v 5 D (.pointer (some (ar g (j*2)))) H ?_;refine HA.v 6 D (.agg #[OH (I:Nat),OH (T:Nat)]) H ?_;refine HA.v 13 D (.agg #[OH (st:Nat),OH (j:Nat),OH (I:Nat),OH (T:Nat),OH (p.W:Nat),OH (p.ck:Nat)]) H ?_;have h2:=sb G1.o D b2;have u2:=bx6 h2;have O:=ss6 (v0:=OH (st:Nat)) (v1:=OH (j:Nat)) (v2:=OH (I:Nat)) (v3:=OH (T:Nat)) (v4:=OH (p.W:Nat)) (v5:=OH (p.ck:Nat)) h2;have a8:=NE h2;obtain ⟨W9,y⟩:∃W9,((((((D.setCell (ar (w.heap.size+1) 0) (OH (st:Nat))).setCell (ar (w.heap.size+1) 1) (OH (j:Nat))).setCell (ar (w.heap.size+1) 2) (OH (I:Nat))).setCell (ar (w.heap.size+1) 3) (OH (T:Nat))).setCell (ar (w.heap.size+1) 4) (OH (p.W:Nat))).setCell (ar (w.heap.size+1) 5) (OH (p.ck:Nat)))=W9:=⟨_,rfl⟩;have k9:Keep (fun j=>j=w.heap.size+1) D W9:=by rw [<-y];exact Keep.setCell (S:=fun j=>j=w.heap.size+1) (Keep.setCell (S:=fun j=>j=w.heap.size+1) (Keep.setCell (S:=fun j=>j=w.heap.size+1) (Keep.setCell (S:=fun j=>j=w.heap.size+1) (Keep.setCell (S:=fun j=>j=w.heap.size+1) (Keep.setCell (S:=fun j=>j=w.heap.size+1) (Keep.refl _ _) _ (.inr rfl) _) _ (.inr rfl) _) _ (.inr rfl) _) _ (.inr rfl) _) _ (.inr rfl) _) _ (.inr rfl) _
 refine HA.s 14 W9 (H.trans k9) ?_ (he:=by subst y;go_simp);refine HA.d ?_;rw [y] at O;obtain ⟨E6,HB⟩:=ae O (J.o.trans ((H.trans k9).toBelow (B:=w.heap.size) J.o.size (fun j hj=>ap)));obtain ⟨⟨r0,r1,r2,r3,r4,r5⟩,rf⟩:=bx6 O;have av:=NE O;obtain ⟨ad,ab⟩:=ae C A;clear O h2 u2 a8 q0 H b2 k9 k2 t0 o2 d0 d1 C A;go_wp2_with fail;rw [ad.o,ab.o];exact NX (v:=.agg #[OH (st:Nat),OH (j:Nat),OH (I:Nat),OH (T:Nat),OH (p.W:Nat),OH (p.ck:Nat)]) (by simp [results,results150,go_sem,r0,r1,r2,r3,r4,r5]) rfl ⟨rfl,HB.o⟩
abbrev gQ (w:Qd) (base:Nat) (v:Value) (l:List Itm):Prop:=w.ownsRow base 191 12 v l.length (cC l)
theorem AK (p:Pln) (base st x lo u:Nat) (a0 a1 a2 a3 a5 a6 a7 a4 a8:Value) (v:Value) (l:List Itm) (w:Qd) (hp:cW p) (dn:p.bu<=1048576) (hl:gQ w base v l) (hb:base<=w.heap.size) (hx:x<p.W) (bi:lo<=u) (hg:u<=p.buks.length) (dp:l.length<=8000000):Calls prog 103 #[v,.agg #[a0,a1,a2,a3,OH (p.W:Nat),a5,a6,a7,OH (p.bu:Nat),OH (p.ck:Nat),a4,a8,OH (p.n:Nat)],OH x,OH (st:Nat),.agg #[OH (lo:Nat),OH (u:Nat)]] w fun e A=>∃v',e=.returned v'/\gQ A base v' (l++du p x st (lo,u))/\jl w v A v':=by
 obtain ⟨J,ab⟩:∃J,(w.alloc (.cells #[a0,a1,a2,a3,OH (p.W:Nat),a5,a6,a7,OH (p.bu:Nat),OH (p.ck:Nat),a4,a8,OH (p.n:Nat)] 64)).alloc (.cells #[OH (lo:Nat),OH (u:Nat)] 187)=J:=⟨_,rfl⟩
 have g0:J.heap[w.heap.size]?=some (.cells #[a0,a1,a2,a3,OH (p.W:Nat),a5,a6,a7,OH (p.bu:Nat),OH (p.ck:Nat),a4,a8,OH (p.n:Nat)] 64 (0,0)):=by
  rw [<-ab,NW _ _ _ (by simp)];exact NG w _
 have g1:J.heap[w.heap.size+1]?=some (.cells #[OH (lo:Nat),OH (u:Nat)] 187 (0,0)):=by
  rw [<-ab];have:=NG (w.alloc (.cells #[a0,a1,a2,a3,OH (p.W:Nat),a5,a6,a7,OH (p.bu:Nat),OH (p.ck:Nat),a4,a8,OH (p.n:Nat)] 64)) (.cells #[OH (lo:Nat),OH (u:Nat)] 187);simpa using this
 have av:aq w J:=by rw [<-ab];exact ((br w).alloc (NF _) _).alloc (by simp) _
 have aP:gQ J base v l:=ay hl av;have kP:=fun A (q:Keep (fun j=>v.ownBlock=some j) J A)=>(q.block _ (NE g0) (fun h=>ax g0 (by decide) aP h.symm)).trans g0;have kG:=fun A (q:Keep (fun j=>v.ownBlock=some j) J A)=>(q.block _ (NE g1) (fun h=>ax g1 (by decide) aP h.symm)).trans g1;obtain ⟨m,hm⟩:∃m,p.W-1=m:=⟨_,rfl⟩;have d9:=hp.W1;have e5:=hp.W8;have cO:=hp.ck;have cj:=hp.ck2;have e9:=hp.buks;have cb:=fun j=>hp.buk j;have hrl:=fun ph r j=>hp.round x st ph r j;have e7:(p.W:Int)-1=(m:Int):=ap;have e4:IntKind.i64.wrap (m:Int)=m:=NK _ ap;have bo:=vx p x st lo u;rw [hm] at bo;have bX:=NN hb av.size;have d6:=av.size;obtain ⟨ds,d7,cA,HP,HG,d3,b6,Hm⟩:=ak ab av aP kP kG cb hrl hm;obtain ⟨dv,b0⟩:=ae bo bX;have tG:=fun A (q:aq J A)=>bx2 (kG A (Keep.below q));have q0:=br J;clear ab g0 g1 av aP hl kP kG cb hrl hm bX bo d6;go_enter func103,ntmps103;go_wp2_with fail;rw [ds.o];clear tG q0;have cn:=aa dp
 go_loopw [0,11] (fun H y wr=>∃j:Nat,lo<=j/\j<=u/\y=OH j/\gQ wr base H (l++dh st lo (j-lo) 2)/\jl J v wr H) (fun _ y _=>u-(intOf y).toNat)
 ·exact ⟨lo,NF _,bi,rfl,by simpa [dh] using cA.o,jl.refl _ _⟩
 case round=>
  obtain ⟨j,hj,ct,rfl,l3,L⟩:=hrel;have uR:=fun A (q:aq wr A)=>bx2 (sb (HG.o wr L.1) A q);have q1:=br wr
  have B:(l++dh st lo (j-lo) 2).length<=8388608:=by
   have:=cn.o;simp only [Od,jG];omega
  obtain ⟨Av,cv,rfl,_⟩:=aC l3;obtain ⟨n,hn⟩:∃n,(l++dh st lo (j-lo) 2).length=n:=⟨_,rfl⟩;have T:wr.ownsRow base 191 12 (.slice Av n cv) n (cC (l++dh st lo (j-lo) 2)):=by rw [<-hn];exact l3
  rw [hn] at B L ⊢;have Z:=L.1.size;by_cases bG:j<u
  ·have ao:(j:Int)<u:=ap;have cM:IntKind.i64.wrap ((j:Int)+1)=((j+1:Nat):Int):=by rw [NK _ ap];push_cast;rfl
   have e:l++dh st lo (j+1-lo) 2=(l++dh st lo (j-lo) 2)++[(⟨2,st,j,none⟩:Itm)]:=by rw [show j+1-lo=(j-lo)+1 by omega,mA,show lo+(j-lo)=j by omega];simp only [Oj]
   obtain ⟨Q,L3,He,V⟩:=ag L T e hn;clear l3 T L e hn;go_wp2_with (at_builtin;refine hZ iJ _ rfl (.tmp 27) (.tmp 31) rfl base (.slice Av n cv) n _ rfl L3.o [OH 2,OH (st:Nat),OH (j:Nat),.bool false,.bool false,OH 0,OH 0,OH 0,OH 0,OH 0,OH 0,OH 0] rfl rfl (by simp [Value.oneCell']) ap (by unfold maxLen;omega) (NN b0.o Z) ?_);intro g6 c6 w6 C D;obtain ⟨R,U⟩:=ae C (Q.o.trans D);clear C D;go_wp2_with fail;go_roundw
   ·exact ⟨j+1,by omega,by omega,by go_num,by unfold gQ;rw [He.o,Od,V.o,fK];exact R.o,U.o⟩
   ·simp [intOf];omega
  ·have ao:¬((j:Int)<u):=ap;obtain rfl:u=j:=ap;obtain ⟨L3,Q,V⟩:=af l3 L hn;clear l3 T L B hn;obtain ⟨l1,b4⟩:∃l1,l++dh st lo (u-lo) 2=l1:=⟨_,rfl⟩
   have bb:l1.length<=8000060:=by
    have:=cn.o;rw [<-b4];simp only [Od,jG];omega
   rw [V.o] at L3;have L4:an (wr.ownsRow base 191 12 (.slice Av n cv) l1.length (cC l1)):=aa (by have:=L3.o;unfold gQ at this;rw [V.o] at this;rw [<-b4,V.o];exact this);obtain ⟨d4,b9⟩:=ae b4 bb;clear b4 bb L3;go_wp2_with fail;clear uR q1
   go_loopw [0,12] (fun H y wr=>∃ph:Nat,ph<=2/\y=OH ph/\gQ wr base H (l1++cG p x st (lo,u) (ph*m))/\jl J v wr H) (fun _ y _=>2-(intOf y).toNat)
   ·exact ⟨0,NJ _,rfl,by simpa [cG] using L4.out,Q.o⟩
   case round=>
    obtain ⟨ph,e6,rfl,l2,A2⟩:=hrel;by_cases da:ph<2
    ·have d8:(ph:Int)<2:=ap;have e0:IntKind.i64.wrap ((ph:Int)+1)=((ph+1:Nat):Int):=by rw [NK _ ap];push_cast;rfl
     obtain ⟨L2,O⟩:=ae l2 A2;clear l2 A2;go_wp2_with fail
     go_loopw [0,13] (fun H y wr=>∃r:Nat,r<=m/\y=OH r/\gQ wr base H (l1++cG p x st (lo,u) (ph*m+r))/\jl J v wr H) (fun _ y _=>m-(intOf y).toNat)
     ·exact ⟨0,NJ _,rfl,L2.o,O.o⟩
     case round=>
      obtain ⟨r,hr,rfl,l2,A2⟩:=hrel;have uP:=fun A (q:aq wr A)=>xr (sb (HP.o wr A2.1) A q);have uR:=fun A (q:aq wr A)=>bx2 (sb (HG.o wr A2.1) A q);have q1:=br wr;by_cases hrl:r<m
      ·have d0:(r:Int)<m:=ap;have e3:IntKind.i64.wrap ((r:Int)+1)=((r+1:Nat):Int):=by rw [NK _ ap];push_cast;rfl
       obtain ⟨k,hk⟩:∃k,ph*m+r=k:=⟨_,rfl⟩;have cd:k/m=ph:=by rw [<-hk,Nat.mul_comm,Nat.mul_add_div ap,Nat.div_eq_of_lt hrl,Nat.add_zero]
       have bA:k%m=r:=by rw [<-hk,Nat.mul_comm,Nat.mul_add_mod,Nat.mod_eq_of_lt hrl]
       have bO:k<=14:=by
        have:ph*m<=1*7:=Nat.mul_le_mul ap (by have:=Hm.o;omega);omega
       rw [hk] at l2;obtain ⟨L2,O,Hk,dr,cy⟩:=ah l2 A2 hk cd bA;clear l2 A2 hk cd bA;go_wp2_with fail;clear uP uR q1
       go_loopw [0,14] (fun H y wr=>∃j:Nat,lo<=j/\j<=u/\y=OH j/\gQ wr base H (l1++cG p x st (lo,u) k++gL p x st k lo (j-lo))/\jl J v wr H) (fun _ y _=>u-(intOf y).toNat)
       ·exact ⟨lo,NF _,bi,rfl,by simpa [gL] using L2.o,O.o⟩
       case round=>
        obtain ⟨j,hj,ct,rfl,I,A4⟩:=hrel;have uP:=fun A (q:aq wr A)=>xr (sb (HP.o wr A4.1) A q);have uR:=fun A (q:aq wr A)=>bx2 (sb (HG.o wr A4.1) A q);have q1:=br wr;by_cases bG:j<u
        ·have ao:(j:Int)<u:=ap;have dc:j<p.buks.length:=ap;obtain ⟨wj,rfl⟩:∃wj:Qd,wj=wr:=⟨_,rfl⟩;obtain ⟨Aw,cw,rfl,_⟩:=aC I;obtain ⟨l4,b5⟩:∃l4,l1++cG p x st (lo,u) k++gL p x st k lo (j-lo)=l4:=⟨_,rfl⟩
         have b7:l4.length<=8200000:=by
          have h1:=jP (w:=x) (st:=st) (k:=k) (g:=(lo,u)) (M:=120) (p:=p) (fun ph r j=>b6.o ph r j);have h2:=th (w:=x) (st:=st) (k:=k) (lo:=lo) (n:=j-lo) (M:=120) (p:=p) (fun ph r j=>b6.o ph r j);have h4:k*((u-lo)*120)<=14*(60*120):=Nat.mul_le_mul bO (Nat.mul_le_mul ap (NF _));have h5:(j-lo)*120<=60*120:=Nat.mul_le_mul ap (NF _);have h6:=b9.o;rw [<-b5];simp only [Od];dsimp only at h1;omega
         rw [b5] at I A4 ⊢;obtain ⟨v4,bV⟩:∃v4,Value.slice Aw l4.length cw=v4:=⟨_,rfl⟩;rw [bV] at I A4 ⊢;have bh:=d3.o j
         have e8:cz p x st (k/(p.W-1)) (k%(p.W-1)) j=(dt st j (aS p.buks j) p.W p.ck x ph r).map (ip st):=by
          unfold cz;rw [Hm.o,dr.o,cy.o]
         have aM:=b6.o (k/(p.W-1)) (k%(p.W-1)) j;rw [e8,List.length_map] at aM;obtain ⟨b1,b2,bM⟩:∃b1 b2,aS p.buks j=(b1,b2):=⟨_,_,rfl⟩;have Y:=GH p a0 a1 a2 a3 a5 a6 a7 a4 a8 st j wj hp dn dc;rw [bM] at bh e8 aM Y;dsimp only at bh Y;obtain ⟨ci,E8,aR,a9,b3,cP,cx⟩:=aj Y e8 aM I A4 b5 b7;clear Y e8 aM I A4 b5 b7 bM bV;go_wp2_with fail;refine ci.o.mono ?_;rintro e w7 ⟨rfl,k7⟩;have q7:=bt q1 k7;go_wp2_with fail;refine (AB st j b1 b2 p.W p.ck x ph r w7 d9 ap hx da (by have:=Hm.o;omega) bh.1 ap cO cj).mono ?_;rintro e w8 ⟨v8,rfl,o8,k8⟩;have q8:=bt q7 k8;obtain ⟨A8,c8,rfl,_⟩:=aC o8;obtain ⟨X,hX⟩:∃X,dt st j (b1,b2) p.W p.ck x ph r=X:=⟨_,rfl⟩;rw [hX] at E8 aR o8 ⊢;obtain ⟨N,hN⟩:∃N,X.length=N:=⟨_,rfl⟩;rw [hN] at aR o8 ⊢;have l8:gQ w8 base v4 l4:=ay a9.o q8;have bI:jl J v w8 v4:=b3.o.trans (jl.below q8)
         have cl:=fun A (q:Keep (fun j=>v4.ownBlock=some j) w8 A)=>q.own o8 (fun k hk e=>by
          have h1:=(o8.lt k hk).1;have h5:k<wj.heap.size:=(a9.o.lt k e).2;have h6:=q7.size
          omega)
         obtain ⟨L8,be,d5,HN⟩:=ag l8 bI cl hN;clear o8 l8 bI cl k8 k7 q8 q7 q1 hX hN uP uR a9 b3;go_wp2_with fail
         go_loopw [0,16] (fun H y wr=>∃i:Nat,i<=N/\y=OH i/\gQ wr base H (l4++(X.take i).map (ip st))/\jl w8 v4 wr H) (fun _ y _=>N-(intOf y).toNat)
         ·exact ⟨0,NJ _,rfl,by simpa using L8.o,jl.refl _ _⟩
         case round=>
          obtain ⟨i,e1,rfl,l5,A5⟩:=hrel;by_cases dG:i<N
          ·have dw:(i:Int)<N:=ap;have e2:IntKind.i64.wrap ((i:Int)+1)=((i+1:Nat):Int):=by rw [NK _ (by have:=aR.o;omega)];push_cast;rfl
           have oX:=d5.o wr A5.1
           obtain ⟨ga,rfl⟩:∃ga,A8=some (ar ga 0):=by
            obtain ⟨g,e,hv,_⟩:=oX.form ap;simp only [Ou] at hv;exact ⟨g,hv.1⟩
           have dk:i<X.length:=by rw [HN.o];exact dG
           obtain ⟨a,ha⟩:∃a,X[i]=a:=⟨_,rfl⟩;have cs:X[i]?=some a:=by rw [<-ha];simp
           have cf:=zI oX cs HN.o;have co:X.take (i+1)=X.take i++[a]:=by rw [List.take_succ_eq_append_getElem dk,ha]
           have B:(l4++(X.take i).map (ip st)).length<=8388607:=by
            have:=cx.o;have:=aR.o;simp only [Od,List.length_map,Oi];omega
           obtain ⟨snd,ad,bn,bw,bd,bf,bs,bv,bl⟩:=a;have c0:wr.cell? (ar ga (i*9))=some (.bool snd):=cf 0 ap;have c1:wr.cell? (ar ga (i*9+1))=some (.bool ad):=cf 1 ap;have c2:wr.cell? (ar ga (i*9+2))=some (OH (bn:Nat)):=cf 2 ap;have c3:wr.cell? (ar ga (i*9+3))=some (OH (bw:Nat)):=cf 3 ap;have c4:wr.cell? (ar ga (i*9+4))=some (OH (bd:Nat)):=cf 4 ap;have c5:wr.cell? (ar ga (i*9+5))=some (OH (bf:Nat)):=cf 5 ap;have c6:wr.cell? (ar ga (i*9+6))=some (OH (bs:Nat)):=cf 6 ap;have c7:wr.cell? (ar ga (i*9+7))=some (OH (bv:Nat)):=cf 7 ap;have c8:wr.cell? (ar ga (i*9+8))=some (OH (bl:Nat)):=cf 8 ap;obtain ⟨Av,cv,rfl,_⟩:=aC l5;obtain ⟨n,hn⟩:∃n,(l4++(X.take i).map (ip st)).length=n:=⟨_,rfl⟩;have cr:wr.ownsRow base 191 12 (.slice Av n cv) n (cC (l4++(X.take i).map (ip st))):=by rw [<-hn];exact l5
           rw [hn] at B A5 ⊢;have Z:=A5.1.size;obtain ⟨bN,L5,cc,V⟩:=ag A5 cr co hn;clear oX cf l5 cr A5 co cs hn ha
           cases snd
           ·go_wp2_with (at_builtin;refine hZ iJ _ rfl (.tmp 72) (.tmp 80) rfl base (.slice Av n cv) n _ rfl L5.o [OH 4,OH (st:Nat),OH 0,.bool false,.bool ad,OH (bn:Nat),OH (bw:Nat),OH (bd:Nat),OH (bf:Nat),OH (bs:Nat),OH (bv:Nat),OH (bl:Nat)] rfl rfl (by simp [Value.oneCell']) ap (by unfold maxLen;omega) (NN (NN b0.o be.o.1.size) Z) ?_);intro g6 cL w6 C D;obtain ⟨R,U⟩:=ae C (bN.o.trans D);clear C D;go_wp2_with fail;go_roundw
            ·exact ⟨i+1,by omega,by go_num,by unfold gQ;rw [cc.o,List.map_append,<-Oj,Od,V.o,List.map_cons,List.map_nil,fK,List.map_take];exact R.o,U.o⟩
            ·simp [intOf];omega
           ·go_wp2_with (at_builtin;refine hZ iJ _ rfl (.tmp 72) (.tmp 80) rfl base (.slice Av n cv) n _ rfl L5.o [OH 3,OH (st:Nat),OH 0,.bool true,.bool ad,OH (bn:Nat),OH (bw:Nat),OH (bd:Nat),OH (bf:Nat),OH (bs:Nat),OH (bv:Nat),OH (bl:Nat)] rfl rfl (by simp [Value.oneCell']) ap (by unfold maxLen;omega) (NN (NN b0.o be.o.1.size) Z) ?_);intro g6 cL w6 C D;obtain ⟨R,U⟩:=ae C (bN.o.trans D);clear C D;go_wp2_with fail;go_roundw
            ·exact ⟨i+1,by omega,by go_num,by unfold gQ;rw [cc.o,List.map_append,<-Oj,Od,V.o,List.map_cons,List.map_nil,fK,List.map_take];exact R.o,U.o⟩
            ·simp [intOf];omega
          ·obtain rfl:N=i:=ap;have dw:¬((N:Int)<N):=ap;have dT:IntKind.i64.wrap ((j:Int)+1)=((j+1:Nat):Int):=by rw [NK _ ap];push_cast;rfl
           rw [List.take_of_length_le (by rw [HN.o];exact NF _),<-E8.o,<-cP.o,Oj,show gL p x st k lo (j-lo)++cz p x st (k/(p.W-1)) (k%(p.W-1)) j=gL p x st k lo (j+1-lo) from by rw [show j+1-lo=(j-lo)+1 by omega,pt,show lo+(j-lo)=j by omega]] at l5;obtain ⟨L5,B5⟩:=ae l5 (be.o.trans A5);clear l5 A5;go_wp2_with fail;go_roundw
           ·exact ⟨j+1,by omega,by omega,by go_num,L5.o,B5.o⟩
           ·simp [intOf];omega
        ·have ao:¬((j:Int)<u):=ap;obtain rfl:u=j:=ap;have e:=ii p x st (lo,u) k;dsimp only at e;rw [Oj,<-e,<-Hk.o,Oy] at I;obtain ⟨a9,b3⟩:=ae I A4;clear I A4 e uP;go_wp2_with fail;go_roundw
         ·exact ⟨r+1,by omega,by go_num,a9.o,b3.o⟩
         ·simp [intOf];omega
      ·have d0:¬((r:Int)<m):=ap;obtain rfl:m=r:=ap;rw [<-Ox] at l2;obtain ⟨L2,O⟩:=ae l2 A2;clear l2 A2 uR;go_wp2_with fail;go_roundw
       ·exact ⟨ph+1,by omega,by go_num,L2.o,O.o⟩
       ·simp [intOf];omega
    ·have d8:¬((ph:Int)<2):=ap;obtain rfl:ph=2:=ap
     have hrl:(cG p x st (lo,u) (2*m)).length<=100800:=by
      have h1:=jP (w:=x) (st:=st) (k:=2*m) (g:=(lo,u)) (M:=120) (p:=p) (fun ph r j=>b6.o ph r j);have h4:2*m*((u-lo)*120)<=14*(60*120):=Nat.mul_le_mul (by have:=Hm.o;omega) (Nat.mul_le_mul ap (NF _));dsimp only at h1;omega
     have aG:(l1++cG p x st (lo,u) (2*m)).length<=8200000:=by
      have:=b9.o;rw [Od];omega
     obtain ⟨l9,bz⟩:∃l9,l1++cG p x st (lo,u) (2*m)=l9:=⟨_,rfl⟩;rw [bz] at l2 aG;have uR:=fun A (q:aq wr A)=>bx2 (sb (HG.o wr A2.1) A q);have q1:=br wr;obtain ⟨L2,O,d2,c9⟩:=ag l2 A2 bz aG;clear l2 A2 bz aG hrl;go_wp2_with fail;clear uR q1
     go_loopw [0,18] (fun H y wr=>∃j:Nat,lo<=j/\j<=u/\y=OH j/\gQ wr base H (l9++dh st lo (j-lo) 5)/\jl J v wr H) (fun _ y _=>u-(intOf y).toNat)
     ·exact ⟨lo,NF _,bi,rfl,by simpa [dh] using L2.o,O.o⟩
     case round=>
      obtain ⟨j,hj,ct,rfl,l3,L⟩:=hrel;have uR:=fun A (q:aq wr A)=>bx2 (sb (HG.o wr L.1) A q);have q1:=br wr
      have B:(l9++dh st lo (j-lo) 5).length<=8388608:=by
       have:=c9.o;simp only [Od,jG];omega
      obtain ⟨Av,cv,rfl,_⟩:=aC l3;obtain ⟨n,hn⟩:∃n,(l9++dh st lo (j-lo) 5).length=n:=⟨_,rfl⟩;have T:wr.ownsRow base 191 12 (.slice Av n cv) n (cC (l9++dh st lo (j-lo) 5)):=by rw [<-hn];exact l3
      rw [hn] at B L ⊢;have Z:=L.1.size;by_cases bG:j<u
      ·have ao:(j:Int)<u:=ap;have cM:IntKind.i64.wrap ((j:Int)+1)=((j+1:Nat):Int):=by rw [NK _ ap];push_cast;rfl
       have e:l9++dh st lo (j+1-lo) 5=(l9++dh st lo (j-lo) 5)++[(⟨5,st,j,none⟩:Itm)]:=by rw [show j+1-lo=(j-lo)+1 by omega,mA,show lo+(j-lo)=j by omega];simp only [Oj]
       obtain ⟨Q,L3,He,V⟩:=ag L T e hn;clear l3 T L e hn;go_wp2_with (at_builtin;refine hZ iJ _ rfl (.tmp 90) (.tmp 94) rfl base (.slice Av n cv) n _ rfl L3.o [OH 5,OH (st:Nat),OH (j:Nat),.bool false,.bool false,OH 0,OH 0,OH 0,OH 0,OH 0,OH 0,OH 0] rfl rfl (by simp [Value.oneCell']) ap (by unfold maxLen;omega) (NN b0.o Z) ?_);intro g6 c6 w6 C D;obtain ⟨R,U⟩:=ae C (Q.o.trans D);clear C D;go_wp2_with fail;go_roundw
       ·exact ⟨j+1,by omega,by omega,by go_num,by unfold gQ;rw [He.o,Od,V.o,fK];exact R.o,U.o⟩
       ·simp [intOf];omega
      ·have ao:¬((j:Int)<u):=ap;obtain rfl:u=j:=ap;obtain ⟨L3,Q,V⟩:=af l3 L hn;clear l3 T L B hn;rw [V.o] at L3
       have b8:l9++dh st lo (u-lo) 5=l++du p x st (lo,u):=by
        rw [<-d2.o,<-d4.o,dv.o];simp only [Oj]
       have L9:an (gQ wr base (.slice Av n cv) (l++du p x st (lo,u))):=aa (by have:=L3.o;unfold gQ at this ⊢;rw [V.o] at this;rw [<-b8,V.o];exact this);have d1:=aa ((jl.below (v:=v) d7.o).trans Q.o);clear b8 L3;go_wp2_with fail;go_ret;exact ⟨_,rfl,L9.out,d1.o⟩
def Bp (st k:Nat):List Itm:=(List.range k).map (fun a=>(⟨1,st,a,none⟩:Itm))
theorem EF (st k:Nat):Bp st (k+1)=Bp st k++[(⟨1,st,k,none⟩:Itm)]:=rt st k
theorem IF (st k:Nat):(Bp st k).length=k:=by simp [Bp]
theorem AJ (p:Pln) (st x:Nat) (a0 a1 a2 a3 a5 a7 C:Value) (w:Qd) (V:cW p) (b6:p.bu<=1048576) (bn:p.wi<=1048576) (hx:x<p.W):Calls prog 67 #[.agg #[a0,a1,a2,a3,OH (p.W:Nat),a5,OH (p.mi:Nat),a7,OH (p.bu:Nat),OH (p.ck:Nat),OH (p.wi:Nat),C,OH (p.n:Nat)],OH x,OH (st:Nat)] w fun e u=>∃v,e=.returned v/\u.ownsRow w.heap.size 191 12 v (aJ p x st).length (cC (aJ p x st))/\aq w u:=by
 obtain ⟨i,N⟩:∃i,w.alloc (.cells #[a0,a1,a2,a3,OH (p.W:Nat),a5,OH (p.mi:Nat),a7,OH (p.bu:Nat),OH (p.ck:Nat),OH (p.wi:Nat),C,OH (p.n:Nat)] 64)=i:=⟨_,rfl⟩;have g0:i.heap[w.heap.size]?=some (.cells #[a0,a1,a2,a3,OH (p.W:Nat),a5,OH (p.mi:Nat),a7,OH (p.bu:Nat),OH (p.ck:Nat),OH (p.wi:Nat),C,OH (p.n:Nat)] 64 (0,0)):=by rw [<-N];exact NG w _
 have b5:aq w i:=by rw [<-N];exact (br w).alloc (NF _) _
 have bO:¬((p.W:Int)<=x):=ap;have bN:=V.buks;have bI:=V.grps;have bV:=V.mi;have aM:=V.wi;have bM:w.heap.size<i.heap.size:=NE g0;have T:p.grps=fC p.buks.length p.wi:=rfl;obtain ⟨bA,ad,G0,b0⟩:=ag N b5 g0 T;have tP:=fun u (q:aq i u)=>xr (sb g0 u q);have q0:=br i;clear N g0 b5 T;go_enter func67,ntmps67;go_wp2_with fail;rw [bA.o];clear q0
 go_loopw [7,8] (fun vv y wr=>∃k:Nat,k<=p.mi/\y=OH k/\wr.ownsRow i.heap.size 191 12 vv k (cC (Bp st k))/\aq i wr) (fun _ y _=>p.mi-(intOf y).toNat)
 ·exact ⟨0,NJ _,rfl,NV _ _ _ _,br i⟩
 case round=>
  obtain ⟨k,hk,rfl,ho,q⟩:=hrel;obtain ⟨Av,cv,rfl,_⟩:=aC ho;have J:=q.size;by_cases L:k<p.mi
  ·have a6:(k:Int)<p.mi:=ap;have bh:IntKind.i64.wrap ((k:Int)+1)=((k+1:Nat):Int):=by rw [NK _ ap];push_cast;rfl
   obtain ⟨Ho,Hq⟩:=ae ho q;clear ho;go_wp2_with (at_builtin;refine aW iJ _ rfl (.tmp 27) (.tmp 31) rfl i.heap.size (.slice Av k cv) k _ rfl Ho.o [OH 1,OH (st:Nat),OH (k:Nat),.bool false,.bool false,OH 0,OH 0,OH 0,OH 0,OH 0,OH 0,OH 0] rfl rfl (by simp [Value.oneCell']) ap (by unfold maxLen;omega) J ?_);intro g6 c6 w6 I b3 bz;obtain ⟨bw,a4⟩:=ae I (Hq.o.trans b3);clear I b3 bz q;go_wp2_with fail;go_roundw
   ·exact ⟨k+1,by omega,by go_num,by rw [EF,fK];exact bw.o,a4.o⟩
   ·simp [intOf];omega
  ·obtain rfl:p.mi=k:=ap;have a6:¬((p.mi:Int)<p.mi):=ap;have Ho:=aa ho;clear ho;go_wp2_with fail;refine HA.g (fun u:Qd=>aq i u) ?_;refine HA.t ?_ [0,3,4,5] q.drew ?_;refine HA.c 1 (pS p a0 a1 a2 a3 a5 (OH (p.mi:Nat)) a7 (OH (p.wi:Nat)) C _ V b6) ?_;rintro e w2 ⟨v2,rfl,o2,k2⟩;have q2:=bt q.drew k2;obtain ⟨D,c2,rfl,_⟩:=aC o2;refine ⟨_,rfl,q2,fun _=>?_⟩;refine HA.t ?_ [2] q2 ?_;refine HA.c 6 (xZ p.buks.length p.wi w2 ap aM bn) ?_;rintro e w3 ⟨v3,rfl,o3,k3⟩;have q3:=bt q2 k3;obtain ⟨A3,c3,rfl,_⟩:=aC o3;rw [<-b0.o] at o3 ⊢;refine ⟨_,rfl,q3,fun _=>?_⟩;refine HA.t ?_ [7] q3 ?_;refine HA.d ?_
   try simp only [Exit.then]
   have b1:=Rd.own o3
   have l3:gQ w3 i.heap.size (.slice Av p.mi cv) (Bp st p.mi):=by
    unfold gQ;rw [IF];exact ay (ay (bW Ho.o 1) k2) k3
   have aR:∀y,A3=some y->w2.heap.size<=y.block/\y.block<w3.heap.size:=fun y hy=>jV o3 y hy
   have b7:∀k,(Value.slice Av p.mi cv).ownBlock=some k->k<w2.heap.size:=fun k hk=>by
    have:=(Ho.o.lt k hk).2;have:=k2.size;have e:wr.drew.heap.size=wr.heap.size:=rfl;omega
   obtain ⟨bv,L3,b9,a9,Q3⟩:=ah b1 l3 aR b7 q3;clear b1 l3 aR b7 o2 o3 k2 k3 q q2;go_wp2_with fail;obtain ⟨v3,b4⟩:∃v,Value.slice Av p.mi cv=v:=⟨_,rfl⟩;rw [b4] at L3 a9 ⊢;clear b4
   go_loopw [7,10] (fun vv y wr=>∃k:Nat,k<=p.grps.length/\y=OH k/\gQ wr i.heap.size vv (dL p x st k)/\jl w3 v3 wr vv) (fun _ y _=>p.grps.length-(intOf y).toNat)
   ·exact ⟨0,NJ _,rfl,by simpa [dL,Bp] using L3.o,jl.refl _ _⟩
   case round=>
    obtain ⟨k,hk,rfl,U,D⟩:=hrel;obtain ⟨Aw,cw,rfl,_⟩:=aC U;have R:=nj V x st hk;have J:=NN Q3.o.size D.1.size;by_cases L:k<p.grps.length
    ·have a6:(k:Int)<p.grps.length:=ap;have bh:IntKind.i64.wrap ((k:Int)+1)=((k+1:Nat):Int):=by rw [NK _ ap];push_cast;rfl
     have ao:=D.1.rd bv.o (fun y hy e=>by
      have h1:=(b9.o y hy).1;have h2:=a9.o _ e
      omega)
     have Y:=ez L;obtain ⟨bb,bo,rfl,O⟩:=ao _ _ Y.1;obtain ⟨av,bG,e',H⟩:=ao _ _ Y.2;obtain ⟨rfl,rfl⟩:av=bb/\bG=bo:=by simpa using e'.symm
     rw [<-Oy] at H;have Q:=V.grp L;have A:=pA (p:=p) x st L;obtain ⟨lo,hi,bf⟩:∃lo hi,aS p.grps k=(lo,hi):=⟨_,_,rfl⟩;rw [bf] at Q O H A;dsimp only at Q O H;obtain ⟨lk,aP⟩:∃lk,dL p x st k=lk:=⟨_,rfl⟩;rw [aP] at U D A R ⊢;obtain ⟨v2,b2⟩:∃v,Value.slice Aw lk.length cw=v:=⟨_,rfl⟩;rw [b2] at U D ⊢;have kP:wr.heap[w.heap.size]?=some (.cells #[a0,a1,a2,a3,OH (p.W:Nat),a5,OH (p.mi:Nat),a7,OH (p.bu:Nat),OH (p.ck:Nat),OH (p.wi:Nat),C,OH (p.n:Nat)] 64 (0,0)):=(D.1.block _ (by have:=Q3.o.size;omega) (fun e=>by have:=(L3.o.lt _ e).1;omega)).trans (sb G0.o w3 Q3.o);have nP:¬v2.ownBlock=some w.heap.size:=fun e=>by have:=(U.lt _ e).1;omega
     have nB:¬v2.ownBlock=some av:=fun e=>by
      have h1:=b9.o _ rfl;dsimp only at h1;rcases D.2 with h | h
      ·rw [h] at e;have h2:=a9.o _ e;omega
      ·have h2:=h _ e;omega
     have uP:=fun u (q':Keep (fun j=>v2.ownBlock=some j) wr u)=>xr ((q'.block _ (NE kP) nP).trans kP);have d0:=fun u (q':Keep (fun j=>v2.ownBlock=some j) wr u)=>q'.cell O nB;have d1:=fun u (q':Keep (fun j=>v2.ownBlock=some j) wr u)=>q'.cell H nB;have Z:=AK p i.heap.size st x lo hi a0 a1 a2 a3 a5 (OH (p.mi:Nat)) a7 (OH (p.wi:Nat)) C v2 lk wr.drew V b6 (bW U 1) J hx Q.1 Q.2 ap;rw [<-A] at Z;obtain ⟨bl,ab⟩:=ae Z D;have q1:Keep (fun j=>v2.ownBlock=some j) wr wr.drew:=(Keep.refl _ _).drew;clear Z U D A aP b2 kP O H ao Y e' bf;go_wp2_with fail;refine HA.g (fun u:Qd=>Keep (fun j=>v2.ownBlock=some j) wr u) ?_;refine HA.t ?_ [0,1,2,3,4,5,6,7] q1 ?_;refine HA.c 8 bl.o ?_;rintro e w8 ⟨v8,rfl,l8,aG⟩;have A8:jl wr v2 w8 v8:=(jl.below (br wr).drew).trans aG;have q8:Keep (fun j=>v2.ownBlock=some j) wr w8:=A8.1;refine ⟨_,rfl,q8,fun _=>?_⟩;refine HA.t ?_ [9] q8 ?_;refine HA.d ?_
     try simp only [Exit.then]
     obtain ⟨L8,B8⟩:=ae l8 (ab.o.trans A8);clear l8 A8 aG q8 q1 uP d0 d1 nP nB;go_wp2_with fail;go_roundw
     ·exact ⟨k+1,by omega,by go_num,L8.o,B8.o⟩
     ·simp [intOf];omega
    ·have a6:¬((p.grps.length:Int)<p.grps.length):=ap;have bi:k=p.grps.length:=ap;subst bi;obtain ⟨n,hn⟩:∃n,(dL p x st p.grps.length).length=n:=⟨_,rfl⟩;have be:wr.ownsRow i.heap.size 191 12 (.slice Aw n cw) n (cC (dL p x st p.grps.length)):=by rw [<-hn];exact U
     rw [hn] at D R ⊢
     have e:cC (dL p x st p.grps.length)++[OH 6,OH (st:Nat),OH 0,.bool false,.bool false,OH 0,OH 0,OH 0,OH 0,OH 0,OH 0,OH 0]=cC (aJ p x st):=by
      have:aJ p x st=dL p x st p.grps.length++[(⟨6,st,0,none⟩:Itm)]:=by
       unfold dL aJ;rw [Oq]
      rw [this,fK];rfl
     have bd:n+1=(aJ p x st).length:=by
      rw [<-hn];unfold dL aJ;rw [Oq];simp only [Od,List.length_cons,List.length_nil]
     obtain ⟨ab,L2,He,bs⟩:=ag D be e bd;clear U be D hn e bd;go_wp2_with (at_builtin;refine hZ iJ _ rfl (.tmp 55) (.tmp 58) rfl i.heap.size (.slice Aw n cw) n _ rfl L2.o [OH 6,OH (st:Nat),OH 0,.bool false,.bool false,OH 0,OH 0,OH 0,OH 0,OH 0,OH 0,OH 0] rfl rfl (by simp [Value.oneCell']) ap (by unfold maxLen;omega) J ?_);intro g6 c6 w6 I b8;have a8:w6.ownsRow i.heap.size 191 12 (.slice g6 (n+1) c6) (n+1) (cC (dL p x st p.grps.length)++[OH 6,OH (st:Nat),OH 0,.bool false,.bool false,OH 0,OH 0,OH 0,OH 0,OH 0,OH 0,OH 0]):=I;rw [He.o] at a8;have B6:=(ab.o.trans b8).1.toBelow (B:=i.heap.size) Q3.o.size (fun j hj=>(L3.o.lt j hj).1);have O6:an (w6.ownsRow w.heap.size 191 12 (.slice g6 (n+1) c6) (aJ p x st).length (cC (aJ p x st))):=aa (by rw [<-bs.o];exact aE a8 ad.o.size);have a4:=aa (ad.o.trans ((Q3.o.trans B6).mono ad.o.size));clear I a8 b8 B6;go_wp2_with fail;go_ret;exact ⟨_,rfl,O6.out,a4.o⟩
def zT (p:Pln) (k:Nat):Nat:=((p.buks.take k).map fun b=>4*(p.W-1)*mW b p.W p.ck).sum
theorem Dp {p:Pln} {k:Nat} (hk:k<p.buks.length):zT p (k+1)=zT p k+4*(p.W-1)*mW (aS p.buks k) p.W p.ck:=by
 unfold zT;rw [List.take_succ_eq_append_getElem hk,<-cS _ _ hk];simp
theorem Ix {p:Pln} (i:cW p) (k:Nat):mW (aS p.buks k) p.W p.ck<=480:=by
 rw [yJ]
 have h:∀n,bP n (fun s=>(chR (aS (eh (aS p.buks k) p.W) s) p.ck).length)<=n*60:=by
  intro n
  induction n with
  | zero=>simp [bP]
  | succ n ih=>
   rw [ff];have:=tM (c:=p.ck) (s:=n) i.W1 (i.buk k).1 (i.buk k).2;omega
 have:=h p.W;have:=i.W8;omega
theorem Cn {p:Pln} (h:cW p):∀{k:Nat},k<=p.buks.length->zT p k<=k*13440
 | 0,_=>by simp [zT]
 | k+1,hk=>by
  rw [Dp ap];have h1:=Cn h (k:=k) ap;have i:=Ix h k;have o:4*(p.W-1)*mW (aS p.buks k) p.W p.ck<=28*480:=Nat.mul_le_mul (by have:=h.W8;omega) i;omega
def xC (p:Pln):Nat:=p.W*(p.mi+2*p.buks.length+1)+zT p p.buks.length
theorem Kf {p:Pln} (h:cW p) (st:Nat):bP p.W (fun w=>(aJ p w st).length)=xC p:=by
 rw [EQ p st h.wi,xC,zT,Oq]
noncomputable def qD (k:Cfg) (n:Int):Bool:=decide (cE k=0)&&(decide (1<=n)&&decide (n<=1048576))
theorem ww (A:N_) (c:Nat) (k:Cfg) (n:Int) (w:Qd) (h:lj w A c k):Calls prog 73 #[.agg #[.slice A k.sizes.length c,OH k.shift,OH k.rate,OH k.mom,OH k.workers,OH k.batch,OH k.micros,OH k.steps,OH k.bucket,OH k.chunk,OH k.window,OH k.cap,OH n]] w fun e N=>e=.returned (.bool (qD k n))/\aq w N:=by
 obtain ⟨H,y⟩:∃H,w.alloc (.cells #[.slice A k.sizes.length c,OH k.shift,OH k.rate,OH k.mom,OH k.workers,OH k.batch,OH k.micros,OH k.steps,OH k.bucket,OH k.chunk,OH k.window,OH k.cap,OH n] 64)=H:=⟨_,rfl⟩;have O:H.heap[w.heap.size]?=some (.cells #[.slice A k.sizes.length c,OH k.shift,OH k.rate,OH k.mom,OH k.workers,OH k.batch,OH k.micros,OH k.steps,OH k.bucket,OH k.chunk,OH k.window,OH k.cap,OH n] 64 (0,0)):=by rw [<-y];exact NG w _
 have D:aq w H:=by rw [<-y];exact (br w).alloc (NF _) _
 have hc:=pR A c k H (h.below D);have t0:=fun N q=>xr (sb O N q);obtain ⟨x,i,I⟩:=af y D hc;have J:=br H;clear y O D hc h;unfold qD;obtain ⟨v,u⟩:∃v,cE k=v:=⟨_,rfl⟩;rw [u] at I ⊢;clear u;by_cases h1:v=0
 ·by_cases Q:1<=n
  ·by_cases R:n<=1048576
   ·go_enter func73,ntmps73;go_wp2_with fail;rw [x.o];refine I.o.mono ?_;rintro e L ⟨rfl,p⟩;have C:=bt J p;have B:=aa (i.o.trans (C.mono i.o.size));clear p;go_wp2_with fail;go_ret;exact ⟨by simp [h1,Q,R],B.o⟩
   ·go_enter func73,ntmps73;go_wp2_with fail;rw [x.o];refine I.o.mono ?_;rintro e L ⟨rfl,p⟩;have C:=bt J p;have B:=aa (i.o.trans (C.mono i.o.size));clear p;go_wp2_with fail;go_ret;exact ⟨by rw [show decide (n<=1048576)=false from OB ap];simp,B.o⟩
  ·go_enter func73,ntmps73;go_wp2_with fail;rw [x.o];refine I.o.mono ?_;rintro e L ⟨rfl,p⟩;have C:=bt J p;have B:=aa (i.o.trans (C.mono i.o.size));clear p;go_wp2_with fail;go_ret;exact ⟨by rw [show decide (1<=n)=false from OB ap];simp,B.o⟩
 ·go_enter func73,ntmps73;go_wp2_with fail;rw [x.o];refine I.o.mono ?_;rintro e L ⟨rfl,p⟩;have C:=bt J p;have B:=aa (i.o.trans (C.mono i.o.size));clear p;go_wp2_with fail;go_ret;exact ⟨by simp [h1],B.o⟩
def Cj (k:Cfg) (n:Int) (r:Bool):Prop:=r=true->n<=60/\k.workers<=8/\k.micros<=20/\k.steps<=12
def NA (q:Prop) (w:Qd) (e:Ending) (h:Qd):Prop:=(∃b:Bool,e=.returned (.bool b)/\(b=true->q))/\aq w h
theorem AP (A:N_) (c:Nat) (k:Cfg) (n:Int) (w:Qd) (h:lj w A c k):Calls prog 75 #[.agg #[.slice A k.sizes.length c,OH k.shift,OH k.rate,OH k.mom,OH k.workers,OH k.batch,OH k.micros,OH k.steps,OH k.bucket,OH k.chunk,OH k.window,OH k.cap,OH n]] w (NA (Cj k n (qD k n)) w):=by
 obtain ⟨D,x⟩:∃D,w.alloc (.cells #[.slice A k.sizes.length c,OH k.shift,OH k.rate,OH k.mom,OH k.workers,OH k.batch,OH k.micros,OH k.steps,OH k.bucket,OH k.chunk,OH k.window,OH k.cap,OH n] 64)=D:=⟨_,rfl⟩;have R:D.heap[w.heap.size]?=some (.cells #[.slice A k.sizes.length c,OH k.shift,OH k.rate,OH k.mom,OH k.workers,OH k.batch,OH k.micros,OH k.steps,OH k.bucket,OH k.chunk,OH k.window,OH k.cap,OH n] 64 (0,0)):=by rw [<-x];exact NG w _
 have C:aq w D:=by rw [<-x];exact (br w).alloc (NF _) _
 have hc:=ww A c k n D (h.below C);have t0:=fun V q=>xr (sb R V q);obtain ⟨p,i,B⟩:=af x C hc;have H:=br D;clear x R C hc h;obtain ⟨r,hr⟩:∃r,qD k n=r:=⟨_,rfl⟩;rw [hr] at B ⊢;clear hr;obtain ⟨L,T⟩:∃L,k.sizes.length=L:=⟨_,rfl⟩;rw [T] at p B t0 ⊢;clear T;by_cases hl:(L:Int)<=40
 ·have N:¬(40<(L:Int)):=ap
  cases r with
  | false=>
   go_enter func75,ntmps75;go_wp2_with fail;rw [p.o];refine B.o.mono ?_;rintro e J ⟨rfl,u⟩;have y:=bt H u;have v:=aa (i.o.trans (y.mono i.o.size));clear u;go_wp2_with fail;go_ret;exact ⟨⟨_,rfl,fun _ h=>by cases h⟩,v.o⟩
  | true=>
   have I:∀b:Bool,(b=true->n<=60/\k.workers<=8/\k.micros<=20/\k.steps<=12)->b=true->Cj k n true:=fun b hb O _=>hb O;have Fin:=aa I;clear I;by_cases h1:n<=60
   ·by_cases Q:k.workers<=8
    ·by_cases U:k.micros<=20
     ·go_enter func75,ntmps75;go_wp2_with fail;rw [p.o];refine B.o.mono ?_;rintro e J ⟨rfl,u⟩;have y:=bt H u;have v:=aa (i.o.trans (y.mono i.o.size));clear u;go_wp2_with fail;go_ret;exact ⟨⟨_,rfl,Fin.o _ (fun hb=>⟨h1,Q,U,by simpa using hb⟩)⟩,v.o⟩
     ·go_enter func75,ntmps75;go_wp2_with fail;rw [p.o];refine B.o.mono ?_;rintro e J ⟨rfl,u⟩;have y:=bt H u;have v:=aa (i.o.trans (y.mono i.o.size));clear u;go_wp2_with fail;go_ret;exact ⟨⟨_,rfl,fun hb=>by simp [U] at hb⟩,v.o⟩
    ·go_enter func75,ntmps75;go_wp2_with fail;rw [p.o];refine B.o.mono ?_;rintro e J ⟨rfl,u⟩;have y:=bt H u;have v:=aa (i.o.trans (y.mono i.o.size));clear u;go_wp2_with fail;go_ret;exact ⟨⟨_,rfl,fun hb=>by simp [Q] at hb⟩,v.o⟩
   ·go_enter func75,ntmps75;go_wp2_with fail;rw [p.o];refine B.o.mono ?_;rintro e J ⟨rfl,u⟩;have y:=bt H u;have v:=aa (i.o.trans (y.mono i.o.size));clear u;go_wp2_with fail;go_ret;exact ⟨⟨_,rfl,fun hb=>by simp [h1] at hb⟩,v.o⟩
 ·have N:40<(L:Int):=ap;go_enter func75,ntmps75;go_wp2_with fail;rw [p.o]
  try go_wp2_with fail
  go_ret;exact ⟨⟨_,rfl,fun hb=>by simp at hb⟩,i.o⟩
theorem nI {p:Pln} (h:cW p) (x st:Nat):(aJ p x st).length<=8000000:=by
 have h1:=nj h x st (NF p.grps.length);have i:=h.grps;have:(aJ p x st).length=(dL p x st p.grps.length).length+1:=by simp [aJ,dL];omega
 omega
def J3 (i:Inp):Prop:=ji i/\(dF i=0->Cj i.cfg i.start.length (qD i.cfg i.start.length)/\i.cfg.steps<=6/\i.data.length<=40)
theorem J3.sm {i:Inp} (h:J3 i) (o:dF i=0):cq i:=by
 have hg:=qd.1 o;obtain ⟨hs,hr⟩:=h;obtain ⟨h1,x,y⟩:=hr o;have hc:=ix.2 hg.c;have p:=C0 hg.c.z;have he:=hg.s;have hn:1<=i.start.length:=by rw [he];exact p
 have hm:=hs.2.1;obtain ⟨A,u,v,_⟩:=h1 (by simp only [qD,hc,Bool.and_eq_true,OD];exact ⟨trivial,by omega,by omega⟩);exact ⟨hg,by omega,u,v,x,y⟩
theorem AO (A:N_) (c:Nat) (D:N_) (L:Nat) (T:N_) (I:Nat) (R:N_) (J:Nat) (i:Inp) (w:Qd) (h:km w A c D T I R i):Calls prog 42 #[.agg (aN A c D L T I R J i)] w (qS (J3 i) w):=by
 obtain ⟨v,u⟩:∃v,w.alloc (.cells (aN A c D L T I R J i) 29)=v:=⟨_,rfl⟩;have g0:v.heap[w.heap.size]?=some (.cells (aN A c D L T I R J i) 29 (0,0)):=by rw [<-u];exact NG w _
 have p:aq w v:=by rw [<-u];exact (br w).alloc (NF _) _
 have hf:=BI A c D L T I R J i v (h.below p);have V:=fun (hs:ji i) x (q:aq v x)=>gD A c D L T I R J i x (((h.rd hs).below p).below q);have O:=kz A i.cfg.sizes.length c i.cfg.shift i.cfg.rate i.cfg.mom i.cfg.workers i.cfg.batch i.cfg.micros i.cfg.steps i.cfg.bucket i.cfg.chunk i.cfg.window i.cfg.cap D i.data.length L T i.start.length I R i.draws.length J;have U:=fun x (q:aq v x)=>AP A c i.cfg i.start.length x ((h.c.below p).below q);unfold qS J3;dsimp only [aN] at *;have t0:=fun x q=>lA (sb g0 x q);obtain ⟨a1,N,Hf,a4,a3,a0⟩:=ai u p hf V O U;have q0:=br v;clear u g0 p hf V O U h;go_enter func42,ntmps42;go_wp2_with fail;rw [a1.o];refine Hf.o.mono ?_;rintro e w1 ⟨⟨b,rfl,hb⟩,Z⟩;have q1:=bt q0 Z;obtain ⟨y,Hb⟩:=ae (N.o.trans (Z.mono N.o.size)) hb;clear hb Z q0
 cases b with
 | false=>
  go_wp2_with fail;go_ret;exact ⟨⟨false,rfl,fun h=>by cases h⟩,y.o⟩
 | true=>
  go_wp2_with fail;refine (a4.o (Hb.o (by trivial)) w1 q1).mono ?_;rintro e w2 ⟨rfl,k2⟩;have q2:=bt q1 k2;have B:=aa (y.o.trans (k2.mono y.o.size));clear k2 q1;obtain ⟨C,hC⟩:∃C,dF i=C:=⟨_,rfl⟩;rw [hC];have HC:=aa hC;clear hC;by_cases h0:C=0
  ·subst h0;go_wp2_with fail;refine (a3.o w2).mono ?_;rintro e w3 ⟨rfl,k3⟩;have q3:=bt q2 k3;have Q:=aa (B.o.trans (k3.mono B.o.size));clear k3 q2;go_wp2_with fail;refine (a0.o w3 q3).mono ?_;rintro e w4 ⟨⟨b2,rfl,Y⟩,k4⟩;have q4:=bt q3 k4;obtain ⟨H,a2⟩:=ae (Q.o.trans (k4.mono Q.o.size)) Y;clear Y k4 q3
   cases b2 with
   | false=>
    go_wp2_with fail;go_ret;exact ⟨⟨false,rfl,fun h=>by cases h⟩,H.o⟩
   | true=>
    by_cases h6:i.cfg.steps<=6
    ·go_wp2_with fail;go_ret;exact ⟨⟨_,rfl,fun h=>⟨Hb.o (by trivial),fun _=>⟨a2.o (by trivial),h6,by simp at h;omega⟩⟩⟩,H.o⟩
    ·go_wp2_with fail;go_ret;exact ⟨.inl rfl,H.o⟩
  ·go_wp2_with fail;go_ret;exact ⟨⟨true,rfl,fun _=>⟨Hb.o (by trivial),fun h=>absurd (HC.o.symm.trans h) h0⟩⟩,B.o⟩
theorem DJ (p:Pln) (st h x:Nat) (A:N_) (N c:Nat) (L J O I u:Int) (w:Qd) (hp:cW p) (R:p.bu<=1048576) (Q:p.wi<=1048576) (hx:x<p.W) (a0:st<h):Calls prog 88 #[.agg #[.slice A N c,OH L,OH J,OH O,OH (p.W:Nat),OH I,OH (p.mi:Nat),OH (h:Nat),OH (p.bu:Nat),OH (p.ck:Nat),OH (p.wi:Nat),OH u,OH (p.n:Nat)],OH (x:Nat),OH (st:Nat)] w fun e H=>∃v,e=.returned v/\H.ownsRow w.heap.size 191 12 v (aJ p x st).length (cC (aJ p x st))/\aq w H:=by
 obtain ⟨B,i⟩:∃B,w.alloc (.cells #[.slice A N c,OH L,OH J,OH O,OH (p.W:Nat),OH I,OH (p.mi:Nat),OH (h:Nat),OH (p.bu:Nat),OH (p.ck:Nat),OH (p.wi:Nat),OH u,OH (p.n:Nat)] 64)=B:=⟨_,rfl⟩;have Z:B.heap[w.heap.size]?=some (.cells #[.slice A N c,OH L,OH J,OH O,OH (p.W:Nat),OH I,OH (p.mi:Nat),OH (h:Nat),OH (p.bu:Nat),OH (p.ck:Nat),OH (p.wi:Nat),OH u,OH (p.n:Nat)] 64 (0,0)):=by rw [<-i];exact NG w _
 have D:aq w B:=by rw [<-i];exact (br w).alloc (NF _) _
 have hc:=AJ p st x (.slice A N c) (OH L) (OH J) (OH O) (OH I) (OH (h:Nat)) (OH u) B hp R Q hx;have h1:¬((st:Int)<0):=ap;have h2:¬((h:Int)<=st):=ap;have t0:=fun H q=>xr (sb Z H q);obtain ⟨T,y,Hc⟩:=af i D hc;have q0:=br B;clear i Z D hc;go_enter func88,ntmps88;go_wp2_with fail;rw [T.o];refine Hc.o.mono ?_;rintro e w1 ⟨v,rfl,ho,V⟩;have C:=aE ho y.o.size;have Y:=y.o.trans (V.mono y.o.size);obtain ⟨Fin,U⟩:=ae C Y;clear C Y ho V;go_wp2_with fail;go_ret;exact ⟨v,rfl,Fin.o,U.o⟩
theorem dY:cY prog 29 15:=⟨⟨_,underlying29,rfl⟩,by kernel_rfl⟩
theorem dX:cY prog 106 22:=⟨⟨_,underlying106,rfl⟩,by kernel_rfl⟩
theorem gn (w:Qd) (X Z:Qb) (t u:Qf):∃h W1,w.alloc (.cells X t)=h/\h.alloc (.cells Z u)=W1/\W1.heap[w.heap.size]?=some (.cells X t (0,0))/\W1.heap[w.heap.size+1]?=some (.cells Z u (0,0))/\aq w W1/\W1.heap.size=w.heap.size+1+1:=by
 refine ⟨_,_,rfl,rfl,?_,?_,?_,?_⟩
 ·exact sb (NG w _) _ ((br _).alloc (NF _) _)
 ·have:=NG (w.alloc (.cells X t)) (.cells Z u)
  rwa [show (w.alloc (.cells X t)).heap.size=w.heap.size+1 from Array.size_push _] at this
 ·exact ((br w).alloc (NF _) _).alloc (by simp) _
 ·simp
def iL (i:Inp) (x k:Nat):List Itm:=(List.range k).flatMap fun t=>aJ (az i) x t
abbrev dq (i:Inp) (x:Nat):List Itm:=iL i x i.cfg.steps.toNat
theorem gM (i:Inp) (x k:Nat):iL i x (k+1)=iL i x k++aJ (az i) x k:=by simp [iL,Ow]
theorem lV {i:Inp} (h:cW (az i)) (x k:Nat):(iL i x k).length=k*(aJ (az i) x 0).length:=by
 induction k with
 | zero=>simp [iL]
 | succ k ih=>rw [gM,Od,ih,j6 h x k,Ox]
theorem Da {i:Inp} (o:cW (az i)) {x st nx:Nat} {y:Itm} (p:(aJ (az i) x st)[nx]?=some y):∀{k:Nat},st<k->(iL i x k)[st*(aJ (az i) x 0).length+nx]?=some y
 | 0,h=>absurd h (Nat.not_lt_zero _)
 | k+1,h=>by
  have hl:=lV o x k;have hn:=(Oe.1 p).1;rw [j6 o] at hn;rw [gM];rcases NY st k with u | u
  ·have h1:=OF (aJ (az i) x 0).length (Nat.succ_le_of_lt u);rw [Ox] at h1;rw [Og ap];exact Da o p u
  ·obtain rfl:st=k:=ap;rw [Oh ap,hl,Nat.add_sub_cancel_left];exact p
def jd (j:Nat) (b:Bool) (y:Itm):Bool:=if y.kind=5/\y.n=j then false else if y.kind=2/\y.n=j then true else b
def ul (h:List Itm) (dn j:Nat):Bool:=(h.take dn).foldl (jd j) false
def nW (h:List Itm) (dn nb:Nat):List Nat:=(List.range nb).filter fun j=>ul h dn j
theorem ES {i:List Itm} {k:Nat} {y:Itm} (h:i[k]?=some y) (j:Nat):ul i (k+1) j=jd j (ul i k j) y:=by
 obtain ⟨hk,e⟩:=Oe.1 h;unfold ul;rw [List.take_succ_eq_append_getElem hk,e,List.foldl_append];rfl
theorem vd (h:List Itm) (dn nb:Nat):nW h dn (nb+1)=nW h dn nb++if ul h dn nb then [nb] else []:=by
 unfold nW;rw [Ow,List.filter_append]
 congr 1
 simp only [List.filter_cons,List.filter_nil]
theorem KP (h:List Itm) (dn nb:Nat):(nW h dn nb).length<=nb:=by
 unfold nW;exact NN (List.length_filter_le _ _) (by simp)
def J5 (l1 h:Qa) (e:Ending):Prop:=∃d:Int,e=.returned (OH d)/\ -1<=d/\(d<0↔l1=h)
theorem BP (A1 C:N_) (l1 p:Qa) (c1 c2:Nat) (w:Qd) (h1:Rd w A1 (aA .i64 l1)) (J:Rd w C (aA .i64 p)) (R:l1.length<=17592186043904) (N:p.length<=17592186043904):Calls prog 147 #[.slice A1 l1.length c1,.slice C p.length c2] w fun e D=>J5 l1 p e/\∃n,D=w.drewN n:=by
 go_enter func147,ntmps147;go_wp2
 go_loopw [5] (fun i wr=>∃k:Nat,k<=l1.length/\k<=p.length/\i=OH k/\l1.take k=p.take k/\∃n,wr=w.drewN n) (fun i _=>l1.length+p.length+1-(intOf i).toNat)
 ·exact ⟨0,NJ _,NJ _,rfl,rfl,0,rfl⟩
 case round=>
  obtain ⟨k,I,H,rfl,A,n,rfl⟩:=hrel;have y:=aa A;clear A;by_cases x:k<l1.length
  ·by_cases u:k<p.length
   ·obtain ⟨U,Y,rfl,T⟩:=h1.num x;obtain ⟨Z,V,rfl,O⟩:=J.num u;have g1:decide ((l1.length:Int)<=(k:Int))=false:=by simp;omega
    have L:decide ((p.length:Int)<=(k:Int))=false:=by simp;omega
    go_wp2
    go_quiet (fail)
    go_wp2
    ·have v:(l1.length<=k\/p.length<=k)\/(nth l1 k != nth p k)=true:=by assumption
     have v:(nth l1 k != nth p k)=true:=v.resolve_left ap;have B:=aa v;clear v;go_ret;refine ⟨⟨k,rfl,by omega,fun h=>ap,fun h=>?_⟩,_,World.drewN_drewN _ _ _⟩;subst h;have:=B.o;simp at this
    ·have v:(¬l1.length<=k/\¬p.length<=k)/\(nth l1 k != nth p k)=false:=by assumption
     have v:=v.2;have B:=aa v;clear v;go_roundw
     ·exact ⟨k+1,by omega,by omega,by go_num,pK x u y.o (by have:=B.o;simpa using this),_,rfl⟩
     ·simp [intOf];omega
   ·have g1:decide ((l1.length:Int)<=(k:Int))=false:=by simp;omega
    have L:decide ((p.length:Int)<=(k:Int))=true:=by simp;omega
    go_wp2
    go_quiet (fail)
    go_wp2;go_ret;refine ⟨⟨k,rfl,by omega,fun h=>ap,fun h=>?_⟩,_,by first | rfl | exact World.drewN_drewN _ _ _⟩;subst h;omega
  ·by_cases u:k<p.length
   ·obtain rfl:k=l1.length:=ap;go_wp2
    go_quiet (fail)
    go_wp2;go_ret;refine ⟨⟨l1.length,rfl,by omega,fun h=>ap,fun h=>?_⟩,_,by first | rfl | exact World.drewN_drewN _ _ _⟩;subst h;omega
   ·go_wp2;go_ret;refine ⟨⟨-1,rfl,by omega,fun _=>?_,fun _=>ap⟩,n,rfl⟩;have Q:k=l1.length:=ap;exact tD ap (by rw [<-Q];exact y.o)
theorem su (A1 x:N_) (l1 u:Qa) (c1 c2:Nat) (w:Qd) (h1:Rd w A1 (aA .i64 l1)) (B:Rd w x (aA .i64 u)) (y:l1.length<=17592186043904) (v:u.length<=17592186043904):Calls prog 101 #[.slice A1 l1.length c1,.slice x u.length c2] w fun e A=>e=.returned (.bool (decide (l1=u)))/\∃n,A=w.drewN n:=by
 have p:=BP A1 x l1 u c1 c2 w h1 B y v;have D:=aa p;clear p;go_enter func101,ntmps101;go_wp2_with fail;refine D.o.mono ?_;rintro e I ⟨⟨d,rfl,C,i⟩,n,rfl⟩;by_cases p:d<0
 ·have h:=i.1 p;have H:=aa h;clear h i;go_wp2;go_ret;exact ⟨df (by rw [OA H.o];first | done | simpa using p),n,rfl⟩
 ·have h:¬l1=u:=fun e=>p (i.2 e);have H:=aa h;clear h i;go_wp2;go_ret;exact ⟨df (by rw [OB H.o];first | done | simpa using p),n,rfl⟩
theorem zU (A1 i v x:N_) (p m V T:Qa) (c1 c2 u h:Nat) (w:Qd) (h1:cB w A1 p c1) (h2:cB w i m c2) (h3:cB w v V u) (h4:cB w x T h):Calls prog 65 #[.agg #[.slice A1 p.length c1,.slice i m.length c2],.agg #[.slice v V.length u,.slice x T.length h]] w fun e y=>e=.returned (.bool (decide (p=V)&&decide (m=T)))/\aq w y:=by
 have J:=fun y (q:aq w y)=>su A1 v p V c1 u y (h1.hr.below q) (h3.hr.below q) h1.hl h3.hl;have L:=fun y (q:aq w y)=>su i x m T c2 h y (h2.hr.below q) (h4.hr.below q) h2.hl h4.hl;obtain ⟨b1,R⟩:∃b1,decide (p=V)=b1:=⟨_,rfl⟩;obtain ⟨b2,O⟩:∃b2,decide (m=T)=b2:=⟨_,rfl⟩;obtain ⟨U,C⟩:∃n,p.length=n:=⟨_,rfl⟩;obtain ⟨Y,Q⟩:∃n,m.length=n:=⟨_,rfl⟩;obtain ⟨m1,H⟩:∃n,V.length=n:=⟨_,rfl⟩;obtain ⟨m2,I⟩:∃n,T.length=n:=⟨_,rfl⟩;rw [R,C,H] at J;rw [O,Q,I] at L;rw [R,O,C,Q,H,I];obtain ⟨a1,a2⟩:=ae J L;clear J L R O C Q H I h1 h2 h3 h4;go_enter func65,ntmps65;go_wp2_with fail;have hz:=(NW (w.alloc (.cells #[.slice A1 U c1,.slice i Y c2] 103)) (.cells #[.slice v m1 u,.slice x m2 h] 103) w.heap.size (by simp)).trans (NG w _);have hy:=NG (w.alloc (.cells #[.slice A1 U c1,.slice i Y c2] 103)) (.cells #[.slice v m1 u,.slice x m2 h] 103);rw [show (w.alloc (.cells #[.slice A1 U c1,.slice i Y c2] 103)).heap.size=w.heap.size+1 by simp] at hy;have hB:aq w ((w.alloc (.cells #[.slice A1 U c1,.slice i Y c2] 103)).alloc (.cells #[.slice v m1 u,.slice x m2 h] 103)):=((NI _ w).alloc (NF _) _).alloc (by simp) _;obtain ⟨Z,a0⟩:∃Z,Z=(w.alloc (.cells #[.slice A1 U c1,.slice i Y c2] 103)).alloc (.cells #[.slice v m1 u,.slice x m2 h] 103):=⟨_,rfl⟩;rw [<-a0] at hz hy hB ⊢;clear a0;refine (a1.o _ hB).mono ?_;rintro e w1 ⟨rfl,d,rfl⟩;have A:=NU hB d;have D:(Z.drewN d).heap[w.heap.size]?=some (.cells #[.slice A1 U c1,.slice i Y c2] 103 (0,0)):=hz;have B:(Z.drewN d).heap[w.heap.size+1]?=some (.cells #[.slice v m1 u,.slice x m2 h] 103 (0,0)):=hy;clear hz hy hB;generalize Z.drewN d=W1 at D B A ⊢;obtain ⟨⟨z0,z1⟩,zf⟩:=bx2 D;obtain ⟨⟨y0,y1⟩,yf⟩:=bx2 B;have N:=aa A;clear D B A;rcases dI b1 with rfl | rfl
 ·go_wp2_with fail;go_ret;exact ⟨rfl,N.o⟩
 go_wp2_with fail;refine (a2.o _ N.o).mono ?_;rintro e w2 ⟨rfl,h,rfl⟩;go_wp2_with fail;go_ret;exact ⟨by simp,NU N.o h⟩
theorem ke:dB prog 26 2 (OH 0) 1 8:=⟨underlying26,info_parts (by kernel_rfl),rfl,by decide⟩
theorem Ay (A:N_) (n c:Nat) (w:Qd) (hn:n<=1048576):Calls prog 59 #[.slice A n c] w fun e I=>∃U,e=.returned (.agg #[.slice A n c,.slice U n n])/\I.ownsRow w.heap.size 2 1 (.slice U n n) n (aA .i64 (List.replicate n 0))/\aq w I:=by
 have p:=fun I=>m6 ke I rfl n ap (by unfold maxLen;omega);simp only [fp] at p;have O:=aa p;clear p;have L:=NG w (.cells #[OJ,OJ] 103);have D:aq w (w.alloc (.cells #[OJ,OJ] 103)):=(NI _ w).alloc (NF _) _;have y:=NE L;obtain ⟨V,C,x,u⟩:=O.o (w.alloc (.cells #[OJ,OJ] 103));rw [show (w.alloc (.cells #[OJ,OJ] 103)).heap.size=w.heap.size+1 by simp] at C x;obtain ⟨h,B,H⟩:=af ((u.block w.heap.size y).trans L) (aE (base':=w.heap.size) x ap) (D.trans (u.mono ap));have i:=h.o;obtain ⟨⟨z0,z1⟩,zf⟩:=bx2 i;have Z:=NE i;clear L D x u i y;go_enter func59,ntmps59;go_wp2_with fail;have e1:=OE V w.heap.size 0 _ _ (.slice A n c) h.o;have e2:=OE _ w.heap.size 1 _ _ (.slice (some (ar (w.heap.size+1) 0)) n n) e1;have R:((V.setCell (ar w.heap.size 0) (.slice A n c)).setCell (ar w.heap.size 1) (.slice (some (ar (w.heap.size+1) 0)) n n)).heap[w.heap.size]?=some (.cells #[.slice A n c,.slice (some (ar (w.heap.size+1) 0)) n n] 103 (0,0)):=by simpa using e2
 have hk:Keep (fun j=>j=w.heap.size) V ((V.setCell (ar w.heap.size 0) (.slice A n c)).setCell (ar w.heap.size 1) (.slice (some (ar (w.heap.size+1) 0)) n n)):=Keep.setCell (S:=fun j=>j=w.heap.size) (Keep.setCell (S:=fun j=>j=w.heap.size) (Keep.refl _ _) _ (.inr rfl) _) _ (.inr rfl) _;obtain ⟨Q,J⟩:∃Q,Q=(V.setCell (ar w.heap.size 0) (.slice A n c)).setCell (ar w.heap.size 1) (.slice (some (ar (w.heap.size+1) 0)) n n):=⟨_,rfl⟩;rw [<-J] at R hk ⊢;obtain ⟨⟨r0,Y⟩,rf⟩:=bx2 R;have N:=hk.own B.o (fun j T e=>ax h.o (by decide) B.o (by rw [T,e]));exact NX (v:=.agg #[.slice A n c,.slice (some (ar (w.heap.size+1) 0)) n n]) (by simp [results,results59,go_sem,r0,Y]) rfl ⟨_,rfl,N,H.o.trans (hk.toBelow H.o.size (fun j T=>ap))⟩
end Go.Proofs.YtgmajkppbhiopaaGreat
