/- No condition. -/
import Derived.Test.YtindmkcnjlgomaaGreatR05
import Derived.Laws.CopyOwn
import Derived.WalkMore
import Derived.Deep.LoopGhost
set_option linter.unusedSimpArgs false
set_option linter.unusedVariables false
set_option maxRecDepth 100000
set_option maxHeartbeats 4000000
namespace Go.Proofs.YtindmkcnjlgomaaGreat
open Go.RowKit
open Tryz
theorem Cp:cW prog 64 67 (.agg #[H8 0,H8 0]) 2 16:=⟨underlying64,info_parts (by kernel_rfl),rfl,by decide⟩
def vI (n s k:Nat):List Rg:=(List.range k).map λj=>(j*s,min (j*s+s) n)
theorem zu (n s k:Nat):vI n s (k+1)=vI n s k++[(k*s,min (k*s+s) n)]:=by simp [vI,GV]
theorem CO (n s k:Nat):(vI n s k).length=k:=by simp [vI]
theorem Fb (n s:Nat):dU n s=vI n s (be n s):=rfl
theorem D7 {n s k:Nat} (i:1<=s) (h:be n s<=k):n<=k*s:=by
 rcases Nat.eq_zero_or_pos n with rfl | hn
 ·omega
 ·rw [xc n s i] at h;have u:=Nat.div_add_mod (n+s-1) s;have o:=Nat.mod_lt (n+s-1) (show 0<s by omega);have v:s*((n+s-1)/s)<=s*k:=Nat.mul_le_mul_left s h;have p:s*k=k*s:=Nat.mul_comm _ _;omega
theorem AR (n s:Nat) (w:N5) (hn:n<=1048576) (hs:1<=s) (a5:s<=1048576):Calls prog 22 #[H8 n,H8 s] w λe Y=>∃v,e=.returned v/\Y.ownsRow w.heap.size 67 2 v (dU n s).length (aI (dU n s))/\ap w Y:=by
 have a4:¬((s:Int)<1):=ao;by_cases h0:n=0
 ·subst h0;go_enter func22,ntmps22;go_wp2;go_ret;exact ⟨_,rfl,Gj _ _ _ _,Gb _ _⟩
 ·have a2:¬((n:Int)<1):=ao;have hc:=fF n s;have hl:=λk (h:k<be n s)=>fe h;have U:=λk (h:be n s<=k)=>D7 hs h;rw [Fb,CO];obtain ⟨m,hm⟩:∃m,be n s=m:=⟨_,rfl⟩;rw [hm] at hc hl U ⊢;obtain ⟨Hl,Hg⟩:=ab hl U;clear hm hl U;go_enter func22,ntmps22;go_wp2_with fail
  go_loopw [5,6] (λv x wr=>∃k:Nat,k<=m/\x=H8 (min (k*s) n:Nat)/\wr.ownsRow w.heap.size 67 2 v k (aI (vI n s k))/\ap w wr) (λ_ x _=>n-(intOf x).toNat)
  ·exact ⟨0,Gc _,by simp,Gj _ _ _ _,Gb _ _⟩
  case round=>
   obtain ⟨k,hk,rfl,L,hb⟩:=hrel;by_cases T:k<m
   ·have V:=Hl.o k T;have u:=zu n s k;have D:(k+1)*s=k*s+s:=GW k s;obtain ⟨y,hy⟩:∃y,k*s=y:=⟨_,rfl⟩;rw [hy] at V u D ⊢;rw [show min y n=y by omega];have a3:(y:Int)<n:=ao;obtain ⟨A,c,rfl,_⟩:=aE L;obtain ⟨z,Q⟩:∃z,min (y+s) n=z:=⟨_,rfl⟩;rw [Q] at u;obtain ⟨N,I,R,O,Z⟩:=ag u D L hb Q;have J:=hb.size;clear u D L hb hy;by_cases a0:(s:Int)<(n:Int)-y
    ·obtain rfl:z=y+s:=ao;clear Q;go_wp2_with (at_builtin;refine bJ Cp _ rfl (.tmp 26) (.tmp 30) rfl w.heap.size (.slice A k c) k _ rfl R.o [H8 (y:Int),H8 ((y:Int)+s)] rfl rfl (bS .i64 [_,_]) ao (by unfold maxLen;omega) J ?_);intro g6 c6 w6 i p H;obtain ⟨C,B⟩:=ab i (O.o.trans p);clear i p H;go_wp2_with fail;go_roundw
     ·exact ⟨k+1,by omega,by rw [I.o,Z.o];push_cast;rfl,by rw [N.o,kc];exact C.o,B.o⟩
     ·simp [intOf];omega
    ·obtain rfl:z=n:=ao;clear Q;go_wp2_with (at_builtin;refine bJ Cp _ rfl (.tmp 26) (.tmp 30) rfl w.heap.size (.slice A k c) k _ rfl R.o [H8 (y:Int),H8 (z:Nat)] rfl rfl (bS .i64 [_,_]) ao (by unfold maxLen;omega) J ?_);intro g6 c6 w6 i p H;obtain ⟨C,B⟩:=ab i (O.o.trans p);clear i p H;go_wp2_with fail;go_roundw
     ·exact ⟨k+1,by omega,by rw [I.o,Z.o],by rw [N.o,kc];exact C.o,B.o⟩
     ·simp [intOf];omega
   ·have a1:=Hg.o k ao;obtain rfl:k=m:=ao;rw [show min (k*s) n=n by omega];have a6:¬((n:Int)<n):=ao;obtain ⟨R,O⟩:=ab L hb;clear L hb;go_wp2_with fail;go_ret;exact ⟨_,rfl,R.o,O.o⟩
theorem Ds {b:Rg} {k:Nat} (h:1<=k) (hb:b.1<=b.2):∀r∈bY b k,r.1<=r.2/\r.2<=b.2:=by
 intro r hr;simp only [bY,shR,fR,List.map_map,List.mem_map,List.mem_range,Function.comp] at hr;obtain ⟨i,o,rfl⟩:=hr;have c:=fz (b.2-b.1) k (i+1) h ao;have d:=du (b.2-b.1) k (show i<=i+1 by omega);exact ⟨by simp only;omega,by simp only;omega⟩
def uj (p:Pln) (k:Nat):Nat:=((p.buks.take k).map λb=>4*(p.W-1)*jg b p.W p.ck).sum
theorem xD {p:Pln} {k:Nat} (hk:k<p.buks.length):uj p (k+1)=uj p k+4*(p.W-1)*jg (aD p.buks k) p.W p.ck:=by
 unfold uj;rw [List.take_succ_eq_append_getElem hk,<-cu _ _ hk];simp
theorem Bz {p:Pln} (i:aT p) (k:Nat):jg (aD p.buks k) p.W p.ck<=480:=by
 rw [sO]
 have h:∀n,aQ n (λs=>(chR (aD (bY (aD p.buks k) p.W) s) p.ck).length)<=n*60:=by
  intro n
  induction n with
  | zero=>simp [aQ]
  | succ n ih=>
   rw [dg];have:=vE (c:=p.ck) (s:=n) i.W1 (i.buk k).1 (i.buk k).2;omega
 have:=h p.W;have:=i.W8;omega
theorem vY {p:Pln} (h:aT p):∀{k:Nat},k<=p.buks.length->uj p k<=k*13440
 | 0,_=>by simp [uj]
 | k+1,hk=>by
  rw [xD ao];have o:=vY h (k:=k) ao;have i:=Bz h k;have u:4*(p.W-1)*jg (aD p.buks k) p.W p.ck<=28*480:=Nat.mul_le_mul (by have:=h.W8;omega) i;omega
def xy (p:Pln):Nat:=p.W*(p.mi+2*p.buks.length+1)+uj p p.buks.length
theorem Dj {p:Pln} (h:aT p) (st:Nat):aQ p.W (λw=>(aB p w st).length)=xy p:=by
 rw [yV p st h.wi,xy,uj,GR]
theorem qt {p:Pln} (h:aT p) (x st:Nat):(aB p x st).length<=8000000:=by
 have i:=kR h x st (F3 p.grps.length);have o:=h.grps;have:(aB p x st).length=(dM p x st p.grps.length).length+1:=by simp [aB,dM];omega
 omega
theorem EN:eC prog 29 15:=⟨⟨_,underlying29,rfl⟩,by kernel_rfl⟩
theorem gq (w:N5) (X Z:N2) (t u:N6):∃h W1,w.alloc (.cells X t)=h/\h.alloc (.cells Z u)=W1/\W1.heap[w.heap.size]?=some (.cells X t (0,0))/\W1.heap[w.heap.size+1]?=some (.cells Z u (0,0))/\ap w W1/\W1.heap.size=w.heap.size+1+1:=by
 refine ⟨_,_,rfl,rfl,?_,?_,?_,?_⟩
 ·exact sb (F4 w _) _ ((br _).alloc (F3 _) _)
 ·have:=F4 (w.alloc (.cells X t)) (.cells Z u)
  rwa [show (w.alloc (.cells X t)).heap.size=w.heap.size+1 from Array.size_push _] at this
 ·exact ((br w).alloc (F3 _) _).alloc (by simp) _
 ·simp
def jd (i:Inp) (x k:Nat):List Itm:=(List.range k).flatMap λt=>aB (au i) x t
abbrev cN (i:Inp) (x:Nat):List Itm:=jd i x i.cfg.steps.toNat
theorem qF (i:Inp) (x k:Nat):jd i x (k+1)=jd i x k++aB (au i) x k:=by simp [jd,GV]
theorem lm {i:Inp} (h:aT (au i)) (x k:Nat):(jd i x k).length=k*(aB (au i) x 0).length:=by
 induction k with
 | zero=>simp [jd]
 | succ k ih=>rw [qF,GE,ih,gw h x k,GW]
theorem xh {i:Inp} (o:aT (au i)) {x st nx:Nat} {y:Itm} (p:(aB (au i) x st)[nx]?=some y):∀{k:Nat},st<k->(jd i x k)[st*(aB (au i) x 0).length+nx]?=some y
 | 0,h=>absurd h (Nat.not_lt_zero _)
 | k+1,h=>by
  have hl:=lm o x k;have hn:=(GF.1 p).1;rw [gw o] at hn;rw [qF];rcases Gn st k with u | u
  ·have v:=HU (aB (au i) x 0).length (Nat.succ_le_of_lt u);rw [GW] at v;rw [GH ao];exact xh o p u
  ·obtain rfl:st=k:=ao;rw [GK ao,hl,Nat.add_sub_cancel_left];exact p
def Dc (l1 h:N1) (e:Ending):Prop:=∃d:Int,e=.returned (H8 d)/\ -1<=d/\(d<0↔l1=h)
theorem vx (A1 C:N0) (l1 p:N1) (c1 c2:Nat) (w:N5) (O:Rd w A1 (az .i64 l1)) (J:Rd w C (az .i64 p)) (T:l1.length<=17592186043904) (N:p.length<=17592186043904):Calls prog 53 #[.slice A1 l1.length c1,.slice C p.length c2] w λe D=>Dc l1 p e/\∃n,D=w.drewN n:=by
 go_enter func53,ntmps53;go_wp2
 go_loopw [5] (λi wr=>∃k:Nat,k<=l1.length/\k<=p.length/\i=H8 k/\l1.take k=p.take k/\∃n,wr=w.drewN n) (λi _=>l1.length+p.length+1-(intOf i).toNat)
 ·exact ⟨0,Gc _,Gc _,rfl,rfl,0,rfl⟩
 case round=>
  obtain ⟨k,I,H,rfl,A,n,rfl⟩:=hrel;have y:=aa A;clear A;by_cases x:k<l1.length
  ·by_cases u:k<p.length
   ·obtain ⟨V,Z,rfl,U⟩:=O.num x;obtain ⟨b2,Y,rfl,Q⟩:=J.num u;have g1:decide ((l1.length:Int)<=(k:Int))=false:=by simp;omega
    have L:decide ((p.length:Int)<=(k:Int))=false:=by simp;omega
    go_wp2
    go_quiet (fail)
    go_wp2
    ·have v:(l1.length<=k\/p.length<=k)\/(nth l1 k != nth p k)=true:=by assumption
     have v:(nth l1 k != nth p k)=true:=v.resolve_left ao;have B:=aa v;clear v;go_ret;refine ⟨⟨k,rfl,by omega,λh=>ao,λh=>?_⟩,_,World.drewN_drewN _ _ _⟩;subst h;have:=B.o;simp at this
    ·have v:(¬l1.length<=k/\¬p.length<=k)/\(nth l1 k != nth p k)=false:=by assumption
     have v:=v.2;have B:=aa v;clear v;go_roundw
     ·exact ⟨k+1,by omega,by omega,by go_num,qR x u y.o (by have:=B.o;simpa using this),_,rfl⟩
     ·simp [intOf];omega
   ·have g1:decide ((l1.length:Int)<=(k:Int))=false:=by simp;omega
    have L:decide ((p.length:Int)<=(k:Int))=true:=by simp;omega
    go_wp2
    go_quiet (fail)
    go_wp2;go_ret;refine ⟨⟨k,rfl,by omega,λh=>ao,λh=>?_⟩,_,by first | rfl | exact World.drewN_drewN _ _ _⟩;subst h;omega
  ·by_cases u:k<p.length
   ·obtain rfl:k=l1.length:=ao;go_wp2
    go_quiet (fail)
    go_wp2;go_ret;refine ⟨⟨l1.length,rfl,by omega,λh=>ao,λh=>?_⟩,_,by first | rfl | exact World.drewN_drewN _ _ _⟩;subst h;omega
   ·go_wp2;go_ret;refine ⟨⟨-1,rfl,by omega,λ_=>?_,λ_=>ao⟩,n,rfl⟩;have R:k=l1.length:=ao;exact vu ao (by rw [<-R];exact y.o)
theorem AA (A1 x:N0) (l1 u:N1) (c1 c2:Nat) (w:N5) (C:Rd w A1 (az .i64 l1)) (B:Rd w x (az .i64 u)) (y:l1.length<=17592186043904) (v:u.length<=17592186043904):Calls prog 24 #[.slice A1 l1.length c1,.slice x u.length c2] w λe A=>e=.returned (.bool (decide (l1=u)))/\∃n,A=w.drewN n:=by
 have p:=vx A1 x l1 u c1 c2 w C B y v;have I:=aa p;clear p;go_enter func24,ntmps24;go_wp2_with fail;refine I.o.mono ?_;rintro e J ⟨⟨d,rfl,D,i⟩,n,rfl⟩;by_cases p:d<0
 ·have h:=i.1 p;have H:=aa h;clear h i;go_wp2;go_ret;exact ⟨cB (by rw [GZ H.o];first | done | simpa using p),n,rfl⟩
 ·have h:¬l1=u:=λe=>p (i.2 e);have H:=aa h;clear h i;go_wp2;go_ret;exact ⟨cB (by rw [G3 H.o];first | done | simpa using p),n,rfl⟩
theorem Co:cW prog 26 2 (H8 0) 1 8:=⟨underlying26,info_parts (by kernel_rfl),rfl,by decide⟩
theorem Dz (n:Nat):W64 (List.replicate n 0):=by
 intro k hk;rw [dh _ _ hk];simp
theorem EU (l:List Itm):∀u∈dF l,u.oneCell'=true:=by
 intro u i;unfold dF at i;obtain ⟨x,_,h⟩:=List.mem_flatMap.1 i;obtain ⟨k,s,n,a⟩:=x
 cases a<;>simp only [aX,C5,bD,List.mem_cons,List.not_mem_nil,or_false] at h<;>(repeat (first | (rcases h with rfl | h; · rfl) | (subst h;rfl)))
theorem wU (y:Itm):∀u∈aX y,u.oneCell'=true:=λu h=>EU [y] u (by simpa [dF] using h)
def gO:eL (N1):=λw h zs=>∃A c,h=[.slice A zs.length c]/\zs.length<=17592186043904/\Rd w A (az .i64 zs)
theorem fl:C8 gO:=λhb ⟨A,c,h,o,i⟩=>⟨A,c,h,o,i.below hb⟩
theorem fp {w:N5} {V:N0} {p:List (N1)} (h:cO gO 1 w V p) {k:Nat} {x:N1} (C:p[k]?=some x):
  ∃b o A c,V=some (aq b o)/\b<w.heap.size/\w.cell? (aq b (o+k))=some (.slice A x.length c)/\Rd w A (az .i64 x)/\x.length<=17592186043904:=by
 obtain ⟨b,o,D,rfl,hb,y,v,i,_⟩:=h.get (by decide) C;obtain ⟨A,c,rfl,B,u⟩:=v;exact ⟨b,o,A,c,rfl,hb,by rw [Nat.mul_one] at i;exact i,u,B⟩
theorem qx:∀vals:N4,List.flatten (vals.map λv=>[v])=vals
 | []=>rfl
 | v::l=>by simp [qx l]
theorem rV {α:Type} {R:eL α} {w:N5} {A:N0} {vals:N4} {l:List α} (p:Rd w A vals) (hl:vals.length=l.length) (h:∀(j:Nat) (x:α),l[j]?=some x->∃v,vals[j]?=some v/\R w [v] x):cO R 1 w A l:=by
 refine ⟨vals.map λv=>[v],by rw [qx];exact p,by simp [hl],by simp,λj x u=>?_⟩;obtain ⟨v,i,o⟩:=h j x u;have:bH (vals.map λv=>[v]) j=[v]:=by simp [bH,List.getD,i]
 rw [this];exact o
def ie (n:Nat) (h:List (N1)):N1:=h.foldl ij (List.replicate n 0)
theorem xE (n:Nat) (h:List (N1)) (x:N1):ie n (h++[x])=ij (ie n h) x:=by simp [ie]
theorem im (n:Nat) (h:List (N1)):(ie n h).length=n:=by
 have:∀(l:List (N1)) (a:N1),(l.foldl ij a).length=a.length:=by
  intro l
  induction l with
  | nil=>intro a;rfl
  | cons x l ih=>intro a;rw [List.foldl_cons,ih,iE]
 unfold ie;rw [this];simp
def FH (h:List (N1)) (n:Nat) (w:N5) (e:Ending) (i:N5):Prop:=∃v ok,e=.returned (.tuple #[v,.bool ok])/\ap w i/\((∀(j:Nat) (x:N1),h[j]?=some x->x.length=n)->ok=true/\i.ownsRow w.heap.size 2 1 v n (az .i64 (ie n h)))/\(ok=true->∀(j:Nat) (x:N1),h[j]?=some x->x.length=n)
theorem uz (V:N0) (v:List (N1)) (c n:Nat) (x0:N1) (w:N5) (hV:cO gO 1 w V v) (hl:v.length<=17592186043904) (h0:v[0]?=some x0) (hn:x0.length=n):Calls prog 21 #[.slice V v.length c] w (FH v n w):=by
 obtain ⟨N,hN⟩:∃N,v.length=N:=⟨_,rfl⟩;have b3:0<N:=by rw [<-hN];exact (GF.1 h0).1
 obtain ⟨b,o,A0,c0,rfl,hb,p0,_,a4⟩:=fp hV h0;rw [hN] at hl ⊢;rw [hn,Nat.add_zero] at p0;rw [hn] at a4;have b1:¬(N=0):=ao;have O:=λw'=>uv Co w' rfl n ao (by unfold maxLen;omega);simp only [gr] at O;obtain ⟨a2,HV,HN⟩:=ae O hV hN;clear O hV hN h0 hn;have ad:(0:Int)<N:=ao;have aM:((N:Int)==0)=false:=by simp;omega
 go_enter func21,ntmps21;obtain ⟨W2,Z,a3,a1⟩:=a2.o w;go_wp2_with fail;obtain ⟨D,a8⟩:=ab a3 a1;clear Z a3 a1 p0 a2
 go_loopw [5] (λx wr=>∃k:Nat,k<=N/\x=H8 k/\wr.ownsRow w.heap.size 2 1 (.slice (some (aq w.heap.size 0)) n n) n (az .i64 (ie n (v.take k)))/\an (∀(j:Nat) (x:N1),j<k->v[j]?=some x->x.length=n)/\ap w wr) (λx _=>N-(intOf x).toNat)
 ·exact ⟨0,Gc _,rfl,D.o,aa λj x hj=>ao,a8.o⟩
 case round=>
  obtain ⟨W1,rfl⟩:∃W1:N5,W1=wr:=⟨_,rfl⟩;obtain ⟨k,hk,rfl,u,I,C⟩:=hrel;by_cases a6:k<N
  ·obtain ⟨x,T⟩:∃x,v[k]?=some x:=⟨_,GG (by rw [HN.o];exact a6)⟩;have ak:(k:Int)<N:=ao;have g1:cO gO 1 W1 (some (aq b o)) v:=HV.o.below fl C;obtain ⟨b',o',A,cA,e1,b4,p,hA,U⟩:=fp g1 T;injection e1 with e1;injection e1 with e1 e2 _;subst e1;subst e2
   obtain ⟨HX,HO,Q,HA,P⟩:=ag T u C hA p;obtain ⟨m,hm⟩:∃m,x.length=m:=⟨_,rfl⟩;have Hm:=aa hm;rw [hm] at p U;clear T u C hA hm g1;by_cases a0:m=n
   ·subst a0;go_wp2_with fail;clear p
    go_loopw [6] (λy wr=>∃t:Nat,t<=m/\y=H8 t/\wr.ownsRow w.heap.size 2 1 (.slice (some (aq w.heap.size 0)) m m) m (az .i64 (gS (ie m (v.take k)) t (λt=>wrap64 (nth (ie m (v.take k)) t+nth x t))))/\Keep (λi=>i=w.heap.size) W1 wr) (λy _=>m-(intOf y).toNat)
    ·exact ⟨0,Gc _,rfl,by rw [fu];exact HO.o,Keep.refl _ _⟩
    case round=>
     obtain ⟨t,ht,rfl,u,R⟩:=hrel;by_cases B:t<m
     ·have a7:(t:Int)<m:=ao;have L:t<(ie m (v.take k)).length:=by rw [im];exact B
      have p1:=cL u B;rw [eQ _ L,if_neg ao] at p1;have f1:=u.frozenAt t;obtain ⟨b2,o2,rfl,p3⟩:=HA.o.num (show t<x.length by rw [Hm.o];exact B);have ax:b<w.heap.size:=hb;have p2:wr.cell? (aq b (o+k))=some (.slice (some (aq b2 o2)) m cA):=R.cell (by rw [P.o,Hm.o]) (by dsimp only;omega)
      have b0:b2<w.heap.size:=by
       obtain ⟨_,_,A9,c9,J,_,q9,r9,_⟩:=fp HV.o HX.o;injection J with J;injection J with J H _;subst J;subst H
       have:=(Q.o.cell (p:=(aq b (o+k))) hb).trans q9;rw [P.o] at this;injection this with this
       simp only [GT] at this;rw [<-this.1] at r9;obtain ⟨b8,o8,H,q8⟩:=r9.num (show t<x.length by rw [Hm.o];exact B);injection H with H;injection H with H _ _;subst H
       exact aC q8
      have p4:wr.cell? (aq b2 (o2+t))=some (H8 (nth x t)):=R.cell p3 (by dsimp only;omega);have Y:=fX (l:=ie m (v.take k)) (k:=t) (λt=>wrap64 (nth (ie m (v.take k)) t+nth x t)) L;obtain ⟨HK,D,a5⟩:=ae R u Y;clear R u Y L p3;go_wp2_with fail
      go_region
      all_goals go_wp2_with fail
      all_goals
       go_roundw
       case rel=>
        refine ⟨t+1,by omega,by go_num,?_,?_⟩
        ·rw [<-a5.o];exact eD (bW D.o 1) t _
        ·exact Keep.setCell (HK.o.drewN 1) (aq w.heap.size t) (.inr rfl) _
       case measure=>simp [intOf];omega
     ·obtain rfl:m=t:=ao;obtain ⟨HK,D⟩:=ab R u;clear R u;go_wp2_with fail;go_roundw
      case rel=>
       refine ⟨k+1,by omega,by go_num,?_,aa λj y hj hy=>?_,Q.o.trans (HK.o.toBelow (by have:=Q.o.size;omega) (λj hj=>ao))⟩
       ·rw [List.take_add_one,HX.o,Option.toList_some,xE];have J:=D.o;have H:=fY (ie m (v.take k)) (λt=>wrap64 (nth (ie m (v.take k)) t+nth x t));rw [im] at H;unfold ij;rw [im,<-H];exact J
       ·rcases Gn j k with h | h
        ·exact I.out j y h hy
        ·obtain rfl:j=k:=ao;rw [HX.o] at hy;injection hy with hy;rw [<-hy];exact Hm.o
      case measure=>simp [intOf];omega
   ·have aP:((m:Int) != (n:Int))=true:=by rw [bne_iff_ne];omega
    go_wp2_with fail;go_ret2;refine ⟨_,_,rfl,Q.o,λh=>absurd ?_ a0,λh=>by cases h⟩;rw [<-Hm.o];exact h k x HX.o
  ·obtain rfl:k=N:=ao;obtain ⟨HO,Q⟩:=ab u C;clear u C;go_wp2_with fail;go_ret2;refine ⟨_,_,rfl,Q.o,λh=>⟨rfl,?_⟩,λ_ j x T=>I.out j x (by have:=(GF.1 T).1;rw [HN.o] at this;exact this) T⟩;have:=HO.o
   rwa [<-HN.o,GR] at this
def vK (w:N5):List Obj->N5
 | []=>w
 | o::l=>vK (w.alloc o) l
theorem jc:∀(l:List Obj) (w:N5),ap w (vK w l)
 | [],w=>br w
 | o::l,w=>bt ((br w).alloc (F3 _) o) (jc l _)
theorem dC:∀(l:List Obj) (w:N5) (k:Nat) {o:Obj},l[k]?=some o->(vK w l).heap[w.heap.size+k]?=some o
 | [],_,_,_,h=>by simp at h
 | o::l,w,0,_,h=>by
  simp only [Gz,Option.some.injEq] at h;subst h;exact sb (F4 w o) _ (jc l _)
 | o::l,w,k+1,_,h=>by
  have:=dC l (w.alloc o) k (by simpa using h)
  rwa [show (w.alloc o).heap.size+k=w.heap.size+(k+1) by rw [Gp];omega] at this
theorem DV (y:Itm):∃(C h p:Int) (v u:Bool) (o i D x B A H:Int),aX y=[H8 C,H8 h,H8 p,.bool v,.bool u,H8 o,H8 i,H8 D,H8 x,H8 B,H8 A,H8 H]:=by
 obtain ⟨k,s,n,a⟩:=y
 cases a with
 | none=>exact ⟨_,_,_,_,_,_,_,_,_,_,_,_,rfl⟩
 | some a=>exact ⟨_,_,_,_,_,_,_,_,_,_,_,_,rfl⟩
theorem wl:eC prog 135 12:=⟨⟨_,underlying135,rfl⟩,by kernel_rfl⟩
theorem wR {H:Nat->Prop} {w:N5} {b x:Nat} {i:Inp} {a:MAd} {m:Mst} (h:aH H w b i x a m) (hn:(bq i x m.st).length<=m.nx) (u v:Value):Calls prog 204 #[(ar b),u,v] w λe B=>e=.returned (H8 13)/\ap w B:=by
 have A:=aa (wJ h hn);clear h hn;go_enter func204,ntmps204;go_wp2_with fail;refine A.o.mono ?_;rintro e C ⟨rfl,p⟩;have y:=aa (p.alloc p.size (.cells Ic 135));clear p;go_wp2_with fail;go_ret;exact ⟨rfl,y.o⟩
theorem mz {w:N5} {b:Nat} {xs:N4} {e:N6} (h:w.heap[b]?=some (.cells xs.toArray e (0,0))):Rd w (some (aq b 0)) xs:=λk u i=>⟨b,0,rfl,by
 rw [GY,Ga w b k _ _ _ h];simpa using i⟩
theorem ku {l:N1} (h:∀z∈l,0<=z/\z<=1048576):W64 l:=λk hk=>by
 have:=h _ (wF hk);omega
theorem pd {w:N5} {b:Nat} {u y A:Value} {t:N6} (i p o:Value) (h:w.heap[b]?=some (.cells #[u,y,A] t (0,0))): (((w.setCell (aq b 0) i).setCell (aq b 1) p).setCell (aq b 2) o).heap[b]?=some (.cells #[i,p,o] t (0,0)):=by
 have x:=HE w b 0 _ _ i h;have v:=HE _ b 1 _ _ p x;exact HE _ b 2 _ _ o v
theorem lW {w:N5} {b:Nat} (h o p:Value):Keep (λi=>i=b) w (((w.setCell (aq b 0) h).setCell (aq b 1) o).setCell (aq b 2) p):=
 Keep.setCell (S:=λi=>i=b) (Keep.setCell (S:=λi=>i=b) (Keep.setCell (S:=λi=>i=b) (Keep.refl _ w) (aq b 0) (.inr rfl) h) (aq b 1) (.inr rfl) o) (aq b 2) (.inr rfl) p
theorem BF (r c:Nat) (w:N5) (hr:1<=r/\r<=1048576) (hc:1<=c/\c<=1048576) (hm:r*c<=1048576):Calls prog 245 #[H8 r,H8 c] w λe y=>∃A,e=.returned (.agg #[H8 r,H8 c,.slice A (r*c) (r*c)])/\y.ownsRow w.heap.size 2 1 (.slice A (r*c) (r*c)) (r*c) (az .i64 (List.replicate (r*c) 0))/\ap w y:=by
 have e1:(r:Int)*(c:Int)=((r*c:Nat):Int):=(Int.natCast_mul r c).symm;have N:=λy=>pT r c y ⟨by omega,by omega⟩ ⟨by omega,by omega⟩;obtain ⟨p,J⟩:∃p,r*c=p:=⟨_,rfl⟩;rw [J] at e1 hm ⊢;clear J;have x:(8:Nat)*p<=281474976710656:=ao;obtain ⟨D,R⟩:=ab x N;clear x N;go_enter func245,ntmps245;go_wp2_with fail;refine (R.o _).mono ?_;rintro e w1 ⟨rfl,C⟩;subst C;go_wp2_with (at_make;refine pK iX _ rfl (.tmp 20) (.tmp 20) rfl rfl p rfl rfl D.o (by unfold maxLen;omega) ?_);intro H i hb;rw [gr] at i;have h:=(hb.block w.heap.size (by simp)).trans (F4 w _);obtain ⟨⟨U,Q,r2⟩,Y⟩:=bx3 h;have a0:w.heap.size<H.heap.size:=F1 h;obtain ⟨HO,T,Z⟩:=ae i hb h;clear i hb h;go_wp2_with fail;have L:=pd (H8 r) (H8 c) (.slice (some (aq (w.heap.size+1) 0)) p p) Z.o;have B:=lW (w:=H) (b:=w.heap.size) (H8 r) (H8 c) (.slice (some (aq (w.heap.size+1) 0)) p p);obtain ⟨I,u⟩:∃I,I=(((H.setCell (aq w.heap.size 0) (H8 r)).setCell (aq w.heap.size 1) (H8 c)).setCell (aq w.heap.size 2) (.slice (some (aq (w.heap.size+1) 0)) p p)):=⟨_,rfl⟩;rw [<-u] at L B ⊢;clear u U Q r2 Y;obtain ⟨⟨O,V,q2⟩,qf⟩:=bx3 L;refine Gm (v:=.agg #[H8 r,H8 c,.slice (some (aq (w.heap.size+1) 0)) p p]) (by simp [results,results245,go_sem,O,V,q2]) rfl ⟨_,rfl,?_,?_⟩
 ·refine aG (base:=w.heap.size+1) (B.own HO.o (λk hk e=>?_)) ao;simp [Value.ownBlock] at hk;omega
 ·exact (Below.trans ((Gb _ w).alloc (F3 _) _) (T.o.mono (by simp))).trans (B.toBelow ao (λk hk=>ao))
end Go.Proofs.YtindmkcnjlgomaaGreat
namespace Go.Proofs.YtindmkcnjlgomaaGreat
open Go.RowKit Go.Shelf
open Tryz
attribute [local go_sem] Oper.semAt_some
def Fk (r c:Nat) (o xs:N1) (A B:N0) (h d e:Nat) (q:Int) (w:N5) (G N M:Nat) (i:List (Fin r)) (W:N5):Prop:= (W.ownsRow w.heap.size 2 1 (.slice (some (aq G 0)) h h) h (az .i64 (jU r c o xs q (i.map (·.1)) 0 0))/\Boxed W w.heap.size 73 (.slice A r d)/\Boxed W (w.heap.size+1) 73 (.slice B c e)/\Boxed W (w.heap.size+1+1) 3 (H8 q)/\
  W.heap[w.heap.size+1+1+1]?=some (.cells #[H8 0,H8 0,H9] 344 (0,0))/\W.heap[N]?=some (.cells #[H8 r,H8 c,.slice (some (aq G 0)) h h] 344 (0,0))/\
  W.heap[M]?=some (.cells #[H8 r,H8 c,.slice (some (aq G 0)) h h] 344 (0,0)))/\ap w W
theorem Bi (r c:Nat) (o xs:N1) (A B:N0) (I d e:Nat) (q:Int) (w:N5) (G N M K:Nat) (D:w.heap.size<=K):OwnFrom K (Fk r c o xs A B I d e q w G N M):=by
 intro s W O row L h hr;obtain ⟨⟨x,u,J,v,C,y,p⟩,i⟩:=L;have H:=ownFrom_below (β:=Unit) (F3 _) D () W O row i h hr;exact ⟨⟨sD x h hr,cV rfl u h hr,cV rfl J h hr,cV rfl v h hr,cV rfl C h hr,cV rfl y h hr,cV rfl p h hr⟩,H⟩
theorem yu (r c:Nat) (A B:N0) (Y xs:N1) (d e:Nat) (q:Int) (w:N5) (hr:1<=r/\r<=1048576) (hc:1<=c/\c<=1048576) (hm:r*c<=1048576) (hA:Rd w A (az .i64 Y)) (wy:W64 Y) (cn:Y.length=r) (hB:Rd w B (az .i64 xs)) (c7:xs.length=c) (wx:W64 xs):Calls prog 237 #[.slice A r d,.slice B c e,H8 q] w λe J=>∃A',e=.returned (.agg #[H8 r,H8 c,.slice A' (r*c) (r*c)])/\J.ownsRow w.heap.size 2 1 (.slice A' (r*c) (r*c)) (r*c) (az .i64 (iR r c Y xs q))/\ap w J:=by
 obtain ⟨C,a8⟩:∃C,r*c=C:=⟨_,rfl⟩;have dc:1<=C:=by rw [<-a8];exact Nat.mul_pos hr.1 hc.1
 have b8:=λJ=>BF r c J hr hc hm;have bX:=λA' J=>jN r c A' C C J hr hc a8.symm ao;have cf:=λcs J=>nF cs J;rw [a8] at b8 hm ⊢;obtain ⟨cS,d2,d4,ad,d0,d5,HA,HB⟩:=aj b8 bX cf a8 c7 cn hA hB;obtain ⟨WX,WY⟩:=ab wx wy;clear b8 bX cf a8 c7 cn hA hB wx wy;refine (callsIn_wide (n:=3)).1 ?_;refine callsIn_of_wp_marks func237 rfl trivial ?_ rfl;simp only [ntmps237,List.size_toArray,List.length_cons,List.length_nil,Nat.reduceAdd,Nat.reduceSub,Array.replicate_succ,Array.replicate_zero,List.push_toArray,List.append_toArray,List.nil_append,List.cons_append]
 gi_wp2_with fail
 refine ⟨trivial,?_⟩;refine (callsIn_wide.2 (cS.o _)).mono ?_;rintro e w1 ⟨A',rfl,L,a0⟩;have b4:ap w w1:=Below.trans (((((Gb _ w).alloc (F3 _) _).alloc (by simp) _).alloc (by simp;omega) _).alloc (by simp;omega) _) (a0.mono (by first | (simp;done) | (simp;omega)))
 have h2:Boxed w1 w.heap.size 73 (.slice A r d):=by
  refine (a0.block w.heap.size (by first | (simp;done) | (simp;omega))).trans ?_;refine (Gk _ _ _ (by first | (simp;done) | (simp;omega))).trans ((Gk _ _ _ (by first | (simp;done) | (simp;omega))).trans ((Gk _ _ _ (by simp)).trans (F4 w _)))
 have h3:Boxed w1 (w.heap.size+1) 73 (.slice B c e):=by
  refine (a0.block (w.heap.size+1) (by first | (simp;done) | (simp;omega))).trans ?_;refine (Gk _ _ _ (by first | (simp;done) | (simp;omega))).trans ((Gk _ _ _ (by simp)).trans ?_);have:=F4 (w.alloc (.cells #[.slice A r d] 73)) (.cells #[.slice B c e] 73);simpa using this
 have h4:Boxed w1 (w.heap.size+1+1) 3 (H8 q):=by
  refine (a0.block (w.heap.size+1+1) (by first | (simp;done) | (simp;omega))).trans ?_;refine (Gk _ _ _ (by simp)).trans ?_;have:=F4 ((w.alloc (.cells #[.slice A r d] 73)).alloc (.cells #[.slice B c e] 73)) (.cells #[H8 q] 3);simpa using this
 have h5:w1.heap[w.heap.size+1+1+1]?=some (.cells #[H8 0,H8 0,H9] 344 (0,0)):=by
  refine (a0.block (w.heap.size+1+1+1) (by simp)).trans ?_;have:=F4 (((w.alloc (.cells #[.slice A r d] 73)).alloc (.cells #[.slice B c e] 73)).alloc (.cells #[H8 q] 3)) (.cells #[H8 0,H8 0,H9] 344);simpa using this
 obtain ⟨G,dG,c6,hG,bI⟩:=L.form ao;simp only [GT] at c6;obtain ⟨rfl,_,rfl⟩:=c6;have ci:w.heap.size+1+1+1+1<=G:=by simpa using hG
 have L:=aG L (base':=w.heap.size) (by first | (simp;done) | (simp;omega));obtain ⟨bz,a6,H2,H3,H4,H5,bv,cr⟩:=aj L b4 h2 h3 h4 h5 ci bI;clear L b4 h2 h3 h4 h5 ci bI hG a0
 gi_wp2_with fail
 refine ⟨trivial,?_⟩;refine (callsIn_wide.2 (d2.o _ _)).mono ?_;rintro e w2 ⟨rfl,rfl⟩
 gi_wp2_with fail
 refine ⟨trivial,?_⟩;refine (callsIn_wide.2 (d4.o _ _)).mono ?_;rintro e w3 ⟨rfl,rfl⟩
 gi_wp2_with fail
 obtain ⟨U,V⟩:∃U,U=(w1.alloc (.cells #[H8 r,H8 c,.slice (some (aq G 0)) C C] 344)).alloc (.cells #[H8 r,H8 c,.slice (some (aq G 0)) C C] 344):=⟨_,rfl⟩;rw [<-V];have ak:U.heap.size=w1.heap.size+1+1:=by rw [V];simp
 have bN:U.heap[w1.heap.size]?=some (.cells #[H8 r,H8 c,.slice (some (aq G 0)) C C] 344 (0,0)):=by
  rw [V];exact (Gk _ _ _ (by simp)).trans (F4 w1 _)
 have bM:(U.alloc (.cells #[H8 r,H8 c,.slice (some (aq G 0)) C C] 344)).heap[U.heap.size]?=some (.cells #[H8 r,H8 c,.slice (some (aq G 0)) C C] 344 (0,0)):=F4 U _
 have hl:∀b o,w1.heap[b]?=some o->(U.alloc (.cells #[H8 r,H8 c,.slice (some (aq G 0)) C C] 344)).heap[b]?=some o:=λb o h=>by
  have hb:=F1 h;rw [V];exact (Gk _ _ _ (by simp;omega)).trans ((Gk _ _ _ (by simp;omega)).trans ((Gk _ _ _ hb).trans h))
 have R:ap w U:=by rw [V];exact (a6.o.alloc a6.o.size _).alloc (by have:=a6.o.size;simp;omega) _
 have r0:U.ownsRow w.heap.size 2 1 (.slice (some (aq G 0)) C C) C (az .i64 (List.replicate C 0)):=by rw [V];exact (bz.o.alloc _).alloc _
 rw [<-ad.o,yv r c Y xs q 0,ad.o] at r0;obtain ⟨N,hN⟩:∃N,N=w1.heap.size:=⟨_,rfl⟩;rw [<-hN] at bN ak ⊢;rw [<-ak];have cb:Fk r c Y xs A B C d e q w G N U.heap.size [] (U.alloc (.cells #[H8 r,H8 c,.slice (some (aq G 0)) C C] 344)):=⟨⟨r0.alloc _,hl _ _ H2.o,hl _ _ H3.o,hl _ _ H4.o,hl _ _ H5.o,(Gk U _ _ (F1 bN)).trans bN,bM⟩,R.alloc R.size _⟩;obtain ⟨bV,b3,d8,HN,d9⟩:=ag ak R bM hN cb;clear ak R bM bN r0 hN V hl cb
 refine' wpIn_rangeFunc_ownG (F:=Fence.wide) (n:=3) rfl ao (gf:=255) (lb:=#[(ar U.heap.size)]) rfl trivial (enters_of func255 (by kernel_rfl) rfl)
  (j7 _ U.heap.size w.heap.size G 0 r c C C hr.2 hc ad.o.symm (F3 _) _ d8.o) iL (iM (by have:=b3.o.size;simp;omega) (by simp)) (Gb _ _) (λ_=>rfl)
  (Fk r c Y xs A B C d e q w G N U.heap.size)
  (λ_ _ _=>False)
  (Bi r c Y xs A B C d e q w G N U.heap.size _ (by have:=b3.o.size;simp;omega))
  (λ_ _ _ _ _ hs _ _=>hs)
  d9.o
  _ ?assign ?body ?done ?stop
 case assign=>
  intro l x W K Q;unfold lC
  gi_wp2
  exact Q
 case body=>
  rintro l bl x W ⟨⟨O,b5,bi,b7,a1,ax,bd⟩,a2⟩ a3;have O:W.ownsRow w.heap.size 2 1 (.slice (some (aq G 0)) C C) C (az .i64 (jU r c Y xs q (bl.map (·.1)) x.1 0)):=by rw [uN x.1 0];exact O
  obtain ⟨aP,H2,H3,H4,H5,cx,bs,aM⟩:=aj O b5 bi b7 a1 ax bd a2;have dp:=aa a3;clear O b5 bi b7 a1 ax bd a2 a3
  gi_wp2_with fail
  gi_loopw [26] (λi wr=>∃j:Nat,j<=c/\i=H8 j/\wr.ownsRow w.heap.size 2 1 (.slice (some (aq G 0)) C C) C (az .i64 (jU r c Y xs q (bl.map (·.1)) x.1 j))/\Keep (λi=>i=G) W wr) (λi _=>c-(intOf i).toNat)
  ·exact ⟨0,Gc _,rfl,aP.o,Keep.refl _ _⟩
  case round=>
   obtain ⟨j,hj,rfl,a7,Q⟩:=hrel;by_cases a3:j<c
   ·have b6:x.1<Y.length:=by rw [d5.o];exact x.2
    have bG:j<xs.length:=by rw [d0.o];exact a3
    have dn:=bv.o;obtain ⟨b1,o1,d7,bn⟩:=HA.o.num b6;obtain ⟨b2,o2,cA,bh⟩:=HB.o.num bG;have l1:b1<w.heap.size:=aC bn;have l2:b2<w.heap.size:=aC bh;subst d7;subst cA;have hk:∀b v,b≠G->∀o,W.cell? (aq b o)=some v->wr.cell? (aq b o)=some v:=λb v hb o h=>Q.cell h hb;have H:(λJ:N5=>J.cell? (aq w.heap.size 0)=some (.slice (some (aq b1 o1)) r d)/\J.cell? (aq (w.heap.size+1) 0)=some (.slice (some (aq b2 o2)) c e)/\J.cell? (aq (w.heap.size+1+1) 0)=some (H8 q)/\J.cell? (aq b1 (o1+x.1))=some (H8 (nth Y x.1))/\J.cell? (aq b2 (o2+j))=some (H8 (nth xs j))) wr.drew:=⟨hk _ _ ao _ (Boxed.cell H2.o),hk _ _ ao _ (Boxed.cell H3.o),hk _ _ ao _ (Boxed.cell H4.o),hk _ _ ao _ ((aM.o.cell (p:=(aq b1 (o1+x.1))) l1).trans bn),hk _ _ ao _ ((aM.o.cell (p:=(aq b2 (o2+j))) l2).trans bh)⟩;have dk:(x.1:Int)<r:=by have:=x.2;omega
    have a4:x.1*c+j<C:=by rw [<-ad.o];have:=lL (c:=c) x.2;omega
    have cl:=λJ=>oJ (nth Y x.1) (nth xs j) q J (WY.o _ b6) (WX.o _ bG);obtain ⟨d1,cv,HK,bA⟩:=af cl a7 Q a4;clear cl a7 Q hk a4 b6 bG bn bh
    gi_wp2_with fail
    refine jt (λJ:N5=>J.cell? (aq w.heap.size 0)=some (.slice (some (aq b1 o1)) r d)/\J.cell? (aq (w.heap.size+1) 0)=some (.slice (some (aq b2 o2)) c e)/\J.cell? (aq (w.heap.size+1+1) 0)=some (H8 q)/\J.cell? (aq b1 (o1+x.1))=some (H8 (nth Y x.1))/\J.cell? (aq b2 (o2+j))=some (H8 (nth xs j))) (by kernel_rfl) (by kernel_rfl) (by rintro ⟨_,_,h⟩;exact h) ?_;refine wpAnyH_take (i:=0) (v:=?_) rfl (by kernel_rfl) (by kernel_rfl) (by kernel_rfl) (λ_ _ _ h=>h) (Or.inl ⟨by rfl,?_⟩) H ?_;rotate_left
    ·intro w9 y;(try dsimp only at y);obtain ⟨s1,s2,s3,Z,s5⟩:=y;go_simp;(try with_reducible rfl)
    simp only [Gq,Gr,Gs,Act.put,Gt,Gu,Gv];refine wpAnyH_take (i:=1) (v:=?_) rfl (by kernel_rfl) (by kernel_rfl) (by kernel_rfl) (λ_ _ _ h=>h) (Or.inl ⟨by rfl,?_⟩) H ?_;rotate_left
    ·intro w9 y;(try dsimp only at y);obtain ⟨s1,s2,s3,Z,s5⟩:=y;go_simp;(try with_reducible rfl)
    simp only [Gq,Gr,Gs,Act.put,Gt,Gu,Gv];refine wpAnyH_take (i:=2) (v:=?_) rfl (by kernel_rfl) (by kernel_rfl) (by kernel_rfl) (λ_ _ _ h=>h) (Or.inl ⟨by rfl,?_⟩) H ?_;rotate_left
    ·intro w9 y;(try dsimp only at y);obtain ⟨s1,s2,s3,Z,s5⟩:=y;go_simp;(try with_reducible rfl)
    simp only [Gq,Gr,Gs,Act.put,Gt,Gu,Gv];refine wpAnyH_take (i:=3) (v:=?_) rfl (by kernel_rfl) (by kernel_rfl) (by kernel_rfl) (λ_ _ _ h=>h) (Or.inl ⟨by rfl,?_⟩) H ?_;rotate_left
    ·intro w9 y;(try dsimp only at y);obtain ⟨s1,s2,s3,Z,s5⟩:=y;go_simp;(try with_reducible rfl)
    simp only [Gq,Gr,Gs,Act.put,Gt,Gu,Gv];refine wpAnyH_take (i:=4) (v:=?_) rfl (by kernel_rfl) (by kernel_rfl) (by kernel_rfl) (λ_ _ _ h=>h) (Or.inl ⟨by rfl,?_⟩) H ?_;rotate_left
    ·intro w9 y;(try dsimp only at y);obtain ⟨s1,s2,s3,Z,s5⟩:=y;go_simp;(try with_reducible rfl)
    simp only [Gq,Gr,Gs,Act.put,Gt,Gu,Gv];refine wpAnyH_take (i:=5) (v:=?_) rfl (by kernel_rfl) (by kernel_rfl) (by kernel_rfl) (λ_ _ _ h=>h) (Or.inl ⟨by rfl,?_⟩) H ?_;rotate_left
    ·intro w9 y;(try dsimp only at y);obtain ⟨s1,s2,s3,Z,s5⟩:=y;go_simp;(try with_reducible rfl)
    simp only [Gq,Gr,Gs,Act.put,Gt,Gu,Gv];refine wpAnyH_take (i:=6) (v:=?_) rfl (by kernel_rfl) (by kernel_rfl) (by kernel_rfl) (λ_ _ _ h=>h) (Or.inl ⟨by rfl,?_⟩) H ?_;rotate_left
    ·intro w9 y;(try dsimp only at y);obtain ⟨s1,s2,s3,Z,s5⟩:=y;go_simp;(try with_reducible rfl)
    simp only [Gq,Gr,Gs,Act.put,Gt,Gu,Gv];refine wpAnyH_take (i:=7) (v:=?_) rfl (by kernel_rfl) (by kernel_rfl) (by kernel_rfl) (λ_ _ _ h=>h) (Or.inl ⟨by rfl,?_⟩) H ?_;rotate_left
    ·intro w9 y;(try dsimp only at y);obtain ⟨s1,s2,s3,Z,s5⟩:=y;go_simp;(try with_reducible rfl)
    simp only [Gq,Gr,Gs,Act.put,Gt,Gu,Gv];refine wpAnyH_take (i:=8) (v:=?_) rfl (by kernel_rfl) (by kernel_rfl) (by kernel_rfl) (λ_ _ _ h=>h) (Or.inl ⟨by rfl,?_⟩) H ?_;rotate_left
    ·intro w9 y;(try dsimp only at y);obtain ⟨s1,s2,s3,Z,s5⟩:=y;go_simp;(try with_reducible rfl)
    simp only [Gq,Gr,Gs,Act.put,Gt,Gu,Gv];refine wpAnyH_take (i:=9) (v:=?_) rfl (by kernel_rfl) (by kernel_rfl) (by kernel_rfl) (λ_ _ _ h=>h) (Or.inl ⟨by rfl,?_⟩) H ?_;rotate_left
    ·intro w9 y;(try dsimp only at y);obtain ⟨s1,s2,s3,Z,s5⟩:=y;go_simp;(try with_reducible rfl)
    simp only [Gq,Gr,Gs,Act.put,Gt,Gu,Gv];refine wpAnyH_take (i:=10) (v:=?_) rfl (by kernel_rfl) (by kernel_rfl) (by kernel_rfl) (λ_ _ _ h=>h) (Or.inl ⟨by rfl,?_⟩) H ?_;rotate_left
    ·intro w9 y;(try dsimp only at y);obtain ⟨s1,s2,s3,Z,s5⟩:=y;go_simp;(try with_reducible rfl)
    simp only [Gq,Gr,Gs,Act.put,Gt,Gu,Gv];refine wpAnyH_ready (rs:=[11]) (by kernel_rfl) (by simp) ?_;refine AllReadyH.cons rfl (λK Q=>?_) AllReadyH.nil;simp only [Gq,Gr,Gs];go_simp;refine (d1.o _).mono ?_;rintro e w3 ⟨rfl,T⟩;dsimp only;have bb:(λJ:N5=>J.cell? (aq w.heap.size 0)=some (.slice (some (aq b1 o1)) r d)/\J.cell? (aq (w.heap.size+1) 0)=some (.slice (some (aq b2 o2)) c e)/\J.cell? (aq (w.heap.size+1+1) 0)=some (H8 q)/\J.cell? (aq b1 (o1+x.1))=some (H8 (nth Y x.1))/\J.cell? (aq b2 (o2+j))=some (H8 (nth xs j))) w3:=⟨av T H.1,av T H.2.1,av T H.2.2.1,av T H.2.2.2.1,av T H.2.2.2.2⟩;refine Q.out _ _ bb (λ_=>?_);clear Q K H;have H:=bb;clear bb;have I:=aA (w:=wr.drew) cv.o T;have d6:∃u,w3.cell? (aq G (x.1*c+j))=some u:=⟨_,cL I bA.o⟩;obtain ⟨u3,p3⟩:=d6;have f3:=I.frozenAt (x.1*c+j);obtain ⟨bo,d3⟩:=ab I T;clear I T;refine wpAnyH_take (i:=12) (v:=?_) rfl (by kernel_rfl) (by kernel_rfl) (by kernel_rfl) (λ_ _ _ h=>h) (Or.inl ⟨by rfl,?_⟩) H ?_;rotate_left
    ·intro w9 y;(try dsimp only at y);obtain ⟨s1,s2,s3,Z,s5⟩:=y;go_simp;(try with_reducible rfl)
    simp only [Gq,Gr,Gs,Act.put,Gt,Gu,Gv];refine wpAnyH_ready (rs:=[13]) (by kernel_rfl) (by simp) ?_;refine AllReadyH.cons rfl (λK Q=>?_) AllReadyH.nil;simp only [Gq,Gr,Gs];go_simp;refine Q.out _ _ ?_ (λ_=>?_)
    ·obtain ⟨s1,s2,s3,Z,s5⟩:=H;exact ⟨(World.cell?_setCell_far _ _ _ _ (show G≠w.heap.size by omega)).trans s1,(World.cell?_setCell_far _ _ _ _ (show G≠w.heap.size+1 by omega)).trans s2,(World.cell?_setCell_far _ _ _ _ (show G≠w.heap.size+1+1 by omega)).trans s3,(World.cell?_setCell_far _ _ _ _ (show G≠b1 by omega)).trans Z,(World.cell?_setCell_far _ _ _ _ (show G≠b2 by omega)).trans s5⟩
    refine wpAnyH_done (by kernel_rfl) ?_ _;clear H p3 f3 Q K
    gi_wp2_with fail
    refine ⟨⟨j+1,by omega,by go_num,?_,?_⟩,by simp [intOf];omega⟩
    ·rw [<-Bg x.2 a3];exact eD bo.o _ _
    ·exact Keep.setCell (HK.o.drew.trans (Keep.below d3.o)) (aq G _) (.inr rfl) _
   ·obtain rfl:j=c:=ao
    gi_wp2_with fail
    have cw:=bv.o;have cd:=cr.o;have c8:=bV.o;have cc:=HN.o;have co:Below w.heap.size W wr:=Q.toBelow aM.o.size (λk hk=>ao);have bO:=(Q.block _ (F1 bs.o) ao).trans bs.o;refine ⟨(jv Q λk o hk ho=>?_).from _,⟨co,λ_=>bO.trans bs.o.symm⟩,⟨⟨?_,?_,?_,?_,?_,?_,bO⟩,aM.o.trans co⟩⟩
    ·subst hk;exact qi aP.o ho
    ·rw [List.map_append,List.map_singleton,<-Bh hc.1];exact a7
    ·exact (Q.block _ (F1 H2.o) ao).trans H2.o
    ·exact (Q.block _ (F1 H3.o) ao).trans H3.o
    ·exact (Q.block _ (F1 H4.o) ao).trans H4.o
    ·exact (Q.block _ (F1 H5.o) ao).trans H5.o
    ·exact (Q.block _ (F1 cx.o) ao).trans cx.o
 case done=>
  rintro D zs W hD rfl ⟨⟨O,b5,bi,b7,a1,ax,bd⟩,a2⟩ Q;obtain ⟨⟨n0,n1,n2⟩,nf⟩:=bx3 ax;obtain ⟨⟨m0,m1,m2⟩,mf⟩:=bx3 a1
  gi_wp2
  have b0:(List.finRange r).map (·.1)=List.range r:=List.ext_getElem (by simp) (by simp);rw [b0,yw hc.1] at O;have h3:=pd (H8 r) (H8 c) (.slice (some (aq G 0)) C C) a1;have k3:=lW (w:=W) (b:=w.heap.size+1+1+1) (H8 r) (H8 c) (.slice (some (aq G 0)) C C);have cw:=bv.o;have cd:=cr.o;have c8:=bV.o;have cc:=HN.o;simp only [Gp] at hD;obtain ⟨W3,cj⟩:∃W3,W3=(((W.setCell (aq (w.heap.size+1+1+1) 0) (H8 r)).setCell (aq (w.heap.size+1+1+1) 1) (H8 c)).setCell (aq (w.heap.size+1+1+1) 2) (.slice (some (aq G 0)) C C)):=⟨_,rfl⟩;rw [<-cj] at h3 k3 ⊢;clear cj;have bw:W3.heap[D]?=some (.deferred (some [])):=(k3.block D (F1 Q) ao).trans Q;refine ⟨by simp,.inl ⟨_,_,rfl,run_takeDeferred bw,?_⟩⟩;have h4:(W3.putObj D (.deferred none)).heap[w.heap.size+1+1+1]?=some (.cells #[H8 r,H8 c,.slice (some (aq G 0)) C C] 344 (0,0)):=(World.putObj_heap_other ao).trans h3;have I:=ownsRow_putObj (k3.own O (λk hk e=>by simp [Value.ownBlock] at hk;omega)) (.deferred none) bw rfl;have a5:ap w (W3.putObj D (.deferred none)):=(a2.trans (k3.toBelow a2.size (λk hk=>ao))).trans (belowK_b (w:=w) (F3 _) W3 D _ _ ao bw rfl rfl);obtain ⟨W4,c9⟩:∃W4,W4=W3.putObj D (.deferred none):=⟨_,rfl⟩;rw [<-c9] at h4 I a5 ⊢;clear c9 cw cd c8 cc b0;obtain ⟨⟨q0,q1,q2⟩,qf⟩:=bx3 h4;refine ⟨.agg #[H8 r,H8 c,.slice (some (aq G 0)) C C],by simp [results,results237,go_sem,q0,q1,q2],_,rfl,I,a5⟩
 case stop=>
  rintro D c bl W _ _ h _;exact h.elim
end Go.Proofs.YtindmkcnjlgomaaGreat
namespace Go.Proofs.YtindmkcnjlgomaaGreat
open Go.RowKit
open Tryz
theorem iI {P:Program} {w:N5} {ops:N9} {rest:List Oper} {o:Oper} {a:Na} {Q:Exit->Na->N5->Prop} (p:o.guard=none) (d s:Operand) (y C:N6) (D:o.op=.call {callee:=.builtin .copy,args:=#[d,s],argTypes:=#[y,C]}) (elem:N6) (hu:P.underlying y=some (.slice elem)) (hsz:(P.info? elem).map (·.size)=some 1) (dp sp:N0) (n dCap sCap:Nat) (hd:a.eval d=.slice dp n dCap) (hs:a.eval s=.slice sp n sCap) (g off:Nat) (cur:N4) (t:N6) (hg:w.heap[g]?=some (.cells cur.toArray t (0,0))) (cs:N4) (hn:cs.length=n) (hdp:0<n->dp=some (aq g off)) (hr:Rd w sp cs) (hfit:off+cs.length<=cur.length) (h1:∀v∈cs,v.oneCell'=true) (h:∀B,an (B.heap[g]?=some (.cells (splice cur off cs).toArray t (0,0)))->Keep (λi=>i=g) w B->wpList P ops Q rest (a.put o.dst (goInt cs.length)) B):
  wpList P ops Q (o::rest) a w:=by
 by_cases I:cs.length=0
 ·obtain rfl:cs=[]:=List.eq_nil_of_length_eq_zero I;refine wpList_copy_nothing p d s y C D elem hu hsz dp sp n dCap n sCap hd hs (by simp at hn;subst hn;rfl) ?_;exact h w (show _=_ by simpa [splice] using hg) (Keep.refl _ _)
 ·obtain rfl:=hdp ao
  have J:∃A,sp=some A/\∀j v,cs[j]?=some v->w.cell? (A.add j)=some v:=by
   obtain ⟨b,O,u,_⟩:=hr 0 cs[0] (GG ao);refine ⟨_,u,λj v H=>?_⟩;obtain ⟨L,N,e,hc⟩:=hr j v H;rw [u] at e;injection e with e
   injection e with e1 e2 _
   subst e1;subst e2;rw [Addr.add_lit];exact hc
  obtain ⟨A,rfl,x⟩:=J;refine wpList_copy_own p d s y C D elem hu hsz g off n dCap A n sCap hd hs cur.toArray t hg cs (by rw [hn];exact (Nat.min_self n).symm) x (by simpa using hfit) h1 ?_;exact h _ (show _=_ by simpa [splice] using setRow_heap w g _ _ t _ hg) ⟨rfl,rfl,rfl,by simp [World.setRow],λk hk hn=>setRow_other w g k _ hn⟩
theorem uk {P:Program} {w:N5} {ops:N9} {I:N2} {o:Oper} {a:Na} {K:Na->N5->Prop} {Q:Exit->Na->N5->Prop} {E:Prop} (d s:Operand) (y D:N6) (B:o.guard=none) (H:o.op=.call {callee:=.builtin .copy,args:=#[d,s],argTypes:=#[y,D]}) (elem:N6) (hu:P.underlying y=some (.slice elem)) (hsz:(P.info? elem).map (·.size)=some 1) (dp sp:N0) (n dCap sCap:Nat) (hd:a.eval d=.slice dp n dCap) (hs:a.eval s=.slice sp n sCap) (g off:Nat) (cur:N4) (t:N6) (hg:w.heap[g]?=some (.cells cur.toArray t (0,0))) (cs:N4) (hn:cs.length=n) (hdp:0<n->dp=some (aq g off)) (hr:Rd w sp cs) (hfit:off+cs.length<=cur.length) (h1:∀v∈cs,v.oneCell'=true) (h:∀C,an (C.heap[g]?=some (.cells (splice cur off cs).toArray t (0,0)))->Keep (λi=>i=g) w C->K (a.put o.dst (goInt cs.length)) C):
  if Region.wanted o (yielded ops I)=true then Oper.wp P o a w K Q else E:=by
 rw [if_pos (by simp [Region.wanted,B])];by_cases L:cs.length=0
 ·obtain rfl:cs=[]:=List.eq_nil_of_length_eq_zero L;have p:=run_copy_none (P:=P) w y D o.type elem dp sp n dCap n sCap hu hsz (by simp at hn;subst hn;rfl);unfold Oper.wp;simp [execOp,H,resolve,invoke,builtin,hd,hs,p,Result.andThen];exact h w (show _=_ by simpa [splice] using hg) (Keep.refl _ _)
 ·obtain rfl:=hdp ao
  have N:∃A,sp=some A/\∀j v,cs[j]?=some v->w.cell? (A.add j)=some v:=by
   obtain ⟨b,T,u,_⟩:=hr 0 cs[0] (GG ao);refine ⟨_,u,λj v J=>?_⟩;obtain ⟨O,R,e,hc⟩:=hr j v J;rw [u] at e;injection e with e
   injection e with e1 e2 _
   subst e1;subst e2;rw [Addr.add_lit];exact hc
  obtain ⟨A,rfl,x⟩:=N;have p:=run_copy_row (P:=P) w y D o.type elem g off n dCap A n sCap cur.toArray t cs hu hsz hg (by rw [hn];exact (Nat.min_self n).symm) x (by simpa using hfit) h1;unfold Oper.wp;simp [execOp,H,resolve,invoke,builtin,hd,hs,p,Result.andThen];exact h _ (show _=_ by simpa [splice] using setRow_heap w g _ _ t _ hg) ⟨rfl,rfl,rfl,by simp [World.setRow],λk hk hn=>setRow_other w g k _ hn⟩
theorem Bf {w:N5} {base:Nat} {e:N6} {g n:Nat} {xs:N4} (h:w.ownsRow base e 1 (.slice (some (aq g 0)) n n) n xs):w.heap[g]?=some (.cells xs.toArray e (0,0)):=by
 rcases h.2 with ⟨x,_⟩ | ⟨y,cap,i,o,_,v,_,_,u,p⟩
 ·cases x
 ·simp only [GT,Option.some.injEq,Addr.mk.injEq,and_true,true_and] at o;obtain ⟨rfl,rfl⟩:=o;rw [Nat.mul_one] at u p
  have:i=xs.toArray:=by
   rw [<-p,List.take_of_length_le (by simp [u])]
  rw [<-this];exact v
theorem gP (q:IntKind) (a b:N1) (h:Nat):splice (az q a) h (az q b)=az q (splice a h b):=by
 unfold splice;rw [dz,aS,dQ,<-eP,<-eP]
theorem Cf {w:N5} {base:Nat} {e:N6} {g:Nat} {xs:N4} (h:w.heap[g]?=some (.cells xs.toArray e (0,0))) (hb:base<=g) (hm:xs.length<=maxLen):w.ownsRow base e 1 (.slice (some (aq g 0)) xs.length xs.length) xs.length xs:=
 ⟨by simp,.inr ⟨g,xs.length,xs.toArray,rfl,hb,h,F3 _,hm,by simp,by simp⟩⟩
theorem qT {o W D:N1} {lo:Nat} (h:lo+W.length+D.length<=o.length):(splice (splice o lo W) (lo+W.length) D).drop lo=W++(D++o.drop (lo+W.length+D.length)):=by
 have p:splice o lo W=(o.take lo++W)++o.drop (lo+W.length):=by unfold splice;rw [GM]
 have l1:(o.take lo++W).length=lo+W.length:=by rw [GE,GL];omega
 have u:(splice o lo W).take (lo+W.length)=o.take lo++W:=by rw [p,<-l1,List.take_left]
 have x:(splice o lo W).drop (lo+W.length+D.length)=o.drop (lo+W.length+D.length):=by
  rw [p,List.drop_append,l1,List.drop_of_length_le (by rw [l1];omega),List.nil_append,List.drop_drop]
  congr 1
  omega
 have v:splice (splice o lo W) (lo+W.length) D=o.take lo++(W++(D++o.drop (lo+W.length+D.length))):=by
  show (splice o lo W).take (lo+W.length)++(D++(splice o lo W).drop (lo+W.length+D.length))=_
  rw [u,x,GM]
 have i:(o.take lo).length=lo:=by rw [GL];omega
 rw [v]
 conv=>lhs;rw [<-i]
 rw [i,List.drop_append_of_le_length (by rw [i];exact F3 _),List.drop_of_length_le (by rw [i];exact F3 _),List.nil_append]
def FL (sz ps:N1) (q:Int) (x y:N1) (G:Nat) (k:Nat) (D:Value) (h i w:N5):Prop:=
 ∃A c o,D=.slice A (szN sz (k+1)) c/\w.ownsRow h.heap.size 2 1 (.slice A (szN sz (k+1)) c) (szN sz (k+1)) (az .i64 (jV sz ps q x y (sz.length-2-k)))/\
  w.heap[G]?=some (.cells (az .i64 o).toArray 2 (0,0))/\o.length=bZ sz (sz.length-1)/\o.drop (bZ sz (k+1))=kU sz ps q x y (sz.length-2-k)/\(∀a,A=some a->a.block≠G)/\ap i w
theorem AB:eC prog 69 2:=⟨⟨_,underlying69,rfl⟩,by kernel_rfl⟩
theorem DY (b:Nat) (sz ps:N1) (q:Int) (A B:N0) (x y:N1) (c d:Nat) (w:N5) (h:iH 199 342 w b sz ps q) (hg:cP sz) (wp:W64 ps) (hA:Rd w A (az .i64 x)) (hx:x.length=szN sz 0) (wx:W64 x) (hB:Rd w B (az .i64 y)) (hy:y.length=szN sz (sz.length-1)):Calls prog 221 #[.pointer (some ⟨b,0,none⟩),.slice A x.length c,.slice B y.length d] w λe u=>∃A' c',e=.returned (.tuple #[.slice A' (bZ sz (sz.length-1)) c',.bool true])/\u.ownsRow w.heap.size 2 1 (.slice A' (bZ sz (sz.length-1)) c') (bZ sz (sz.length-1)) (az .i64 (fQ sz ps q x y))/\ap w u:=by
 have hm:=DN b sz ps q A B x y c d w h hg wp hA hx wx hB hy;have ew:=h.lt;obtain ⟨S,Ap,cp,Al,cl,rows,h0,h1,h2,h3,h4,h5,h6⟩:=h;have co:=λu (k:ap w u)=>gM S sz u (h1.below k);have d6:=λu (k:ap w u)=>gL S sz u (h1.below k);have dG:=λj u (k:ap w u)=>jZ S sz j u (h1.below k) (by have:=hg.1.1.2;omega);have dv:=λj u (k:ap w u)=>kz S sz j u (h1.below k) (by have:=hg.1.1.2;omega);have f6:=hg.2;have e6:fQ sz ps q x y=kU sz ps q x y (sz.length-1):=rfl;obtain ⟨n,hn⟩:∃n,sz.length-1=n:=⟨_,rfl⟩;obtain ⟨N,hN⟩:∃N,bZ sz n=N:=⟨_,rfl⟩;have gf:mG (eS sz ps q x n) y=jV sz ps q x y 0:=by show _=mG _ _;rw [hn]
 rw [hn] at h0 d6 dG dv h4 h6 co f6 e6 hm hy ⊢;rw [hN] at co f6 ⊢;rw [gf] at hm;have kB:1<=n/\n<=15:=by have:=hg.1.1;omega
 obtain ⟨Hm,i3,hs,hP,i8,H0,H3,H4⟩:=aj hm co d6 dG dv h0 h3 h4;obtain ⟨H5,H6,HG,WP,Hx,WX,Hy,Hn⟩:=aj h5 h6 hg wp hx wx hy hn;obtain ⟨HN,hC⟩:=ab hN e6;clear hm co d6 dG dv h0 h1 h2 h3 h4 h5 h6 hg wp hA hx wx hB hy hn hN e6 gf;go_enter func221,ntmps221;go_wp2_with fail;go_step3;go_wp2_with fail;refine Hm.o.mono ?_;rintro e R ⟨A',c',D,dc,vals,rfl,hr,eM,hc,ho,hb⟩;have cc:=(hb.block b ew).trans H0.o;obtain ⟨⟨r0,r1,r2,r3⟩,rf⟩:=bx4 cc;have gV:b<R.heap.size:=F1 cc;have b2:=hb.size;obtain ⟨Hr,hf,Hc,Ho,Hb,gb⟩:=ah hr eM hc ho hb cc;clear hr eM hc ho hb cc;go_wp2_with fail;refine (i3.o _ Hb.o).mono ?_;rintro e u ⟨rfl,rfl⟩;have eu:(8:Nat)*N<=281474976710656:=ao;have k4:=aa eu;clear eu;go_wp2_with (at_make;refine pK iX _ rfl (.tmp 31) (.tmp 31) rfl rfl N rfl rfl k4.o (by unfold maxLen;omega) ?_);intro w2 gU e5;have cj:=Bf gU;rw [gr] at cj;have cd:=(e5.block b gV).trans gb.o;clear r0 r1 r2 r3 rf;obtain ⟨⟨r0,r1,r2,r3⟩,rf⟩:=bx4 cd;have kb:=F1 cd;have kN:=F1 cj;obtain ⟨ea,k1,kA⟩:=ae e5 cj cd;clear gU e5 cj cd;have d2:(n:Int)-1=((n-1:Nat):Int):=ao;have gz:IntKind.i64.wrap ((n:Int)-1)=((n-1:Nat):Int):=by rw [Gd _ ao];omega
 rw [d2] at gz;go_wp2_with fail;go_step3;go_wp2_with fail;refine (hs.o _ (Hb.o.trans (ea.o.mono b2))).mono ?_;rintro e u ⟨rfl,rfl⟩;go_wp2_with fail;clear gz d2 r0 r1 r2 r3 rf
 go_loopw [9,12] (λv i wr=>∃k:Nat,k<=n-1/\i=H8 k/\FL sz ps q x y R.heap.size k v w R wr) (λ_ i _=>(intOf i).toNat)
 case atStart=>
  have eX:sz.length-2-(n-1)=0:=by have:=Hn.o;omega
  have eb:n-1+1=n:=ao;refine ⟨n-1,F3 _,rfl,D,dc,List.replicate N 0,?_,?_,k1.o,?_,?_,?_,ea.o⟩
  ·rw [eb,<-Hy.o]
  ·rw [eX,eb,<-Hy.o];exact aA Ho.o ea.o
  ·rw [Hn.o,HN.o];simp
  ·rw [eX,eb,HN.o];simp [kU]
  ·intro a ha e;have:=(Ho.o.lt a.block (by rw [ha];rfl)).2;omega
 case round=>
  obtain ⟨k,hk,rfl,A9,c9,o,rfl,ho,er,bd,gc,g6,hW⟩:=hrel;have cv:=(hW.block b gV).trans gb.o;obtain ⟨⟨r0,r1,r2,r3⟩,rf⟩:=bx4 cv;have gd:ap w wr:=Hb.o.trans (hW.mono b2);have hF:b<wr.heap.size:=F1 cv;obtain ⟨d9,i6,bO,k2,h7,f8,HW,bs⟩:=aj cv ho er bd gc g6 hW gd;clear cv ho er bd gc g6 hW gd;have gv:=hP.o k;have b7:=i8.o k;obtain ⟨ih,k3⟩:=ab gv b7;clear gv b7;go_wp2_with fail
  go_cut [13,14] (λv1 v2 wx=>∃M1 M2,v1=.pointer (some ⟨M1,0,none⟩)/\v2=.pointer (some ⟨M2,0,none⟩)/\wx.heap[M1]?=some (.cells #[H8 (bZ sz k:Int),H8 (db sz k:Int)] 69 (0,0))/\wx.heap[M2]?=some (.cells #[H8 (db sz k:Int),H8 (bZ sz (k+1):Int)] 69 (0,0))/\wr.heap.size<=M1/\wr.heap.size<=M2/\ap wr wx)
  case first=>
   have t0:∀u,ap wr u->u.cell? ⟨b,0,none⟩=some (.pointer (some ⟨S,0,none⟩)):=λu k=>Ga u b 0 _ _ _ (sb d9.o u k);have tl:=sl d9.o;have q:ap wr wr.drew:=(br wr).drew;clear r0 r1 r2 r3 rf;refine HA.g (λu:N5=>ap wr u) ?_;refine HA.t ?_ [0,1,2,3,4,6,7,8,9,10] q ?_;obtain ⟨U,hU⟩:∃U,wr.drew=U:=⟨_,rfl⟩;rw [hU] at q ⊢;clear hU
   repeat' first
    | (refine HA.three 5 12 13 ?_ ?_ ?_)
    | (refine HA.three 11 12 13 ?_ ?_ ?_)
    | (refine HA.two 5 12 ?_ ?_)
    | (refine HA.two 5 13 ?_ ?_)
    | (refine HA.two 11 12 ?_ ?_)
    | (refine HA.two 11 13 ?_ ?_)
    | (refine HA.two 12 13 ?_ ?_)
    | (refine HA.sole 5 ?_)
    | (refine HA.sole 11 ?_)
    | (refine HA.sole 12 ?_)
    | (refine HA.sole 13 ?_)
    | (refine HAS.c (i:=5) (ih.o U (bs.o.trans (q.mono bs.o.size)) ao) ?_;rintro e V ⟨rfl,kV⟩;(try replace gA:=sb gA _ kV);(try replace gB:=sb gB _ kV);replace q:=q.trans (kV.mono q.size);refine ⟨_,rfl,q,λ_=>?_⟩;clear kV;obtain ⟨U,rfl⟩:∃U,U=V:=⟨_,rfl⟩)
    | (refine HAS.c (i:=11) (k3.o U (bs.o.trans (q.mono bs.o.size)) ao) ?_;rintro e V ⟨rfl,kV⟩;(try replace gA:=sb gA _ kV);(try replace gB:=sb gB _ kV);replace q:=q.trans (kV.mono q.size);refine ⟨_,rfl,q,λ_=>?_⟩;clear kV;obtain ⟨U,rfl⟩:∃U,U=V:=⟨_,rfl⟩)
    | (have hA:=q.size;have bV:=(br U).alloc (F3 _) (.cells #[H8 0,H8 0] 69);have gA:=F4 U (.cells #[H8 0,H8 0] 69);(try have nB:=F1 gB);(try replace gB:=sb gB _ bV);replace q:=q.alloc q.size (.cells #[H8 0,H8 0] 69);refine HAS.v (i:=12) (U.alloc (.cells #[H8 0,H8 0] 69)) (.pointer (some ⟨U.heap.size,0,none⟩)) q ?_;obtain ⟨V,hv⟩:∃V,U.alloc (.cells #[H8 0,H8 0] 69)=V:=⟨_,rfl⟩;rw [hv] at gA q ⊢;(try rw [hv] at gB);clear hv bV;obtain ⟨mm,hm⟩:∃mm,U.heap.size=mm:=⟨_,rfl⟩;rw [hm] at gA hA ⊢;(try rw [hm] at nB);clear hm;obtain ⟨U,rfl⟩:∃U,U=V:=⟨_,rfl⟩)
    | (have hB:=q.size;have bV:=(br U).alloc (F3 _) (.cells #[H8 0,H8 0] 69);have gB:=F4 U (.cells #[H8 0,H8 0] 69);(try have nA:=F1 gA);(try replace gA:=sb gA _ bV);replace q:=q.alloc q.size (.cells #[H8 0,H8 0] 69);refine HAS.v (i:=13) (U.alloc (.cells #[H8 0,H8 0] 69)) (.pointer (some ⟨U.heap.size,0,none⟩)) q ?_;obtain ⟨V,hv⟩:∃V,U.alloc (.cells #[H8 0,H8 0] 69)=V:=⟨_,rfl⟩;rw [hv] at gB q ⊢;(try rw [hv] at gA);clear hv bV;obtain ⟨mm,hm⟩:∃mm,U.heap.size=mm:=⟨_,rfl⟩;rw [hm] at gB hB ⊢;(try rw [hm] at nA);clear hm;obtain ⟨U,rfl⟩:∃U,U=V:=⟨_,rfl⟩)
    | (refine HA.st 14 gA AB (λw8 e8 k8=>?_);refine ⟨CP q k8 q.size hA,?_⟩;refine HA.st 15 ((k8.block _ (F1 gB) ao).trans gB) AB (λw9 e9 k9=>?_);have F:=DB (w:=wr) ao hA hB q e8 k8 e9 k9;refine ⟨F.2.2.2.2.2,HA.d ?_⟩;have HF:=aa F;clear F e8 k8 e9 k9 t0 tl gA gB q;go_wp2_with fail;go_meet;exact ⟨_,_,rfl,rfl,HF.o.1,HF.o.2.1,HF.o.2.2.2⟩)
  case rest=>
   obtain ⟨M1,M2,rfl,rfl,aM,bI,l4,kX,hB⟩:=hcut;have hR:=HG.o.1;have go:=Hn.o;have gm:k+1<sz.length:=ao;have z0:=hR.at (k:=k) ao;have z1:=hR.at gm;have d1:=HG.o.mul gm;have es:1<=szN sz (k+1)*szN sz k:=Nat.mul_pos z1.1 z0.1;have a2:db sz k=bZ sz k+szN sz (k+1)*szN sz k:=rfl;have Z:=fC sz k;have a0:=fy sz (show k+1<=n by omega);have gJ:=HN.o;have ds:sz.length-2-k=n-1-k:=ao;have a8:=tB (sz:=sz) (ps:=ps) (q:=q) (x:=x) (y:=y) Hx.o (n-1-k);rw [show sz.length-1-(n-1-k)=k+1 by omega] at a8;have bN:=Cv sz ps q x y (n-1-k);have a7:=jl (sz:=sz) (ps:=ps) (q:=q) Hx.o k;have cw:=rO (sz:=sz) (ps:=ps) (q:=q) WX.o k;obtain ⟨Ak,ck,cf,hp,cn⟩:=hf.o.2 k ao;rw [a7] at cf;obtain ⟨bo,oo,rfl,pv⟩:=Hr.o _ _ cf;have id:bo<R.heap.size:=aC pv;have bX:ap R wc:=HW.o.trans (hB.mono HW.o.size);have dn:=(bX.cell (p:=⟨bo,oo+k,none⟩) id).trans pv;have bM:=(hB.block b hF).trans d9.o;have e7:=(hB.block R.heap.size (F1 bO.o)).trans bO.o;have ak:=aA i6.o hB;rw [ds] at ak;have bA:=cn.below bX;obtain ⟨lo,d7⟩:∃lo,bZ sz k=lo:=⟨_,rfl⟩;obtain ⟨r,hr⟩:∃r,szN sz (k+1)=r:=⟨_,rfl⟩;obtain ⟨c0,b4⟩:∃c0,szN sz k=c0:=⟨_,rfl⟩;obtain ⟨H,Y⟩:∃H,r*c0=H:=⟨_,rfl⟩;rw [<-Z,a2] at bI;rw [a2] at aM;rw [<-Z,a2] at a0;rw [d7,hr,b4,Y] at aM bI a0;rw [hr] at a8 z1 ak;rw [b4] at a7 z0 dn;rw [hr,b4,Y] at es d1;rw [hr];obtain ⟨ev,ej⟩:∃ev,jV sz ps q x y (n-1-k)=ev:=⟨_,rfl⟩;obtain ⟨vv,dp⟩:∃vv,eS sz ps q x k=vv:=⟨_,rfl⟩;rw [ej] at a8 bN ak;rw [dp] at a7 cw bA cn;have hO:=aa cn;have c7:=λW (h:ap wc W)=>yu r c0 A9 Ak ev vv c9 ck q W ⟨z1.1,z1.2.1⟩ ⟨z0.1,z0.2.1⟩ (by rw [Y];exact d1) ((Rd.own ak).below h) bN a8 (bA.below h) a7 cw;rw [Y] at c7;have dk:(iR r c0 ev vv q).length=H:=by rw [uM,Y]
   obtain ⟨ow,dT⟩:∃ow,iR r c0 ev vv q=ow:=⟨_,rfl⟩;rw [dT] at c7 dk;obtain ⟨⟨m0,m1⟩,mf⟩:=bx2 aM;obtain ⟨⟨n0,n1,n2,n3⟩,nf⟩:=bx4 bM;have l1:=F1 aM;have k0:R.heap.size<wc.heap.size:=F1 e7;have kn:b<wc.heap.size:=F1 bM;have k7:bo<wc.heap.size:=ao;have d0:M1≠R.heap.size:=by have:=HW.o.size;have:=F1 bO.o;omega
   have gk:M2≠R.heap.size:=by have:=HW.o.size;have:=F1 bO.o;omega
   have bd:o.length=N:=by rw [k2.o,go,gJ]
   have hT:lo+H+r<=N:=ao;have kd:k<sz.length:=ao;have l5:¬(N=lo):=ao;have l9:lo+H<=N:=ao;have l2:(lo:Int)+H<=N:=ao;have l3:((lo:Int)+H).toNat=lo+H:=ao;have lc:(0:Int)<=(lo:Int)+H:=ao;have l6:(lo:Int)<=(lo:Int)+H:=ao;obtain ⟨ld,bG,la,hh,i4,il,aP,hG⟩:=aj aM bI bM e7 ak c7 dk dT;obtain ⟨f4,fb,fn,a6,Q,c6,i0,HB⟩:=aj ej dp d7 hr b4 Y bX hB;obtain ⟨O,kL,hD,WV,a5,hM,hY,kk⟩:=aj bd bA a7 cw a8 bN ds cf;clear aM bI bM e7 ak c7 dk dT ej dp d7 hr b4 Y bX hB bd bA a7 cw a8 bN ds cf hp cn pv a2 Z a0 gJ go n0 n1 n3 nf mf;go_wp2_with fail;have C:(λu:N5=>u.cell? ⟨M1,0,none⟩=some (H8 lo)/\u.cell? ⟨M1,1,none⟩=some (H8 ((lo:Int)+H))/\u.cell? ⟨bo,oo+k,none⟩=some (.slice Ak c0 ck)/\u.cell? ⟨b,2,none⟩=some (H8 q)) wc.drew:=⟨m0,m1,dn,n2⟩;refine HA.g (λu:N5=>u.cell? ⟨M1,0,none⟩=some (H8 lo)/\u.cell? ⟨M1,1,none⟩=some (H8 ((lo:Int)+H))/\u.cell? ⟨bo,oo+k,none⟩=some (.slice Ak c0 ck)/\u.cell? ⟨b,2,none⟩=some (H8 q)) ?_;refine HA.t ?_ [0,1,2,3,4,5,6,7,8,9,10,11,12,13,14] C ?_;refine HA.o 15 (λK hK=>?_);go_simp;refine (il.o _ ((Gb wc.heap.size wc).drew)).mono ?_;rintro e w5 ⟨A5,rfl,bn,ad⟩;have f5:=Gg (av ad C.1) (Gg (av ad C.2.1) (Gg (av ad C.2.2.1) (av ad C.2.2.2)));have b0:ap wc w5:=(Gb wc.heap.size wc).drew.trans ad;have g7:=(b0.block _ k0).trans hh.o;have bn:=Rd.own bn;obtain ⟨gX,hV,ax⟩:=ae g7 bn b0;clear g7 bn ad b0 C;dsimp only;refine hK.out _ _ f5 (λC=>?_);clear hK K f5;refine HA.o 16 (λK hK=>?_);go_simp;refine hK.out _ _ C (λC=>?_);clear hK K;refine HA.o 17 (λK hK=>?_);refine uk (.tmp 58) (.tmp 69) 73 73 rfl rfl 2 underlying73 (by kernel_rfl) (some ⟨R.heap.size,lo,none⟩) A5 H (N-lo) H rfl rfl R.heap.size lo (az .i64 o) 2 gX.o (az .i64 ow) (by rw [aS,aP.o]) (λ_=>rfl) hV.o (by rw [aS,aS,aP.o,O.o];omega) (bS _ _) ?_;intro w6 em T;rw [gP] at em;have fs:=Gg (T.cell C.1 (by exact d0)) (Gg (T.cell C.2.1 (by exact d0)) (Gg (T.cell C.2.2.1 (show bo≠_ by omega)) (T.cell C.2.2.2 (show b≠_ by omega))));have a3:=(T.block M2 (F1 ((ax.o.block _ (F1 bG.o)).trans bG.o)) gk).trans ((ax.o.block _ (F1 bG.o)).trans bG.o);obtain ⟨hL,dA⟩:=ab em T;clear em T C;dsimp only;refine hK.out _ _ fs (λC=>?_);clear hK K fs;refine HA.d ?_
   have fi:w6.ownsRow w.heap.size 2 1 (.slice A9 r c9) r (az .i64 ev):=dA.o.own (aA i4.o ax.o) (λi hi e=>by
    cases A9 with
    | none=>cases hi
    | some a=>simp [Value.ownBlock] at hi;exact f8.o a rfl (hi.trans e))
   have eo:=C.2.2.2;have f0:=C.2.2.1;obtain ⟨⟨i9,h8⟩,io⟩:=bx2 a3;have ka:=F1 a3;obtain ⟨gG,k6⟩:=ab fi a3;clear fi a3 C m0 m1 dn n2;have kG:¬(N=lo+H):=ao;have kx:lo+H+r<=N:=ao;have l0:(lo:Int)+H+r<=N:=ao;have kS:((lo:Int)+H+r).toNat=lo+H+r:=ao;have lb:(0:Int)<=(lo:Int)+H+r:=ao;have l8:(lo:Int)+H<=(lo:Int)+H+r:=ao;have hu:=aa (show (az .i64 ev).length=r by rw [aS,a5.o]);obtain ⟨h9,hE⟩:=ab (show lo+H+(az .i64 ev).length<=(az .i64 (splice o lo ow)).length by rw [aS,aS,a5.o,length_splice _ _ _ (by rw [aP.o,O.o];omega),O.o];omega) (show (prog.info? 2).map (·.size)=some 1 by kernel_rfl);go_wp2_with (refine iI rfl (.tmp 76) (.tmp 77) 73 73 rfl 2 underlying73 hE.o (some ⟨R.heap.size,lo+H,none⟩) A9 r (N-(lo+H)) c9 rfl rfl R.heap.size (lo+H) (az .i64 (splice o lo ow)) 2 hL.o (az .i64 ev) hu.o (λ_=>rfl) (Rd.own gG.o) h9.o (bS _ _) ?_);intro w7 cb bi;rw [gP] at cb;obtain ⟨o7,ci⟩:∃o7,splice (splice o lo ow) (lo+H) ev=o7:=⟨_,rfl⟩
   have gg:o7.length=N:=by
    have h1:(splice o lo ow).length=N:=by rw [length_splice _ _ _ (by rw [aP.o,O.o];omega),O.o]
    rw [<-ci,length_splice _ _ _ (by rw [h1,a5.o];omega),h1]
   have f3:o7.drop (bZ sz k)=kU sz ps q x y (n-k):=by
    have e1:=Hn.o;have e2:=qT (o:=o) (W:=ow) (D:=ev) (lo:=lo) (by rw [aP.o,a5.o,O.o];exact hT);rw [aP.o,a5.o,ci] at e2;rw [fn.o,e2,show n-k=(n-1-k)+1 by omega]
    have e3:bZ sz (k+1)=lo+H+r:=by
     rw [<-fC sz k,show db sz k=bZ sz k+szN sz (k+1)*szN sz k from rfl,fn.o,a6.o,Q.o,c6.o]
    have e4:=h7.o;rw [e3,hY.o] at e4;rw [kU,show sz.length-1-(n-1-k)=k+1 by omega,show sz.length-2-(n-1-k)=k by omega,a6.o,Q.o,f4.o,fb.o,hG.o,<-e4]
   have cS:ap R w7:=i0.o.trans (((ax.o.mono ao).trans (dA.o.toBelow (by have:=ax.o.size;omega) (λi hi=>ao))).trans (bi.toBelow (by have:=dA.o.size;have:=ax.o.size;omega) (λi hi=>ao)));rw [ci] at cb
   have gs:=bi.own gG.o (λi hi e=>by
    cases A9 with
    | none=>cases hi
    | some a=>simp [Value.ownBlock] at hi;exact f8.o a rfl (hi.trans e))
   have hQ:=bi.cell eo (show b≠_ by omega);have ga:=bi.cell f0 (show bo≠_ by omega);obtain ⟨d5,ei,f7,a1,hI⟩:=ag cb gg f3 cS gs;clear cb gg f3 cS gs ci bi eo f0 i9 h8 io;by_cases ee:k=0
   ·have d4:((k:Int)==0)=true:=by simp [ee]
    have cA:w7.ownsRow w.heap.size 2 1 (.slice (some ⟨R.heap.size,0,none⟩) N N) N (az .i64 (fQ sz ps q x y)):=by
     have e1:=f7.o;rw [ee] at e1;have e2:o7=fQ sz ps q x y:=by rw [hC.o,<-Nat.sub_zero n,<-e1];rfl
     have e3:=Cf (base:=w.heap.size) (xs:=az .i64 o7) (by exact d5.o) b2 (by rw [aS,ei.o];unfold maxLen;omega);rw [aS,ei.o] at e3;rw [<-e2];exact e3
    have fr:=aa cA;clear cA ee;have L:=Hb.o.trans (a1.o.mono b2);have f9:=aa L;clear L;go_wp2_with fail
    try rw [Exit.noGoto_ret]
    go_ret2;exact ⟨_,_,rfl,fr.o,f9.o⟩
   ·have d4:((k:Int)==0)=false:=by simp;omega
    obtain ⟨gl,ol,dl,Bl,el,gR,hd,fc,hrb⟩:=H6.o k ao;have bb:k<rows.length:=by rw [H4.o];omega
    have cs:∀t,t<4->(List.flatten rows)[k*4+t]?=(bH rows k)[t]?:=λt ht=>jA H5.o k t bb ht;have e0:=cs 0 ao;have e1:=cs 1 ao;have e2:=cs 2 ao;rw [gR] at e0 e1 e2;simp only [Nat.add_zero,Gz,Gy] at e0 e1 e2;obtain ⟨bl,ob,he,q0⟩:=H3.o _ _ e0;obtain ⟨_,_,b6,q1⟩:=H3.o _ _ e1;obtain ⟨_,_,b8,q2⟩:=H3.o _ _ e2;subst he;injection b6 with b6;injection b6 with i1 i2 _;subst i1;subst i2
    injection b8 with b8;injection b8 with i1 i2 _;subst i1;subst i2
    have dw:bl<w.heap.size:=aC q0;have L:=Hb.o.trans (a1.o.mono b2);have ec:=(L.cell (p:=⟨bl,ob+k*4,none⟩) dw).trans q0;have bw:=(L.cell (p:=⟨bl,ob+(k*4+1),none⟩) dw).trans q1;have cr:=(L.cell (p:=⟨bl,ob+(k*4+2),none⟩) dw).trans q2;rw [<-GX] at bw cr;rw [a6.o] at ec;rw [Q.o] at bw;rw [a6.o,Q.o,c6.o] at cr hd;have eY:=(L.block b ew).trans H0.o;obtain ⟨⟨n0,n1,n2,n3⟩,nf⟩:=bx4 eY;have b3:=tY sz ps k;rw [a6.o,Q.o,c6.o] at b3;have b7:=yP r c0 gl ol H dl (wL sz ps k) A9 ev c9 q w7.drew ⟨z1.1,z1.2.1⟩ ⟨z0.1,z0.2.1⟩ c6.o.symm hd ao b3 ((fc.below L).drewN 1) (zJ WP.o sz k) ((Rd.own hI.o).drewN 1) a5.o hM.o;have kP:k<n:=ao;obtain ⟨ia,f9⟩:=ab b7 L;clear b7 L eY b3 fc hrb gR e0 e1 e2 q0 q1 q2 cs bb hd;go_wp2_with fail
    go_region_held3 (λu=>u.cell? ⟨b,3,none⟩=some (.slice (some ⟨bl,ob,none⟩) n cl)/\u.cell? ⟨bl,ob+k*4,none⟩=some (H8 r)/\u.cell? ⟨bl,ob+k*4+1,none⟩=some (H8 c0)/\u.cell? ⟨bl,ob+k*4+2,none⟩=some (.slice (some ⟨gl,ol,none⟩) H dl)/\u.cell? ⟨b,2,none⟩=some (H8 q)) (simp [go_sem, *])
     ((go_at_call 238;refine ia.o.mono ?_;rintro e w8 ⟨A8,c8,rfl,a4,J⟩;have g0:=av J n3;have g1:=av J ec;have g2:=av J bw;have g3:=av J cr;have g4:=av J n2;have g5:=av J ga;obtain ⟨i7,hS⟩:=ab a4 J;clear a4 J))
    go_wp2_with fail;have b1:=qC (wL sz ps k) r c0 ev q;obtain ⟨bk,b5⟩:∃bk,kZ (wL sz ps k) r c0 ev q=bk:=⟨_,rfl⟩;have a4:=aG (base':=w7.heap.size) i7.o (by simp);rw [b5] at b1 a4;obtain ⟨d3,gp,fw⟩:=ae b1 a4 b5;have J:=(Gb w7.heap.size w7).drew.trans hS.o;have hX:=aa J;clear b1 a4 b5 J g0 g1 g2 g3 g4 g5 n0 n1 n2 n3 nf ga ec bw cr hQ d4
    go_loopw [103] (λi wx=>∃j:Nat,j<=c0/\i=H8 j/\wx.ownsRow w7.heap.size 2 1 (.slice A8 c0 c8) c0 (az .i64 (gS bk j (λi=>if 0<nth vv i then nth bk i else 0)))/\ap w7 wx) (λi _=>c0-(intOf i).toNat)
    ·exact ⟨0,Gc _,rfl,by rw [fu];exact gp.o,hX.o⟩
    case round=>
     obtain ⟨j,hj,rfl,I,bh⟩:=hrel;by_cases dO:j<c0
     ·obtain ⟨g8,d8,ey,hJ,_⟩:=I.form ao;simp only [GT] at ey;obtain ⟨rfl,hq,rfl⟩:=ey;clear hq;have ef:j<bk.length:=by rw [d3.o];exact dO
      have p1:=cL I dO;rw [eQ _ ef,if_neg ao] at p1;have f1:=I.frozenAt j;have g9:=fX (l:=bk) (k:=j) (λi=>if 0<nth vv i then nth bk i else 0) ef;obtain ⟨bv,ov,rfl,kW⟩:=((hO.o.below a1.o).below bh).num (show j<vv.length by rw [hD.o];exact dO);obtain ⟨HO,bz,hz⟩:=ae I bh g9;clear I bh g9 ef;go_wp2_with fail;refine (Cd _ _ _).mono ?_;rintro e w9 ⟨rfl,rfl⟩;go_wp2_with fail;go_roundw
      ·exact ⟨j+1,by omega,by go_num,by rw [<-hz.o];exact eD HO.o j _,bz.o.setCell (p:=⟨g8,j,none⟩) hJ _⟩
      ·simp [intOf];omega
     ·obtain rfl:j=c0:=ao;obtain ⟨HO,bz⟩:=ab I bh;clear I bh;have f2:IntKind.i64.wrap ((k:Int)-1)=((k-1:Nat):Int):=by rw [Gd _ ao];omega
      have cx:(k:Int)-1=((k-1:Nat):Int):=ao;rw [cx] at f2;go_wp2_with fail;clear f2 cx;go_roundw
      case rel=>
       have ek:k-1+1=k:=ao;have en:=Hn.o;have i5:R.heap.size<w7.heap.size:=F1 d5.o
       have k5:jV sz ps q x y (sz.length-2-(k-1))=gS bk j (λi=>if 0<nth vv i then nth bk i else 0):=by
        rw [show sz.length-2-(k-1)=(n-1-k)+1 by omega,jV,show sz.length-2-(n-1-k)=k by omega,show sz.length-1-(n-1-k)=k+1 by omega,f4.o,fb.o,a6.o,Q.o,fw.o];rw [<-d3.o,fY];rfl
       refine ⟨k-1,by omega,rfl,A8,c8,o7,?_,?_,?_,?_,?_,?_,?_⟩
       ·rw [ek,Q.o]
       ·rw [ek,Q.o,k5];exact aG HO.o ao
       ·exact (bz.o.block _ i5).trans d5.o
       ·rw [ei.o,en,HN.o]
       ·rw [ek,f7.o,show sz.length-2-(k-1)=n-k by omega]
       ·intro a ha e9;have:=(HO.o.lt a.block (by rw [ha];rfl)).1;omega
       ·exact a1.o.trans (bz.o.mono ao)
      case measure=>simp [intOf];omega
theorem Cq:cW prog 340 348 (.agg #[.int .i64 0,.int .i64 0,.slice none 0 0,.slice none 0 0]) 4 64:=⟨underlying340,info_parts (by kernel_rfl),rfl,by decide⟩
theorem sF {w:N5} {base n g c:Nat} {xs:N1} {e:N6} (h:w.ownsRow base e 1 (.slice (some ⟨g,0,none⟩) n c) n (az .i64 xs)) {k:Nat} (hk:k<n):w.cell? ⟨g,k,none⟩=some (.int .i64 (nth xs k)):=cL h hk
def FW (sz ps:N1) (q:Int) (S h cp b o:Nat) (u:N0) (v:Nat) (k:Nat) (x w:N5):Prop:=
 ∃p i rows,w.heap[b]?=some (.cells #[.pointer (some ⟨S,0,none⟩),.slice (some ⟨h,0,none⟩) ps.length cp,.int .i64 q,.slice p k i] 342 (0,0))/\
  w.ownsRow b 348 4 (.slice p k i) k (List.flatten rows)/\rows.length=k/\(∀r∈rows,r.length=4)/\
  w.ownsRow o 2 1 (.slice (some ⟨h,0,none⟩) ps.length cp) ps.length (az .i64 ps)/\
  (∀j,j<k->∃g d,bH rows j=[.int .i64 (szN sz (j+1):Int),.int .i64 (szN sz j:Int),.slice (some ⟨g,0,none⟩) (szN sz (j+1)*szN sz j) d,.slice (some ⟨h,db sz j,none⟩) (szN sz (j+1)) (cp-db sz j)]/\
   szN sz (j+1)*szN sz j<=d/\w.ownsRow o 2 1 (.slice (some ⟨g,0,none⟩) (szN sz (j+1)*szN sz j) d) (szN sz (j+1)*szN sz j) (az .i64 (wL sz ps j)))/\
  w.ownsRow b 3 1 (.slice u sz.length v) sz.length (az .i64 sz)/\Below b x w
def Fl (w:N5) (base b:Nat) (ps:N1):Prop:=∃s h cp q l,w.heap[b]?=some (.cells #[s,.slice h ps.length cp,q,l] 342 (0,0))/\w.ownsRow base 2 1 (.slice h ps.length cp) ps.length (az .i64 ps)/\base<=b
def pr (w:N5) (base b S:Nat) (sz ps:N1) (q:Int):Prop:=∃g cp i h rows,
 w.heap[b]?=some (.cells #[.pointer (some ⟨S,0,none⟩),.slice (some ⟨g,0,none⟩) ps.length cp,.int .i64 q,.slice i (sz.length-1) h] 342 (0,0))/\base<=b/\
  w.ownsRow base 2 1 (.slice (some ⟨g,0,none⟩) ps.length cp) ps.length (az .i64 ps)/\w.ownsRow base 348 4 (.slice i (sz.length-1) h) (sz.length-1) (List.flatten rows)/\rows.length=sz.length-1/\(∀r∈rows,r.length=4)/\
  ∀j,j<sz.length-1->∃o d,bH rows j=[.int .i64 (szN sz (j+1):Int),.int .i64 (szN sz j:Int),.slice (some ⟨o,0,none⟩) (szN sz (j+1)*szN sz j) d,.slice (some ⟨g,db sz j,none⟩) (szN sz (j+1)) (cp-db sz j)]/\
   szN sz (j+1)*szN sz j<=d/\w.ownsRow base 2 1 (.slice (some ⟨o,0,none⟩) (szN sz (j+1)*szN sz j) d) (szN sz (j+1)*szN sz j) (az .i64 (wL sz ps j))
theorem pr.keep {w x:N5} {base b A:Nat} {sz ps:N1} {q:Int} (h:pr w base b A sz ps q) {S:Nat->Prop} (k:Keep S w x) (u:∀j,S j->j<base):pr x base b A sz ps q:=by
 obtain ⟨g,cp,L,R,rows,B,N,y,C,J,O,T⟩:=h;have H:∀{e' size n m:Nat} {v:Value} {xs:N4},w.ownsRow base e' size v n xs->x.ownsRow base e' size v n xs:=λhr=>k.own hr (λi p o=>by have:=u i o;have:=(hr.lt i p).1;omega)
 exact ⟨g,cp,L,R,rows,(k.block b (F1 B) (λo=>by have:=u b o;omega)).trans B,N,k.own y (λi p o=>by have:=u i o;have:=(y.lt i p).1;omega),k.own C (λi p o=>by have:=u i o;have:=(C.lt i p).1;omega),J,O,λj V=>by
  obtain ⟨I,d,U,Q,D⟩:=T j V
  exact ⟨I,d,U,Q,k.own D (λi p o=>by have:=u i o;have:=(D.lt i p).1;omega)⟩⟩
theorem pr.below {w i:N5} {base b o:Nat} {sz ps:N1} {q:Int} (h:pr w base b o sz ps q) (hb:ap w i):pr i base b o sz ps q:=h.keep (S:=λ_=>False) (Keep.below hb) (λ_ h=>h.elim)
theorem pr.at {w:N5} {base b S:Nat} {sz ps:N1} {q:Int} (h:pr w base b S sz ps q) (R:bF 199 w S sz) (U:cP sz) (hl:ps.length=bZ sz (sz.length-1)):iH 199 342 w b sz ps q:=by
 obtain ⟨g,cp,H,N,rows,C,V,A,J,D,I,O⟩:=h;refine ⟨S,some ⟨g,0,none⟩,cp,H,N,rows,C,R,Rd.own A,Rd.own J,D,I,λj Q=>?_⟩;obtain ⟨B,T,o,u,p⟩:=O j Q;have v:=Ge (fy sz (show j+1<=sz.length-1 by omega)) (Nat.le_of_eq hl.symm);have y:=fC sz j;have x:bL sz ps j=(ps.drop (db sz j)).take (szN sz (j+1)):=(dR (by rw [GL,GO];omega) λi L=>by rw [eA L,eB]).symm;refine ⟨B,0,T,some ⟨g,db sz j,none⟩,cp-db sz j,o,u,Rd.own p,?_⟩;have:=((Rd.own A).drop (db sz j)).take (szN sz (j+1))
 rwa [GY,dQ,dz,<-x] at this
theorem sM (S:Nat) (sz ps:N1) (A:N0) (c:Nat) (q:Int) (w:N5) (hS:bF 199 w S sz) (hg:cP sz) (hq:0<=q/\q<=62) (hl:ps.length=bZ sz (sz.length-1)) (hA:Rd w A (az .i64 ps)):Calls prog 218 #[.pointer (some ⟨S,0,none⟩),.slice A ps.length c,.int .i64 q] w λe C=>∃b,e=.returned (.tuple #[.pointer (some ⟨b,0,none⟩),.bool true])/\iH 199 342 C b sz ps q/\Fl C w.heap.size b ps/\pr C w.heap.size b S sz ps q/\ap w C:=by
 obtain ⟨q1,q2⟩:=hq;have hc:=gM S sz w hS;have cv:=cT A ps c w hA (by have:=hg.2;omega);have d1:=λC (k:ap w C)=>jq S sz C (hS.below k) (by have:=hg.1.1.2;omega);have bM:=λC (k:ap w C)=>gL S sz C (hS.below k);have cn:=λj C (k:ap w C)=>jZ S sz j C (hS.below k) (by have:=hg.1.1.2;omega);have bA:=λj C (k:ap w C)=>kz S sz j C (hS.below k) (by have:=hg.1.1.2;omega);rw [<-hl] at hc;obtain ⟨n,hn⟩:∃n,sz.length-1=n:=⟨_,rfl⟩;obtain ⟨N,hN⟩:∃N,ps.length=N:=⟨_,rfl⟩;rw [hn] at bM cn bA hl;rw [hN] at hc cv hl ⊢;have Z:1<=n/\n<=15:=by have:=hg.1.1;omega
 have gd:N<=1048576:=by have:=hg.2;rw [hn] at this;omega
 obtain ⟨Hc,fb,eo,f9,eu,fn,HG,Hn⟩:=aj hc cv d1 bM cn bA hg hn;obtain ⟨HN,HS,gR,Hl⟩:=af hN hS hA hl;clear hc cv d1 bM cn bA hg hn hN hS hA hl;go_enter func218,ntmps218;go_wp2_with fail;refine Hc.o.mono ?_;rintro e C ⟨rfl,rfl⟩;go_wp2_with fail;refine fb.o.mono ?_;rintro e I ⟨A',cp,rfl,cw,bs,hb⟩;obtain ⟨bw,Hb,f8⟩:=ae bs hb cw;clear bs hb cw;go_wp2_with fail;refine (eo.o _ ?_).mono ?_
 ·have hb:=Hb.o;have g3:=hb.size;exact am
 rintro e w2 ⟨As,cs,rfl,dA,a1⟩;obtain ⟨eY,eb⟩:=ab dA a1;clear dA a1;go_wp2_with fail;refine (f9.o _ ?_).mono ?_
 ·have hb:=Hb.o;have a1:=eb.o;exact hb.trans ((((Gb _ I).alloc (F3 _) _).trans (a1.mono (by simp))).mono hb.size)
 rintro e C ⟨rfl,rfl⟩;go_wp2_with fail
 have eM:1<=N:=by
  have h0:=Hl.o;have h1:=(HG.o.1.at (k:=1) (by have:=HG.o.1.1;omega)).1;have h2:=fy sz (show 1<=n by omega);have h3:db sz 0+szN sz 1=bZ sz 1:=fC sz 0;omega
 obtain ⟨gp,gA,dG,go,_⟩:=bw.o.form ao;simp only [GT] at dG;obtain ⟨rfl,es,rfl⟩:=dG;clear es
 go_loopw [42] (λi wr=>∃k:Nat,k<=n/\i=.int .i64 k/\FW sz ps q S gp cp I.heap.size w.heap.size As cs k I wr) (λi _=>n-(intOf i).toNat)
 case atStart=>
  have a1:=eb.o;have hk:ap I w2:=((Gb _ I).alloc (F3 _) _).trans (a1.mono (by simp));have f0:=(a1.block I.heap.size (by simp)).trans (F4 I _);refine ⟨0,Gc _,rfl,none,0,[],?_,Gj _ _ _ _,rfl,by simp,?_,λj hj=>ao,aG eY.o (by simp),hk⟩
  ·rw [HN.o];exact f0
  ·rw [HN.o];exact aA bw.o hk
 case round=>
  obtain ⟨k,hk,rfl,Al,cl,rows,aP,d8,d2,cA,cj,bo,d4,hW⟩:=hrel;rw [HN.o] at aP cj;obtain ⟨⟨x0,x1,x2,x3⟩,xf⟩:=bx4 aP;have f1:=F1 aP;have e7:ap w wr:=Hb.o.trans (hW.mono Hb.o.size);obtain ⟨ak,cb,b0,bG,ad,aM,bd,HW⟩:=aj aP d8 d2 cA cj bo d4 hW;have ax:=aa e7;clear aP d8 d2 cA cj bo d4 hW e7;by_cases gb:k<n
  ·have hR:=HG.o.1;have bb:k+1<sz.length:=by have:=Hn.o;have:=hR.1;omega
   have z0:=hR.at (k:=k) ao;have z1:=hR.at bb;have e9:=HG.o.mul bb;have dc:1<=szN sz (k+1)*szN sz k:=Nat.mul_pos z1.1 z0.1;have T:db sz k=bZ sz k+szN sz (k+1)*szN sz k:=rfl;have L:=fC sz k;have a0:=Ge (fy sz (show k+1<=n by omega)) (Nat.le_of_eq Hl.o.symm);have a5:=eu.o k;have a6:=fn.o k;have cd:wL sz ps k=(ps.drop (bZ sz k)).take (szN sz (k+1)*szN sz k):=(dR (by rw [GL,GO];have:=HN.o;omega) λi hi=>by rw [eA hi,eB]).symm;have a7:bL sz ps k=(ps.drop (db sz k)).take (szN sz (k+1)):=(dR (by rw [GL,GO];have:=HN.o;omega) λi hi=>by rw [eA hi,eB]).symm;obtain ⟨g5,c5,ds,h4,_⟩:=bd.o.form ao;simp only [GT] at ds;obtain ⟨rfl,ev,rfl⟩:=ds;clear ev;have p0:=sF bd.o (show k<sz.length by omega);have p1:=sF bd.o bb;rw [z0.2.2] at p0;rw [z1.2.2] at p1;rw [T,<-L,T] at a6;rw [T] at a5 a7;have bh:=Rd.own ad.o;obtain ⟨lo,b6⟩:∃lo,bZ sz k=lo:=⟨_,rfl⟩;obtain ⟨r,hr⟩:∃r,szN sz (k+1)=r:=⟨_,rfl⟩;obtain ⟨c0,a2⟩:∃c0,szN sz k=c0:=⟨_,rfl⟩;obtain ⟨B,Z⟩:∃B,r*c0=B:=⟨_,rfl⟩;rw [<-L,T] at a0;rw [b6,hr,a2,Z] at a6 a5 a0;rw [hr,a2,Z] at dc e9;rw [hr] at p1 z1;rw [a2] at p0 z0;rw [b6,hr,a2,Z] at cd a7
   have e0:Rd wr (some ⟨gp,lo,none⟩) (az .i64 (wL sz ps k)):=by
    have:=(bh.drop lo).take B
    rwa [GY,dQ,dz,<-cd] at this
   have cf:(wL sz ps k).length=B:=by rw [tY,hr,a2,Z]
   have cc:=λW (h:ap wr W)=>ER r c0 (some ⟨gp,lo,none⟩) (wL sz ps k) (cp-lo) W ⟨z1.1,z1.2.1⟩ ⟨z0.1,z0.2.1⟩ (cf.trans Z.symm) ao (e0.below h);rw [cf] at cc;obtain ⟨d0,dp,ec,f2,Hr,f5,em,g6⟩:=aj a5 a6 cc b6 hr a2 Z a7;have fr:=f8.o;clear a5 a6 cc T L cd a7 b6 hr a2 Z bh e0 cf;go_wp2_with fail;refine (d0.o _ ax.o ao).mono ?_;rintro e w3 ⟨rfl,dO⟩;have b7:=aa dO;clear dO;go_wp2_with fail;refine (dp.o _ (ax.o.trans (b7.o.mono ax.o.size)) ao).mono ?_;rintro e H ⟨rfl,el⟩;have J:=b7.o.trans (el.mono b7.o.size);have ee:=(J.cell (p:=⟨I.heap.size,1,none⟩) f1).trans x1;have bI:=(J.cell (p:=⟨g5,k,none⟩) (aC p0)).trans p0;have ea:=(J.cell (p:=⟨g5,k+1,none⟩) (aC p1)).trans p1;have fs:I.heap.size<H.heap.size:=by have:=J.size;omega
   have fw:g5<H.heap.size:=aC bI;have Q:=aa J;clear J el b7 x0 x1 x2 x3 xf p0 p1;have gc:(k:Int)+1<sz.length:=ao;have gf:¬(cp=lo):=ao;have gg:lo+B<=cp:=ao;go_wp2_with fail
   go_cut [13,14] (λv _ wx=>∃M A d,v=.pointer (some ⟨M,0,none⟩)/\wx.heap[M]?=some (.cells #[.int .i64 r,.int .i64 c0,.slice A B d] 344 (0,0))/\B<=d/\wx.ownsRow H.heap.size 2 1 (.slice A B d) B (az .i64 (wL sz ps k))/\H.heap.size+2<=wx.heap.size/\
    Below (H.heap.size+2) ((H.alloc (.cells #[.int .i64 lo,.int .i64 ((lo:Int)+B)] 69)).alloc (.cells #[.int .i64 ((lo:Int)+B),.int .i64 ((lo:Int)+B+r)] 69)) wx)
   case first=>
    have y:(λC:N5=>C.cell? ⟨g5,k+1,none⟩=some (.int .i64 r)/\C.cell? ⟨g5,k,none⟩=some (.int .i64 c0)/\C.cell? ⟨I.heap.size,1,none⟩=some (.slice (some ⟨gp,0,none⟩) N cp)/\C.cell? ⟨H.heap.size,0,none⟩=some (.int .i64 lo)/\C.cell? ⟨H.heap.size,1,none⟩=some (.int .i64 ((lo:Int)+B))) ((H.alloc (.cells #[.int .i64 lo,.int .i64 ((lo:Int)+B)] 69)).alloc (.cells #[.int .i64 ((lo:Int)+B),.int .i64 ((lo:Int)+B+r)] 69)).drew:=
     ⟨aF (aF ea _) _,aF (aF bI _) _,aF (aF ee _) _,aF (Ga _ H.heap.size 0 _ _ _ (F4 H _)) _,aF (Ga _ H.heap.size 1 _ _ _ (F4 H _)) _⟩
    have d3:ap wr ((H.alloc (.cells #[.int .i64 lo,.int .i64 ((lo:Int)+B)] 69)).alloc (.cells #[.int .i64 ((lo:Int)+B),.int .i64 ((lo:Int)+B+r)] 69)).drew:=
     (((Q.o.alloc (by have:=Q.o.size;omega) _).alloc (by have:=Q.o.size;simp;omega) _)).drew
    have c6:=aa d3;clear d3;have gG:k<sz.length:=ao;have g7:IntKind.i64.wrap ((k:Int)+1)=(k:Int)+1:=Gd _ ao;have g2:(0:Int)<=(k:Int)+1:=ao;have gz:((k:Int)+1).toNat=k+1:=ao;have g1:((lo:Int)+B).toNat=lo+B:=ao;have gm:(0:Int)<=(lo:Int)+B:=ao;have g0:(lo:Int)+B<=cp:=ao;have gU:(lo:Int)<=(lo:Int)+B:=ao;refine gF 23 (λC:N5=>C.cell? ⟨g5,k+1,none⟩=some (.int .i64 r)/\C.cell? ⟨g5,k,none⟩=some (.int .i64 c0)/\C.cell? ⟨I.heap.size,1,none⟩=some (.slice (some ⟨gp,0,none⟩) N cp)/\C.cell? ⟨H.heap.size,0,none⟩=some (.int .i64 lo)/\C.cell? ⟨H.heap.size,1,none⟩=some (.int .i64 ((lo:Int)+B))) (by kernel_rfl) ?_;refine wX 0 y ?_;refine wX 1 y ?_;refine wX 2 y ?_;refine wX 3 y ?_;refine wX 4 y ?_;refine wX 5 y ?_;refine wX 6 y ?_;refine wX 7 y ?_;refine wX 8 y ?_;refine wX 9 y ?_;refine wX 10 y ?_;refine wX 11 y ?_;refine wX 12 y ?_;refine wX 13 y ?_;refine wX 14 y ?_;refine wX 15 y ?_;refine wX 16 y ?_;refine wX 17 y ?_;simp only [Gq,Gr,Gs,Act.put,Gt,Gu,Gv];refine bK (rs:=[18,22]) (by kernel_rfl) (by simp) ?_;refine aK.cons rfl (λK V=>?_) (aK.cons rfl (λK V=>?_) aK.nil)
    ·simp only [Gq,Gr,Gs];go_simp;refine (ec.o _ c6.o).mono ?_;rintro e w6 ⟨A6,d6,rfl,R,U,D⟩;have b5:=Gg (av D y.1) (Gg (av D y.2.1) (Gg (av D y.2.2.1) (Gg (av D y.2.2.2.1) (av D y.2.2.2.2))));obtain ⟨b1,a4,b2⟩:=ae R U D;clear R U D y;dsimp only;refine V.out _ _ b5 (λy=>?_);clear V K b5;refine wX 19 y ?_;refine wX 20 y ?_;simp only [Gq,Gr,Gs,Act.put,Gt,Gu,Gv];refine wX0 21 y ?_;simp only [Gq,Gr,Gs,Act.put,Gt,Gu,Gv];refine bK (rs:=[22]) (by kernel_rfl) (by simp) ?_;refine aK.cons rfl (λK V=>?_) aK.nil;simp only [Gq,Gr,Gs];go_simp;refine V.out _ _ ⟨aF y.1 _,aF y.2.1 _,aF y.2.2.1 _,aF y.2.2.2.1 _,aF y.2.2.2.2 _⟩ (λy=>?_);clear V K y;refine de (by rfl) (by kernel_rfl) ?_;simp only [GC,GD];go_wp2_with fail;go_meet;have bV:=b2.o.size;simp at bV;refine ⟨w6.heap.size,A6,d6,rfl,F4 w6 _,b1.o,aG (a4.o.alloc _) (by first | omega | (simp;done) | (simp;omega)),(by first | omega | (simp;done) | (simp;omega)),?_⟩;exact (((Gb _ _).drew).trans (b2.o.mono (by first | omega | (simp;done) | (simp;omega)))).alloc (by first | omega | (simp;done) | (simp;omega)) _
    ·simp only [Gq,Gr,Gs];go_simp;refine V.out _ _ ⟨aF y.1 _,aF y.2.1 _,aF y.2.2.1 _,aF y.2.2.2.1 _,aF y.2.2.2.2 _⟩ (λy=>?_);clear V K;refine bK (rs:=[18]) (by kernel_rfl) (by simp) ?_;refine aK.cons rfl (λK V=>?_) aK.nil;simp only [Gq,Gr,Gs];go_simp;refine (ec.o _ (c6.o.alloc c6.o.size _)).mono ?_;rintro e w6 ⟨A6,d6,rfl,R,U,D⟩;have b5:=Gg (av D y.1) (Gg (av D y.2.1) (Gg (av D y.2.2.1) (Gg (av D y.2.2.2.1) (av D y.2.2.2.2))));have b4:=(D.block _ (by simp)).trans (F4 _ _);simp only [Gp,GS] at b4;obtain ⟨⟨m0,m1,m2⟩,mf⟩:=bx3 b4;have gk:=F1 b4;obtain ⟨b1,a4,b2,e8⟩:=af R U D b4;clear R U D y b4;dsimp only;refine V.out _ _ b5 (λy=>?_);clear V K b5;refine wX 19 y ?_;refine wX 20 y ?_;simp only [Gq,Gr,Gs,Act.put,Gt,Gu,Gv];refine wX0 21 y ?_;simp only [Gq,Gr,Gs,Act.put,Gt,Gu,Gv];clear y;refine de (by rfl) (by kernel_rfl) ?_;simp only [GC,GD];go_wp2_with fail;go_meet;have bV:=b2.o.size;simp at bV;have k3:=lW (w:=w6) (b:=H.heap.size+1+1) (.int .i64 r) (.int .i64 c0) (.slice A6 B d6);have gv:=k3.size;refine ⟨H.heap.size+1+1,A6,d6,rfl,pd _ _ _ e8.o,b1.o,aG (k3.own a4.o (λi hi e=>aw e8.o (by decide) a4.o (by rw [hi,e]))) (by first | omega | (simp;done) | (simp;omega)),by first | omega | (simp;omega),?_⟩;exact ((((Gb _ _).drew).alloc (by first | omega | (simp;done) | (simp;omega)) _).trans (b2.o.mono (by first | omega | (simp;done) | (simp;omega)))).trans (k3.toBelow (by first | omega | (simp;done) | (simp;omega)) (λi hi=>by first | omega | (simp;omega)))
   case rest=>
    obtain ⟨M,A6,d6,rfl,hM,R,U,g4,co⟩:=hcut;have dw:ap H ((H.alloc (.cells #[.int .i64 lo,.int .i64 ((lo:Int)+B)] 69)).alloc (.cells #[.int .i64 ((lo:Int)+B),.int .i64 ((lo:Int)+B+r)] 69)):=((Gb _ _).alloc (F3 _) _).alloc (by simp) _
    have bn:((H.alloc (.cells #[.int .i64 lo,.int .i64 ((lo:Int)+B)] 69)).alloc (.cells #[.int .i64 ((lo:Int)+B),.int .i64 ((lo:Int)+B+r)] 69)).heap[H.heap.size+1]?=some (.cells #[.int .i64 ((lo:Int)+B),.int .i64 ((lo:Int)+B+r)] 69 (0,0)):=by
     have:=F4 (H.alloc (.cells #[.int .i64 lo,.int .i64 ((lo:Int)+B)] 69)) (.cells #[.int .i64 ((lo:Int)+B),.int .i64 ((lo:Int)+B+r)] 69);simpa using this
    have c9:=(co.block (H.heap.size+1) ao).trans bn;have cx:ap H wc:=dw.trans (co.mono ao);have a8:=Q.o.trans (cx.mono Q.o.size);have cr:=(a8.block _ (F1 ak.o)).trans ak.o;have bi:=aA cb.o a8;have bl:=aA ad.o a8;have bv:=aA bd.o a8;obtain ⟨⟨n0,n1,n2,n3⟩,nf⟩:=bx4 cr;obtain ⟨⟨m0,m1,m2⟩,mf⟩:=bx3 hM;obtain ⟨⟨t0,t1⟩,tf⟩:=bx2 c9;obtain ⟨d7,cS,e6,Y,ef,dk,fi,a4⟩:=aj c9 a8 cr bi bl bv hM U;have b1:=aa R;clear a8 cr bi bl bv hM U R cx dw bn c9 co ee bI ea;have gl:I.heap.size<wc.heap.size:=F1 e6.o;go_wp2_with fail;have y:(λC:N5=>C.cell? ⟨I.heap.size,3,none⟩=some (.slice Al k cl)/\C.cell? ⟨M,0,none⟩=some (.int .i64 r)/\C.cell? ⟨M,1,none⟩=some (.int .i64 c0)/\C.cell? ⟨M,2,none⟩=some (.slice A6 B d6)/\C.cell? ⟨I.heap.size,1,none⟩=some (.slice (some ⟨gp,0,none⟩) N cp)/\C.cell? ⟨H.heap.size+1,0,none⟩=some (.int .i64 ((lo:Int)+B))/\C.cell? ⟨H.heap.size+1,1,none⟩=some (.int .i64 ((lo:Int)+B+r))) wc.drew:=⟨n3,m0,m1,m2,n1,t0,t1⟩;have gB:¬(cp=lo+B):=ao;have gs:(lo:Int)+B+r<=cp:=ao;have g8:(lo:Int)+B<=(lo:Int)+B+r:=ao;have ga:((lo:Int)+B+r).toNat=lo+B+r:=ao;have gX:((lo:Int)+B).toNat=lo+B:=ao;have h5:(0:Int)<=(lo:Int)+B:=ao;have gJ:(0:Int)<=(lo:Int)+B+r:=ao;refine XA.g 18 (λC:N5=>C.cell? ⟨I.heap.size,3,none⟩=some (.slice Al k cl)/\C.cell? ⟨M,0,none⟩=some (.int .i64 r)/\C.cell? ⟨M,1,none⟩=some (.int .i64 c0)/\C.cell? ⟨M,2,none⟩=some (.slice A6 B d6)/\C.cell? ⟨I.heap.size,1,none⟩=some (.slice (some ⟨gp,0,none⟩) N cp)/\C.cell? ⟨H.heap.size+1,0,none⟩=some (.int .i64 ((lo:Int)+B))/\C.cell? ⟨H.heap.size+1,1,none⟩=some (.int .i64 ((lo:Int)+B+r))) ?_;refine XA.t ?_ [0,1,2,3,4,5,6,7,8,9,10,11,12,13,14,15] y ?_;refine XA.o 16 (λK V=>?_);go_simp;refine V.out _ _ ⟨aF y.1 _,aF y.2.1 _,aF y.2.2.1 _,aF y.2.2.2.1 _,aF y.2.2.2.2.1 _,aF y.2.2.2.2.2.1 _,aF y.2.2.2.2.2.2 _⟩ (λy=>?_);clear V K;refine XA.o 17 (λK V=>?_);refine cZ Cq (.tmp 77) (.tmp 89) rfl rfl I.heap.size (.slice Al k cl) k (List.flatten rows) rfl (bW (Y.o.alloc _) 1) (some ⟨wc.heap.size,0,none⟩) 1 1 [.int .i64 r,.int .i64 c0,.slice A6 B d6,.slice (some ⟨gp,lo+B,none⟩) r (cp-(lo+B))] rfl (gN wc _ _ _ rfl) rfl (by simp [Value.oneCell']) ao (by unfold maxLen;omega) (by simp;omega) ?_;intro A7 c7 w7 dn ej a3 f7;have a3:=kT a3;have b3:=cJ (o:=.cells #[.int .i64 r,.int .i64 c0,.slice A6 B d6,.slice (some ⟨gp,lo+B,none⟩) r (cp-(lo+B))] 348 (0,0)) e6.o (by decide) Y.o a3;have i0:=Ga w7 _ 3 _ _ _ b3;have i1:=Ga w7 _ 1 _ _ _ b3;have i3:=Gh w7 _ 3 _ _ b3;have b8:=cJ (o:=.cells #[.int .i64 r,.int .i64 c0,.slice A6 B d6,.slice (some ⟨gp,lo+B,none⟩) r (cp-(lo+B))] 348 (0,0)) fi.o (by decide) Y.o a3;have bX:=cJ (o:=.cells #[.int .i64 r,.int .i64 c0,.slice A6 B d6,.slice (some ⟨gp,lo+B,none⟩) r (cp-(lo+B))] 348 (0,0)) d7.o (by decide) Y.o a3;have i4:=Ga w7 _ 0 _ _ _ b8;have i5:=Ga w7 _ 1 _ _ _ b8;have i6:=Ga w7 _ 2 _ _ _ b8;have i7:=Ga w7 _ 0 _ _ _ bX;have i8:=Ga w7 _ 1 _ _ _ bX;obtain ⟨dv,c8,er,ew⟩:=af dn b3 a3 ej;clear dn b3 a3 f7 ej b8 bX;dsimp only;refine V.out _ _ ⟨i0,i4,i5,i6,i1,i7,i8⟩ (λy=>?_);clear V K y;refine XA.e ?_;simp only [GC,GD];go_wp2_with fail;have f3:=HE w7 I.heap.size 3 _ _ (.slice A7 (k+1) c7) c8.o;have f4:Keep (λi=>i=I.heap.size) w7 (w7.setCell ⟨I.heap.size,3,none⟩ (.slice A7 (k+1) c7)):=Keep.setCell (S:=λi=>i=I.heap.size) (Keep.refl _ _) ⟨I.heap.size,3,none⟩ (.inr rfl) _;have en:=f4.own dv.o (λi hi e=>aw c8.o (by decide) dv.o (by rw [hi,e]))
    have f6:ap I (w7.setCell ⟨I.heap.size,3,none⟩ (.slice A7 (k+1) c7)):=
     (((HW.o.trans (cS.o.mono HW.o.size)).alloc ao _).drew.trans ew.o).setCell (by simp) _
    have O:∀{b':Nat} {u:Value} {m:Nat} {ys:N4} {e':N6},wc.ownsRow b' e' 1 u m ys->348≠e'->342≠e'->(w7.setCell ⟨I.heap.size,3,none⟩ (.slice A7 (k+1) c7)).ownsRow b' e' 1 u m ys:=λh h1 h2=>sE h Y.o er.o c8.o h1 h2;go_roundw
    case rel=>
     refine ⟨k+1,by omega,by go_num,A7,c7,rows++[[.int .i64 r,.int .i64 c0,.slice A6 B d6,.slice (some ⟨gp,lo+B,none⟩) r (cp-(lo+B))]],?_,?_,by simp [b0.o],?_,?_,?_,O dk.o (by decide) (by decide),f6⟩
     ·rw [HN.o];exact f3
     ·rw [GQ,List.flatten_cons,List.flatten_nil,List.append_nil];exact en
     ·intro x hx;rcases GU.1 hx with hx | hx
      ·exact bG.o x hx
      ·rw [List.mem_singleton.1 hx];rfl
     ·rw [HN.o];exact O ef.o (by decide) (by decide)
     ·intro j hj;rcases Gn j k with bO | bO
      ·obtain ⟨g9,d9,bN,bz,ci⟩:=aM.o j bO;refine ⟨g9,d9,?_,bz,O (aA ci cS.o) (by decide) (by decide)⟩;rw [<-bN];simp [bH,GH (show j<rows.length by rw [b0.o];exact bO)]
      ·obtain rfl:j=k:=ao;obtain ⟨g9,d9,ei,gV,_⟩:=a4.o.form ao;simp only [GT] at ei;obtain ⟨rfl,_,rfl⟩:=ei;have e1:=Hr.o;have e2:=f5.o;have e3:=f2.o;have e4:=em.o;refine ⟨g9,d6,?_,?_,?_⟩
       ·have e5:db sz j=lo+B:=by unfold db;rw [e1,e2,e3,e4]
        rw [e5,e1,e2,e4];have:=b0.o;simp [bH,<-this]
       ·rw [e1,e2,e4];exact b1.o
       ·rw [e1,e2,e4];exact aG (O a4.o (by decide) (by decide)) (by have:=Hb.o.size;omega)
    case measure=>simp [intOf];omega
  ·obtain rfl:k=n:=ao
   have ek:iH 199 342 wr I.heap.size sz ps q:=by
    refine ⟨S,some ⟨gp,0,none⟩,cp,Al,cl,rows,?_,HS.o.below ax.o,Rd.own ad.o,Rd.own cb.o,?_,bG.o,?_⟩
    ·rw [HN.o,Hn.o];exact ak.o
    ·rw [Hn.o];exact b0.o
    ·intro j hj;rw [Hn.o] at hj;obtain ⟨g9,d9,bN,bz,ci⟩:=aM.o j hj;have hR:=HG.o.1;have bb:j+1<sz.length:=by have:=Hn.o;have:=hR.1;omega
     have a0:=Ge (fy sz (show j+1<=k by omega)) (Nat.le_of_eq Hl.o.symm);have L:=fC sz j;have a7:bL sz ps j=(ps.drop (db sz j)).take (szN sz (j+1)):=(dR (by rw [GL,GO];have:=HN.o;omega) λi hi=>by rw [eA hi,eB]).symm;refine ⟨g9,0,d9,some ⟨gp,db sz j,none⟩,cp-db sz j,bN,bz,Rd.own ci,?_⟩;have:=((Rd.own ad.o).drop (db sz j)).take (szN sz (j+1))
     rwa [GY,dQ,dz,<-a7] at this
   have dT:Fl wr w.heap.size I.heap.size ps:=by unfold Fl;rw [HN.o];exact ⟨_,_,_,_,_,ak.o,ad.o,Hb.o.size⟩
   have d5:pr wr w.heap.size I.heap.size S sz ps q:=by
    unfold pr;rw [HN.o,Hn.o];exact ⟨gp,cp,Al,cl,rows,ak.o,Hb.o.size,ad.o,aG cb.o Hb.o.size,b0.o,bG.o,aM.o⟩
   obtain ⟨eX,ey,fc⟩:=ae ek dT d5;clear ek dT d5;go_wp2_with fail;go_ret2;exact ⟨_,rfl,eX.o,ey.o,fc.o,ax.o⟩
theorem oK {S:Nat->Prop} {w i:N5} (hk:Keep S w i):Ext (aW S w) i:=λk hl=>by
 rw [lU] at hl;by_cases h:S k
 ·exact .inl (rx h hl)
 ·exact .inr (by rw [iB h];exact hk.block k hl h)
def cy (i:Inp) (P G:N1) (l:N8):N1:=l.foldl (λa x=>ij a (fQ i.cfg.sizes P i.cfg.shift x.1 x.2)) G
theorem th (i:Inp) (P G:N1) (l:N8) (x:Ex):cy i P G (l++[x])=ij (cy i P G l) (fQ i.cfg.sizes P i.cfg.shift x.1 x.2):=by simp [cy]
def n9 (i:Inp) (x st a:Nat):N1:=kh (cG i.draws i.data.length i.cfg.batch.toNat st) i.cfg.workers.toNat x i.cfg.micros.toNat a
theorem nP {i:Inp} {l:N1} (h:jS i l) (k j:Nat):jS i (cD l k j):=λn hn=>by
 have o:(cD l k j).length<=l.length-bdN l.length k j:=by simp only [cD,GL,GO];omega
 have p:(cD l k j).length<=bdN l.length k (j+1)-bdN l.length k j:=by simp only [cD,GL];omega
 unfold cD;rw [eA ao,eB];exact h _ ao
theorem BH {i:Inp} (h:me i) (x st a:Nat):jS i (n9 i x st a):=nP (nP (vJ h st) _ _) _ _
theorem ym {i:Inp} (o:me i) {l:N1} (h:jS i l) {k:Nat} {e:Ex} (he:(cz i.data l)[k]?=some e):fL (inN i) (yx i) e:=by
 have hk:=(GF.1 he).1;rw [jP] at hk;rw [sC _ _ hk] at he;have p:=h k hk;unfold jh at p;simp only [Option.some.injEq] at he;subst he;have hl:(nth l k).toNat<i.data.length:=ao;simp only [List.getD,GG hl,Option.getD_some];exact o.f _ (List.getElem_mem hl)
theorem yO {H:Nat->Prop} {w:N5} {b x:Nat} {i:Inp} {a:MAd} {m:Mst} (h:aH H w b i x a m) (hs:bj i) (y:Itm) (u v:Value) (hu:u.oneCell'=true) (hv:v.oneCell'=true) (bl:y.st<i.cfg.steps.toNat) (hn:y.n<i.cfg.micros.toNat):Calls prog 212 #[(ar b),.agg (aX y).toArray,.agg #[u,v]] w λe p=>e=.returned (H8 0)/\Keep (λk=>k=a.bg) w p/\
   p.ownsRow 0 2 1 (.slice (some (aq a.bg 0)) i.start.length a.cg) i.start.length (az .i64 (cy i m.P m.G (cz i.data (n9 i x y.st y.n)))):=by
 have V:=hs.g;have hc:=V.c;have a6:bZ i.cfg.sizes (i.cfg.sizes.length-1)=i.start.length:=V.s.symm;have Z:=hc.z.bound (k:=i.cfg.sizes.length-1) (by have:=hc.z.1.1;omega);have hq:0<=i.cfg.shift/\i.cfg.shift<=62:=⟨by have:=hc.s;omega,by have:=hc.s;omega⟩;have cw:b≠a.bg:=λe=>aw h.blk (by decide) h.oG (by rw [e];rfl);have bN:=F1 h.blk;have ak:=(h.oG.lt a.bg rfl).2;have R:=λp (q:Keep (λk=>k=a.bg) w p)=>(q.block b bN cw).trans h.blk;have hx:=λp (q:Keep (λk=>k=a.bg) w p)=>oK (S:=eJ H b a) (q.mono (λk _ e=>.inl (.inr (.inr (.inr (.inl e))))));have b0:=h.wP.1;have a7:m.P.length=bZ i.cfg.sizes (i.cfg.sizes.length-1):=b0.trans a6.symm;have a3:=λp (q:Keep (λk=>k=a.bg) w p)=>sM a.F i.cfg.sizes m.P (some (aq a.bp 0)) a.cp i.cfg.shift p (dB h.sh (hx p q)) hc.z hq a7 (Rd.own (q.own h.oP (λj hj e=>h.dj.2.1 (by cases hj;exact e))));rw [b0] at a3;have eW:((i.cfg.workers.toNat:Nat):Int)=i.cfg.workers:=by have:=hc.w;omega
 have eM:((i.cfg.micros.toNat:Nat):Int)=i.cfg.micros:=by have:=hc.mi;omega
 have D:=λp (q:Keep (λk=>k=a.bg) w p)=>yN a.S i.data.length i.cfg.batch.toNat i.cfg.steps.toNat y.st i.cfg.workers.toNat x i.cfg.micros.toNat y.n i.draws p (fa h.sa (hx p q)) (by have:=hc.ba;have:=hc.w;omega) (by have:=V.b.1;omega) V.b.2 (by have:=hc.st;omega) bl (by have:=hc.w;omega) (by have:=hc.ba;omega) h.xw (by have:=hc.mi;omega) (by have:=hc.mi;omega) hn;rw [eW,eM] at D;have A:=BH V x y.st y.n;obtain ⟨C,I⟩:∃C,n9 i x y.st y.n=C:=⟨_,rfl⟩;rw [I] at A;have O:kh (cG i.draws i.data.length i.cfg.batch.toNat y.st) i.cfg.workers.toNat x i.cfg.micros.toNat y.n=C:=I;rw [O] at D;rw [I]
 have a2:C.length<=1048576:=by
  rw [<-I];have h0:=kp i.draws (n:=i.data.length) (b:=i.cfg.batch.toNat) (t:=y.st) (Nat.div_pos (by have:=V.b.1;omega) (by have:=hc.ba;have:=hc.w;omega));have h1:∀(l:N1) (k j:Nat),(cD l k j).length<=l.length:=λl k j=>by simp only [cD,GL,GO];omega
  have h2:=h1 (cD (cG i.draws i.data.length i.cfg.batch.toNat y.st) i.cfg.workers.toNat x) i.cfg.micros.toNat y.n;have h3:=h1 (cG i.draws i.data.length i.cfg.batch.toNat y.st) i.cfg.workers.toNat x;have:=hc.ba;unfold n9 kh;omega
 have a0:=λp (q:Keep (λk=>k=a.bg) w p) B d (hB:Rd p B (az .i64 C))=>AZ a.ce d a.E B i.data C p (iW cQ h.ex (hx p q)) V.b.2 hB a2;have Q:=λ(k:Nat) (e:Ex) (he:(cz i.data C)[k]?=some e)=>ym V A he;have Y:=jP i.data C;obtain ⟨pl,N⟩:∃pl,cz i.data C=pl:=⟨_,rfl⟩;rw [N] at Y Q;simp only [N] at a0 ⊢;have a1:=λb8 A1 A2 (e:Ex) c1 c2 p (hN:iH 199 342 p b8 i.cfg.sizes m.P i.cfg.shift) (r1:dr p A1 e.1 c1) (r2:dr p A2 e.2 c2) (hf:fL (inN i) (yx i) e)=>DY b8 i.cfg.sizes m.P i.cfg.shift A1 A2 e.1 e.2 c1 c2 p hN hc.z h.wP.2 r1.hr hf.1 r1.hw r2.hr hf.2;have U:=λ(e:Ex) (hf:fL (inN i) (yx i) e)=>zd (sz:=i.cfg.sizes) (ps:=m.P) (q:=i.cfg.shift) (x:=e.1) (y:=e.2) hf.1 (by have:=hc.z.1.1;omega);rw [a6] at a1 U Z;have a5:=λp (q:Keep (λk=>k=a.bg) w p)=>dB h.sh (hx p q);obtain ⟨K,hK⟩:∃K,C.length=K:=⟨_,rfl⟩;rw [hK] at D a2 a0 Y;unfold jS at A;rw [hK] at A;have t0:∀p,Keep (λk=>k=a.bg) w p->p.cell? (aq b 0)=some (H8 (x:Nat)):=λp q=>Ga p b 0 _ _ _ (R p q);have t1:∀p,Keep (λk=>k=a.bg) w p->p.cell? (aq b 1)=some (H8 i.cfg.workers):=λp q=>Ga p b 1 _ _ _ (R p q);have t2:∀p,Keep (λk=>k=a.bg) w p->p.cell? (aq b 2)=some (H8 i.cfg.micros):=λp q=>Ga p b 2 _ _ _ (R p q);have t3:∀p,Keep (λk=>k=a.bg) w p->p.cell? (aq b 3)=some ((ar a.F)):=λp q=>Ga p b 3 _ _ _ (R p q);have t4:∀p,Keep (λk=>k=a.bg) w p->p.cell? (aq b 4)=some (.slice a.E i.data.length a.ce):=λp q=>Ga p b 4 _ _ _ (R p q);have t5:∀p,Keep (λk=>k=a.bg) w p->p.cell? (aq b 5)=some ((ar a.S)):=λp q=>Ga p b 5 _ _ _ (R p q);have cf:∀p,Keep (λk=>k=a.bg) w p->p.cell? (aq b 10)=some (H8 i.cfg.shift):=λp q=>Ga p b 10 _ _ _ (R p q);have bh:∀p,Keep (λk=>k=a.bg) w p->p.cell? (aq b 11)=some (.slice (some (aq a.bp 0)) i.start.length a.cp):=λp q=>Ga p b 11 _ _ _ (R p q);have c7:∀p,Keep (λk=>k=a.bg) w p->p.cell? (aq b 13)=some (.slice (some (aq a.bg 0)) i.start.length a.cg):=λp q=>Ga p b 13 _ _ _ (R p q);have tl:=λp (q:Keep (λk=>k=a.bg) w p)=>Gf bN q.size;obtain ⟨n,bs⟩:∃n,i.start.length=n:=⟨_,rfl⟩;have oG:=h.oG;rw [bs] at a3 a1 U Z bh c7 oG ⊢;obtain ⟨W0,W1,bz,bw,g0,g1,b5, -⟩:=gq w (aX y).toArray #[u,v] 135 324;have q1:Keep (λk=>k=a.bg) w W1:=Keep.below b5;have s1:∀p,ap W1 p->p.cell? (aq w.heap.size 1)=some (H8 (y.st:Nat)):=λp q=>Ga p w.heap.size 1 _ _ _ (sb g0 p q);have s2:∀p,ap W1 p->p.cell? (aq w.heap.size 2)=some (H8 (y.n:Nat)):=λp q=>Ga p w.heap.size 2 _ _ _ (sb g0 p q);have d3:=sl g0;obtain ⟨K1,d0,cA,bO,bd,cx,bv,c9⟩:=aj b5 bz bw a3 D a0 Q a1;obtain ⟨c6,HG,cl,OG,Hz,cn,a8,dc⟩:=aj U A a5 oG hc.z a7 Y R;obtain ⟨cc,cv⟩:=ab Z a2;clear bz bw g0 g1 b5 R hx b0 a7 a3 D a0 Q a1 U A a5 oG Y Z a2 eW eM I O N hK bs hc a6 hq bl hn h V hs;go_enter func212,ntmps212;go_wp2_with fail;rw [d0.o,cA.o];have b1:=(br W1).drew;refine HA.g (λp:N5=>Keep (λk=>k=a.bg) w p/\ap W1 p) ?_;refine HA.t ?_ [0,1,2,3,4,5,6,7,8,9,10,11,12,13,14,15] ⟨q1.drew,b1⟩ ?_;refine HA.c 16 (bO.o _ q1.drew) ?_;rintro e w2 ⟨nb,rfl, -, -,bI,k2⟩;have q2:=q1.drew.trans (Keep.below (S:=λk=>k=a.bg) k2);have b2:=b1.trans (k2.mono b1.size);refine ⟨_,rfl,⟨q2,b2⟩,λ_=>?_⟩;refine HA.t ?_ [17,18,19,20,21] ⟨q2,b2⟩ ?_;refine HA.d ?_;have NO:=aa bI;have bV:a.bg<w2.heap.size:=Gf ak q2.size;have ad:w.heap.size<=W1.drew.heap.size:=q1.drew.size;clear bI k2 q1 b1;go_wp2_with fail;refine HA.g (λp:N5=>Keep (λk=>k=a.bg) w p/\ap W1 p) ?_;refine HA.t ?_ [0,1,2,3,4,5,6,7,8,9,10,11,12,13,14,15,16,17,18,19,20,21,22,23,24,25,26,27,28] ⟨q2.drew,b2.drew⟩ ?_;refine HA.c 29 (bd.o _ q2.drew) ?_;rintro e w3 ⟨B,d,rfl,hd,rB,k3⟩;have q3:=q2.drew.trans (Keep.below (S:=λk=>k=a.bg) k3);have b3:=b2.drew.trans (k3.mono b2.drew.size);have aM:ap w2 w3:=(br w2).drew.trans k3;refine ⟨_,rfl,⟨q3,b3⟩,λ_=>?_⟩;refine HA.c 30 (cx.o w3 q3 B d rB) ?_;rintro e w4 ⟨k4,bA⟩;rcases bA with ⟨-,A',c',rfl,bb⟩ | ⟨cb, -⟩
 rotate_left
 ·exact absurd HG.o cb
 have q4:=q3.trans (Keep.below (S:=λk=>k=a.bg) k4);have b4:=b3.trans (k4.mono b3.size);refine ⟨_,rfl,⟨q4,b4⟩,λ_=>?_⟩;refine HA.t ?_ [31,32,33,34,35] ⟨q4,b4⟩ ?_;refine HA.d ?_;obtain ⟨cj,M4,Q4,c8⟩:=af ((NO.o.below aM).below k4) bb q4 (aA OG.o (K1.o.trans (b4.mono K1.o.size)));have ci:a.bg<w3.heap.size:=Gf bV aM.size;have d2:a.bg<W1.drew.heap.size:=Gf ak ad;clear q2 q3 q4 b2 b3 b4 aM k3 k4 bb rB hd s1 s2 d3 t0 t1 t2 t3 t4 t5 cf bh;go_wp2_with fail
 go_loopw [71] (λz wr=>∃k:Nat,k<=K/\z=H8 k/\wr.ownsRow 0 2 1 (.slice (some (aq a.bg 0)) n a.cg) n (az .i64 (cy i m.P m.G (pl.take k)))/\Keep (λk=>k=a.bg) w4 wr) (λz _=>K-(intOf z).toNat)
 ·exact ⟨0,Gc _,rfl,c8.o,Keep.refl _ _⟩
 case round=>
  obtain ⟨k,hk,rfl,og,qk⟩:=hrel;have qw:=Q4.o.trans qk;by_cases d7:k<K
  ·have cd:(k:Int)<K:=ao;have d8:¬(k:Int)<0:=ao;have d6:IntKind.i64.wrap ((k:Int)+1)=((k+1:Nat):Int):=by have:=cv.o;rw [Gd _ ao];push_cast;rfl
   obtain ⟨e,he⟩:∃e,pl[k]?=some e:=⟨_,GG (by have:=a8.o;omega)⟩;have hf:=bv.o k e he;have bn:=(M4.o.keep qk (λj hj=>by rw [hj];exact ci)).rd a8.o;obtain ⟨eb,eo,A1,c1,A2,c2,rfl,d9,p1,p2,r1,r2⟩:=iC bn he;have bX:=(br wr).alloc (F3 _) (.cells #[.slice A1 e.1.length c1,.slice A2 e.2.length c2] 145);have a4:=((cj.o.keep qk (λj hj=>by rw [hj];exact d2)).at (cl.o wr qw) Hz.o cn.o).below bX;have L:=c9.o nb A1 A2 e c1 c2 _ a4 (r1.below bX) (r2.below bX) hf;have aP:=c6.o e hf;have bG:pl.take (k+1)=pl.take k++[e]:=by rw [List.take_add_one,he];rfl
   obtain ⟨gv,J⟩:∃gv,fQ i.cfg.sizes m.P i.cfg.shift e.1 e.2=gv:=⟨_,rfl⟩;obtain ⟨n1,b6⟩:∃n1,e.1.length=n1:=⟨_,rfl⟩;obtain ⟨n2,bM⟩:∃n2,e.2.length=n2:=⟨_,rfl⟩;rw [J] at aP L;rw [b6] at bX L p1;rw [bM] at bX L p2;obtain ⟨cr,BX,ax,cS,cs,bo,QK,QW⟩:=aj L bX og aP bG J qk qw;clear L bX og aP bG J qk a4 bn r1 r2 hf he b6 bM;go_wp2_with fail;refine cr.o.mono ?_;rintro e' w6 ⟨A3,c3,rfl,o3,k6⟩;have T:=BX.o.trans (k6.mono BX.o.size);have q6:=QW.o.trans (Keep.below (S:=λk=>k=a.bg) T);have d4:a.bg<wr.heap.size:=Gf ak QW.o.size
   have bi:=rG 0 (some (aq a.bg 0)) A3 (cy i m.P m.G (pl.take k)) gv n a.cg c3 w6 (aA ax.o T) (Rd.own o3) cS.o (by have:=cc.o;omega) (λz1 z2 e1 e2=>by
    cases e1
    have:=(o3.lt z2.block (by rw [e2];rfl)).1;have h2:=BX.o.size;dsimp only
    omega)
   obtain ⟨co,d1⟩:=ab bi T;clear bi T o3 k6 p1 p2 qw;go_wp2_with fail;refine co.o.mono ?_;rintro d5 w7 ⟨rfl,o7,k7⟩;have b7:Keep (λk=>k=a.bg) w4 w7:=(QK.o.trans (Keep.below d1.o)).trans (k7.mono λj _ hj=>by cases hj;rfl);rw [<-bo.o,<-th,<-cs.o] at o7;obtain ⟨O7,K7⟩:=ab o7 b7;clear o7 k7 b7 q6;go_wp2_with fail;go_roundw
   ·exact ⟨k+1,by omega,by go_num,O7.o,K7.o⟩
   ·simp [intOf];omega
  ·obtain rfl:k=K:=ao;have cd:¬(k:Int)<k:=ao;rw [List.take_of_length_le (by have:=a8.o;omega)] at og;obtain ⟨ax,QW⟩:=ab og qw;clear og qk qw;go_wp2_with fail;go_ret;exact ⟨rfl,QW.o,ax.o⟩
end Go.Proofs.YtindmkcnjlgomaaGreat
