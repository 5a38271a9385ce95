/- No condition. -/
import Derived.Test.YtgmajkppbhiopaaGreatQ14
set_option linter.unusedSimpArgs false
set_option linter.unusedVariables false
set_option maxRecDepth 100000
set_option maxHeartbeats 4000000
namespace Go.Proofs.YtgmajkppbhiopaaGreat
open Go.RowKit
open Tryz
theorem RWv.ext {u o:Qd} {vs:Qb} {n:Nat} {mv i:Nat->Qb} {cnt:Nat} (h:RWv u vs n mv i cnt) (hb:Ext u o):RWv o vs n mv i cnt:=by
 obtain ⟨⟨B,cm,p,v,h1,y,D,A⟩,C,x⟩:=h;exact ⟨⟨B,cm,p,v,h1,aQ y hb,aQ D hb,A⟩,C,x⟩
structure RWm (u:Qd) (vs:Qb) (i:Inp) (M:WSt):Prop where
 ex:∃mv lv,RWv u vs (az i).W mv lv (M.sum i)/\(∀x,x<(az i).W->fG u (mv x) i x (M.m x))/\∀x,x<(az i).W->RL u (lv x) (M.s x)
 al:lC i M
theorem RWm.ext {u p:Qd} {vs:Qb} {i:Inp} {M:WSt} (h:RWm u vs i M) (hb:Ext u p):RWm p vs i M:=by
 obtain ⟨⟨mv,A,h1,v,B⟩,y⟩:=h;exact ⟨⟨mv,A,h1.ext hb,λx o=>jJ (v x o) hb,λx o=>ka (B x o) hb⟩,y⟩
theorem RWm.sz {u:Qd} {vs:Qb} {i:Inp} {M:WSt} (h:RWm u vs i M):vs.size=3/\vs.toList.all (·.oneCell')=true:=by
 obtain ⟨⟨mv,x,⟨⟨v,cm,o,p,rfl, -⟩, -, -⟩, -, -⟩, -⟩:=h;exact ⟨rfl,rfl⟩
theorem Mc {i:Inp} {M:WSt} {x:Nat} (h:x<(az i).W):pkZ i M x=pkF i M x:=by
 unfold pkZ;rw [if_pos ⟨by omega,by omega⟩,Int.toNat_natCast]
theorem KH {i:Inp} {M:WSt} {z:Int} (h:¬(0<=z/\z<((az i).W:Int))):pkZ i M z=(M,false):=by
 unfold pkZ;rw [if_neg h]
theorem lC.msgs_le {i:Inp} {M:WSt} (h:lC i M) (hs:cq i) {x:Nat} (o:x<(az i).W):(M.s x).msgs.length<=1000000000:=by
 have h1:=h.ok.sn x o;have C:sN i x (M.pos i x)<=M.pos i x:=LH i x _;have A:M.pos i x<=M.sum i:=CF o;have B:=h.sum_le hs;have u:=vX hs.ok;have p:=vW hs.ok;have y:=hs.s;have v:xC (az i)*i.cfg.steps.toNat<=810000*6:=Nat.mul_le_mul p ap;omega
theorem lC.sum_lt {i:Inp} {M:WSt} (h:lC i M) (hs:cq i):M.sum i<=1000000000:=by
 have x:=h.sum_le hs;have p:=vX hs.ok;have o:=vW hs.ok;have v:=hs.s;have u:xC (az i)*i.cfg.steps.toNat<=810000*6:=Nat.mul_le_mul o ap;omega
theorem At {S:Nat->Prop} {w:Qd} {vs:Qb} {i:Inp} {M:WSt} (hs:cq i) (hS:∀k,S k->k<w.heap.size) (h:RWm (aF S w) vs i M) (z:Int):Calls prog 16 #[.agg vs,OH z] w (JV (λu vs M=>RWm u vs i M) S (pkZ i M z).1 (pkZ i M z).2 w):=by
 have H:=h.sz;have ao:=hs.ok.W8;obtain ⟨⟨mv,lv,h1,h2,N⟩,D⟩:=h;have Z:=h1.ext (er S w);by_cases T:0<=z/\z<((az i).W:Int);rotate_left
 .rw [KH T];refine (DN Z ap).mono ?_;rintro e o ⟨rfl,hb⟩;exact ⟨vs,rfl,H.1,H.2,(⟨⟨mv,lv,h1,h2,N⟩,D⟩:RWm (aF S w) vs i M).ext (dm hb),hb⟩
 obtain ⟨x,rfl⟩:∃x:Nat,z=x:=⟨z.toNat,by omega⟩;have A:x<(az i).W:=ap;have hp:pvW (az i).W x<(az i).W:=mt ap;rw [Mc A];obtain ⟨C,a6,hb⟩:=qF D hs A;obtain ⟨hA, -,Y,a0⟩:=If D hs A;obtain ⟨m1,s1,t1,U,Q⟩:=a6
 have a9:=λo (q:aq w o) (hl:w.heap.size+6<=o.heap.size)=>by
  have he:Ext (aF S w) (aF (λk=>S k\/(w.heap.size<=k/\k<w.heap.size+6)) o):=aX (Keep.below q) (λk hk e=>e.elim id (λe=>absurd hk ap));exact CA (S:=(λk=>S k\/(w.heap.size<=k/\k<w.heap.size+6))) (w:=o) (λk e=>e.elim (λe=>by have:=hS k e;omega) (λe=>ap)) (jJ (h2 x A) he) (ka (N _ hp) he) (ka (N x A) he) hs (D.ok.mok x A) (D.ok.msgI A) (D.ok.lok x A).2.1 (by have:=D.msgs_le hs hp;omega) (by have:=D.msgs_le hs A;omega) A U
 refine (GC (S:=S) (R:=λm u v o=>fG (aF (λk=>S k\/(w.heap.size<=k/\k<w.heap.size+6)) o) m i x m1/\RL (aF (λk=>S k\/(w.heap.size<=k/\k<w.heap.size+6)) o) u s1/\RL (aF (λk=>S k\/(w.heap.size<=k/\k<w.heap.size+6)) o) v t1) (C:=(C:Nat)) (p:=pvW (az i).W x) hS Z A ap rfl (D.sum_lt hs) (λo hl q=>(a9 o q hl).mono ?_) (λm u v w1 w2 hr k=>?_)).mono ?_
 .rintro e ad ⟨v1,v2,v3,he,z1,o1,r1,⟨B2,c2,rfl,r2⟩,⟨B3,c3,rfl,r3⟩,a8⟩;exact ⟨v1,_,_,he,⟨z1,rfl,rfl⟩,⟨o1,rfl,rfl⟩,⟨r1,⟨B2,c2,rfl,r2⟩,⟨B3,c3,rfl,r3⟩⟩,a8⟩
 .have he:Ext (aF (λk=>S k\/(w.heap.size<=k/\k<w.heap.size+6)) w1) (aF (λk=>S k\/(w.heap.size<=k/\k<w.heap.size+6)) w2):=aX (k.mono λj _ e=>.inr e) (λ_ _ e=>e);exact ⟨jJ hr.1 he,ka hr.2.1 he,ka hr.2.2 he⟩
 .rintro e o (⟨hC,he,B⟩ | ⟨hC,a1,a2,a3,V,he,hv,hr,B⟩)
  .have hf:(pkF i M x).2=false:=by rw [hb];simp;omega
   rw [hf,a0 hf];exact ⟨vs,he,H.1,H.2,(⟨⟨mv,lv,h1,h2,N⟩,D⟩:RWm (aF S w) vs i M).ext (dm B),B⟩
  .have a4:C=0:=ap;have ht:(pkF i M x).2=true:=by rw [hb];simp [a4]
   rw [ht];have O:=(Y ht).2.2;have L:Ext (aF (λk=>S k\/(w.heap.size<=k/\k<w.heap.size+6)) o) (aF S o):=aX (Keep.refl _ _) (λk _ e=>.inl e);have J:Ext (aF S w) (aF S o):=dm B
   have I:RWm (aF S o) V i (pkF i M x).1:=by
    refine ⟨⟨_,_,by rw [O];exact hv,λy hy=>?_,λy hy=>?_⟩,hA⟩
    .rw [Q]
     show fG _ (bC mv x a1 y) i y (bC M.m x m1 y)
     by_cases e:y=x
     .subst e;rw [bK,bK];exact jJ hr.1 L
     .rw [bF _ _ e,bF _ _ e];exact jJ (h2 y hy) J
    .rw [Q]
     show RL _ ((if 1<(az i).W then bC (bC lv (pvW (az i).W x) a2) x a3 else lv) y) (bC (bC M.s (pvW (az i).W x) s1) x t1 y)
     by_cases hW:1<(az i).W
     .rw [if_pos hW];by_cases e:y=x
      .subst e;rw [bK,bK];exact ka hr.2.2 L
      .rw [bF _ _ e,bF _ _ e];by_cases e2:y=pvW (az i).W x
       .rw [e2,bK,bK];exact ka hr.2.1 L
       .rw [bF _ _ e2,bF _ _ e2];exact ka (N y hy) J
     .rw [if_neg hW];have a5:y=x:=ap;have ab:=Ir A ap;subst a5;rw [bK]
      have a7:t1=M.s y:=by
       cases U with
       | own=>rfl
       | fin=>rfl
       | full=>rfl
       | none=>rfl
       | other=>rfl
       | send z ac T ha=>exact (je ap T ha).elim
       | recv z ac T ha=>exact (je ap T ha).elim
      rw [a7];exact ka (N y hy) J
   exact ⟨V,he,I.sz.1,I.sz.2,I,B⟩
theorem LX {w:Qd} {vs:Qb} {i:Inp} {M:WSt} (hs:cq i) (h:RWm w vs i M) {B:Bool} (hB:B=true↔M.fin i):Calls prog 33 #[.agg vs] w λe u=>e=.returned (.bool B)/\aq w u:=by
 have H:=hs.ok.W8;obtain ⟨⟨mv,lv,h1,v,V⟩,C⟩:=h;refine D3 (dn:=λx=>M.pos i x) (il:=λx=>(dq i x).length) h1 ap (λx o=>?_) ?_
 .obtain ⟨A,c,D,Q,T,ct,R,N,J,Y,I,L,O,U,SA,Z,IA,ic,y, -⟩:=v x o;rw [y];exact ⟨IA,ic,rfl,rfl⟩
 .rw [hB];constructor
  .intro p x o;exact Nat.le_of_eq (p x o).symm
  .intro p x o;have:=p x o;have:=C.pos_le hs o;omega
theorem Gs {S:Nat->Prop} {w:Qd} (A:N_) (c:Nat) (D:N_) (C:Nat) (T:N_) (y:Nat) (R:N_) (B:Nat) (i:Inp) (L:∀k,S k->k<w.heap.size) (h:fY w A c D T y R i) (hI:∀o,aq w o->fY (aF S o) A c D T y R i) (hs:cq i):Calls prog 14 #[.agg (aN A c D C T y R B i)] w λe o=>∃p:Qb,e=.returned (.tuple #[.agg p,OH 0])/\p.size=3/\p.toList.all (·.oneCell')=true/\RWm (aF S o) p i (gW i)/\aq w o:=by
 have hg:=hs.g.c;have V:=hg.w;have Q:=hg.ca;have Y:((az i).W:Int)=i.cfg.workers:=by simp only [az];omega
 have U:((i.cfg.cap.toNat:Nat):Int)=i.cfg.cap:=ap;have a1:=hs.ok.W8;have v:=λo (q:aq w o)=>gD A c D C T y R B i o (h.below q);have H:=λ(x:Nat) o (q:aq w o) (J:x<(az i).W)=>AH A c D C T y R B i x o (h.below q) hs J;have hv:aN A c D C T y R B i=#[.slice A i.cfg.sizes.length c,OH i.cfg.shift,OH i.cfg.rate,OH i.cfg.mom,OH ((az i).W:Nat),OH i.cfg.batch,OH i.cfg.micros,OH i.cfg.steps,OH i.cfg.bucket,OH i.cfg.chunk,OH i.cfg.window,OH (i.cfg.cap.toNat:Nat),.slice D i.data.length C,.slice T i.start.length y,.slice R i.draws.length B]:=by rw [Y,U]
 rw [qd.2 hs.g] at v;rw [hv] at v H |-;refine (GF (S:=S) (Rm:=λx m o=>fG (aF S o) m i x (fO i)) (N:=(az i).W) (cap:=i.cfg.cap.toNat) L ap ap v (λk o hk q=>(H k o q hk).mono ?_)).mono ?_
 .rintro e a0 ⟨m,rfl,Z,ho,hb,hr⟩;refine ⟨m,rfl,⟨Z,ho⟩,hb,λO q2 k2=>hr _ (fj k2 (EW S O) λj _ e=>by have:=L j e;have:=q.size;omega) (hI O q2)⟩
 .rintro e o ⟨p,mv,rfl,I,hm,hb⟩;have u:RWm (aF S o) p i (gW i):=⟨⟨mv,_,by rw [xF];exact I,hm,λx J=>⟨none,0,rfl,fM.nil _ _ none,NF _⟩⟩,lC.zero hs⟩;exact ⟨p,rfl,u.sz.1,u.sz.2,u,hb⟩
def onL (ok:Nat->Bool) (n:Nat):Qa:=((List.range n).filter ok).map λk:Nat=>(k:Int)
theorem pW (ok:Nat->Bool) (n:Nat):onL ok (n+1)=onL ok n++if ok n then [(n:Int)] else []:=by
 unfold onL;rw [Ow,List.filter_append,List.map_append]
 cases h:ok n<;>simp [h]
theorem wW (ok:Nat->Bool) (n:Nat):(onL ok n).length<=n:=by
 unfold onL;rw [List.length_map];exact NN (List.length_filter_le _ _) (by simp)
theorem vZ {X n cw:Nat} {AW:N_} {v1 v2:Value} {bb:Nat->Nat} {la lb:Nat->Value} {ok:Nat->Bool} {w:Qd} (hb:w.heap[X]?=some (.cells #[.slice AW n cw,v1,v2] 96 (0,0))) (hn:n<=1000) (B:∀k h,k<n->aq w h->Calls prog 47 #[(au X),OH (k:Nat)] h λe i=>e=.returned (.tuple #[.iface 97 (.pointer (some ⟨bb k,0,none⟩)),la k,lb k,.bool true])/\aq h i) (C:∀k h,k<n->aq w h->Calls prog 217 #[.pointer (some ⟨bb k,0,none⟩),la k,lb k] h λe i=>e=.returned (.bool (ok k))/\aq h i):Calls prog 30 #[(au X)] w λe h=>∃v,e=.returned v/\h.ownsRow w.heap.size 3 1 v (onL ok n).length (aA .i64 (onL ok n))/\aq w h:=by
 have t:=λh q=>bx3 (sb hb h q);have hm:∀(b:Nat) (w:Qd),(method 496 97 ((au b)) "Enabled").run prog w=.ok (217,(au b)) w:=λ_ _=>by kernel_rfl
 obtain ⟨H,L,HM,T⟩:=ag B C hm t;have q0:=br w;clear hb B C hm;go_enter func30,ntmps30;go_wp2_with fail;clear t
 go_loopw [3,16] (λv u wr=>∃k:Nat,k<=n/\u=OH k/\wr.ownsRow w.heap.size 3 1 v (onL ok k).length (aA .i64 (onL ok k))/\aq w wr) (λ_ u _=>n-(intOf u).toNat)
 .exact ⟨0,NJ _,rfl,NV ..,q0⟩
 case round=>
  obtain ⟨k,hk,rfl,O,q⟩:=hrel;obtain ⟨A,c,e,hc⟩:=aC O;subst e;obtain ⟨HO,I⟩:=ae O q;have Y:=wW ok k;clear O;by_cases x:k<n
  .have a0:(k:Int)<n:=ap;have c1:=H.o k wr x q;have C1:=aa c1;clear c1 q;go_wp2_with fail;refine C1.o.mono ?_;rintro e w1 ⟨rfl,D⟩;have J:=I.o.trans (D.mono I.o.size);obtain ⟨O1,Q1⟩:=ae (ay HO.o D) J;have c2:=L.o k w1 x J;have C2:=aa c2;have Q:=HM.o (bb k);clear c2 D J;go_wp2_with fail;refine C2.o.mono ?_;rintro e w2 ⟨rfl,U⟩;obtain ⟨V,Z⟩:=ae (Q1.o.trans (U.mono Q1.o.size)) (ay O1.o U);clear U Q
   cases hok:ok k with
   | true=>
    have R:=aa hok;have N:=V.o.size;clear hok;go_wp2_with (at_builtin;refine aW fQ _ rfl (.tmp 31) (.tmp 33) rfl w.heap.size (.slice A (onL ok k).length c) (onL ok k).length _ rfl Z.o [OH (k:Nat)] rfl rfl (by simp [Value.oneCell']) ap (by unfold maxLen;omega) N ?_);intro g c3 w3 o3 b3 _;have p:onL ok (k+1)=onL ok k++[(k:Int)]:=by rw [pW,R.o];rfl
    have y:w3.ownsRow w.heap.size 3 1 (.slice (some (ar g 0)) ((onL ok k).length+1) c3) (onL ok (k+1)).length (aA .i64 (onL ok (k+1))):=by
     have e4:(onL ok (k+1)).length=(onL ok k).length+1:=by rw [p];simp
     have e5:aA .i64 (onL ok (k+1))=aA .i64 (onL ok k)++[OH (k:Nat)]:=by rw [p];simp [aA]
     rw [e4,e5];exact o3
    obtain ⟨O3,Q3⟩:=ae y (V.o.trans b3);clear o3 b3 y p;go_wp2_with fail;go_roundw
    .exact ⟨k+1,by omega,by go_num,O3.o,Q3.o⟩
    .simp [intOf];omega
   | false=>
    have R:=aa hok;have p:onL ok (k+1)=onL ok k:=by rw [pW,R.o];simp
    have E3:=aa p;clear hok p;go_wp2_with fail;go_roundw
    .exact ⟨k+1,by omega,by go_num,by rw [E3.o];exact Z.o,V.o⟩
    .simp [intOf];omega
  .obtain rfl:k=n:=ap;have a1:¬((k:Int)<k):=ap;clear q;go_wp2_with fail;go_ret;exact ⟨_,rfl,HO.o,I.o⟩
theorem Dv {X:Value} {z b:Nat} {la lb:Value} {R:Ending->Qd->Prop} {w:Qd} (p:Calls prog 47 #[X,OH (z:Nat)] w λe h=>e=.returned (.tuple #[.iface 97 ((au b)),la,lb,.bool true])/\aq w h) (i:∀x,aq w x->Calls prog 219 #[(au b)] x λe h=>(∃v,e=.returned v)/\R e h):Calls prog 34 #[X,OH (z:Nat)] w R:=by
 have hm:∀(w:Qd),(method 496 97 ((au b)) "Open").run prog w=.ok (219,(au b)) w:=λ_=>by kernel_rfl
 obtain ⟨u,B⟩:=ae p i;clear p i;go_enter func34,ntmps34;go_wp2_with fail;refine u.o.mono ?_;rintro e A ⟨rfl,y⟩;have C:=aa (B.o A y);clear y;go_wp2_with fail;refine C.o.mono ?_;rintro e H ⟨⟨v,rfl⟩,hr⟩;have D:=aa hr;clear hr;go_wp2_with fail;exact D.o
theorem Dr {X:Value} {z b:Nat} {la lb:Value} {R:Ending->Qd->Prop} {w:Qd} (p:Calls prog 47 #[X,OH (z:Nat)] w λe h=>e=.returned (.tuple #[.iface 97 ((au b)),la,lb,.bool true])/\aq w h) (i:∀x,aq w x->Calls prog 220 #[(au b)] x λe h=>(∃v,e=.returned v)/\R e h):Calls prog 26 #[X,OH (z:Nat)] w R:=by
 have hm:∀(w:Qd),(method 496 97 ((au b)) "Trajectory").run prog w=.ok (220,(au b)) w:=λ_=>by kernel_rfl
 obtain ⟨u,B⟩:=ae p i;clear p i;go_enter func26,ntmps26;go_wp2_with fail;refine u.o.mono ?_;rintro e A ⟨rfl,y⟩;have C:=aa (B.o A y);clear y;go_wp2_with fail;refine C.o.mono ?_;rintro e H ⟨⟨v,rfl⟩,hr⟩;have D:=aa hr;clear hr;go_wp2_with fail;exact D.o
theorem Dx {X:Value} {z b l pk:Nat} {la:Value} {R:Value->Qd->Prop} {w:Qd} (x:Calls prog 47 #[X,OH (z:Nat)] w λe h=>e=.returned (.tuple #[.iface 97 ((au b)),la,(au l),.bool true])/\aq w h) (i:∀p,aq w p->Calls prog 69 #[(au l)] p λe h=>∃v,e=.returned v/\R v h) (u:∀v p,R v p->Calls prog 70 #[(au l)] p λe h=>e=.returned (OH (pk:Nat))/\R v h):Calls prog 35 #[X,OH (z:Nat)] w λe p=>∃v,e=.returned (.tuple #[v,OH (pk:Nat)])/\R v p:=by
 obtain ⟨A,H,L⟩:=af x i u;clear x i u;go_enter func35,ntmps35;go_wp2_with fail;refine A.o.mono ?_;rintro e D ⟨rfl,B⟩;have C:=aa (H.o D B);clear B;go_wp2_with fail;refine C.o.mono ?_;rintro e J ⟨v,rfl,hr⟩;have I:=aa hr;clear hr;go_wp2_with fail;refine (L.o v J I.o).mono ?_;rintro e N ⟨rfl,hr⟩;have y:=aa hr;clear hr;go_wp2_with fail;go_ret2;exact ⟨v,rfl,y.o⟩
theorem wJ {w:Qd} {n cnt:Nat} {AM N:N_} {cm U:Nat} {C:Nat->Int} (hn:n<=1000) (ht:∀k y,k<n->aq w y->Calls prog 48 #[.agg #[.slice AM n cm,.slice N n U,OH (cnt:Nat)],OH (k:Nat)] y (LB (λ_ _ _ _=>True) (C k) y)):Calls prog 50 #[.agg #[.slice AM n cm,.slice N n U,OH (cnt:Nat)]] w λe y=>∃v,e=.returned v/\y.ownsRow w.heap.size 3 1 v (onL (λk=>decide (C k=0)) n).length (aA .i64 (onL (λk=>decide (C k=0)) n))/\aq w y:=by
 obtain ⟨ok,I⟩:∃ok:Nat->Bool,ok=λk=>decide (C k=0):=⟨_,rfl⟩;rw [<-I];have V:∀k,ok k=decide (C k=0):=λk=>by rw [I]
 clear I;obtain ⟨i,x⟩:∃i,w.alloc (.cells #[.slice AM n cm,.slice N n U,OH (cnt:Nat)] 39)=i:=⟨_,rfl⟩;have g0:i.heap[w.heap.size]?=some (.cells #[.slice AM n cm,.slice N n U,OH (cnt:Nat)] 39 (0,0)):=by rw [<-x];exact NG w _
 have q0:aq w i:=by rw [<-x];exact (br w).alloc (NF _) _
 have t0:=λy q=>bx3 (sb g0 y q);have tl:=sl g0;have q:=br i;obtain ⟨Ht,T,a4,G0,Q0⟩:=ah ht V x g0 q0;clear ht V x g0 q0;go_enter func50,ntmps50;go_wp2_with fail;rw [a4.o]
 go_loopw [3,4] (λv u wr=>∃k:Nat,k<=n/\u=OH k/\wr.ownsRow i.heap.size 3 1 v (onL ok k).length (aA .i64 (onL ok k))/\aq i wr) (λ_ u _=>n-(intOf u).toNat)
 .exact ⟨0,NJ _,rfl,NV ..,q⟩
 case round=>
  clear q;obtain ⟨k,hk,rfl,ho,q⟩:=hrel;obtain ⟨A,c,e,hc⟩:=aC ho;subst e;obtain ⟨HO,Q⟩:=ae ho q;have a6:=wW ok k;clear ho;by_cases a0:k<n
  .have a7:(k:Int)<n:=ap;have w2:IntKind.i64.wrap ((k:Int)+1)=(k:Int)+1:=NK _ ap;go_wp2_with (refine aK #[.slice AM n cm,.slice N n U,OH (cnt:Nat)] (b:=w.heap.size) (sb G0.o _ Q.o) bE rfl rfl rfl rfl ?_);refine (Ht.o k wr a0 (Q0.o.trans (Q.o.mono Q0.o.size))).mono ?_;rintro e h ⟨m1,u1,v1,rfl,⟨z1,z2,z3⟩,⟨a1,a2,a3⟩, -,k5⟩;obtain ⟨Z1,Z2,L,O1,O2,O3⟩:=ai z1 z2 z3 a1 a2 a3;have b5:aq h (((h.alloc (.cells ON 106)).alloc (.cells #[OH 0,OJ,OH 0,OH 0] 75)).alloc (.cells #[OH 0,OJ,OH 0,OH 0] 75)):=et [Obj.cells ON 106,.cells #[OH 0,OJ,OH 0,OH 0] 75,.cells #[OH 0,OJ,OH 0,OH 0] 75] h;obtain ⟨J,H,p,Z,K5⟩:=ah (show (((h.alloc (.cells ON 106)).alloc (.cells #[OH 0,OJ,OH 0,OH 0] 75)).alloc (.cells #[OH 0,OJ,OH 0,OH 0] 75)).heap[h.heap.size]?=_ from bY [Obj.cells ON 106,.cells #[OH 0,OJ,OH 0,OH 0] 75,.cells #[OH 0,OJ,OH 0,OH 0] 75] h 0 rfl) (show (((h.alloc (.cells ON 106)).alloc (.cells #[OH 0,OJ,OH 0,OH 0] 75)).alloc (.cells #[OH 0,OJ,OH 0,OH 0] 75)).heap[h.heap.size+1]?=_ from bY [Obj.cells ON 106,.cells #[OH 0,OJ,OH 0,OH 0] 75,.cells #[OH 0,OJ,OH 0,OH 0] 75] h 1 rfl) (show (((h.alloc (.cells ON 106)).alloc (.cells #[OH 0,OJ,OH 0,OH 0] 75)).alloc (.cells #[OH 0,OJ,OH 0,OH 0] 75)).heap[h.heap.size+1+1]?=_ from bY [Obj.cells ON 106,.cells #[OH 0,OJ,OH 0,OH 0] 75,.cells #[OH 0,OJ,OH 0,OH 0] 75] h 2 rfl) b5 k5;clear b5 z1 z2 z3 a1 a2 a3 k5
   go_upto_region 6 with (first
    | (refine aH (b:=h.heap.size) J.o jc rfl rfl rfl rfl Z1.o (by rw [Z1.o];rfl) O1.o ?_;intro w6 e6 k6;have D:=aa k6;clear e6 k6)
    | (refine aH (b:=h.heap.size+1) ((D.o.block _ (NE H.o) ap).trans H.o) gC rfl rfl rfl rfl Z2.o (by rw [Z2.o];rfl) O2.o ?_;intro w7 e7 k7;have K7:=aa k7;clear e7 k7)
    | (refine aH (b:=h.heap.size+1+1) ((K7.o.block _ (NQ (NE p.o) D.o.size) ap).trans ((D.o.block _ (NE p.o) ap).trans p.o)) gC rfl rfl rfl rfl L.o (by rw [L.o];rfl) O3.o ?_;intro w8 e8 k8;have K8:=aa k8;clear e8 k8))
   have R:aq h w8:=Z.o.trans (((D.o.toBelow Z.o.size (λj e=>ap)).trans (K7.o.toBelow (NN Z.o.size D.o.size) (λj e=>ap))).trans (K8.o.toBelow (NN (NN Z.o.size D.o.size) K7.o.size) (λj e=>ap)));have B:=bt K5.o R;obtain ⟨O8,Q8⟩:=ae (ay HO.o B) (Q.o.trans (B.mono Q.o.size));clear R B Z J H p D K7 K8 q;by_cases hC:C k=0
   .have Y:onL ok (k+1)=onL ok k++[(k:Int)]:=by rw [pW,T.o,hC];rfl
    have E3:=aa Y;have a5:=Q8.o.size;clear Y;go_wp2_with (at_builtin;refine aW fQ _ rfl (.tmp 26) (.tmp 28) rfl i.heap.size (.slice A (onL ok k).length c) (onL ok k).length _ rfl O8.o [OH (k:Nat)] rfl rfl (by simp [Value.oneCell']) ap (by unfold maxLen;omega) a5 ?_);intro g c3 w9 o9 b9 _
    have O:w9.ownsRow i.heap.size 3 1 (.slice (some (ar g 0)) ((onL ok k).length+1) c3) (onL ok (k+1)).length (aA .i64 (onL ok (k+1))):=by
     have e4:(onL ok (k+1)).length=(onL ok k).length+1:=by rw [E3.o];simp
     have e5:aA .i64 (onL ok (k+1))=aA .i64 (onL ok k)++[OH (k:Nat)]:=by rw [E3.o];simp [aA]
     rw [e4,e5];exact o9
    obtain ⟨O9,Q9⟩:=ae O (Q8.o.trans b9);clear o9 b9 O;go_wp2_with fail;go_roundw
    .exact ⟨k+1,by omega,by go_num,O9.o,Q9.o⟩
    .simp [intOf];omega
   .have Y:onL ok (k+1)=onL ok k:=by rw [pW,T.o,OB hC];simp
    have E3:=aa Y;have a9:(C k==0)=false:=by rw [beq_eq_false_iff_ne];exact hC
    clear Y;go_wp2_with fail;go_roundw
    .exact ⟨k+1,by omega,by go_num,by rw [E3.o];exact O8.o,Q8.o⟩
    .simp [intOf];omega
  .obtain rfl:k=n:=ap;have a8:¬((k:Int)<k):=ap;go_wp2_with fail;go_ret;exact ⟨_,rfl,aE HO.o Q0.o.size,Q0.o.trans (Q.o.mono Q0.o.size)⟩
theorem xU:cY prog 152 12:=⟨⟨_,underlying152,rfl⟩,by kernel_rfl⟩
theorem Aq {X:Nat} {v0 v1:Value} {cnt:Nat} {w:Qd} (hb:w.heap[X]?=some (.cells #[v0,v1,OH (cnt:Nat)] 96 (0,0))):Calls prog 27 #[(au X)] w λe h=>e=.returned (OH (cnt:Nat))/\aq w h:=by
 have t:=bx3 hb;have i:=br w;clear hb;go_enter func27,ntmps27;go_wp2_with fail;go_ret;exact ⟨rfl,i⟩
theorem DD {X n cw:Nat} {Z:N_} {bs:List Nat} {v1 v2:Value} {w:Qd} {ok:Nat->Bool} {B:Bool} (hb:w.heap[X]?=some (.cells #[.slice Z n cw,v1,v2] 96 (0,0))) (U:Rd w Z (bs.map λb=>.iface 97 ((au b)))) (hn:bs.length=n) (a1:n<=1000) (hB:B=true↔∀k,k<n->ok k=false) (hx:∀k b u,bs[k]?=some b->aq w u->Calls prog 218 #[(au b)] u λe Q=>∃H:Qb,e=.returned (.tuple #[.agg H,.bool (ok k)])/\(H.size=12/\H.toList.all (·.oneCell')=true)/\aq u Q):Calls prog 32 #[(au X)] w λe u=>e=.returned (.bool B)/\aq w u:=by
 have t:=λu q=>bx3 (sb hb u q);have hm:∀(b:Nat) (w:Qd),(method 496 97 ((au b)) "Next").run prog w=.ok (218,(au b)) w:=λ_ _=>by kernel_rfl
 obtain ⟨HW,HX,V,Hn,HM⟩:=ah U hx hB hn hm;have q0:=br w;clear hb U hx hB hn hm;go_enter func32,ntmps32;go_wp2_with fail
 go_loopw [14] (λv wr=>∃k:Nat,k<=n/\v=OH k/\(∀j,j<k->ok j=false)/\aq w wr) (λv _=>n-(intOf v).toNat)
 .exact ⟨0,NJ _,rfl,λj hj=>absurd hj (Nat.not_lt_zero j),q0⟩
 case round=>
  obtain ⟨k,hk,rfl,p,q⟩:=hrel;have HA:=aa p;clear p;by_cases y:k<n
  .have a0:(k:Int)<n:=ap;obtain ⟨b,x⟩:∃b,bs[k]?=some b:=⟨_,Of (by rw [Hn.o];exact y)⟩;have hr:=HW.o k (.iface 97 ((au b))) (by rw [List.getElem?_map,x];rfl);obtain ⟨b1,o1,rfl,c1⟩:=hr;have c2:=(World.cell?_of_block (q.block b1 (aB c1))).trans c1;have Y:=HX.o k b wr x q;obtain ⟨CX,D⟩:=ae Y q;have L:=HM.o b;clear Y x c1;have tq:=t wr q;clear t;go_wp2_with fail;refine CX.o.mono ?_;rintro e w1 ⟨H,rfl,⟨C,i⟩,T⟩;obtain ⟨I,HO,h⟩:=af C i (D.o.trans (T.mono D.o.size));clear C i T q tq c2 L
   cases hok:ok k with
   | true=>
    have O:=aa hok;clear hok;go_wp2_with (refine aH (NG _ _) xU rfl rfl rfl rfl I.o (by rw [I.o];rfl) HO.o ?_;intro w3 R A;have J:=aa A;clear R A);go_ret
    have N:B=false:=by
     cases hBB:B with
     | false=>rfl
     | true=>have:=V.o.1 hBB k y;rw [O.o] at this;cases this
    refine ⟨by rw [N];rfl,?_⟩;exact (h.o.alloc h.o.size _).trans (J.o.toBelow (by rw [NZ];have:=h.o.size;omega) (λj e=>by have:=h.o.size;omega))
   | false=>
    have O:=aa hok;clear hok;go_wp2_with (refine aH (NG _ _) xU rfl rfl rfl rfl I.o (by rw [I.o];rfl) HO.o ?_;intro w3 R A;have J:=aa ((h.o.alloc h.o.size _).trans (A.toBelow (by rw [NZ];have:=h.o.size;omega) (λj e=>by have:=h.o.size;omega)));clear R A);go_roundw
    case rel=>
     refine ⟨k+1,by omega,by go_num,λj hj=>?_,J.o⟩;rcases NY j k with h1 | h1
     .exact HA.o j h1
     .obtain rfl:j=k:=ap;exact O.o
    case measure=>simp [intOf];omega
  .obtain rfl:k=n:=ap;have D:=aa q;clear t q;go_wp2_with fail;go_ret;exact ⟨by rw [V.o.2 HA.o];rfl,D.o⟩
structure WIn (E:Nat->Prop) (i:Inp) (V:Qd) (X:Nat) (M:WSt) (w:Qd):Prop where
 ex:∃D B,D.X=X/\WAt E i w D B M/\∀j,D.all (az i).W j->V.heap.size<=j
 q:aq V w
section
variable {E:Nat->Prop} {i:Inp} {V w w':Qd} {X:Nat} {M:WSt}
theorem WIn.below (h:WIn E i V X M w) (hb:aq w w'):WIn E i V X M w':=by
 obtain ⟨⟨D,B,h1,o,u⟩,p⟩:=h;exact ⟨⟨D,B,h1,o.below hb,u⟩,bt p hb⟩
theorem WIn.al (h:WIn E i V X M w):lC i M:=by
 obtain ⟨⟨D,B,h1,o,u⟩,p⟩:=h;exact o.al
theorem Ch.win {e:Ending} (h:Ch E i w e w'):∃X,e=.returned (.tuple #[(au X),OH 0])/\WIn E i w X (gW i) w'/\w.heap.size<=X/\aq w w':=by
 obtain ⟨D,B,h1,u,p,o⟩:=h;exact ⟨D.X,h1,⟨⟨D,B,rfl,u,o⟩,p⟩,o _ (.inl rfl),p⟩
theorem WIn.done (h:WIn E i V X M w) (hs:cq i) {Bo:Bool} (hB:Bo=true↔M.fin i):Calls prog 32 #[(au X)] w λe w'=>e=.returned (.bool Bo)/\aq w w':=by
 obtain ⟨⟨D,B,rfl,v,Y⟩,T⟩:=h;obtain ⟨U,Z,Q,cl,I,L,R⟩:=v.rows;have N:=hs.ok.W8;have O:((List.range (az i).W).map D.b).map (λb=>Value.iface 97 ((au b)))=rT D (az i).W:=by rw [List.map_map];rfl
 refine DD (ok:=λx=>decide (M.pos i x<(dq i x).length)) (bs:=(List.range (az i).W).map D.b) I (by rw [O];exact aQ L (er _ _)) (by simp) ap ?_ λx b w' hb q=>?_
 .rw [hB];constructor
  .intro C x p;have:=C x p;simp [this]
  .intro C x p;have J:=C x p;have h6:=v.al.pos_le hs p;simp only [OC] at J;omega
 .have p:x<(az i).W:=by
   have:=(Oe.1 hb).1;simpa using this
  have A:b=D.b x:=by
   rw [List.getElem?_map,List.getElem?_range p] at hb;simpa using hb.symm
  subst A;have hm:=(v.below q).mem.mach x p;have u:=v.al.ok.mok x p
  cases hy:(cK i x (M.m x).st)[(M.m x).nx]? with
  | none=>
   refine (wZ hm (List.getElem?_eq_none_iff.1 hy)).mono ?_;rintro e H ⟨rfl,k⟩;have o:=u.cur hs;rw [hy] at o;have:=List.getElem?_eq_none_iff.1 o.symm;exact ⟨_,by rw [show decide (M.pos i x<(dq i x).length)=false from OB (by unfold WSt.pos;omega)],⟨rfl,by decide⟩,k⟩
  | some y=>
   refine (jD hm hy).mono ?_;rintro e H ⟨rfl,k⟩;have o:=u.cur hs;rw [hy] at o;have:=(Oe.1 o.symm).1;exact ⟨_,by rw [show decide (M.pos i x<(dq i x).length)=true from OA this],⟨by simp [jf],by rw [List.all_eq_true];exact mD y⟩,k⟩
end
noncomputable def MY (i:Inp) (M:WSt) (x:Nat):Bool:=(pkF i M x).2
noncomputable def BY (i:Inp) (M:WSt):Qa:=onL (MY i M) (az i).W
section
variable {E:Nat->Prop} {i:Inp} {V w w':Qd} {X:Nat} {M:WSt}
theorem WIn.on (h:WIn E i V X M w) (hs:cq i):Calls prog 30 #[(au X)] w λe w'=>∃v,e=.returned v/\w'.ownsRow w.heap.size 3 1 v (BY i M).length (aA .i64 (BY i M))/\aq w w':=by
 obtain ⟨⟨D,B,rfl,o,Q⟩,O⟩:=h;obtain ⟨L,R,H,I,u,J,N⟩:=o.rows;have A:=hs.ok.W8;refine vZ (bb:=D.b) (la:=λx=>.pointer (some ⟨D.l (pvW (az i).W x),0,none⟩)) (lb:=λx=>.pointer (some ⟨D.l x,0,none⟩)) u ap (λx w' p q=>(o.below q).at hs p) (λx w' p q=>?_);obtain ⟨C,y,hb⟩:=qF o.al hs p;have:=(o.below q).mem.enabled hs p o.al.ok (by have:=o.al.msgs_le hs p;omega) y;rw [<-hb] at this;exact this
theorem yM (hs:cq i) {x:Nat} {m:Mst} (h:MOk i x m):m.op.length<=60:=by
 rw [h.op];exact NN (CK hs.ok x m.st m.nx).2 hs.ok.buks
theorem vm (hs:cq i) {x:Nat} {m:Mst} (h:MOk i x m):m.rc.length<=100:=by
 have h1:=h.rc;have p:=hs.s;rcases h.ps with o | o<;>omega
theorem WIn.openIn (h:WIn E i V X M w) (hs:cq i) {x:Nat} (p:x<(az i).W):Calls prog 34 #[(au X),OH (x:Nat)] w λe w'=>∃v,e=.returned v/\w'.ownsRow w.heap.size 3 1 v (M.m x).op.length (aA .i64 (dU (M.m x).op))/\aq w w':=by
 obtain ⟨⟨D,B,rfl,o,H⟩,C⟩:=h;refine (Dv (R:=λe w'=>∃v,e=.returned v/\w'.ownsRow w.heap.size 3 1 v (M.m x).op.length (aA .i64 (dU (M.m x).op))/\aq w w') (o.at hs p) λA q=>?_).mono λe w' hr=>hr;refine (Ez ((o.below q).mem.mach x p) (yM hs (o.al.ok.mok x p))).mono ?_;rintro e I ⟨v,rfl,u,y⟩;exact ⟨⟨v,rfl⟩,v,rfl,aE u q.size,bt q y⟩
theorem WIn.trajIn (h:WIn E i V X M w) (hs:cq i) {x:Nat} (p:x<(az i).W):Calls prog 26 #[(au X),OH (x:Nat)] w λe w'=>∃v,e=.returned v/\StL w.heap.size w' (M.m x).rc v/\aq w w':=by
 obtain ⟨⟨D,B,rfl,u,O⟩,N⟩:=h;refine (Dr (R:=λe w'=>∃v,e=.returned v/\StL w.heap.size w' (M.m x).rc v/\aq w w') (u.at hs p) λL q=>?_).mono λe w' hr=>hr;have o:=u.al.ok.mok x p;refine (Ew ((u.below q).mem.mach x p) o.rl hs.n (vm hs o)).mono ?_;rintro e Q ⟨v,rfl,C,J⟩;obtain ⟨rows,H,y,I,A⟩:=C;exact ⟨⟨v,rfl⟩,v,rfl,⟨rows,aE H q.size,y,I,λj x p=>(A j x p).base q.size⟩,bt q J⟩
end
structure fx (P:Qd->Prop) (E:Nat->Prop) (i:Inp) (V:Qd) (X:Nat) (M:WSt) (w:Qd):Prop where
 ex:∃D B,D.X=X/\WAt E i w D B M/\(∀j,D.all (az i).W j->V.heap.size<=j)/\P (aF (D.hid (az i).W E) w)
 q:Keep E V w
def mT (P:Qd->Prop):Prop:=∀u h,Ext u h->P u->P h
theorem mC {E:Nat->Prop} {V w w':Qd} (h:Keep E V w) (hb:aq w w'):Keep E V w':=h.trans (Keep.below hb)
theorem mK {S:Nat->Prop} {u w:Qd} (hb:aq u w) (h:∀k,S k->u.heap.size<=k):Ext u (aF S w):=λk hk=>.inr (by
 rw [gt (λe=>by have:=h k e;omega)]
 exact hb.block k hk)
section
variable {P:Qd->Prop} {E:Nat->Prop} {i:Inp} {V w w':Qd} {X:Nat} {M:WSt}
theorem fx.win (h:fx P E i V X M w):WIn E i {w with heap:=#[]} X M w:=by
 obtain ⟨⟨D,B,h1,o,v,p⟩,u⟩:=h;exact ⟨⟨D,B,h1,o,λ_ _=>NJ _⟩,⟨rfl,rfl,rfl,NJ _,λk hk=>absurd hk (Nat.not_lt_zero k)⟩⟩
theorem fx.p (h:fx P E i V X M w) (hP:mT P):P w:=by
 obtain ⟨⟨D,B,h1,u,x,o⟩,v⟩:=h;exact hP _ _ (er _ _) o
theorem fx.below (h:fx P E i V X M w) (hP:mT P) (hb:aq w w'):fx P E i V X M w':=by
 obtain ⟨⟨D,B,h1,o,v,p⟩,u⟩:=h;exact ⟨⟨D,B,h1,o.below hb,v,hP _ _ (dm hb) p⟩,mC u hb⟩
theorem fx.ref (h:fx P E i V X M w):∃S:Nat->Prop,(∀k,S k->k<w.heap.size)/\P (aF S w)/\(∀k,S k->V.heap.size<=k\/E k)/\∀(p:Qd->Prop) w',aq w w'->p (aF S w')->fx p E i V X M w':=by
 obtain ⟨⟨D,B,h1,o,u,x⟩,y⟩:=h;refine ⟨D.hid (az i).W E,λk e=>e.elim (o.mem.lt k) (o.mem.ex k),x,λk e=>e.imp (u k) id,λp w' hb v=>⟨⟨D,B,h1,o.below hb,u,v⟩,mC y hb⟩⟩
theorem Ch.q {e:Ending} (h:Ch E i w e w'):aq w w':=by
 obtain ⟨D,B,h1,p,o,u⟩:=h;exact o
theorem Ch.winP {e:Ending} (h:Ch E i w e w') (hP:∀S:Nat->Prop,(∀k,S k->w.heap.size<=k\/E k)->P (aF S w')):∃X,e=.returned (.tuple #[(au X),OH 0])/\fx P E i w X (gW i) w'/\w.heap.size<=X/\aq w w':=by
 obtain ⟨D,B,h1,u,p,o⟩:=h;exact ⟨D.X,h1,⟨⟨D,B,rfl,u,o,hP _ λk e=>e.imp (o k) id⟩,Keep.below p⟩,o _ (.inl rfl),p⟩
end
theorem Ep {f g:Nat->Bool} {n:Nat} (h:∀k,k<n->f k=g k):onL f n=onL g n:=by
 unfold onL;rw [List.filter_congr λx i=>h x (List.mem_range.1 i)]
theorem Nm {w:Qd} {vs:Qb} {i:Inp} {M:WSt} (hs:cq i) (h:RWm w vs i M):Calls prog 50 #[.agg vs] w λe o=>∃v,e=.returned v/\o.ownsRow w.heap.size 3 1 v (BY i M).length (aA .i64 (BY i M))/\aq w o:=by
 have O:=hs.ok.W8;obtain ⟨⟨mv,R,h1,I,H⟩,p⟩:=h
 obtain ⟨C,B⟩:∃C:Nat->Nat,∀k,k<(az i).W->∃x,Pk i M k x (C k)/\(pkF i M k).2=decide (C k=0):=by
  classical
  refine ⟨λk=>if h:k<(az i).W then Classical.choose (qF p hs h) else 0,λk hk=>?_⟩;simp only [dif_pos hk];exact ⟨_,Classical.choose_spec (qF p hs hk)⟩
 have e:BY i M=onL (λk=>decide ((C k:Int)=0)) (az i).W:=Ep λk hk=>by
  obtain ⟨x, -,L⟩:=B k hk;unfold MY;rw [L,decide_eq_decide];omega
 rw [e];have Q:∀o,aq w o->RWv o vs (az i).W mv R (M.sum i):=λo q=>h1.below q;obtain ⟨⟨AM,cm,U,cl,rfl, -⟩, -, -⟩:=h1;refine wJ (C:=λk=>(C k:Int)) ap λk o hk q=>?_;obtain ⟨x,⟨m1,s1,t1,y, -⟩, -⟩:=B k hk;have D:pvW (az i).W k<(az i).W:=mt ap;refine xT (Q o q) hk ap rfl (λu hl T=>?_) (λ_ _ _ _ _ _ _=>trivial);have he:Ext w (aF (λj=>o.heap.size<=j/\j<o.heap.size+4) u):=mK (bt q T) λj e=>by have:=q.size;omega
 refine (CA (S:=λj=>o.heap.size<=j/\j<o.heap.size+4) (w:=u) (λj e=>ap) (jJ (I k hk) he) (ka (H _ D) he) (ka (H k hk) he) hs (p.ok.mok k hk) (p.ok.msgI hk) (p.ok.lok k hk).2.1 (by have:=p.msgs_le hs D;omega) (by have:=p.msgs_le hs hk;omega) hk y).mono ?_;rintro e Z ⟨v1,v2,v3,he,J,N,Y,⟨B2,c2,rfl,r2⟩,⟨B3,c3,rfl,V⟩,A⟩;exact ⟨v1,_,_,he,⟨J,rfl,rfl⟩,⟨N,rfl,rfl⟩,trivial,A⟩
def gw (w:Qd) (base:Nat) (v:Value) (ms:List Msg):Prop:=
 ∃rows,w.ownsRow base 79 6 v ms.length (List.flatten rows)/\rows.length=ms.length/\(∀r∈rows,r.length=6)/\∀j,j<ms.length->xx w base (ep rows j) (aO ms j)
theorem Md {w:Qd} {base base':Nat} {e B:Qf} {size o n D:Nat} {v v':Value} {xs u:Qc} (h:w.ownsRow base e size v n xs) (H:w.ownsRow base' B o v' D u) (x:e≠B):∀k,v.ownBlock=some k->v'.ownBlock≠some k:=λk hk p=>by
 rcases h.2 with ⟨hn,_⟩ | ⟨g,cap,C,rfl,_,hg,_⟩
 .rw [hn] at hk;cases hk
 .obtain rfl:g=k:=by simpa [Value.ownBlock] using hk
  rcases H.2 with ⟨hn,_⟩ | ⟨I,y,A,rfl,_,i,_⟩
  .rw [hn] at p;cases p
  .obtain rfl:I=g:=by simpa [Value.ownBlock] using p
   rw [hg] at i;injection i with i;injection i with _ i;exact x i
theorem Ey {wr y u:Qd} {base hb:Nat} {A x:N_} {k c c2 Q L:Nat} {rows:List (Qc)} {ms:List Msg} {t0 t1 t2 C D:Int} {zs:Qa} (hk:ms.length=k) (H:base<=wr.heap.size) (N:wr.ownsRow base 79 6 (.slice A k c) k (List.flatten rows)) (J:rows.length=ms.length) (V:∀r∈rows,r.length=6) (hm:∀j,j<ms.length->xx wr base (ep rows j) (aO ms j)) (hB:aq wr y) (o:y.ownsRow hb 2 1 (.slice x zs.length c2) zs.length (aA .i64 zs)) (Y:wr.heap.size<hb) {v:Value} (hg:(y.setCell (ar wr.heap.size 5) v).grownBy u (Value.slice A k c).ownBlock) (I:u.ownsRow base 79 6 (.slice (some (ar Q 0)) (k+1) L) (k+1) (List.flatten rows++[OH t0,OH t1,OH t2,OH C,OH D,.slice x zs.length c2])):
  gw u base (.slice (some (ar Q 0)) (k+1) L) (ms++[⟨⟨t0,t1,t2,C,D⟩,zs⟩]):=by
 have U:Keep (λi=>(Value.slice A k c).ownBlock=some i) wr u:=((Keep.below hB).setCell _ (.inl (NF _)) _).grown hg λi p=>.inr p;have R:Keep (λi=>i=wr.heap.size\/(Value.slice A k c).ownBlock=some i) y u:=((Keep.refl _ _).setCell _ (.inr (.inl rfl)) _).grown hg λi p=>.inr (.inr p);refine ⟨rows++[[OH t0,OH t1,OH t2,OH C,OH D,.slice x zs.length c2]],?_,by simp [J],?_,?_⟩
 .rw [Oo,List.flatten_cons,List.flatten_nil,List.append_nil,Od,On,hk];exact I
 .intro r hr;rcases Ov.1 hr with hr | hr
  .exact V r hr
  .rw [List.mem_singleton.1 hr];rfl
 .intro j Z;rcases NY j ms.length with h | h
  .rw [jN _ _ _ ap,jY _ _ _ h];obtain ⟨B,d,e,O⟩:=hm j h;exact ⟨B,d,e,U.own O λi p=>Md O N (by decide) i p⟩
  .obtain rfl:j=ms.length:=by simp at Z;omega
   rw [jZ,<-J,jO];refine ⟨x,c2,rfl,aE (base:=hb) (R.own o λi p=>?_) ap⟩;have:=(o.lt i p).1;rintro (rfl | T)
   .omega
   .have:=(N.lt i T).2;omega
theorem IR (base b:Nat) (g:Option Nat) (s:LSt) (w:Qd) (h:aY w base b g s):Calls prog 69 #[.pointer (some ⟨b,0,none⟩)] w λe x=>∃A c,e=.returned (.slice A (s.msgs.length-s.recv) c)/\gw x w.heap.size (.slice A (s.msgs.length-s.recv) c) (s.msgs.drop s.recv)/\aq w x:=by
 have B:=h.ok;obtain ⟨ring,rows,hc,_⟩:=h.ex;have hl:=mz b _ _ _ _ _ _ hc B.rs (by have:=B.many;omega);obtain ⟨n,hn⟩:∃n,s.msgs.length-s.recv=n:=⟨_,rfl⟩;have a1:(s.msgs.length:Int)-s.recv=(n:Int):=by have:=B.rs;omega
 rw [a1] at hl;rw [hn];obtain ⟨H,Hl,J,Hn⟩:=ag h hl B hn;clear h hl B hn a1 hc;go_enter func69,ntmps69;go_wp2_with fail;refine Hl.o.mono ?_;rintro e x ⟨rfl,k,rfl⟩;go_wp2_with fail
 go_loopw [8,3] (λi out wr=>∃k A c,k<=n/\i=OH (k:Int)/\out=.slice A k c/\gw wr w.heap.size (.slice A k c) ((s.msgs.drop s.recv).take k)/\aq w wr) (λi _ _=>n-(intOf i).toNat)
 case atStart=>
  refine ⟨0,none,0,NJ _,rfl,rfl,⟨[],?_,rfl,by simp,by simp⟩,NU (NI _ _) _⟩;exact ⟨rfl,.inl ⟨rfl,rfl⟩⟩
 case round=>
  obtain ⟨k,A,c,hk,rfl,rfl,hM,hW⟩:=hrel;by_cases b7:k<n
  .have b3:=(H.o.below (hW.mono (NF _))).at_ (s.recv+k) ap (by have:=Hn.o;omega);obtain ⟨Q,rc,A',c',_,y,hi,h6,v⟩:=b3;have Y:=J.o.cap1;have a2:=J.o.cap2;have aG:=J.o.many;have a1:=Hn.o;obtain ⟨m,hm⟩:∃m,aO s.msgs (s.recv+k)=m:=⟨_,rfl⟩
   have a4:m.vals.length<=17592186043904:=by
    refine J.o.vals m ?_;rw [<-hm,aO,List.getD,Of ap];exact List.getElem_mem _
   rw [hm] at h6 v;obtain ⟨i,T⟩:∃i,(s.recv+k)%s.cap=i:=⟨_,rfl⟩;rw [T] at hi h6;obtain ⟨L,hL⟩:∃L,min s.msgs.length s.cap=L:=⟨_,rfl⟩;rw [hL] at hi y;obtain ⟨⟨t0,t1,t2,t3,t4⟩,zs⟩:=m;have hp:=λW' b1=>j4 b (.slice (some ⟨Q,0,none⟩) L rc) s.cap s.msgs.length s.recv s.peak (s.recv+k) i W' b1 Y a2 T;have c0:=y.c0;have c3:=y.c3;obtain ⟨d0,d1,d2,d3,d4,d5⟩:=h6;dsimp only at d0 d1 d2 d3 d4 d5 v a4;have b9:IntKind.i64.wrap ((s.recv:Int)+(k:Int))=((s.recv+k:Nat):Int):=by rw [NK _ ap];omega
   have b8:=NE y;have b6:=aB d0;obtain ⟨Hp,b4,a5,HM,HW,Hm⟩:=ai hp y v hM hW hm;clear hp y v hM hW hm T hL;go_wp2_with fail
   go_region_held3 (λx=>x.cell? ⟨b,0,none⟩=some (.slice (some ⟨Q,0,none⟩) L rc)/\x.cell? ⟨b,3,none⟩=some (OH (s.recv:Int))/\x.cell? ⟨Q,i*6,none⟩=some (OH t0)/\x.cell? ⟨Q,i*6+1,none⟩=some (OH t1)/\
     x.cell? ⟨Q,i*6+2,none⟩=some (OH t2)/\x.cell? ⟨Q,i*6+3,none⟩=some (OH t3)/\x.cell? ⟨Q,i*6+4,none⟩=some (OH t4)/\x.cell? ⟨Q,i*6+5,none⟩=some (.slice A' zs.length c')) (simp [go_sem, *])
    ((go_at_call 105;refine (Hp.o _ ?_).mono ?_;(focus (repeat' (first | (with_reducible exact b4.o) | (with_reducible refine aD.drew ?_) | (with_reducible refine aD.drewN ?_ _) | (with_reducible refine aD.alloc ?_ _) | (with_reducible refine aD.set0 (ring:=.slice RA L rc) ?_ _) | (with_reducible refine aD.set2 (sent:=s.msgs.length) ?_ _ _ ?_) | (with_reducible refine aD.set4 (peak:=s.peak) ?_ _ _ ?_) | (with_reducible refine aD.far ?_ _ _ ?_) | omega | (push_cast;omega))));rintro e x ⟨rfl,rfl⟩))
   all_goals
    go_wp2_with fail;refine (nh A' zs c' _ ?_ a4).mono ?_
    .repeat' (first | exact Rd.own a5.o | (with_reducible refine Rd.alloc ?_ _) | (with_reducible refine Rd.drewN ?_ _) | (with_reducible refine Rd.drew ?_))
    rintro e I ⟨v2,rfl,u,p⟩;have e0:I.cell? ⟨wr.heap.size,0,none⟩=some (OH t0):=by rw [p.cell (by simp)];simp [go_sem]
    have e1:I.cell? ⟨wr.heap.size,1,none⟩=some (OH t1):=by rw [p.cell (by simp)];simp [go_sem]
    have e2:I.cell? ⟨wr.heap.size,2,none⟩=some (OH t2):=by rw [p.cell (by simp)];simp [go_sem]
    have e3:I.cell? ⟨wr.heap.size,3,none⟩=some (OH t3):=by rw [p.cell (by simp)];simp [go_sem]
    have e4:I.cell? ⟨wr.heap.size,4,none⟩=some (OH t4):=by rw [p.cell (by simp)];simp [go_sem]
    have e5:I.cell? ⟨wr.heap.size,5,none⟩=some (.slice A' zs.length c'):=by rw [p.cell (by simp)];simp [go_sem]
    have f5:I.frozen? ⟨wr.heap.size,5,none⟩=false:=by rw [p.frozen (by simp)];simp [go_sem]
    obtain ⟨A2,c2,rfl,_⟩:=aC u
    have V:aq wr I:=by
     refine Below.trans ?_ (p.mono (by simp));exact am
    obtain ⟨U,D,a6,ad,a3⟩:=HM.o;have R:((s.msgs.drop s.recv).take k).length=k:=by simp;omega
    rw [R] at D;have O:=(ay D V);have N:(I.setCell ⟨wr.heap.size,5,none⟩ (.slice A2 zs.length c2)).ownsRow w.heap.size 79 6 (.slice A k c) k (List.flatten U):=ownsRow_setCell_other O (λe=>by have:=(D.lt _ e).2;simp at this) _;have b5:wr.heap.size<I.heap.size:=by have:=p.size;simp at this;omega
    obtain ⟨a0,a7,b2,av,a8,aR,aM,b0⟩:=ak u V R a3 N D a6 ad;clear u p V R a3 D O N a6 ad;go_wp2_with (at_builtin;refine aW kZ _ rfl (.tmp 30) (.tmp 32) rfl w.heap.size _ k _ rfl a8.o [OH t0,OH t1,OH t2,OH t3,OH t4,.slice A2 zs.length c2] (by simp [go_sem]) rfl (pY _ _ _ _ _ _ rfl) ap (by unfold maxLen;omega) (by have:=HW.o.size;simp;omega) ?_);intro gO cO w5 C a9 ab;obtain ⟨Z,aP,ao⟩:=af C a9 ab;clear C a9 ab;go_wp2_with fail;go_roundw
    case rel=>
     refine ⟨k+1,some ⟨gO,0,none⟩,cO,by omega,by go_num,rfl,?_,?_⟩
     .rw [show (s.msgs.drop s.recv).take (k+1)=(s.msgs.drop s.recv).take k++[⟨⟨t0,t1,t2,t3,t4⟩,zs⟩] by
       rw [<-Hm.o,List.take_add_one,aO,List.getD]
       simp [List.getElem?_drop,Of (show s.recv+k<s.msgs.length by omega)]]
      exact Ey b2.o HW.o.size aR.o aM.o b0.o av.o a7.o a0.o (by simp) ao.o Z.o
     .have hs:=HW.o.size;refine HW.o.trans (Below.trans (a7.o.mono hs) (Below.trans ((NI _ _).setCell ?_ _) aP.o));exact hs
    case measure=>simp [intOf];omega
  .obtain rfl:k=n:=ap;obtain ⟨HM,HW⟩:=ae hM hW;clear hM hW;go_wp2_with fail;go_ret;refine ⟨A,c,rfl,?_,HW.o⟩;have:=HM.o
   rwa [List.take_of_length_le (by simp;have:=Hn.o;omega)] at this
section
variable {E:Nat->Prop} {i:Inp} {V w w':Qd} {X:Nat} {M:WSt}
theorem gw.base {w:Qd} {b i:Nat} {v:Value} {ms:List Msg} (h:gw w b v ms) (hb:i<=b):gw w i v ms:=by
 obtain ⟨rows,h1,p,y,u⟩:=h;refine ⟨rows,aE h1 hb,p,y,λj x=>?_⟩;obtain ⟨B,d,e,o⟩:=u j x;exact ⟨B,d,e,aE o hb⟩
def Nz (s:LSt) (w:Qd) (e:Ending) (w':Qd):Prop:=∃A c,e=.returned (.tuple #[.slice A (s.msgs.length-s.recv) c,OH (s.peak:Nat)])/\gw w' w.heap.size (.slice A (s.msgs.length-s.recv) c) (s.msgs.drop s.recv)/\aq w w'
theorem WIn.linkIn (h:WIn E i V X M w) (hs:cq i) {x:Nat} (u:x<(az i).W):Calls prog 35 #[(au X),OH (x:Nat)] w (Nz (M.s x) w):=by
 obtain ⟨⟨D,B,rfl,p,J⟩,I⟩:=h;refine (Dx (R:=λv w'=>∃A c,v=.slice A ((M.s x).msgs.length-(M.s x).recv) c/\gw w' w.heap.size (.slice A ((M.s x).msgs.length-(M.s x).recv) c) ((M.s x).msgs.drop (M.s x).recv)/\aq w w') (pk:=(M.s x).peak) (p.at hs u) (λC q=>?_) (λv C hr=>?_)).mono ?_
 .refine (IR _ _ _ _ _ ((p.below q).mem.lnk x u)).mono ?_;rintro e y ⟨A,c,rfl,o,H⟩;exact ⟨_,rfl,A,c,rfl,o.base q.size,bt q H⟩
 .obtain ⟨A,c,rfl,o,q⟩:=hr;obtain ⟨ring,rows,hc,_⟩:=((p.below q).mem.lnk x u).ex;refine (IQ _ _ _ _ _ _ _ hc).mono ?_;rintro e y ⟨rfl,rfl⟩;exact ⟨rfl,A,c,rfl,o,q⟩
 .rintro e y ⟨v,rfl,A,c,rfl,o,q⟩;exact ⟨A,c,rfl,o,q⟩
end
theorem yg (A1 h:N_) (ms:List Msg) (n c1 c2:Nat) (w:Qd) (hn:ms.length=n) (h1:cR w A1 ms) (p:cR w h ms) (hl:ms.length<=17592186043904) (o:∀m∈ms,m.vals.length<=17592186043904):Calls prog 51 #[.slice A1 n c1,.slice h n c2] w λe i=>e=.returned (.bool true)/\aq w i:=by
 subst hn;exact AR A1 h ms c1 c2 w h1 p hl o
theorem gw.rd {w:Qd} {base:Nat} {A:N_} {n c:Nat} {ms:List Msg} (h:gw w base (.slice A n c) ms):cR w A ms:=by
 obtain ⟨rows,h1,u,y,v⟩:=h;refine ⟨rows,?_,u,y,λj p=>?_⟩
 .obtain rfl:n=ms.length:=by
   obtain ⟨D,C,o,_⟩:=aC h1;injection o
  exact Rd.own h1
 .obtain ⟨B,x,e,i⟩:=v j p;exact ⟨B,x,e,Rd.own i⟩
theorem I7 {u h:Qd} (q:aq u h):Ext u h:=λk hk=>.inr (q.block k hk)
theorem WIn.cnt {E:Nat->Prop} {i:Inp} {V w:Qd} {X:Nat} {M:WSt} (h:WIn E i V X M w):Calls prog 27 #[(au X)] w λe p=>e=.returned (OH (M.sum i:Nat))/\aq w p:=by
 obtain ⟨⟨D,B,rfl,u,I⟩,H⟩:=h;obtain ⟨A,J,v,x,o,y,C⟩:=u.rows;exact Aq o
theorem Jk (A1 h:N_) (l:Qa) (n c1 c2:Nat) (w:Qd) (hn:l.length=n) (h1:Rd w A1 (aA .i64 l)) (o:Rd w h (aA .i64 l)) (hl:l.length<=100000):Calls prog 49 #[.slice A1 n c1,.slice h n c2] w λe i=>e=.returned (.bool true)/\aq w i:=by
 subst hn;refine (Fb A1 h l l c1 c2 w h1 o ap).mono ?_;rintro e i ⟨rfl,n,rfl⟩;exact ⟨by simp,NU (br w) n⟩
theorem wh {E:Nat->Prop} {i:Inp} {V w:Qd} {X:Nat} {M:WSt} {vs:Qb} (h:WIn E i V X M w) (hs:cq i) (r:RWm w vs i M):Calls prog 17 #[(au X),.agg vs] w λe p=>e=.returned (OH 1)/\aq w p:=by
 have ei:=hs.ok.W8;have e2:=h.al.sum_lt hs;have bI:(BY i M).length<=1000:=NN (wW _ _) ap;have O:=λp (q:aq w p)=>(h.below q).cnt;obtain ⟨fb,bo⟩:∃fb:Bool,fb=true↔M.fin i:=by classical exact ⟨decide (M.fin i),decide_eq_true_iff⟩
 have cA:=λp (q:aq w p)=>(h.below q).done hs bo;have ab:=λp (q:aq w p)=>LX hs (r.ext (I7 q)) bo;have bh:=λp (q:aq w p)=>(h.below q).on hs;have a2:=λp (q:aq w p)=>Nm hs (r.ext (I7 q));obtain ⟨⟨mv,lv,⟨⟨AM,cm,AL,cl,rfl,cf,bM, -⟩,b7,aG⟩,a0,hrl⟩,cc⟩:=r;have c8:∀k,k<(az i).W->(∃b o,AM=some (ar b o)/\w.rangeAt b (o+k*22) (mv k).toList)/\(∃b o,AL=some (ar b o)/\w.rangeAt b (o+k*4) (lv k).toList):=λk hk=>NR (gH cf (λx I=>(b7 x I).1) (by decide) hk) (gH bM (λx I=>(aG x I).1) (by decide) hk);obtain ⟨CL,bN⟩:∃CL,BY i M=CL:=⟨_,rfl⟩;rw [bN] at bh a2 bI;obtain ⟨cnt,c6⟩:∃cnt,M.sum i=cnt:=⟨_,rfl⟩;rw [c6] at O e2 ab a2 |-;obtain ⟨n,hn⟩:∃n,(az i).W=n:=⟨_,rfl⟩;rw [hn] at ab a2 |-;have f0:n<=8:=by rw [<-hn];exact ei
 obtain ⟨W0,ad⟩:∃W0,w.alloc (.cells #[.slice AM n cm,.slice AL n cl,OH (cnt:Nat)] 39)=W0:=⟨_,rfl⟩;have g0:W0.heap[w.heap.size]?=some (.cells #[.slice AM n cm,.slice AL n cl,OH (cnt:Nat)] 39 (0,0)):=by rw [<-ad];exact NG w _
 have q0:aq w W0:=by rw [<-ad];exact (br w).alloc (NF _) _
 have bw:∀p,aq W0 p->aq w p:=λp q=>q0.trans (q.mono q0.size);obtain ⟨N,aP,bX,d6,d4,bO⟩:=ai bw O cA ab bh a2;have tl:=sl g0;obtain ⟨av,en,ej,eL,da,eB,H,Hs⟩:=ak g0 ad c8 cc a0 hrl h hs;obtain ⟨Hn,f2,em⟩:=af hn b7 bI;have q:=br W0;clear O cA ab bh a2 ad c8 cc a0 hrl h hn b7 aG cf bM bo bN c6 bI hs bw;go_enter func17,ntmps17;go_upto_region 1 with (fail);rw [en.o];have t0:=λp q=>bx3 (sb g0 p q);refine HA.g (λp:Qd=>aq W0 p) ?_;refine HA.t ?_ [0,2,3] q.drew ?_;refine HA.c 1 (aP.o W0.drew (N.o _ q.drew)) ?_;rintro e w1 ⟨rfl,k1⟩;have q1:=bt q.drew k1;refine ⟨_,rfl,q1,λ_=>?_⟩;have ek:((cnt:Int) != cnt)=false:=by simp
 refine HA.t ?_ [4,5,6] q1 ?_;refine HA.ld 8 #[.slice AM n cm,.slice AL n cl,OH (cnt:Nat)] (b:=w.heap.size) (off:=0) (λp q=>sb av.o p q) bE q1 ?_;refine HA.c 7 (bX.o w1 (N.o _ q1)) ?_;rintro e w2 ⟨rfl,k2⟩;have q2:=bt q1 k2;refine ⟨_,rfl,q2,λ_=>?_⟩;refine HA.c 9 (d6.o w2 (N.o _ q2)) ?_;rintro e w3 ⟨rfl,k3⟩;have q3:=bt q2 k3;refine ⟨_,rfl,q3,λ_=>?_⟩;have d2:(fb != fb)=false:=by simp
 refine HA.t ?_ [10,11,12,13] q3 ?_;refine HA.ld 15 #[.slice AM n cm,.slice AL n cl,OH (cnt:Nat)] (b:=w.heap.size) (off:=0) (λp q=>sb av.o p q) bE q3 ?_;refine HA.c 14 (d4.o w3 (N.o _ q3)) ?_;rintro e w4 ⟨v4,rfl,o4,k4⟩;obtain ⟨A4,c4,rfl, -⟩:=aC o4;have q4:=bt q3 k4;refine ⟨_,rfl,q4,λ_=>?_⟩;refine HA.c 16 (bO.o w4 (N.o _ q4)) ?_;rintro e w5 ⟨v5,rfl,o5,k5⟩;obtain ⟨A5,c5,rfl, -⟩:=aC o5;have q5:=bt q4 k5;refine ⟨_,rfl,q5,λ_=>?_⟩;refine HA.c 17 (Jk A4 A5 CL _ c4 c5 w5 rfl ((Rd.own o4).below k5) (Rd.own o5) (by have:=em.o;omega)) ?_;rintro e w6 ⟨rfl,k6⟩;have q6:=bt q5 k6;refine ⟨_,rfl,q6,λ_=>?_⟩;refine HA.t ?_ [18,19] q6 ?_;refine HA.d ?_;have Q6:=aa q6;clear q q1 q2 q3 q4 q5 q6 k1 k2 k3 k4 k5 k6 o4 o5 ek d2 aP bX d6 d4 bO;go_wp2_with fail
 go_loopw [32] (λu wr=>∃k:Nat,k<=n/\u=OH k/\aq W0 wr) (λu _=>n-(intOf u).toNat)
 .exact ⟨0,NJ _,rfl,Q6.o⟩
 case round=>
  clear Q6;obtain ⟨k,hk,rfl,q⟩:=hrel;by_cases e0:k<n
  .have f1:(k:Int)<n:=ap;have eS:(0:Int)<=k:=ap;have I:k<(az i).W:=by rw [Hn.o];exact e0
   obtain ⟨⟨b1,o1,rfl,r1⟩,b2,o2,rfl,r2⟩:=ej.o k I;have a0:=da.o k I;have Z:=eL.o.ok.mok k I;have cb:=Z.done Hs.o;have bs:=Z.opn Hs.o;have y:=λp (q:aq w p)=>DS p (a0.below q) Hs.o cb;rw [<-bs] at y;have a1:=yM Hs.o Z;have B:=vm Hs.o Z;have b5:=λp (q:aq w p)=>(H.o.below q).linkIn Hs.o I;have b6:=λp (q:aq w p)=>(H.o.below q).trajIn Hs.o I;have U:=λp (q:aq w p)=>(H.o.below q).openIn Hs.o I;obtain ⟨BL,cL,d7,bn,bf⟩:=eB.o k I;obtain ⟨A,c,D,cd,T,ct,R,cr,PA,pc,MA,mc,GA,gc,SA,sc,IA,ic,h0,hI,hP,dk,hG,hR,ds,hl⟩:=a0;rw [h0] at r1 y;rw [d7] at r2;obtain ⟨v,bV⟩:∃v,M.s k=v:=⟨_,rfl⟩;obtain ⟨J,bb⟩:∃J,M.m k=J:=⟨_,rfl⟩
   have C:LSt.Ok (M.s k):=by
    obtain ⟨⟨D9,B9, -,h9, -⟩, -⟩:=H.o;exact (h9.mem.lnk k I).ok
   rw [bV] at b5 bn bf C r2;rw [bb] at b6 U y hR a1 B bs;have b0:=λp (q:aq w p)=>Ky (v.cap:Nat) BL v.msgs cL v.recv (v.peak:Nat) p (bn.below q) C.rs bf (by have:=C.many;omega);have b3:=λp A1 A2 c1 c2 (h1:cR p A1 (v.msgs.drop v.recv)) (h2:cR p A2 (v.msgs.drop v.recv))=>yg A1 A2 (v.msgs.drop v.recv) (v.msgs.length-v.recv) c1 c2 p (by simp) h1 h2 (by simp;have:=C.many;omega) (λm hm=>C.vals m (List.mem_of_mem_drop hm));have bz:=λp A1 c1 (h1:de rEx 2 p A1 J.rc)=>Fo A1 J.rc c1 p h1 ap;have a7:=λp (q:aq w p) A1 c1 (h1:de rEx 2 p A1 J.rc)=>Dt A1 SA J.rc J.rc c1 sc p h1 (hR.below dE q) ap ap;simp only [decide_true] at a7;have cx:=λp A1 A2 c1 c2 (h1:Rd p A1 (aA .i64 (dU J.op))) (h2:Rd p A2 (aA .i64 (dU J.op)))=>Jk A1 A2 (dU J.op) J.op.length c1 c2 p (lL _) h1 h2 (by rw [lL];omega);rw [bb] at r1;obtain ⟨rl,hrl⟩:∃rl,J.rc.length=rl:=⟨_,rfl⟩;obtain ⟨il,d5⟩:∃il,(dq i k).length=il:=⟨_,rfl⟩;obtain ⟨dn,aR⟩:∃dn,bq i k J=dn:=⟨_,rfl⟩;rw [hrl] at r1 y a7 bz;rw [d5,aR] at r1 y;obtain ⟨R1,R2,dr,d0,cw,ea,dv,d8⟩:=ak (λp (q:aq w p)=>rp r1 q) (λp (q:aq w p)=>rp r2 q) b5 b0 b3 b6 bz a7;obtain ⟨cv,dc,ev,dp,Q⟩:=ah U y cx hrl q;clear b5 b0 b3 b6 bz a7 U y cx hrl d5 aR r1 r2 C bn bf Z cb bs a1 B bV bb d7 h0 hI hP dk hG hR ds hl I q;go_upto_region 6 with (first | (refine eD (R1.o _ (N.o _ Q.o)) jc rfl rfl rfl ?_) | (refine aH (NG _ _) jc rfl rfl rfl rfl rfl rfl rfl ?_;intro w9 e9 k9;obtain ⟨E9,K9⟩:=ae e9 (aL k9);clear e9 k9));have Q9:=aa (bt Q.o K9.o);go_wp2_with fail;refine (dr.o w9 (N.o _ Q9.o)).mono ?_;rintro e bl ⟨e6,dw,rfl,co,be⟩;obtain ⟨a3,c9⟩:=ae (bt Q9.o be) co.rd;clear co;have rL:=R2.o bl (N.o _ a3.o);have tY:=bx3 (sb av.o bl a3.o);go_wp2_with (refine eD rL gC rfl rfl rfl ?_);refine (d0.o bl (N.o _ a3.o)).mono ?_;rintro e e7 ⟨dG,eq,rfl,cs,ao⟩;obtain ⟨e4,cn,aM⟩:=af (bt a3.o ao) cs (c9.o.below ao);clear cs rL tY;go_wp2_with fail;refine (cw.o e7 e6 dG dw eq aM.o cn.o).mono ?_;rintro e bG ⟨rfl,bA⟩;have ci:=aa (bt e4.o bA);have cP:=R2.o bG (N.o _ ci.o) 3 (OH (v.peak:Nat)) rfl;have tY:=bx3 (sb av.o bG ci.o);have eo:((v.peak:Int) != v.peak)=false:=by simp
   have c7:=aa (bt (bt be ao) bA);clear be ao bA c9 cn aM;go_upto_region 9 with (fail);clear cP tY eo;obtain ⟨Y,hY⟩:∃Y,wr.heap.size=Y:=⟨_,rfl⟩;rw [hY] at E9;rw [hY];have ec:∀p,aq w9 p->p.cell? (ar Y 19)=some (.slice SA rl sc):=λp q=>NH p Y 19 _ _ _ (sb E9.o p q);have a5:=c7.o.drew;have a8:=aa (λp (q:aq w9 p)=>N.o _ (bt Q9.o q));refine HA.g (λp:Qd=>aq w9 p) ?_;refine HA.t ?_ [0,1,4,5] a5 ?_;refine HA.c 2 (ea.o bG.drew (a8.o _ a5)) ?_;rintro e ee ⟨eM,rfl,b4,cO⟩;obtain ⟨es,ew,rfl, -⟩:=b4.form;have bd:=bt a5 cO;refine ⟨_,rfl,bd,λ_=>?_⟩;rw [dp.o];refine HA.c 3 (dv.o ee es ew b4.rd) ?_;rintro e ef ⟨e5,d9,rfl,d1,cj⟩;have a4:=bt bd cj;refine ⟨_,rfl,a4,λ_=>?_⟩;refine HA.c 6 (d8.o ef (a8.o _ a4) e5 d9 d1) ?_;rintro e e3 ⟨rfl,cy⟩;have L:=bt a4 cy;refine ⟨_,rfl,L,λ_=>?_⟩;refine HA.t ?_ [7,8,9,10] L ?_;refine HA.ld 12 #[.slice A i.cfg.sizes.length c,OH i.cfg.shift,OH i.cfg.rate,OH i.cfg.mom,OH i.cfg.workers,OH i.cfg.batch,OH i.cfg.micros,OH i.cfg.steps,OH i.cfg.bucket,OH i.cfg.chunk,OH i.cfg.window,OH i.cfg.cap,.slice D i.data.length cd,.slice T i.start.length ct,.slice R i.draws.length cr,OH (k:Nat),.slice PA i.start.length pc,.slice MA i.start.length mc,.slice GA i.start.length gc,.slice SA rl sc,.slice IA il ic,OH (dn:Nat)] (b:=Y) (off:=0) (λp q=>sb E9.o p q) jc L ?_;refine HA.c 11 (cv.o e3 (a8.o _ L)) ?_;rintro e el ⟨eX,rfl,b8,cM⟩;obtain ⟨eb,dT,rfl, -⟩:=aC b8;have a6:=bt L cM;refine ⟨_,rfl,a6,λ_=>?_⟩;refine HA.c 13 (dc.o el (a8.o _ a6)) ?_;rintro e eu ⟨eY,rfl,bi,bv⟩;obtain ⟨eG,e8,rfl, -⟩:=aC bi;have b9:=bt a6 bv;refine ⟨_,rfl,b9,λ_=>?_⟩;refine HA.c 14 (ev.o eu eb eG dT e8 ((Rd.own b8).below bv) (Rd.own bi)) ?_;rintro e f3 ⟨rfl,d3⟩;have a9:=bt b9 d3;refine ⟨_,rfl,a9,λ_=>?_⟩;refine HA.t ?_ [15,16] a9 ?_;refine HA.d ?_;have e1:=aa (bt Q9.o a9);have w1:IntKind.i64.wrap ((k:Int)+1)=(k:Int)+1:=NK _ ap;clear ec a5 bd a4 L a6 b9 a9 cO cj cy cM bv d3 b4 d1 b8 bi;go_wp2_with fail;go_roundw
   .exact ⟨k+1,by omega,by go_num,e1.o⟩
   .simp [intOf];omega
  .obtain rfl:k=n:=ap;have eV:¬((k:Int)<k):=ap;have Q:=aa q;go_wp2_with fail;go_ret;exact ⟨rfl,N.o _ Q.o⟩
def smJ:Inp:=⟨⟨[1,1],1,0,0,2,2,1,0,1,1,1,1⟩,[([1],[1]),([1],[1])],[5,6],[]⟩
theorem FZ:mU smJ:=by
 refine ⟨⟨by decide,by decide,⟨⟨by decide,λk hk=>?_⟩,by decide⟩,by decide,by decide,by decide,by decide,by decide,by decide,by decide⟩,by decide,λx h=>?_,by decide,by decide⟩
 .have:k=0\/k=1:=by have:k<2:=hk;omega
  rcases this with rfl | rfl<;>decide
 .have:x=([1],[1]):=by simpa [smJ] using h
  subst this;decide
theorem Ag:cq smJ:=⟨FZ,by decide,by decide,by decide,by decide,by decide⟩
theorem Kn:(gW smJ).fin smJ:=λx i=>by
 have:x=0\/x=1:=by have h:(az smJ).W=2:=rfl;omega
 rcases this with rfl | rfl<;>rfl
theorem LU {w:Qd} {b:Nat} (y:w.heap[b]?=some (.cells #[OH 1,OH 1] 3 (0,0))) {b3 b4 b5 b6:Nat} (A:w.heap[b3]?=some (.cells #[OH 1] 2 (0,0))) (u:w.heap[b4]?=some (.cells #[OH 1] 2 (0,0))) (v:w.heap[b5]?=some (.cells #[.slice (some (ar b3 0)) 1 1,.slice (some (ar b4 0)) 1 1,.slice (some (ar b3 0)) 1 1,.slice (some (ar b4 0)) 1 1] 91 (0,0))) (p:w.heap[b6]?=some (.cells #[OH 5,OH 6] 2 (0,0))):
  fY w (some (ar b 0)) 2 (some (ar b5 0)) (some (ar b6 0)) 2 none smJ:=by
 refine ⟨⟨by decide,by decide,by decide,yk y⟩,?_,by decide,⟨by decide,by decide,yk p,vU (by simp [smJ])⟩,by decide,Rd.nil _ _,by decide,λk hk=>absurd hk (by simp [smJ]),by decide,by decide⟩;refine ⟨[[.slice (some (ar b3 0)) 1 1,.slice (some (ar b4 0)) 1 1],[.slice (some (ar b3 0)) 1 1,.slice (some (ar b4 0)) 1 1]],yk v,rfl,by simp,λj x o=>?_⟩;have i:j=0\/j=1:=by have:=(Oe.1 o).1;simp [smJ] at this;omega
 have h:x=([1],[1]):=by rcases i with rfl | rfl<;>simpa [smJ] using o.symm
 subst h;exact ⟨_,_,_,_,by rcases i with rfl | rfl<;>rfl,⟨by decide,by decide,yk A,vU (by simp)⟩,⟨by decide,by decide,yk u,vU (by simp)⟩⟩
theorem gP (w:Qd):Calls prog 12 #[] w λe h=>e=.returned (.bool true)/\aq w h:=by
 go_enter func12,ntmps12;go_wp2_with fail;have i:=LU (bY [.cells #[OH 1,OH 1] 3,.cells #[.slice (some (ar w.heap.size 0)) 2 2,OH 1,OH 0,OH 0,OH 2,OH 2,OH 1,OH 0,OH 1,OH 1,OH 1,OH 1] 24,.cells #[OH 1] 2,.cells #[OH 1] 2,.cells #[.slice (some (ar (w.heap.size+1+1) 0)) 1 1,.slice (some (ar (w.heap.size+1+1+1) 0)) 1 1] 91,.cells #[.slice (some (ar (w.heap.size+1+1) 0)) 1 1,.slice (some (ar (w.heap.size+1+1+1) 0)) 1 1,.slice (some (ar (w.heap.size+1+1) 0)) 1 1,.slice (some (ar (w.heap.size+1+1+1) 0)) 1 1] 91,.cells #[OH 5,OH 6] 2] w 0 rfl) (b3:=w.heap.size+1+1) (b4:=w.heap.size+1+1+1) (b5:=w.heap.size+1+1+1+1+1) (b6:=w.heap.size+1+1+1+1+1+1) (bY [.cells #[OH 1,OH 1] 3,.cells #[.slice (some (ar w.heap.size 0)) 2 2,OH 1,OH 0,OH 0,OH 2,OH 2,OH 1,OH 0,OH 1,OH 1,OH 1,OH 1] 24,.cells #[OH 1] 2,.cells #[OH 1] 2,.cells #[.slice (some (ar (w.heap.size+1+1) 0)) 1 1,.slice (some (ar (w.heap.size+1+1+1) 0)) 1 1] 91,.cells #[.slice (some (ar (w.heap.size+1+1) 0)) 1 1,.slice (some (ar (w.heap.size+1+1+1) 0)) 1 1,.slice (some (ar (w.heap.size+1+1) 0)) 1 1,.slice (some (ar (w.heap.size+1+1+1) 0)) 1 1] 91,.cells #[OH 5,OH 6] 2] w 2 rfl) (bY [.cells #[OH 1,OH 1] 3,.cells #[.slice (some (ar w.heap.size 0)) 2 2,OH 1,OH 0,OH 0,OH 2,OH 2,OH 1,OH 0,OH 1,OH 1,OH 1,OH 1] 24,.cells #[OH 1] 2,.cells #[OH 1] 2,.cells #[.slice (some (ar (w.heap.size+1+1) 0)) 1 1,.slice (some (ar (w.heap.size+1+1+1) 0)) 1 1] 91,.cells #[.slice (some (ar (w.heap.size+1+1) 0)) 1 1,.slice (some (ar (w.heap.size+1+1+1) 0)) 1 1,.slice (some (ar (w.heap.size+1+1) 0)) 1 1,.slice (some (ar (w.heap.size+1+1+1) 0)) 1 1] 91,.cells #[OH 5,OH 6] 2] w 3 rfl) (bY [.cells #[OH 1,OH 1] 3,.cells #[.slice (some (ar w.heap.size 0)) 2 2,OH 1,OH 0,OH 0,OH 2,OH 2,OH 1,OH 0,OH 1,OH 1,OH 1,OH 1] 24,.cells #[OH 1] 2,.cells #[OH 1] 2,.cells #[.slice (some (ar (w.heap.size+1+1) 0)) 1 1,.slice (some (ar (w.heap.size+1+1+1) 0)) 1 1] 91,.cells #[.slice (some (ar (w.heap.size+1+1) 0)) 1 1,.slice (some (ar (w.heap.size+1+1+1) 0)) 1 1,.slice (some (ar (w.heap.size+1+1) 0)) 1 1,.slice (some (ar (w.heap.size+1+1+1) 0)) 1 1] 91,.cells #[OH 5,OH 6] 2] w 5 rfl) (bY [.cells #[OH 1,OH 1] 3,.cells #[.slice (some (ar w.heap.size 0)) 2 2,OH 1,OH 0,OH 0,OH 2,OH 2,OH 1,OH 0,OH 1,OH 1,OH 1,OH 1] 24,.cells #[OH 1] 2,.cells #[OH 1] 2,.cells #[.slice (some (ar (w.heap.size+1+1) 0)) 1 1,.slice (some (ar (w.heap.size+1+1+1) 0)) 1 1] 91,.cells #[.slice (some (ar (w.heap.size+1+1) 0)) 1 1,.slice (some (ar (w.heap.size+1+1+1) 0)) 1 1,.slice (some (ar (w.heap.size+1+1) 0)) 1 1,.slice (some (ar (w.heap.size+1+1+1) 0)) 1 1] 91,.cells #[OH 5,OH 6] 2] w 6 rfl);have hc:=nr (E:=λ_=>False) (some (ar w.heap.size 0)) 2 (some (ar (w.heap.size+1+1+1+1+1) 0)) 2 (some (ar (w.heap.size+1+1+1+1+1+1) 0)) 2 none 0 smJ (tU w [.cells #[OH 1,OH 1] 3,.cells #[.slice (some (ar w.heap.size 0)) 2 2,OH 1,OH 0,OH 0,OH 2,OH 2,OH 1,OH 0,OH 1,OH 1,OH 1,OH 1] 24,.cells #[OH 1] 2,.cells #[OH 1] 2,.cells #[.slice (some (ar (w.heap.size+1+1) 0)) 1 1,.slice (some (ar (w.heap.size+1+1+1) 0)) 1 1] 91,.cells #[.slice (some (ar (w.heap.size+1+1) 0)) 1 1,.slice (some (ar (w.heap.size+1+1+1) 0)) 1 1,.slice (some (ar (w.heap.size+1+1) 0)) 1 1,.slice (some (ar (w.heap.size+1+1+1) 0)) 1 1] 91,.cells #[OH 5,OH 6] 2]) i Ag (λ_ e=>e.elim);have hb:=et [.cells #[OH 1,OH 1] 3,.cells #[.slice (some (ar w.heap.size 0)) 2 2,OH 1,OH 0,OH 0,OH 2,OH 2,OH 1,OH 0,OH 1,OH 1,OH 1,OH 1] 24,.cells #[OH 1] 2,.cells #[OH 1] 2,.cells #[.slice (some (ar (w.heap.size+1+1) 0)) 1 1,.slice (some (ar (w.heap.size+1+1+1) 0)) 1 1] 91,.cells #[.slice (some (ar (w.heap.size+1+1) 0)) 1 1,.slice (some (ar (w.heap.size+1+1+1) 0)) 1 1,.slice (some (ar (w.heap.size+1+1) 0)) 1 1,.slice (some (ar (w.heap.size+1+1+1) 0)) 1 1] 91,.cells #[OH 5,OH 6] 2] w;refine Calls.mono hc ?_;rintro e p hn;obtain ⟨X,rfl,hw, -,D⟩:=hn.win;have J:=hb.trans (D.mono hb.size);have L:=λh (q:aq p h)=>(hw.below q).done Ag (Bo:=true) ⟨λ_=>Kn,λ_=>rfl⟩;have H:=λh (q:aq p h)=>(hw.below q).trajIn Ag (x:=1) (by decide);obtain ⟨Q,N,C⟩:=af L H J;clear i hc hb hn hw D J L H;go_wp2_with fail;refine (Q.o p (br p)).mono ?_;rintro e T ⟨rfl,I⟩;have u:=aa I;clear I;go_wp2_with fail;refine (N.o _ u.o).mono ?_;rintro e R ⟨v,rfl,B,y⟩;obtain ⟨A,c,rfl, -⟩:=B.form;have O:=aa (C.o.trans ((u.o.trans (y.mono u.o.size)).mono C.o.size));have h1:((gW smJ).m 1).rc.length=1:=rfl;rw [h1];clear y B;go_wp2_with fail;go_ret;exact ⟨rfl,O.o⟩
def Ng (i:Inp):Prop:=J3 i/\(dF i=0->i.cfg.workers<=6/\i.cfg.steps<=5/\i.start.length<=40)
theorem oQ (A:N_) (c:Nat) (D:N_) (I:Nat) (T:N_) (x:Nat) (R:N_) (H:Nat) (i:Inp) (w:Qd) (h:km w A c D T x R i):Calls prog 11 #[.agg (aN A c D I T x R H i)] w (qS (Ng i) w):=by
 obtain ⟨v,y⟩:∃v,w.alloc (.cells (aN A c D I T x R H i) 29)=v:=⟨_,rfl⟩;have O:v.heap[w.heap.size]?=some (.cells (aN A c D I T x R H i) 29 (0,0)):=by rw [<-y];exact NG w _
 have B:aq w v:=by rw [<-y];exact (br w).alloc (NF _) _
 have hf:=AO A c D I T x R H i v (h.below B);have U:=λ(hs:ji i) p (q:aq v p)=>gD A c D I T x R H i p (((h.rd hs).below B).below q);have t4:∀p,aq v p->p.cell? (ar w.heap.size 4)=some (OH i.cfg.workers):=λp q=>NH p w.heap.size 4 _ _ _ (sb O p q);have t7:∀p,aq v p->p.cell? (ar w.heap.size 7)=some (OH i.cfg.steps):=λp q=>NH p w.heap.size 7 _ _ _ (sb O p q);have a1:∀p,aq v p->p.cell? (ar w.heap.size 13)=some (.slice T i.start.length x):=λp q=>NH p w.heap.size 13 _ _ _ (sb O p q);unfold qS Ng;unfold qS at hf;obtain ⟨N,L,Hf,a0,G0⟩:=ah y B hf U O;have q0:=br v;clear y O B hf U h;go_enter func11,ntmps11;go_wp2_with (refine aK (aN A c D I T x R H i) (b:=w.heap.size) (by rw [N.o];exact G0.o) dY rfl rfl rfl rfl ?_);rw [N.o];refine Hf.o.mono ?_;rintro e w1 ⟨⟨b,rfl,hb⟩,V⟩;have Q:=bt q0 V;obtain ⟨J,Z⟩:=ae (L.o.trans (V.mono L.o.size)) hb;clear hb V q0
 cases b with
 | false=>
  go_wp2_with fail;go_ret;exact ⟨⟨false,rfl,λh=>by cases h⟩,J.o⟩
 | true=>
  go_wp2_with (first | (refine aK (aN A c D I T x R H i) (sb G0.o _ Q) dY rfl rfl rfl rfl ?_) | (refine jn (aN A c D I T x R H i) (sb G0.o _ Q) dY rfl rfl rfl rfl ?_));refine (a0.o (Z.o (by trivial)).1 w1 Q).mono ?_;rintro e w2 ⟨rfl,k2⟩;have q2:=bt Q k2;have u:=aa (J.o.trans (k2.mono J.o.size));clear k2 Q;obtain ⟨C,Y⟩:∃C,dF i=C:=⟨_,rfl⟩;rw [Y];have HC:=aa Y;clear Y;by_cases h0:C=0
  .subst h0;by_cases h6:i.cfg.workers<=6
   .by_cases h5:i.cfg.steps<=5
    .by_cases h4:i.start.length<=40
     .go_wp2_with fail;go_ret;exact ⟨⟨_,rfl,λ_=>⟨Z.o (by trivial),λ_=>⟨h6,h5,h4⟩⟩⟩,u.o⟩
     .go_wp2_with fail;go_ret;exact ⟨⟨false,by simp;omega,λh=>by cases h⟩,u.o⟩
    .go_wp2_with fail;go_ret;exact ⟨.inl rfl,u.o⟩
   .go_wp2_with fail;go_ret;exact ⟨.inl rfl,u.o⟩
  .go_wp2_with fail;go_ret;exact ⟨⟨true,rfl,λ_=>⟨Z.o (by trivial),λh=>absurd (HC.o.symm.trans h) h0⟩⟩,u.o⟩
end Go.Proofs.YtgmajkppbhiopaaGreat
namespace Go.Proofs.YtgmajkppbhiopaaGreat
open Go.RowKit Go.ChangeShapes Go.WideShapes Go.ChangeAt
open Tryz
theorem sQ {H:Type} {i:Qf×Value->H} {W:Qd} {base:Nat} {v:Value} {d:DataW H} {p:List MemPlace} (o:Value.okWide prog W .any base 22 v) (h:DataW.Trod i prog W 0 (λ_=>true) true 22 v d p) (z:fH prog 22 d):
  ∃(A:N_) (l:Qa) (c:Nat),v=.slice A l.length c/\MG W A l c:=by
 obtain ⟨a,C,cap,rfl⟩:=okWide_slice underlying22 o;obtain ⟨l,⟨A,c,e,h1,u,B,x,y⟩,_⟩:=rr sR h z;simp [Value.cells] at e;obtain ⟨rfl,rfl,rfl⟩:=e;exact ⟨_,l,_,rfl,⟨h1,u,B,x,vT y⟩⟩
end Go.Proofs.YtgmajkppbhiopaaGreat
