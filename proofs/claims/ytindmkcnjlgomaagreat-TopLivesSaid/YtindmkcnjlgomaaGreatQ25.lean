/- No condition. -/
import Derived.Test.YtindmkcnjlgomaaGreatQ24
set_option linter.unusedSimpArgs false
set_option linter.unusedVariables false
set_option maxRecDepth 100000
set_option maxHeartbeats 4000000
namespace Go.Proofs.YtindmkcnjlgomaaGreat
open Go.RowKit
open Tryz
theorem RWv.ext {u o:R8} {vs:R6} {n:Nat} {mv i:Nat->R6} {cnt:Nat} (h:RWv u vs n mv i cnt) (hb:Ext u o):RWv o vs n mv i cnt:=by
 obtain ⟨⟨B,cm,p,v,h1,y,D,A⟩,C,x⟩:=h;exact ⟨⟨B,cm,p,v,h1,aW y hb,aW D hb,A⟩,C,x⟩
structure RWm (u:R8) (vs:R6) (i:Inp) (M:WSt):Prop where
 ex:∃mv lv,RWv u vs (ax i).W mv lv (M.sum i)/\(∀x,x<(ax i).W->iq u (mv x) i x (M.m x))/\∀x,x<(ax i).W->RL u (lv x) (M.s x)
 al:dX i M
theorem RWm.ext {u p:R8} {vs:R6} {i:Inp} {M:WSt} (h:RWm u vs i M) (hb:Ext u p):RWm p vs i M:=by
 obtain ⟨⟨mv,A,h1,v,B⟩,y⟩:=h;exact ⟨⟨mv,A,h1.ext hb,λx o=>mt (v x o) hb,λx o=>m9 (B x o) hb⟩,y⟩
theorem RWm.sz {u:R8} {vs:R6} {i:Inp} {M:WSt} (h:RWm u vs i M):vs.size=3/\vs.toList.all (·.oneCell')=true:=by
 obtain ⟨⟨mv,x,⟨⟨v,cm,o,p,rfl, -⟩, -, -⟩, -, -⟩, -⟩:=h;exact ⟨rfl,rfl⟩
theorem yM {i:Inp} {M:WSt} {x:Nat} (h:x<(ax i).W):pkZ i M x=pkF i M x:=by
 unfold pkZ;rw [if_pos ⟨by omega,by omega⟩,Int.toNat_natCast]
theorem Ey {i:Inp} {M:WSt} {z:Int} (h:¬(0<=z/\z<((ax i).W:Int))):pkZ i M z=(M,false):=by
 unfold pkZ;rw [if_neg h]
theorem dX.msgs_le {i:Inp} {M:WSt} (h:dX i M) (hs:bD i) {x:Nat} (o:x<(ax i).W):(M.s x).msgs.length<=1000000000:=by
 have h1:=h.ok.sn x o;have C:sN i x (M.pos i x)<=M.pos i x:=Oe i x _;have A:M.pos i x<=M.sum i:=Eu o;have B:=h.sum_le hs;have u:=kQ hs.ok;have p:=qL hs.ok;have y:=hs.s;have v:jh (ax i)*i.cfg.steps.toNat<=810000*6:=Nat.mul_le_mul p ap;omega
theorem dX.sum_lt {i:Inp} {M:WSt} (h:dX i M) (hs:bD i):M.sum i<=1000000000:=by
 have x:=h.sum_le hs;have p:=kQ hs.ok;have o:=qL hs.ok;have v:=hs.s;have u:jh (ax i)*i.cfg.steps.toNat<=810000*6:=Nat.mul_le_mul o ap;omega
theorem OA {S:Nat->Prop} {w:R8} {vs:R6} {i:Inp} {M:WSt} (hs:bD i) (hS:∀k,S k->k<w.heap.size) (h:RWm (aH S w) vs i M) (z:Int):Calls prog 47 #[.agg vs,RI z] w (Ol (λu vs M=>RWm u vs i M) S (pkZ i M z).1 (pkZ i M z).2 w):=by
 have H:=h.sz;have ao:=hs.ok.W8;obtain ⟨⟨mv,lv,h1,h2,N⟩,D⟩:=h;have Z:=h1.ext (fk S w);by_cases T:0<=z/\z<((ax i).W:Int);rotate_left
 .rw [Ey T];refine (F4 Z ap).mono ?_;rintro e o ⟨rfl,hb⟩;exact ⟨vs,rfl,H.1,H.2,(⟨⟨mv,lv,h1,h2,N⟩,D⟩:RWm (aH S w) vs i M).ext (im hb),hb⟩
 obtain ⟨x,rfl⟩:∃x:Nat,z=x:=⟨z.toNat,by omega⟩;have A:x<(ax i).W:=ap;have hp:pvW (ax i).W x<(ax i).W:=lO ap;rw [yM A];obtain ⟨C,a6,hb⟩:=uF D hs A;obtain ⟨hA, -,Y,a0⟩:=rV D hs A;obtain ⟨m1,s1,t1,U,Q⟩:=a6
 have a9:=λo (q:aq w o) (hl:w.heap.size+6<=o.heap.size)=>by
  have he:Ext (aH S w) (aH (λk=>S k\/(w.heap.size<=k/\k<w.heap.size+6)) o):=bP (Keep.below q) (λk hk e=>e.elim id (λe=>absurd hk ap));exact Nl (S:=(λk=>S k\/(w.heap.size<=k/\k<w.heap.size+6))) (w:=o) (λk e=>e.elim (λe=>by have:=hS k e;omega) (λe=>ap)) (mt (h2 x A) he) (m9 (N _ hp) he) (m9 (N x A) he) hs (D.ok.mok x A) (D.ok.msgI A) (D.ok.lok x A).2.1 (by have:=D.msgs_le hs hp;omega) (by have:=D.msgs_le hs A;omega) A U
 refine (JZ (S:=S) (R:=λm u v o=>iq (aH (λk=>S k\/(w.heap.size<=k/\k<w.heap.size+6)) o) m i x m1/\RL (aH (λk=>S k\/(w.heap.size<=k/\k<w.heap.size+6)) o) u s1/\RL (aH (λk=>S k\/(w.heap.size<=k/\k<w.heap.size+6)) o) v t1) (C:=(C:Nat)) (p:=pvW (ax i).W x) hS Z A ap rfl (D.sum_lt hs) (λo hl q=>(a9 o q hl).mono ?_) (λm u v w1 w2 hr k=>?_)).mono ?_
 .rintro e ad ⟨v1,v2,v3,he,z1,o1,r1,⟨B2,c2,rfl,r2⟩,⟨B3,c3,rfl,r3⟩,a8⟩;exact ⟨v1,_,_,he,⟨z1,rfl,rfl⟩,⟨o1,rfl,rfl⟩,⟨r1,⟨B2,c2,rfl,r2⟩,⟨B3,c3,rfl,r3⟩⟩,a8⟩
 .have he:Ext (aH (λk=>S k\/(w.heap.size<=k/\k<w.heap.size+6)) w1) (aH (λk=>S k\/(w.heap.size<=k/\k<w.heap.size+6)) w2):=bP (k.mono λj _ e=>.inr e) (λ_ _ e=>e);exact ⟨mt hr.1 he,m9 hr.2.1 he,m9 hr.2.2 he⟩
 .rintro e o (⟨hC,he,B⟩ | ⟨hC,a1,a2,a3,V,he,hv,hr,B⟩)
  .have hf:(pkF i M x).2=false:=by rw [hb];simp;omega
   rw [hf,a0 hf];exact ⟨vs,he,H.1,H.2,(⟨⟨mv,lv,h1,h2,N⟩,D⟩:RWm (aH S w) vs i M).ext (im B),B⟩
  .have a4:C=0:=ap;have ht:(pkF i M x).2=true:=by rw [hb];simp [a4]
   rw [ht];have O:=(Y ht).2.2;have L:Ext (aH (λk=>S k\/(w.heap.size<=k/\k<w.heap.size+6)) o) (aH S o):=bP (Keep.refl _ _) (λk _ e=>.inl e);have J:Ext (aH S w) (aH S o):=im B
   have I:RWm (aH S o) V i (pkF i M x).1:=by
    refine ⟨⟨_,_,by rw [O];exact hv,λy hy=>?_,λy hy=>?_⟩,hA⟩
    .rw [Q]
     show iq _ (aY mv x a1 y) i y (aY M.m x m1 y)
     by_cases e:y=x
     .subst e;rw [bE,bE];exact mt hr.1 L
     .rw [bq _ _ e,bq _ _ e];exact mt (h2 y hy) J
    .rw [Q]
     show RL _ ((if 1<(ax i).W then aY (aY lv (pvW (ax i).W x) a2) x a3 else lv) y) (aY (aY M.s (pvW (ax i).W x) s1) x t1 y)
     by_cases hW:1<(ax i).W
     .rw [if_pos hW];by_cases e:y=x
      .subst e;rw [bE,bE];exact m9 hr.2.2 L
      .rw [bq _ _ e,bq _ _ e];by_cases e2:y=pvW (ax i).W x
       .rw [e2,bE,bE];exact m9 hr.2.1 L
       .rw [bq _ _ e2,bq _ _ e2];exact m9 (N y hy) J
     .rw [if_neg hW];have a5:y=x:=ap;have ab:=KQ A ap;subst a5;rw [bE]
      have a7:t1=M.s y:=by
       cases U with
       | own=>rfl
       | fin=>rfl
       | full=>rfl
       | none=>rfl
       | other=>rfl
       | send z ac T ha=>exact (ju ap T ha).elim
       | recv z ac T ha=>exact (ju ap T ha).elim
      rw [a7];exact m9 (N y hy) J
   exact ⟨V,he,I.sz.1,I.sz.2,I,B⟩
theorem Of {S:Nat->Prop} {w:R8} {vs:R6} {i:Inp} {M:WSt} (hs:bD i) (p:∀k,S k->k<w.heap.size) (h:RWm (aH S w) vs i M) {A:N_} {c:Nat} {l:Q_} (hl:l.length<=1000000) (hA:Rd w A (aA .i64 l)):Calls prog 18 #[.agg vs,.slice A l.length c] w (PX (λu vs M=>RWm u vs i M) S (dJ i M l).1 (dJ i M l).2 w):=
 JY (st:=pkZ i) p hl hA (λ_ _ _ _ h e=>h.ext e) (λ_ _ _ _ z o v _=>OA hs o v z) h h.sz.1 h.sz.2
theorem Og {S:Nat->Prop} {w:R8} (A:N_) (c:Nat) (D:N_) (B:Nat) (T:N_) (ct:Nat) (R:N_) (y:Nat) (i:Inp) (J:∀k,S k->k<w.heap.size) (h:gW w A c D T ct R i) (hI:∀o,aq w o->gW (aH S o) A c D T ct R i) (hs:bD i):Calls prog 17 #[.agg (aL A c D B T ct R y i)] w λe o=>∃p:R6,e=.returned (.tuple #[.agg p,RI 0])/\p.size=3/\p.toList.all (·.oneCell')=true/\RWm (aH S o) p i (fA i)/\aq w o:=by
 have hg:=hs.g.c;have U:=hg.w;have O:=hg.ca;have V:((ax i).W:Int)=i.cfg.workers:=by simp only [ax];omega
 have Q:((i.cfg.cap.toNat:Nat):Int)=i.cfg.cap:=ap;have a1:=hs.ok.W8;have v:=λo (q:aq w o)=>j9 A c D B T ct R y i o (h.below q);have C:=λ(x:Nat) o (q:aq w o) (I:x<(ax i).W)=>CR A c D B T ct R y i x o (h.below q) hs I;have hv:aL A c D B T ct R y i=#[.slice A i.cfg.sizes.length c,RI i.cfg.shift,RI i.cfg.rate,RI i.cfg.mom,RI ((ax i).W:Nat),RI i.cfg.batch,RI i.cfg.micros,RI i.cfg.steps,RI i.cfg.bucket,RI i.cfg.chunk,RI i.cfg.window,RI (i.cfg.cap.toNat:Nat),.slice D i.data.length B,.slice T i.start.length ct,.slice R i.draws.length y]:=by rw [V,Q]
 rw [rt.2 hs.g] at v;rw [hv] at v C |-;refine (J6 (S:=S) (Rm:=λx m o=>iq (aH S o) m i x (fu i)) (N:=(ax i).W) (cap:=i.cfg.cap.toNat) J ap ap v (λk o hk q=>(C k o q hk).mono ?_)).mono ?_
 .rintro e a0 ⟨m,rfl,Y,Z,hb,hr⟩;refine ⟨m,rfl,⟨Y,Z⟩,hb,λL q2 k2=>hr _ (gn k2 (Ix S L) λj _ e=>by have:=J j e;have:=q.size;omega) (hI L q2)⟩
 .rintro e o ⟨p,mv,rfl,H,hm,hb⟩;have u:RWm (aH S o) p i (fA i):=⟨⟨mv,_,by rw [ud];exact H,hm,λx I=>⟨none,0,rfl,fZ.nil _ _ none,Qx _⟩⟩,dX.zero hs⟩;exact ⟨p,rfl,u.sz.1,u.sz.2,u,hb⟩
end Go.Proofs.YtindmkcnjlgomaaGreat
namespace Go.Proofs.YtindmkcnjlgomaaGreat
open Go.RowKit Go.ChangeShapes Go.WideShapes Go.ChangeAt
open Tryz
theorem AJ {H:Type} {i:R9×Value->H} {W:R8} {base:Nat} {v:Value} {d:DataW H} {p:List MemPlace} (o:Value.okWide prog W .any base 22 v) (h:DataW.Trod i prog W 0 (λ_=>true) true 22 v d p) (z:ge prog 22 d):
  ∃(A:N_) (l:Q_) (c:Nat),v=.slice A l.length c/\Pw W A l c:=by
 obtain ⟨a,len,cap,rfl⟩:=okWide_slice underlying22 o;obtain ⟨l,⟨A,c,e,h1,u,B,x,y⟩,_⟩:=nH uO h z;simp [Value.cells] at e;obtain ⟨rfl,rfl,rfl⟩:=e;exact ⟨_,l,_,rfl,⟨h1,u,B,x,yp y⟩⟩
end Go.Proofs.YtindmkcnjlgomaaGreat
namespace Go.Proofs.YtindmkcnjlgomaaGreat
open Go.RowKit
open Tryz
structure lT (P:R8->Prop) (E:Nat->Prop) (i:Inp) (V:R8) (X:Nat) (M:WSt) (w:R8):Prop where
 ex:∃D B,D.X=X/\WAt E i w D B M/\(∀j,D.all (ax i).W j->V.heap.size<=j)/\P (aH (D.hid (ax i).W E) w)
 q:Keep E V w
def MO (P:R8->Prop):Prop:=∀u h,Ext u h->P u->P h
theorem ve {E:Nat->Prop} {V w w':R8} (h:Keep E V w) (hb:aq w w'):Keep E V w':=h.trans (Keep.below hb)
theorem tI {S:Nat->Prop} {u w:R8} (hb:aq u w) (h:∀k,S k->u.heap.size<=k):Ext u (aH S w):=λk hk=>.inr (by
 rw [jo (λe=>by have:=h k e;omega)]
 exact hb.block k hk)
section
variable {P:R8->Prop} {E:Nat->Prop} {i:Inp} {V w w':R8} {X:Nat} {M:WSt}
theorem lT.win (h:lT P E i V X M w):WIn E i {w with heap:=#[]} X M w:=by
 obtain ⟨⟨D,B,h1,o,v,p⟩,u⟩:=h;exact ⟨⟨D,B,h1,o,λ_ _=>QB _⟩,⟨rfl,rfl,rfl,QB _,λk hk=>absurd hk (Nat.not_lt_zero k)⟩⟩
theorem lT.p (h:lT P E i V X M w) (hP:MO P):P w:=by
 obtain ⟨⟨D,B,h1,u,x,o⟩,v⟩:=h;exact hP _ _ (fk _ _) o
theorem lT.below (h:lT P E i V X M w) (hP:MO P) (hb:aq w w'):lT P E i V X M w':=by
 obtain ⟨⟨D,B,h1,o,v,p⟩,u⟩:=h;exact ⟨⟨D,B,h1,o.below hb,v,hP _ _ (im hb) p⟩,ve u hb⟩
theorem lT.ref (h:lT P E i V X M w):∃S:Nat->Prop,(∀k,S k->k<w.heap.size)/\P (aH S w)/\(∀k,S k->V.heap.size<=k\/E k)/\∀(P':R8->Prop) w',aq w w'->P' (aH S w')->lT P' E i V X M w':=by
 obtain ⟨⟨D,B,h1,o,p,v⟩,x⟩:=h;refine ⟨D.hid (ax i).W E,λk e=>e.elim (o.mem.lt k) (o.mem.ex k),v,λk e=>e.imp (p k) id,λP' w' hb u=>⟨⟨D,B,h1,o.below hb,p,u⟩,ve x hb⟩⟩
theorem D4.q {e:Ending} (h:D4 E i w e w'):aq w w':=by
 obtain ⟨D,B,h1,p,o,u⟩:=h;exact o
theorem D4.winP {e:Ending} (h:D4 E i w e w') (hP:∀S:Nat->Prop,(∀k,S k->w.heap.size<=k\/E k)->P (aH S w')):∃X,e=.returned (.tuple #[(au X),RI 0])/\lT P E i w X (fA i) w'/\w.heap.size<=X/\aq w w':=by
 obtain ⟨D,B,h1,u,p,o⟩:=h;exact ⟨D.X,h1,⟨⟨D,B,rfl,u,o,hP _ λk e=>e.imp (o k) id⟩,Keep.below p⟩,o _ (.inl rfl),p⟩
theorem lT.pick (h:lT P E i V X M w) (hP:MO P) (hs:bD i) (o: -9223372036854775808<=i.cfg.rate/\i.cfg.rate<=9223372036854775807) (p: -9223372036854775808<=i.cfg.mom/\i.cfg.mom<=9223372036854775807) (z:Int):Calls prog 14 #[(au X),RI z] w λe w'=>e=.returned (.bool (pkZ i M z).2)/\lT P E i V X (pkZ i M z).1 w':=by
 obtain ⟨⟨D,B,rfl,H,y,I⟩,x⟩:=h;refine (wF H hs o p z).mono ?_;rintro e w' ⟨he,J,A,L,u,v⟩;have N:=x.size;refine ⟨he,⟨J,B,A,L,λj C=>(v j C).elim (y j) λh=>ap,hP _ _ (bP (u.mono λk _ e=>.inl e) λk hk e=>e.imp (λe=>(v k e).elim id λe=>absurd hk ap) id) I⟩,?_⟩;exact gn x u λk hk e=>absurd (y k e) ap
end
theorem wW {i:Inp} {M:WSt} {l:Q_} {k:Nat} (hk:k<l.length):(dJ i M (l.take (k+1))).1=(pkZ i (dJ i M (l.take k)).1 (nth l k)).1:=by
 rw [List.take_add_one,Rj hk,Option.toList_some,wY,dB _ _ hk]
def nj (A:N_) (c:Nat) (D T:N_) (ct:Nat) (R:N_) (i:Inp) (h:N_) (o:Q_) (u:R8):Prop:=gW u A c D T ct R i/\Rd u h (aA .i64 o)
theorem nj.stab {A:N_} {c:Nat} {D T:N_} {ct:Nat} {R:N_} {i:Inp} {o:N_} {p:Q_}:MO (nj A c D T ct R i o p):=λ_ _ he h=>⟨eN h.1 he,aW h.2 he⟩
theorem WIn.cnt {E:Nat->Prop} {i:Inp} {V w:R8} {X:Nat} {M:WSt} (h:WIn E i V X M w):Calls prog 19 #[(au X)] w λe p=>e=.returned (RI (M.sum i:Nat))/\aq w p:=by
 obtain ⟨⟨D,B,rfl,u,I⟩,H⟩:=h;obtain ⟨A,J,v,x,o,y,C⟩:=u.rows;exact CC o
end Go.Proofs.YtindmkcnjlgomaaGreat
