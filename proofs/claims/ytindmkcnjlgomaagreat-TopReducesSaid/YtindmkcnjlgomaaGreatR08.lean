/- No condition. -/
import Derived.Test.YtindmkcnjlgomaaGreatR07
import Derived.Deep.RegionLaw
set_option linter.unusedSimpArgs false
set_option linter.unusedVariables false
set_option maxRecDepth 100000
set_option maxHeartbeats 4000000
namespace Go.Proofs.YtindmkcnjlgomaaGreat
open Go.RowKit
open Tryz
theorem rL.same {w i:N5} {g o:Nat} {t:Tg} {v:Value} (h:rL w g o t v) (hb:i.heap[g]?=w.heap[g]?):rL i g o t v:=
 ⟨(World.cell?_of_block (w:=w) hb).trans h.c0,(World.cell?_of_block (w:=w) hb).trans h.c1,(World.cell?_of_block (w:=w) hb).trans h.c2,(World.cell?_of_block (w:=w) hb).trans h.c3,(World.cell?_of_block (w:=w) hb).trans h.c4,(World.cell?_of_block (w:=w) hb).trans h.c5⟩
theorem ay.same {w i:N5} {b:Nat} {ring:Value} {cap sent recv peak:Nat} (h:ay w b ring cap sent recv peak) (hb:i.heap[b]?=w.heap[b]?):ay i b ring cap sent recv peak:=hb.trans h
theorem aJ.keep {S:Nat->Prop} {w C:N5} {base b:Nat} {g:Option Nat} {s:LSt} (h:aJ w base b g s) (k:Keep S w C) (J:¬S b) (I:∀i,g=some i->¬S i) (O:∀i c,w.heap[i]?=some (.cells c 2 (0,0))->base<=i->¬S i):aJ C base b g s:=by
 obtain ⟨ok,ring,rows,hc,p,D,hrl,v,hm⟩:=h;refine ⟨ok,ring,rows,hc.same (k.block _ (F1 hc) J),k.own p (λi o=>I i (D.symm.trans o)),D,hrl,v,λj u B=>?_⟩;obtain ⟨A,c,e,H⟩:=hm j u B;refine ⟨A,c,e,k.own H λi o=>?_⟩;rcases H.2 with ⟨hn,_⟩ | ⟨N,cap,L,Q,x,y,_⟩
 ·rw [hn] at o;cases o
 ·rw [Q] at o;obtain rfl:N=i:=by simpa [Value.ownBlock] using o
  exact O _ _ y x
theorem aJ.below {w i:N5} {base b:Nat} {g:Option Nat} {s:LSt} (h:aJ w base b g s) (hb:ap w i):aJ i base b g s:=
 h.keep (S:=λ_=>False) (Keep.below hb) id (λ_ _=>id) (λ_ _ _ _=>id)
theorem pC (base b:Nat) (g:Option Nat) (s:LSt) (t:Tg) (w:N5) (h:aJ w base b g s) (x:s.recv=s.msgs.length):Calls prog 223 #[(ar b),.agg #[H8 t.a,H8 t.b,H8 t.c,H8 t.d,H8 t.e]] w λe D=>e=.returned (.tuple #[.agg Id,H8 12])/\ap w D:=by
 obtain ⟨t0,t1,t2,B,J⟩:=t;have A:=λR O=>pD base b g s ((w.alloc R).alloc O) ((h.below ((Gb _ _).alloc (F3 _) _)).below ((Gb _ _).alloc (F3 _) _)) x;have T:=aa A;clear A x h;go_enter func223,ntmps223;go_wp2_with fail;refine (T.o _ _).mono ?_;rintro e p ⟨rfl,u⟩
 have i:p.heap[w.heap.size+1]?=some (.cells Id 174 (0,0)):=by
  rw [u.block _ (by simp)];simpa using F4 (w.alloc (.cells #[H8 t0,H8 t1,H8 t2,H8 B,H8 J] 127)) (.cells Id 174)
 have y:=F1 i;have N:p.cell? (aq (w.heap.size+1) 0)=some (H8 0):=Ga p _ 0 _ _ _ i;have H:p.cell? (aq (w.heap.size+1) 1)=some (H8 0):=Ga p _ 1 _ _ _ i;have U:p.cell? (aq (w.heap.size+1) 2)=some (H8 0):=Ga p _ 2 _ _ _ i;have C:p.cell? (aq (w.heap.size+1) 3)=some (H8 0):=Ga p _ 3 _ _ _ i;have L:p.cell? (aq (w.heap.size+1) 4)=some (H8 0):=Ga p _ 4 _ _ _ i;have Q:p.cell? (aq (w.heap.size+1) 5)=some (H9):=Ga p _ 5 _ _ _ i;have V:=λj=>Gh p _ j _ _ i;have I:ap w p:=(((Gb _ w).alloc (F3 _) _).alloc (by simp) _).trans (u.mono (by simp;omega));clear u i;go_wp2;refine Gm (v:=.tuple #[.agg Id,H8 12]) (by simp [results,results223,go_sem,N,H,U,C,L,Q,y]) rfl ⟨rfl,?_⟩;exact am
theorem rt (base b:Nat) (g:Option Nat) (s:LSt) (t:Tg) (w:N5) (h:aJ w base b g s) (y:s.recv<s.msgs.length) (A:(aN s.msgs s.recv).tag≠t):Calls prog 223 #[(ar b),.agg #[H8 t.a,H8 t.b,H8 t.c,H8 t.d,H8 t.e]] w λe L=>e=.returned (.tuple #[.agg Id,H8 10])/\ap w L:=by
 obtain ⟨t0,t1,t2,B,C⟩:=t;have H:=λY U=>sZ base b g s ((w.alloc Y).alloc U) ((h.below ((Gb _ _).alloc (F3 _) _)).below ((Gb _ _).alloc (F3 _) _)) y;generalize (aN s.msgs s.recv).tag=tg at *;obtain ⟨u0,u1,u2,u3,u4⟩:=tg;dsimp only at H;have Z:=aa H;clear H y h;have D:=aa A;clear A;go_enter func223,ntmps223;go_wp2_with fail;refine (Z.o _ _).mono ?_;rintro e p ⟨rfl,x⟩
 have i:p.heap[w.heap.size+1]?=some (.cells Id 174 (0,0)):=by
  rw [x.block _ (by simp)];simpa using F4 (w.alloc (.cells #[H8 t0,H8 t1,H8 t2,H8 B,H8 C] 127)) (.cells Id 174)
 have I:=F1 i;have T:p.cell? (aq (w.heap.size+1) 0)=some (H8 0):=Ga p _ 0 _ _ _ i;have N:p.cell? (aq (w.heap.size+1) 1)=some (H8 0):=Ga p _ 1 _ _ _ i;have r2:p.cell? (aq (w.heap.size+1) 2)=some (H8 0):=Ga p _ 2 _ _ _ i;have J:p.cell? (aq (w.heap.size+1) 3)=some (H8 0):=Ga p _ 3 _ _ _ i;have Q:p.cell? (aq (w.heap.size+1) 4)=some (H8 0):=Ga p _ 4 _ _ _ i;have V:p.cell? (aq (w.heap.size+1) 5)=some (H9):=Ga p _ 5 _ _ _ i;have fr:=λj=>Gh p _ j _ _ i
 have u:p.heap[w.heap.size]?=some (.cells #[H8 t0,H8 t1,H8 t2,H8 B,H8 C] 127 (0,0)):=by
  rw [x.block _ (by simp;omega),Gk _ _ _ (by simp)];exact F4 w _
 have p0:p.cell? (aq w.heap.size 0)=some (H8 t0):=Ga p _ 0 _ _ _ u;have p1:p.cell? (aq w.heap.size 1)=some (H8 t1):=Ga p _ 1 _ _ _ u;have p2:p.cell? (aq w.heap.size 2)=some (H8 t2):=Ga p _ 2 _ _ _ u;have p3:p.cell? (aq w.heap.size 3)=some (H8 B):=Ga p _ 3 _ _ _ u;have p4:p.cell? (aq w.heap.size 4)=some (H8 C):=Ga p _ 4 _ _ _ u;have O:ap w p:=(((Gb _ w).alloc (F3 _) _).alloc (by simp) _).trans (x.mono (by simp;omega));have R:w.heap.size<p.heap.size:=ao;clear x i u;go_wp2
 ·exact absurd (by simp only [*]) D.o
 all_goals
  refine Gm (v:=.tuple #[.agg Id,H8 10]) (by simp [results,results223,go_sem,T,N,r2,J,Q,V,I]) rfl ⟨rfl,?_⟩;exact am
theorem pz {w x:N5} {base b:Nat} {g:Option Nat} {s:LSt} {T:N0} {Q:Nat} (h:aJ w base b g s) (C:s.recv<s.msgs.length) (k:Keep (· =b) w x) (N:w.ownsRow base 2 1 (.slice T (aN s.msgs s.recv).vals.length Q) (aN s.msgs s.recv).vals.length (az .i64 (aN s.msgs s.recv).vals)) {L c y:Nat} (_hgg:g=some y) (u:ay w b (.slice (some (aq y 0)) L c) s.cap s.msgs.length s.recv s.peak) (hc:ay x b (.slice (some (aq y 0)) L c) s.cap s.msgs.length (s.recv+1) s.peak):
  x.ownsRow base 2 1 (.slice T (aN s.msgs s.recv).vals.length Q) (aN s.msgs s.recv).vals.length (az .i64 (aN s.msgs s.recv).vals)/\aJ x base b g {s with recv:=s.recv+1}/\Keep (· =b) w x:=by
 have D:∀i e R,w.heap[i]?=some (.cells R e (0,0))->e≠172->¬i=b:=by
  rintro i e R p he rfl;unfold ay at u;rw [u] at p;injection p with p
  injection p with _ p
  exact he p.symm
 have o:∀{e:N6} {size:Nat} {v:Value} {n:Nat} {xs:N4},w.ownsRow base e size v n xs->e≠172->x.ownsRow base e size v n xs:=λ{e size v n xs} B he=>
  k.own B λi p=>by
   rcases B.2 with ⟨hn,_⟩ | ⟨y,cap,Z,N,a0,J,_⟩
   ·rw [hn] at p;cases p
   ·rw [N] at p;obtain rfl:y=i:=by simpa [Value.ownBlock] using p
    exact D _ _ _ J he
 refine ⟨o N (by decide),?_,k⟩;obtain ⟨ok,ring,rows,O,B,V,hrl,I,hm⟩:=h
 obtain rfl:ring=.slice (some (aq y 0)) L c:=by
  have:=O.c0.symm.trans u.c0;injection this
 refine ⟨⟨ok.cap1,ok.cap2,C,by have:=ok.sr;simp only;omega,ok.pk,ok.many,ok.vals⟩,_,rows,hc,o B (by decide),V,hrl,I,λj Y U=>?_⟩;obtain ⟨A,c2,e,H⟩:=hm j (by simp only at Y;omega) U;exact ⟨A,c2,e,o H (by decide)⟩
theorem ay.set {w:N5} {b:Nat} {ring:Value} {cap sent recv peak:Nat} (h:ay w b ring cap sent recv peak) (n:Nat) (v:Int) (i:v=(n:Int)):ay (w.setCell (aq b 3) (H8 v)) b ring cap sent n peak:=by
 subst i;unfold ay at h ⊢;simp [World.setCell,Array.getElem?_modify,h]
theorem sY (base b:Nat) (g:Option Nat) (s:LSt) (t:Tg) (w:N5) (h:aJ w base b g s) (Q:s.recv<s.msgs.length) (a3:(aN s.msgs s.recv).tag=t):Calls prog 223 #[.pointer (some ⟨b,0,none⟩),.agg #[H8 t.a,H8 t.b,H8 t.c,H8 t.d,H8 t.e]] w λe y=>∃A c,
   e=.returned (.tuple #[.agg #[H8 t.a,H8 t.b,H8 t.c,H8 t.d,H8 t.e,.slice A (aN s.msgs s.recv).vals.length c],H8 0])/\
   y.ownsRow base 2 1 (.slice A (aN s.msgs s.recv).vals.length c) (aN s.msgs s.recv).vals.length (az .i64 (aN s.msgs s.recv).vals)/\
   aJ y base b g {s with recv:=s.recv+1}/\Keep (· =b) w y:=by
 subst a3;have hp:=λo1 o2=>sZ base b g s ((w.alloc o1).alloc o2) ((h.below ((Gb _ _).alloc (F3 _) _)).below ((Gb _ _).alloc (F3 _) _)) Q;obtain ⟨N,c,A',c',a0,hc,hi,h6,O⟩:=h.at_ s.recv (F3 _) Q;have I:=h.ok;have aP:s.recv<=100000000000:=by have:=I.many;omega
 have x:=I.cap1;have b1:=I.cap2;obtain ⟨i,R⟩:∃i,s.recv%s.cap=i:=⟨_,rfl⟩;rw [R] at hi h6;obtain ⟨L,hL⟩:∃L,min s.msgs.length s.cap=L:=⟨_,rfl⟩;rw [hL] at hi hc;have hb:=F1 hc;have ax:=aC h6.c0;generalize (aN s.msgs s.recv).tag=tg at *;obtain ⟨t0,t1,t2,T,V⟩:=tg;dsimp only at hp;obtain ⟨Hp,a2,H,Z,ad,a6⟩:=ah hp I h O R a0;clear hp I h O R a0 hL;go_enter func223,ntmps223;go_wp2_with fail;refine (Hp.o _ _).mono ?_;rintro e p ⟨rfl,D⟩
 have u:p.heap[w.heap.size+1]?=some (.cells Id 174 (0,0)):=by
  rw [D.block _ (by simp)];simpa using F4 (w.alloc (.cells #[H8 t0,H8 t1,H8 t2,H8 T,H8 V] 127)) (.cells Id 174)
 have a5:=F1 u;have r0:p.cell? ⟨w.heap.size+1,0,none⟩=some (H8 0):=Ga p _ 0 _ _ _ u;have r1:p.cell? ⟨w.heap.size+1,1,none⟩=some (H8 0):=Ga p _ 1 _ _ _ u;have r2:p.cell? ⟨w.heap.size+1,2,none⟩=some (H8 0):=Ga p _ 2 _ _ _ u;have r3:p.cell? ⟨w.heap.size+1,3,none⟩=some (H8 0):=Ga p _ 3 _ _ _ u;have r4:p.cell? ⟨w.heap.size+1,4,none⟩=some (H8 0):=Ga p _ 4 _ _ _ u;have r5:p.cell? ⟨w.heap.size+1,5,none⟩=some (H9):=Ga p _ 5 _ _ _ u;have fr:=λj=>Gh p _ j _ _ u
 have C:p.heap[w.heap.size]?=some (.cells #[H8 t0,H8 t1,H8 t2,H8 T,H8 V] 127 (0,0)):=by
  rw [D.block _ (by simp;omega),Gk _ _ _ (by simp)];exact F4 w _
 have p0:p.cell? ⟨w.heap.size,0,none⟩=some (H8 t0):=Ga p _ 0 _ _ _ C;have p1:p.cell? ⟨w.heap.size,1,none⟩=some (H8 t1):=Ga p _ 1 _ _ _ C;have p2:p.cell? ⟨w.heap.size,2,none⟩=some (H8 t2):=Ga p _ 2 _ _ _ C;have p3:p.cell? ⟨w.heap.size,3,none⟩=some (H8 T):=Ga p _ 3 _ _ _ C;have p4:p.cell? ⟨w.heap.size,4,none⟩=some (H8 V):=Ga p _ 4 _ _ _ C;have J:ap w p:=(((Gb _ w).alloc (F3 _) _).alloc (by simp) _).trans (D.mono (by simp;omega));have a4:w.heap.size<p.heap.size:=ao;have J:ap w p:=(((Gb _ w).alloc (F3 _) _).alloc (by simp) _).trans (D.mono (by simp;omega));have x:=hc.same (J.block b hb);have Y:=h6.same (J.block N ax);have a8:=F1 x;have b0:=aC Y.c0;have U:=λW hW=>iT b (.slice (some ⟨N,0,none⟩) L c) s.cap s.msgs.length s.recv s.peak s.recv i W hW a2.o.cap1 a2.o.cap2 ad.o;have k0:=x.c0;have k3:=x.c3;obtain ⟨m0,m1,m2,m3,m4,m5⟩:=Y;have f3:=x.free 3;have b2:¬(b=w.heap.size+1):=ao;have aM:¬(w.heap.size+1=b):=ao;obtain ⟨b4,a1,a7,Hc,H6⟩:=ag D x U hc h6;clear D u C x U hc h6;go_wp2_with fail
 go_region_held3 (λy=>y.cell? ⟨b,0,none⟩=some (.slice (some ⟨N,0,none⟩) L c)/\y.cell? ⟨b,3,none⟩=some (H8 (s.recv:Int))/\y.cell? ⟨N,i*6,none⟩=some (H8 t0)/\y.cell? ⟨N,i*6+1,none⟩=some (H8 t1)/\
   y.cell? ⟨N,i*6+2,none⟩=some (H8 t2)/\y.cell? ⟨N,i*6+3,none⟩=some (H8 T)/\y.cell? ⟨N,i*6+4,none⟩=some (H8 V)/\y.cell? ⟨N,i*6+5,none⟩=some (.slice A' (aN s.msgs s.recv).vals.length c')) (simp [go_sem, *])
  ((go_at_call 76;refine (a7.o _ (a1.o.same (Below.block (B:=p.heap.size) ?_ b a8))).mono ?_;exact am;rintro e y ⟨rfl,rfl⟩))
 all_goals
  go_wp2_with fail;have ak:IntKind.i64.wrap ((s.recv:Int)+1)=(s.recv:Int)+1:=Gd _ ao
  go_region
  clear ak;go_wp2;refine Gm (v:=.tuple #[.agg #[H8 t0,H8 t1,H8 t2,H8 T,H8 V,.slice A' (aN s.msgs s.recv).vals.length c'],H8 0]) (by simp [results,results223,go_sem,r0,r1,r2,r3,r4,r5,a4,a5]) rfl ⟨A',c',rfl,?_⟩;refine pz H.o Q ?_ Z.o a6.o Hc.o ((a1.o.set (s.recv+1) ((s.recv:Int)+1) ao).same (Below.block (B:=w.heap.size) ?_ b hb))
  ·have b3:Keep (· =b) w p:=Keep.below J
   (focus (repeat' (first | (with_reducible exact Keep.refl _ _) | (with_reducible assumption) | (with_reducible refine Keep.setCell ?_ _ ?_ _) | (with_reducible refine Keep.alloc ?_ _) | (with_reducible refine Keep.drewN ?_ _) | (with_reducible refine Keep.drew ?_) | (with_reducible exact Or.inr (fE _ _)) | (with_reducible exact Or.inr (fD _ _)) | (refine Or.inr ?_;first | rfl | (simp;done) | omega) | (refine Or.inl ?_;first | omega | (simp;done) | (simp;omega)))))
  ·exact am
def cI (b:Nat) (g:Option Nat) (k:Nat):Prop:=k=b\/g=some k
theorem fE (b:Nat) (g:Option Nat):cI b g b:=.inl rfl
theorem fD (b g:Nat):cI b (some g) g:=.inr rfl
theorem ay.drew {w:N5} {b:Nat} {ring:Value} {cap sent recv peak:Nat} (h:ay w b ring cap sent recv peak):ay w.drew b ring cap sent recv peak:=h
theorem ay.drewN {w:N5} {b:Nat} {ring:Value} {cap sent recv peak:Nat} (h:ay w b ring cap sent recv peak) (n:Nat):ay (w.drewN n) b ring cap sent recv peak:=h
theorem ay.far {w:N5} {b:Nat} {ring:Value} {cap sent recv peak:Nat} (h:ay w b ring cap sent recv peak) (p:Addr) (u:Value) (i:¬(b=p.block)):ay (w.setCell p u) b ring cap sent recv peak:=h.same (Below.heap_setCell w p u b i)
theorem ay.set0 {w:N5} {b:Nat} {ring:Value} {cap sent recv peak:Nat} (h:ay w b ring cap sent recv peak) (v:Value):ay (w.setCell (aq b 0) v) b v cap sent recv peak:=by
 unfold ay at h ⊢;simp [World.setCell,Array.getElem?_modify,h]
theorem ay.set2 {w:N5} {b:Nat} {ring:Value} {cap sent recv peak:Nat} (h:ay w b ring cap sent recv peak) (n:Nat) (v:Int) (i:v=(n:Int)):ay (w.setCell (aq b 2) (H8 v)) b ring cap n recv peak:=by
 subst i;unfold ay at h ⊢;simp [World.setCell,Array.getElem?_modify,h]
theorem ay.set4 {w:N5} {b:Nat} {ring:Value} {cap sent recv peak:Nat} (h:ay w b ring cap sent recv peak) (n:Nat) (v:Int) (i:v=(n:Int)):ay (w.setCell (aq b 4) (H8 v)) b ring cap sent recv n:=by
 subst i;unfold ay at h ⊢;simp [World.setCell,Array.getElem?_modify,h]
theorem ww {w:N5} {base b:Nat} {ring u:Value} {cap sent recv peak n:Nat} {xs:N4} (h:ay w b u cap sent recv peak) (x:w.ownsRow base 174 6 ring n xs):ring.ownBlock≠some b:=λe=>by
 rcases x.2 with ⟨hn,_⟩ | ⟨v,cap2,p,o,_,i,_⟩
 ·rw [hn] at e;cases e
 ·rw [o] at e;obtain rfl:v=b:=by simpa [Value.ownBlock] using e
  unfold ay at h;rw [h] at i;injection i with i;injection i with _ i;exact absurd i (by decide)
theorem tr (I:N4) (C J D L H N:Value) (A:I=[C,J,D,L,H,N]):∀(rows:List (N4)) (i:Nat),(∀r∈rows,r.length=6)->i<rows.length-> ((((((List.flatten rows).set (i*6) C).set (i*6+1) J).set (i*6+2) D).set (i*6+3) L).set (i*6+4) H).set (i*6+5) N=List.flatten (rows.set i I):=by
 intro rows
 induction rows with
 | nil=>intro i _ B;simp at B
 | cons r l ih=>
  intro i h B;have hr:r.length=6:=h r (by simp)
  cases i with
  | zero=>
   obtain ⟨p,a1,u,v,o,y,rfl⟩:∃p a1 u v o y,r=[p,a1,u,v,o,y]:=by
    match r,hr with
    | [p,a1,u,v,o,y],_=>exact ⟨p,a1,u,v,o,y,rfl⟩
   subst A;rfl
  | succ i=>
   have e:∀(xs:N4) (k:Nat) (x:Value),(r++xs).set (6+k) x=r++xs.set k x:=λxs k x=>by
    rw [List.set_append_right _ _ ao,hr,show 6+k-6=k by omega]
   rw [List.flatten_cons,show (i+1)*6=6+i*6 by omega];simp only [GX,e];rw [Gv,List.flatten_cons,<-ih i (λr hr=>h r (by simp [hr])) (by simpa using B)]
theorem nG (rows:List (N4)) (i:Nat) (o:N4) (h:i<rows.length):eO (rows.set i o) i=o:=by simp [eO,h]
theorem mO (rows:List (N4)) (i j:Nat) (o:N4) (h:i≠j):eO (rows.set i o) j=eO rows j:=by simp [eO,h]
theorem nH (rows:List (N4)) (i:N4) (j:Nat) (h:j<rows.length):eO (rows++[i]) j=eO rows j:=by simp [eO,GH h]
theorem nI (rows:List (N4)) (h:N4):eO (rows++[h]) rows.length=h:=by simp [eO]
theorem nX (l:List Msg) (m:Msg) (j:Nat) (h:j<l.length):aN (l++[m]) j=aN l j:=by simp [aN,GH h]
theorem nY (l:List Msg) (m:Msg):aN (l++[m]) l.length=m:=by simp [aN]
theorem ET {a b r cap:Nat} (p:r<=a) (i:a<b) (o:b<r+cap):a%cap≠b%cap:=λe=>by
 have h:cap ∣ b-a:=Nat.dvd_of_mod_eq_zero (Nat.sub_mod_eq_zero_of_mod_eq e.symm);have:=Nat.le_of_dvd ao h;omega
theorem j1 {w B:N5} {base b:Nat} {g:Option Nat} {s:LSt} {ring:Value} {rows:List (N4)} (ok:s.Ok) (C:ay w b ring s.cap s.msgs.length s.recv s.peak) (ho:w.ownsRow base 174 6 ring (min s.msgs.length s.cap) (List.flatten rows)) (p:ring.ownBlock=g) (hm:∀j,s.recv<=j->j<s.msgs.length->Db w base (eO rows (j%s.cap)) (aN s.msgs j)) (J:s.msgs.length<s.recv+s.cap) (U:s.msgs.length<100000000000) (t:Tg) (zs:N1) (Q:zs.length<=17592186043904) (k:Keep (cI b g) w B) {ring':Value} {Y:Option Nat} {rows':List (N4)} {A1:N0} {c1:Nat} {P:Nat} (hP:P=max s.peak (s.msgs.length+1-s.recv)) (hc:ay B b ring' s.cap (s.msgs.length+1) s.recv P) (x:B.ownsRow base 174 6 ring' (min (s.msgs.length+1) s.cap) (List.flatten rows')) (hg:ring'.ownBlock=Y) (hrl:rows'.length=min (s.msgs.length+1) s.cap) (N:∀r∈rows',r.length=6) (D:∀j,s.recv<=j->j<s.msgs.length->eO rows' (j%s.cap)=eO rows (j%s.cap))
  (H:eO rows' (s.msgs.length%s.cap)=[H8 t.a,H8 t.b,H8 t.c,H8 t.d,H8 t.e,.slice A1 zs.length c1])
  (hv:B.ownsRow base 2 1 (.slice A1 zs.length c1) zs.length (az .i64 zs)):
  aJ B base b Y {s with msgs:=s.msgs++[⟨t,zs⟩],peak:=max s.peak (s.msgs.length+1-s.recv)}:=by
 subst hP
 have hty:∀i V,w.heap[i]?=some (.cells V 2 (0,0))->¬(i=b\/g=some i):=by
  rintro i V h (rfl | y)
  ·unfold ay at C;rw [C] at h;injection h with h;injection h with _ h;exact absurd h (by decide)
  ·rcases ho.2 with ⟨hn,_⟩ | ⟨L,cap,R,u,_,v,_⟩
   ·rw [hn] at p;rw [y] at p;cases p
   ·rw [u,y] at p;obtain rfl:L=i:=by simpa [Value.ownBlock] using p
    rw [v] at h;injection h with h;injection h with _ h;exact absurd h (by decide)
 refine ⟨⟨ok.cap1,ok.cap2,?_,?_,?_,?_,?_⟩,ring',rows',?_,?_,hg,?_,N,λj O Z=>?_⟩
 ·have:=ok.rs;simp;omega
 ·simp;omega
 ·have:=ok.pk;simp only;omega
 ·simp;omega
 ·intro m o;rcases GU.1 o with o | o
  ·exact ok.vals m o
  ·rw [List.mem_singleton.1 o];exact Q
 ·simpa using hc
 ·simpa using x
 ·simpa using hrl
 ·simp only [GE,GP] at O Z;rcases Gn j s.msgs.length with I | I
  ·rw [nX _ _ _ I];simp only;rw [D j O I];obtain ⟨A,c2,e,u⟩:=hm j O I;refine ⟨A,c2,e,k.own u λi h=>?_⟩;rcases u.2 with ⟨hn,_⟩ | ⟨L,cap,R,T,_,v,_⟩
   ·rw [hn] at h;cases h
   ·rw [T] at h;obtain rfl:L=i:=by simpa [Value.ownBlock] using h
    exact hty _ _ v
  ·obtain rfl:j=s.msgs.length:=ao;rw [nY];exact ⟨A1,c1,H,hv⟩
theorem pB (base b:Nat) (g:Option Nat) (s:LSt) (y:N2) (w:N5) (h:aJ w base b g s) (i:s.msgs.length=s.recv+s.cap):Calls prog 222 #[(ar b),.agg y] w λe v=>e=.returned (H8 11)/\ap w v:=by
 obtain ⟨ok,ring,rows,hc,_⟩:=h;have B:=ok.cap2;have p:=ok.rs;have u:=ok.many;have hl:=λo n=>kO b _ _ _ _ _ _ (show ay ((w.alloc o).drewN n) _ _ _ _ _ _ from hc.alloc o) p ao;rw [show (s.msgs.length:Int)-(s.recv:Int)=(s.cap:Int) by omega] at hl;have c1:=hc.c1;have hb:=F1 hc;obtain ⟨x,A,C,D⟩:=af hl ok hc i;clear hl hc ok i p u;go_enter func222,ntmps222;go_wp2_with fail
 go_quiet ((go_at_call 75;exact Calls.quiet_of (x.o _ _)))
 go_wp2_with fail;go_ret;refine ⟨rfl,?_⟩;exact am
theorem oe (base b:Nat) (g:Option Nat) (s:LSt) (t:Tg) (A:N0) (zs:N1) (c:Nat) (w:N5) (h:aJ w base b g s) (R:s.msgs.length<s.recv+s.cap) (bb:s.cap<=s.msgs.length) (Y:s.msgs.length<100000000000) (b4:base<=w.heap.size) (hA:Rd w A (az .i64 zs)) (ad:zs.length<=17592186043904):Calls prog 222 #[.pointer (some ⟨b,0,none⟩),.agg #[H8 t.a,H8 t.b,H8 t.c,H8 t.d,H8 t.e,.slice A zs.length c]] w λe T=>e=.returned (H8 0)/\
   ∃g',aJ T base b g' {s with msgs:=s.msgs++[⟨t,zs⟩],peak:=max s.peak (s.msgs.length+1-s.recv)}/\Keep (cI b g) w T/\(g'=g\/∃k,g'=some k/\w.heap.size<=k):=by
 obtain ⟨t0,t1,t2,t3,t4⟩:=t;have H:=aa h;obtain ⟨ok,ring,rows,hc,J,hg,hrl,ax,hm⟩:=h;obtain ⟨RA,rc,rfl,b8⟩:=aE J;have bw:=ok.cap1;have bV:=ok.cap2;have b2:=ok.rs;have c6:=ok.pk;have hl:=λo n=>kO b _ _ _ _ _ _ (show ay ((w.alloc o).drewN n) _ _ _ _ _ _ from hc.alloc o) b2 ao;obtain ⟨i,Z⟩:∃i,s.msgs.length%s.cap=i:=⟨_,rfl⟩;obtain ⟨L,hL⟩:∃L,min s.msgs.length s.cap=L:=⟨_,rfl⟩;rw [hL] at b8 J hrl hc;have c1:=hc.c1;have hb:=F1 hc;have a7:(((s.msgs.length:Int)-(s.recv:Int))==(s.cap:Int))=false:=by simp;omega
 have a6:=λW hW=>mJ A zs c W hW ad;obtain ⟨D,hD⟩:∃D:Int,D=(s.msgs.length:Int)-(s.recv:Int):=⟨_,rfl⟩;rw [<-hD] at a7 hl;have bO:0<=D/\D<s.cap:=ao;have b7:i<L:=by rw [<-hL,<-Z];have:=Nat.mod_lt s.msgs.length (show 0<s.cap by omega);omega
 obtain ⟨Hl,a0,Hc,N,Hg,b0,aP,Hm⟩:=aj hl ok hc J hg hrl ax hm;obtain ⟨a2,HL,bd,HD⟩:=af Z hL a6 hD;clear hl hc ok J hg hrl ax hm Z hL a6 hD;go_enter func222,ntmps222;go_wp2_with fail
 go_quiet ((go_at_call 75;exact Calls.quiet_of (Hl.o _ _)))
 clear a7;go_wp2_with fail;refine (bd.o _ ((hA.alloc _).drewN _)).mono ?_;rintro e B ⟨v1,rfl,C,V⟩;obtain ⟨A1,a3,rfl,bX⟩:=aE C
 have p:B.heap[w.heap.size]?=some (.cells #[H8 t0,H8 t1,H8 t2,H8 t3,H8 t4,.slice A zs.length c] 174 (0,0)):=by
  rw [V.block _ (by simp)];exact F4 w _
 have bN:=F1 p;have p0:B.cell? ⟨w.heap.size,0,none⟩=some (H8 t0):=Ga B _ 0 _ _ _ p;have p1:B.cell? ⟨w.heap.size,1,none⟩=some (H8 t1):=Ga B _ 1 _ _ _ p;have p2:B.cell? ⟨w.heap.size,2,none⟩=some (H8 t2):=Ga B _ 2 _ _ _ p;have p3:B.cell? ⟨w.heap.size,3,none⟩=some (H8 t3):=Ga B _ 3 _ _ _ p;have p4:B.cell? ⟨w.heap.size,4,none⟩=some (H8 t4):=Ga B _ 4 _ _ _ p;have p5:B.cell? ⟨w.heap.size,5,none⟩=some (.slice A zs.length c):=Ga B _ 5 _ _ _ p;have pf:=λj=>Gh B _ j _ _ p;have a1:ap w B:=(Gi ((Gb _ w).alloc (F3 _) _) _).trans (V.mono (by simp));have y:=Hc.o.same (a1.block b hb);have bA:=F1 y;have k0:=y.c0;have k2:=y.c2;have k3:=y.c3;have k4:=y.c4;have f2:=y.free 2;have f4:=y.free 4;have f0:=y.free 0;have bl:¬(b=w.heap.size):=ao;have bo:¬(w.heap.size=b):=ao;have aM:=λW hW=>iT b (.slice RA L rc) s.cap s.msgs.length s.recv s.peak s.msgs.length i W hW a0.o.cap1 a0.o.cap2 a2.o;obtain ⟨a5,bM,I,b3⟩:=af y V C aM;clear y V C aM p;go_wp2_with fail;refine (b3.o _ (a5.o.same (Below.heap_setCell B ⟨w.heap.size,5,none⟩ _ b bl))).mono ?_;rintro e w2 ⟨rfl,rfl⟩;obtain ⟨O,bh,U,c7,bI⟩:=N.o.form ao;obtain ⟨rfl,rfl⟩:RA=some ⟨O,0,none⟩/\rc=bh:=by simp only [GT] at U;exact ⟨U.1,U.2.2⟩
 clear U;obtain rfl:g=some O:=Hg.o.symm;have u:=aA N.o ((Below.mono a1 (F3 _)))
 have v:∀t,t<6->∃x,B.cell? ⟨O,i*6+t,none⟩=some x:=λt ht=>by
  have h6:i*6+t<L*6:=ao;rw [u.cellAt _ h6];exact ⟨_,GG (by rw [u.1];exact h6)⟩
 obtain ⟨x0,q0⟩:=v 0 ao;obtain ⟨x1,q1⟩:=v 1 ao;obtain ⟨x2,q2⟩:=v 2 ao;obtain ⟨x3,q3⟩:=v 3 ao;obtain ⟨x4,q4⟩:=v 4 ao;obtain ⟨x5,q5⟩:=v 5 ao;rw [Nat.add_zero] at q0;have qf:=λj=>u.frozenAt j;have bz:¬(O=w.heap.size):=ao;have bs:¬(w.heap.size=O):=ao
 have b1:¬(O=b):=λe=>by
  subst e;have h1:=a5.o.c1;rcases N.o.2 with ⟨h0,_⟩ | ⟨g2,cap,bv,hv,_,Q,_⟩
  ·cases h0
  ·have e2:g2=O:=by simp only [GT,Option.some.injEq,Addr.mk.injEq] at hv;exact hv.1.1.symm
   subst e2;have h2:=Hc.o;unfold ay at h2;rw [h2] at Q;injection Q with Q
   injection Q with _ Q
   exact absurd Q (by decide)
 have bi:¬(b=O):=λe=>b1 e.symm;clear v;have a4:=aa u;clear u;go_wp2_with fail
 go_region_held3 (λT=>T.cell? ⟨b,0,none⟩=some (.slice (some ⟨O,0,none⟩) L rc)/\T.cell? ⟨w.heap.size,0,none⟩=some (H8 t0)/\T.cell? ⟨w.heap.size,1,none⟩=some (H8 t1)/\T.cell? ⟨w.heap.size,2,none⟩=some (H8 t2)/\T.cell? ⟨w.heap.size,3,none⟩=some (H8 t3)/\
  T.cell? ⟨w.heap.size,4,none⟩=some (H8 t4)/\T.cell? ⟨w.heap.size,5,none⟩=some (.slice A1 zs.length a3)) (simp [go_sem, *]) ((fail))
 go_wp2_with fail;have b6:IntKind.i64.wrap ((s.msgs.length:Int)+1)=(s.msgs.length:Int)+1:=Gd _ ao
 go_region
 clear b6;go_wp2_with fail;have b5:0<=(s.recv:Int)/\(s.recv:Int)<=(s.msgs.length:Int)+1/\(s.msgs.length:Int)+1<=17592186043904:=ao
 go_region_with ((go_at_call 75;refine (s6 b ((s.msgs.length:Int)+1) s.recv _ (by simp [go_sem, *]) (by simp [go_sem, *]) b5).mono ?_;rintro e T ⟨rfl,n',rfl⟩))
 have bn:=I.o
 all_goals go_wp2_with fail
 all_goals go_ret
 all_goals
  have bG:Keep (cI b (some O)) w B:=Keep.below a1;have a8:i<rows.length:=by rw [b0.o];exact b7
  have ak:L=min (s.msgs.length+1) s.cap:=by have:=HL.o;omega
  refine ⟨rfl,some O,?_,by (focus (repeat' (first | (with_reducible exact Keep.refl _ _) | (with_reducible assumption) | (with_reducible refine Keep.setCell ?_ _ ?_ _) | (with_reducible refine Keep.alloc ?_ _) | (with_reducible refine Keep.drewN ?_ _) | (with_reducible refine Keep.drew ?_) | (with_reducible exact Or.inr (fE _ _)) | (with_reducible exact Or.inr (fD _ _)) | (refine Or.inr ?_;first | rfl | (simp;done) | omega) | (refine Or.inl ?_;first | omega | (simp;done) | (simp;omega))))),.inl rfl⟩;refine j1 (A1:=A1) (c1:=a3) (g:=some O) (rows':=rows.set i [H8 t0,H8 t1,H8 t2,H8 t3,H8 t4,.slice A1 zs.length a3]) (ring':=.slice (some ⟨O,0,none⟩) L rc) a0.o Hc.o (HL.o▸N.o) rfl Hm.o R Y ⟨t0,t1,t2,t3,t4⟩ zs ad (by (focus (repeat' (first | (with_reducible exact Keep.refl _ _) | (with_reducible assumption) | (with_reducible refine Keep.setCell ?_ _ ?_ _) | (with_reducible refine Keep.alloc ?_ _) | (with_reducible refine Keep.drewN ?_ _) | (with_reducible refine Keep.drew ?_) | (with_reducible exact Or.inr (fE _ _)) | (with_reducible exact Or.inr (fD _ _)) | (refine Or.inr ?_;first | rfl | (simp;done) | omega) | (refine Or.inl ?_;first | omega | (simp;done) | (simp;omega)))))) (P:=max s.peak (s.msgs.length+1-s.recv)) rfl (by (focus (repeat' (first | (with_reducible exact a5.o) | (with_reducible refine ay.drew ?_) | (with_reducible refine ay.drewN ?_ _) | (with_reducible refine ay.alloc ?_ _) | (with_reducible refine ay.set0 (ring:=.slice RA L rc) ?_ _) | (with_reducible refine ay.set2 (sent:=s.msgs.length) ?_ _ _ ?_) | (with_reducible refine ay.set4 (peak:=s.peak) ?_ _ _ ?_) | (with_reducible refine ay.far ?_ _ _ ?_) | omega | (push_cast;omega))))) ?_ rfl ?_ ?_ ?_ ?_ ?_
  ·rw [<-ak,<-tr _ _ _ _ _ _ _ rfl rows i aP.o a8]
   (focus (repeat' (first | (with_reducible exact a4.o) | (with_reducible refine World.ownsRow.drew ?_) | (with_reducible refine bW ?_ _) | (with_reducible refine World.ownsRow.alloc ?_ _) | (with_reducible refine (World.ownsRow.stored ?_ _ _).1) | (with_reducible refine ownsRow_setCell_other ?_ ?_ _) | (with_reducible assumption) | (simp [Value.ownBlock];done) | (simp [Value.ownBlock];omega))))
  ·rw [List.length_set,b0.o,ak]
  ·intro r hr;rcases List.mem_or_eq_of_mem_set hr with hr | rfl
   ·exact aP.o r hr
   ·rfl
  ·intro j h1 h2;exact mO _ _ _ _ λe=>ET h1 h2 R (e.symm.trans a2.o.symm)
  ·rw [a2.o];exact nG _ _ _ a8
  ·refine Keep.own (S:=λk=>k<=w.heap.size) (w:=B) ?_ (aG I.o (by simp;omega)) ?_
   ·(focus (repeat' (first | (with_reducible exact Keep.refl _ _) | (with_reducible assumption) | (with_reducible refine Keep.setCell ?_ _ ?_ _) | (with_reducible refine Keep.alloc ?_ _) | (with_reducible refine Keep.drewN ?_ _) | (with_reducible refine Keep.drew ?_) | (with_reducible exact Or.inr (fE _ _)) | (with_reducible exact Or.inr (fD _ _)) | (refine Or.inr ?_;first | rfl | (simp;done) | omega) | (refine Or.inl ?_;first | omega | (simp;done) | (simp;omega)))))
    all_goals (dsimp only;omega)
   ·intro k hk;have:=(I.o.lt k hk).1;simp at this ⊢;omega
theorem rr (base b:Nat) (g:Option Nat) (s:LSt) (t:Tg) (A:N0) (zs:N1) (c:Nat) (w:N5) (h:aJ w base b g s) (a2:s.msgs.length<s.recv+s.cap) (a4:s.msgs.length<s.cap) (a0:s.msgs.length<100000000000) (bb:base<=w.heap.size) (hA:Rd w A (az .i64 zs)) (ak:zs.length<=17592186043904):Calls prog 222 #[(ar b),.agg #[H8 t.a,H8 t.b,H8 t.c,H8 t.d,H8 t.e,.slice A zs.length c]] w λe w'=>e=.returned (H8 0)/\
   ∃g',aJ w' base b g' {s with msgs:=s.msgs++[⟨t,zs⟩],peak:=max s.peak (s.msgs.length+1-s.recv)}/\Keep (cI b g) w w'/\(g'=g\/∃k,g'=some k/\w.heap.size<=k):=by
 obtain ⟨t0,t1,t2,t3,t4⟩:=t;have H:=aa h;obtain ⟨ok,ring,rows,hc,O,hg,hrl,aP,hm⟩:=h;obtain ⟨RA,rc,rfl,bi⟩:=aE O;have bz:=ok.cap1;have cb:=ok.cap2;have b6:=ok.rs;have cd:=ok.pk;have hl:=λo n=>kO b _ _ _ _ _ _ (show ay ((w.alloc o).drewN n) _ _ _ _ _ _ from hc.alloc o) b6 ao;obtain ⟨i,a1⟩:∃i,s.msgs.length%s.cap=i:=⟨_,rfl⟩;obtain ⟨L,hL⟩:∃L,min s.msgs.length s.cap=L:=⟨_,rfl⟩;rw [hL] at bi O hrl hc hg;have c1:=hc.c1;have hb:=F1 hc;have ad:(((s.msgs.length:Int)-(s.recv:Int))==(s.cap:Int))=false:=by simp;omega
 have a8:=λW hW=>mJ A zs c W hW ak;obtain ⟨D,hD⟩:∃D:Int,D=(s.msgs.length:Int)-(s.recv:Int):=⟨_,rfl⟩;rw [<-hD] at ad hl;have c9:0<=D/\D<s.cap:=ao;obtain rfl:i=L:=by rw [<-hL,<-a1,Nat.mod_eq_of_lt a4];omega
 obtain ⟨Hl,U,Hc,I,Hg,a7,bl,Hm⟩:=aj hl ok hc O hg hrl aP hm;obtain ⟨b4,HL,bn,HD⟩:=af a1 hL a8 hD;clear hl hc ok O hg hrl aP hm a1 hL a8 hD;go_enter func222,ntmps222;go_wp2_with fail
 go_quiet ((go_at_call 75;exact Calls.quiet_of (Hl.o _ _)))
 clear ad;go_wp2_with fail;refine (bn.o _ ((hA.alloc _).drewN _)).mono ?_;rintro e y ⟨v1,rfl,J,V⟩;obtain ⟨A1,R,rfl,cc⟩:=aE J
 have p:y.heap[w.heap.size]?=some (.cells #[H8 t0,H8 t1,H8 t2,H8 t3,H8 t4,.slice A zs.length c] 174 (0,0)):=by
  rw [V.block _ (by simp)];exact F4 w _
 have c7:=F1 p;have p0:y.cell? (aq w.heap.size 0)=some (H8 t0):=Ga y _ 0 _ _ _ p;have p1:y.cell? (aq w.heap.size 1)=some (H8 t1):=Ga y _ 1 _ _ _ p;have p2:y.cell? (aq w.heap.size 2)=some (H8 t2):=Ga y _ 2 _ _ _ p;have p3:y.cell? (aq w.heap.size 3)=some (H8 t3):=Ga y _ 3 _ _ _ p;have p4:y.cell? (aq w.heap.size 4)=some (H8 t4):=Ga y _ 4 _ _ _ p;have p5:y.cell? (aq w.heap.size 5)=some (.slice A zs.length c):=Ga y _ 5 _ _ _ p;have pf:=λj=>Gh y _ j _ _ p;have a3:ap w y:=(Gi ((Gb _ w).alloc (F3 _) _) _).trans (V.mono (by simp));have x:=Hc.o.same (a3.block b hb);have bA:=F1 x;have k0:=x.c0;have k2:=x.c2;have k3:=x.c3;have k4:=x.c4;have f2:=x.free 2;have f4:=x.free 4;have f0:=x.free 0;have bo:¬(b=w.heap.size):=ao;have bs:¬(w.heap.size=b):=ao;have b2:=λW hW=>iT b (.slice RA i rc) s.cap s.msgs.length s.recv s.peak s.msgs.length i W hW U.o.cap1 U.o.cap2 b4.o;obtain ⟨b5,bI,Q,b8⟩:=af x V J b2;clear x V J b2 p;go_wp2_with fail;refine (b8.o _ (b5.o.same (Below.heap_setCell y (aq w.heap.size 5) _ b bo))).mono ?_;rintro e w2 ⟨rfl,rfl⟩;have v:=aA I.o (Below.mono a3 (F3 _));have a5:=aa v;clear v;have hrb:(Value.slice RA i rc).ownBlock≠some w.heap.size:=λe=>by have:=(I.o.lt _ e).2;omega
 have b3:=ww Hc.o I.o;have ci:i<=1048576:=by have:=HL.o;omega
 go_wp2_with fail
 go_region_law ((refine rT D2 rfl (.tmp 47) (.tmp 49) rfl base (.slice RA i rc) i (List.flatten rows) rfl ?_ (some (aq y.heap.size 0)) 1 1 [H8 t0,H8 t1,H8 t2,H8 t3,H8 t4,.slice A1 zs.length R] rfl ?_ rfl ?_ ?_ ?_ ?_ ?_;((focus (repeat' (first | (with_reducible exact a5.o) | (with_reducible refine World.ownsRow.drew ?_) | (with_reducible refine bW ?_ _) | (with_reducible refine World.ownsRow.alloc ?_ _) | (with_reducible refine (World.ownsRow.stored ?_ _ _).1) | (with_reducible refine ownsRow_setCell_other ?_ ?_ _) | (with_reducible assumption) | (simp [Value.ownBlock];done) | (simp [Value.ownBlock];omega)))));exact Rd.drew (gN _ _ _ _ (by simp));(intro u hu;simp at hu;rcases hu with rfl | rfl | rfl | rfl | rfl | rfl<;>rfl);omega;(unfold maxLen;omega);(simp;omega);(intro A2 c2 w2 v T C Y;have Z:=C.block b (by first | (simp;done) | (simp;omega)) (λe=>b3 e.symm);have B:ay w2 b (.slice RA i rc) s.cap s.msgs.length s.recv s.peak:=(by refine ay.same ?_ Z;(focus (repeat' (first | (with_reducible exact b5.o) | (with_reducible refine ay.drew ?_) | (with_reducible refine ay.drewN ?_ _) | (with_reducible refine ay.alloc ?_ _) | (with_reducible refine ay.set0 (ring:=.slice RA L rc) ?_ _) | (with_reducible refine ay.set2 (sent:=s.msgs.length) ?_ _ _ ?_) | (with_reducible refine ay.set4 (peak:=s.peak) ?_ _ _ ?_) | (with_reducible refine ay.far ?_ _ _ ?_) | omega | (push_cast;omega)))));have c8:=B.c0;have bO:=B.free 0;have bv:=B.c2;have bV:=B.c3;have bX:=B.c4;have c6:=B.free 2;have bw:=B.free 4;obtain ⟨b7,N,b1,aM,b0⟩:=ag T C Y B v;clear T C Y B v Z)))
 all_goals go_wp2_with fail
 all_goals have bh:IntKind.i64.wrap ((s.msgs.length:Int)+1)=(s.msgs.length:Int)+1:=Gd _ ao
 all_goals go_region
 all_goals clear bh
 all_goals go_wp2_with fail
 all_goals have bd:0<=(s.recv:Int)/\(s.recv:Int)<=(s.msgs.length:Int)+1/\(s.msgs.length:Int)+1<=17592186043904:=ao
 all_goals go_region_with ((go_at_call 75;refine (s6 b ((s.msgs.length:Int)+1) s.recv _ (by simp [go_sem, *]) (by simp [go_sem, *]) bd).mono ?_;rintro e w' ⟨rfl,n',rfl⟩))
 all_goals go_wp2_with fail
 all_goals go_ret
 all_goals
  have bN:=ww aM.o b0.o;have bG:Keep (cI b g) w y:=Keep.below a3;have cf:Keep (cI b g) w w2:=Keep.grown (by (focus (repeat' (first | (with_reducible exact Keep.refl _ _) | (with_reducible assumption) | (with_reducible refine Keep.setCell ?_ _ ?_ _) | (with_reducible refine Keep.alloc ?_ _) | (with_reducible refine Keep.drewN ?_ _) | (with_reducible refine Keep.drew ?_) | (with_reducible exact Or.inr (fE _ _)) | (with_reducible exact Or.inr (fD _ _)) | (refine Or.inr ?_;first | rfl | (simp;done) | omega) | (refine Or.inl ?_;first | omega | (simp;done) | (simp;omega)))))) N.o (λk hk=>.inr (.inr (Hg.o.symm.trans hk)));have ax:i+1=min (s.msgs.length+1) s.cap:=by have:=HL.o;omega
  have a6:eO (rows++[[H8 t0,H8 t1,H8 t2,H8 t3,H8 t4,.slice A1 zs.length R]]) i=[H8 t0,H8 t1,H8 t2,H8 t3,H8 t4,.slice A1 zs.length R]:=by
   rw [<-a7.o];exact nI _ _
  refine ⟨rfl,(Value.slice A2 (i+1) c2).ownBlock,?_,by (focus (repeat' (first | (with_reducible exact Keep.refl _ _) | (with_reducible assumption) | (with_reducible refine Keep.setCell ?_ _ ?_ _) | (with_reducible refine Keep.alloc ?_ _) | (with_reducible refine Keep.drewN ?_ _) | (with_reducible refine Keep.drew ?_) | (with_reducible exact Or.inr (fE _ _)) | (with_reducible exact Or.inr (fD _ _)) | (refine Or.inr ?_;first | rfl | (simp;done) | omega) | (refine Or.inl ?_;first | omega | (simp;done) | (simp;omega))))),?_⟩
  ·refine j1 (A1:=A1) (c1:=R) (g:=g) (rows':=rows++[[H8 t0,H8 t1,H8 t2,H8 t3,H8 t4,.slice A1 zs.length R]]) (ring':=.slice A2 (i+1) c2) U.o Hc.o (HL.o▸I.o) Hg.o Hm.o a2 a0 ⟨t0,t1,t2,t3,t4⟩ zs ak (by (focus (repeat' (first | (with_reducible exact Keep.refl _ _) | (with_reducible assumption) | (with_reducible refine Keep.setCell ?_ _ ?_ _) | (with_reducible refine Keep.alloc ?_ _) | (with_reducible refine Keep.drewN ?_ _) | (with_reducible refine Keep.drew ?_) | (with_reducible exact Or.inr (fE _ _)) | (with_reducible exact Or.inr (fD _ _)) | (refine Or.inr ?_;first | rfl | (simp;done) | omega) | (refine Or.inl ?_;first | omega | (simp;done) | (simp;omega)))))) (P:=max s.peak (s.msgs.length+1-s.recv)) rfl (by (focus (repeat' (first | (with_reducible exact aM.o) | (with_reducible refine ay.drew ?_) | (with_reducible refine ay.drewN ?_ _) | (with_reducible refine ay.alloc ?_ _) | (with_reducible refine ay.set0 (ring:=.slice RA i rc) ?_ _) | (with_reducible refine ay.set2 (sent:=s.msgs.length) ?_ _ _ ?_) | (with_reducible refine ay.set4 (peak:=s.peak) ?_ _ _ ?_) | (with_reducible refine ay.far ?_ _ _ ?_) | omega | (push_cast;omega))))) ?_ rfl ?_ ?_ ?_ ?_ ?_
   ·rw [<-ax,GQ,List.flatten_cons,List.flatten_nil,List.append_nil]
    (focus (repeat' (first | (with_reducible exact b0.o) | (with_reducible refine World.ownsRow.drew ?_) | (with_reducible refine bW ?_ _) | (with_reducible refine World.ownsRow.alloc ?_ _) | (with_reducible refine (World.ownsRow.stored ?_ _ _).1) | (with_reducible refine ownsRow_setCell_other ?_ ?_ _) | (with_reducible assumption) | (simp [Value.ownBlock];done) | (simp [Value.ownBlock];omega))))
   ·rw [GE,GP,a7.o,ax]
   ·intro r hr;rcases GU.1 hr with hr | hr
    ·exact bl.o r hr
    ·rw [List.mem_singleton.1 hr];rfl
   ·intro j h1 h2;exact nH _ _ _ (by rw [a7.o,<-HL.o];exact nZ h1 h2 ao U.o.cap1)
   ·rw [b4.o];exact a6
   ·have bM:Keep (λk=>k<=w.heap.size) y w2:=Keep.grown (by (focus (repeat' (first | (with_reducible exact Keep.refl _ _) | (with_reducible assumption) | (with_reducible refine Keep.setCell ?_ _ ?_ _) | (with_reducible refine Keep.alloc ?_ _) | (with_reducible refine Keep.drewN ?_ _) | (with_reducible refine Keep.drew ?_) | (with_reducible exact Or.inr (fE _ _)) | (with_reducible exact Or.inr (fD _ _)) | (refine Or.inr ?_;first | rfl | (simp;done) | omega) | (refine Or.inl ?_;first | omega | (simp;done) | (simp;omega)))))) N.o (λk hk=>.inr (by have:=(I.o.lt k hk).2;omega));refine Keep.own (S:=λk=>k<=w.heap.size) (w:=y) ?_ (aG Q.o (by simp;omega)) ?_
    ·(focus (repeat' (first | (with_reducible exact Keep.refl _ _) | (with_reducible assumption) | (with_reducible refine Keep.setCell ?_ _ ?_ _) | (with_reducible refine Keep.alloc ?_ _) | (with_reducible refine Keep.drewN ?_ _) | (with_reducible refine Keep.drew ?_) | (with_reducible exact Or.inr (fE _ _)) | (with_reducible exact Or.inr (fD _ _)) | (refine Or.inr ?_;first | rfl | (simp;done) | omega) | (refine Or.inl ?_;first | omega | (simp;done) | (simp;omega)))))
     all_goals (dsimp only;omega)
    ·intro k hk;have:=(Q.o.lt k hk).1;simp at this ⊢;omega
  ·rcases b1.o with h1 | h1
   ·exact .inl (h1.trans Hg.o)
   ·exact .inr ⟨_,h1,by simp;omega⟩
def LSt.send (s:LSt) (m:Msg):LSt:={s with msgs:=s.msgs++[m],peak:=max s.peak (s.msgs.length+1-s.recv)}
def LSt.new (c:Nat):LSt:=⟨c,[],0,0⟩
theorem BY (base b:Nat) (g:Option Nat) (s:LSt) (t:Tg) (A:N0) (zs:N1) (c:Nat) (w:N5) (h:aJ w base b g s) (p:s.msgs.length<s.recv+s.cap) (o:s.msgs.length<100000000000) (i:base<=w.heap.size) (y:Rd w A (az .i64 zs)) (u:zs.length<=17592186043904):Calls prog 222 #[(ar b),.agg #[H8 t.a,H8 t.b,H8 t.c,H8 t.d,H8 t.e,.slice A zs.length c]] w λe x=>e=.returned (H8 0)/\
   ∃v,aJ x base b v (s.send ⟨t,zs⟩)/\Keep (cI b g) w x/\(v=g\/∃k,v=some k/\w.heap.size<=k):=by
 rcases Gn s.msgs.length s.cap with hc | hc
 ·exact rr base b g s t A zs c w h p hc o i y u
 ·exact oe base b g s t A zs c w h p hc o i y u
theorem aJ.blocks {w:N5} {base b:Nat} {g:Option Nat} {s:LSt} (h:aJ w base b g s):b<w.heap.size/\∀i,g=some i->base<=i/\i<w.heap.size:=by
 obtain ⟨ok,ring,rows,hc,o,p,_⟩:=h;exact ⟨F1 hc,λi u=>o.lt i (p.trans u)⟩
theorem km {w:N5} {b v:Nat} {x p:N2} {t u:N6} (h:w.heap[b]?=some (.cells x t (0,0))) (i:w.heap[v]?=some (.cells p u (0,0))) (o:t≠u):b≠v:=by
 rintro rfl;rw [h] at i;injection i with i
 injection i with _ i
 exact o i
theorem aJ.blk {w:N5} {base b:Nat} {g:Option Nat} {s:LSt} (h:aJ w base b g s):∃i,w.heap[b]?=some (.cells i 172 (0,0)):=by
 obtain ⟨ok,ring,rows,hc,_⟩:=h;exact ⟨_,hc⟩
theorem aJ.ringBlk {w:N5} {base b i:Nat} {s:LSt} (h:aJ w base b (some i) s):∃A,w.heap[i]?=some (.cells A 174 (0,0)):=by
 obtain ⟨ok,ring,rows,hc,o,p,_⟩:=h;rcases o.2 with ⟨hn,_⟩ | ⟨y,cap2,x,u,_,v,_⟩
 ·rw [hn] at p;cases p
 ·rw [u] at p;obtain rfl:y=i:=by simpa [Value.ownBlock] using p
  exact ⟨_,v⟩
theorem lB:eC prog 129 9:=⟨⟨_,underlying129,rfl⟩,by kernel_rfl⟩
theorem ux:eC prog 127 5:=⟨⟨_,underlying127,rfl⟩,by kernel_rfl⟩
def Acn.tg (a:Acn):Tg:=⟨a.st,a.bk,a.ph,a.rd,a.ch⟩
theorem vf {y:Itm} {i:Acn} (h:y.a=some i) {lo o:Nat} (u:i.at'.1=lo) (p:i.at'.2=o):(aX y).toArray=#[H8 (y.kind:Nat),H8 (y.st:Nat),H8 (y.n:Nat),.bool i.send,.bool i.add,H8 (i.st:Nat),H8 (i.bk:Nat),H8 (i.ph:Nat),H8 (i.rd:Nat),H8 (i.ch:Nat),H8 (lo:Nat),H8 (o:Nat)]:=by
 subst u;subst p;unfold aX;rw [h];rfl
theorem qo {H:Nat->Prop} {w:N5} {b x:Nat} {i:Inp} {a:MAd} {m:Mst} (h:aH H w b i x a m) (a6:i.start.length<=60) (y:Itm) (v:Acn) (Z:y.a=some v) (lo A:Nat) (h1:v.at'.1=lo) (h2:v.at'.2=A) (aP:lo<A) (ak:A<=i.start.length) (u l:N0) (C:Int) (L:Nat->Prop) (a1:¬L b) (U:∀k,w.heap.size<=k->¬L k) (Q:N5->Prop) (B:∀p d,ap w p->Calls prog 222 #[.pointer l,.agg #[H8 (v.st:Nat),H8 (v.bk:Nat),H8 (v.ph:Nat),H8 (v.rd:Nat),H8 (v.ch:Nat),.slice (some (aq a.bg lo)) (A-lo:Nat) d]] p λe Y=>e=.returned (H8 C)/\Keep L p Y/\Q Y):Calls prog 214 #[(ar b),.agg (aX y).toArray,.agg #[.pointer u,.pointer l]] w λe p=>e=.returned (H8 C)/\Keep L w p/\Q p:=by
 rw [vf Z h1 h2];have I:=h.blk
 have ax:i.start.length<=a.cg:=by
  obtain ⟨_,_,e,h⟩:=aE h.oG;simp only [GT] at e;omega
 obtain ⟨W0,W1,T,O,g0,g1,J,a3⟩:=gq w #[H8 (y.kind:Nat),H8 (y.st:Nat),H8 (y.n:Nat),.bool v.send,.bool v.add,H8 (v.st:Nat),H8 (v.bk:Nat),H8 (v.ph:Nat),H8 (v.rd:Nat),H8 (v.ch:Nat),H8 (lo:Nat),H8 (A:Nat)] #[.pointer u,.pointer l] 135 324;have a0:=sb I _ J;obtain ⟨a2,a5,V,G0,G1,K1,N⟩:=ai T O a0 g0 g1 J B;clear T O a0 g0 g1 J I h B Z h1 h2 a3;go_enter func214,ntmps214;go_upto_region 1 with (fail);rw [a2.o,a5.o];go_upto_region 2 with (first | (refine eg #[.bool v.send,.bool v.add,H8 (v.st:Nat),H8 (v.bk:Nat),H8 (v.ph:Nat),H8 (v.rd:Nat),H8 (v.ch:Nat),H8 (lo:Nat),H8 (A:Nat)] (b:=w.heap.size) G0.o lB rfl rfl rfl rfl ?_) | (refine dx (F4 _ _) lB rfl rfl rfl rfl rfl rfl rfl ?_;intro D e2 k2;obtain ⟨E2,R⟩:=ab e2 (di k2);clear e2 k2));have q2:Keep L D D.drew:=(Keep.refl _ _).drew;have lx:=F1 E2.o;have kx:=λp (q:Keep L D p)=>(q.block W1.heap.size lx (U _ K1.o.size)).trans E2.o;have a4:∀p,Keep L D p->p.cell? (aq b 13)=some (.slice (some (aq a.bg 0)) i.start.length a.cg):=λp q=>Ga p b 13 _ _ _ ((q.block b (F1 (sb V.o _ R.o)) a1).trans (sb V.o _ R.o));have s1:∀p,Keep L D p->p.cell? (aq (w.heap.size+1) 1)=some (.pointer l):=λp q=>Ga p (w.heap.size+1) 1 _ _ _ ((q.block _ (F1 (sb G1.o _ R.o)) (U _ ao)).trans (sb G1.o _ R.o));have x7:∀p,Keep L D p->p.cell? (aq W1.heap.size 7)=some (H8 (lo:Nat)):=λp q=>Ga p _ 7 _ _ _ (kx p q);have x8:∀p,Keep L D p->p.cell? (aq W1.heap.size 8)=some (H8 (A:Nat)):=λp q=>Ga p _ 8 _ _ _ (kx p q);have aM:(lo:Int)<=A:=ao;have b0:(A:Int)<=a.cg:=ao;have a7:lo<=A:=ao;have a8:A<=a.cg:=ao;have ad:¬a.cg=lo:=ao;obtain ⟨BB,KX⟩:=ab (bt K1.o R.o) kx;clear kx lx;dsimp only [Act.put];refine HA.g (λp:N5=>Keep L D p) ?_;refine HA.t ?_ [0,1,2] q2 ?_;refine HA.ld 3 #[H8 (v.st:Nat),H8 (v.bk:Nat),H8 (v.ph:Nat),H8 (v.rd:Nat),H8 (v.ch:Nat)] (λp q=>KX.o p q) ux q2 ?_;refine HA.t ?_ [4,5,6,7,8,9,10,11,12,13,14,15] q2 ?_;refine HA.c 16 (N.o _ (a.cg-lo) BB.o.drew) ?_;rintro e w3 ⟨rfl,k3,hq⟩;have q3:=q2.trans k3;refine ⟨_,rfl,q3,λ_=>?_⟩;refine HA.t ?_ [17] q3 ?_;refine HA.d ?_;have K3:=aa ((Keep.below (S:=L) BB.o).trans q3);clear q2 q3 k3 a4 s1 x7 x8;go_wp2_with fail;go_ret;exact ⟨rfl,K3.o,hq⟩
theorem BC {H:Nat->Prop} {w:N5} {b x:Nat} {i:Inp} {a:MAd} {m:Mst} (h:aH H w b i x a m) (C:i.start.length<=60) (y:Itm) (o:Acn) (O:y.a=some o) (Q:o.at'.1<o.at'.2) (N:o.at'.2<=i.start.length) (u:N0) {base l:Nat} {g:Option Nat} {s:LSt} (J:aJ w base l g s) (p:s.msgs.length<s.recv+s.cap) (A:s.msgs.length<100000000000) (v:base<=w.heap.size):Calls prog 214 #[(ar b),.agg (aX y).toArray,.agg #[.pointer u,(ar l)]] w λe B=>e=.returned (H8 0)/\Keep (cI l g) w B/\
   ∃D,aJ B base l D (s.send ⟨o.tg,(m.G.drop o.at'.1).take (o.at'.2-o.at'.1)⟩)/\(D=g\/∃k,D=some k/\w.heap.size<=k):=by
 obtain ⟨cl,R⟩:=J.blk;have L:=J.blocks;refine qo h C y o O _ _ rfl rfl Q N u (some (aq l 0)) 0 (cI l g) ?_ ?_ _ (λB d q=>?_)
 ·rintro (e | e)
  ·exact km h.blk R (by decide) e
  ·subst e;obtain ⟨cg,U⟩:=J.ringBlk;exact km h.blk U (by decide) rfl
 ·rintro k hk (e | e)
  ·omega
  ·have:=(L.2 k e).2;omega
 ·have hG:Rd B (some (aq a.bg o.at'.1)) (az .i64 ((m.G.drop o.at'.1).take (o.at'.2-o.at'.1))):=by
   have:=((Rd.own (aA h.oG q)).drop o.at'.1).take (o.at'.2-o.at'.1)
   rwa [dQ,dz,GY] at this
  have I:((m.G.drop o.at'.1).take (o.at'.2-o.at'.1)).length=o.at'.2-o.at'.1:=by rw [GL,GO,h.wG.1];omega
  have:=BY base l g s o.tg (some (aq a.bg o.at'.1)) ((m.G.drop o.at'.1).take (o.at'.2-o.at'.1)) d B (J.below q) p A (Ge v q.size) hG ao;rw [I] at this;refine this.mono ?_;rintro e Z ⟨he,D,T,k2,V⟩;exact ⟨he,k2,D,T,V.imp id λ⟨k,e1,Y⟩=>⟨k,e1,Ge q.size Y⟩⟩
theorem uT {H:Nat->Prop} {w:N5} {b x:Nat} {i:Inp} {a:MAd} {m:Mst} (h:aH H w b i x a m) (v:i.start.length<=60) (y:Itm) (p:Acn) (B:y.a=some p) (C:p.at'.1<p.at'.2) (D:p.at'.2<=i.start.length) (u:N0) {base l:Nat} {g:Option Nat} {s:LSt} (I:aJ w base l g s) (o:s.msgs.length=s.recv+s.cap):Calls prog 214 #[(ar b),.agg (aX y).toArray,.agg #[.pointer u,(ar l)]] w λe A=>e=.returned (H8 11)/\ap w A:=by
 refine (qo h v y p B _ _ rfl rfl C D u (some (aq l 0)) 11 (λ_=>False) id (λ_ _ h=>h) (λ_=>True) (λA d q=>?_)).mono λe A h=>⟨h.1,h.2.1.toBelow (F3 _) (λ_ h=>h.elim)⟩;exact (pB base l g s _ A (I.below q) o).mono λe J h=>⟨h.1,Keep.below h.2,trivial⟩
def tK (G:N1) (lo:Nat) (v:N1) (add:Bool) (k:Nat):N1:=cY G.length λj=>if lo<=j/\j<lo+k then (if add then wrap64 (nth G j+nth v (j-lo)) else nth v (j-lo)) else nth G j
def fO (G:N1) (lo:Nat) (v:N1) (add:Bool):N1:=tK G lo v add v.length
section
variable (G:N1) (lo:Nat) (v:N1) (add:Bool)
theorem oY (k:Nat):(tK G lo v add k).length=G.length:=aZ _ _
theorem oZ:(fO G lo v add).length=G.length:=aZ _ _
theorem zq:tK G lo v add 0=G:=(dR rfl λk _=>by rw [if_neg ao]).symm
theorem jD {k j:Nat} (h:j<G.length):nth (tK G lo v add k) j=if lo<=j/\j<lo+k then (if add then wrap64 (nth G j+nth v (j-lo)) else nth v (j-lo)) else nth G j:=bP _ h
theorem CE {k:Nat} (hk:lo+k<G.length):(tK G lo v add k).set (lo+k) (if add then wrap64 (nth G (lo+k)+nth v k) else nth v k)=tK G lo v add (k+1):=by
 refine eG (by simp [oY]) λj i=>?_;rw [List.length_set,oY] at i;rw [fB,jD _ _ _ _ i,jD _ _ _ _ i,oY];by_cases o:j=lo+k
 ·subst o;rw [if_pos (show lo+k=lo+k/\lo+k<G.length from Gg rfl hk),if_pos (show lo<=lo+k/\lo+k<lo+(k+1) by omega),Nat.add_sub_cancel_left]
 ·rw [if_neg (show ¬(j=lo+k/\lo+k<G.length) from λh=>o h.1)];by_cases p:lo<=j/\j<lo+k
  ·rw [if_pos p,if_pos (show lo<=j/\j<lo+(k+1) by omega)]
  ·rw [if_neg p,if_neg (show ¬(lo<=j/\j<lo+(k+1)) by omega)]
end
theorem tM {G v:N1} {lo:Nat} {add:Bool} (o:W64 G) (i:W64 v):W64 (fO G lo v add):=eh λk hk=>by
 split
 ·rename_i h
  split
  ·unfold wrap64;omega
  ·exact i _ ao
 ·exact o k hk
theorem qA {G v:N1} {lo:Nat} (h:lo+v.length<=G.length):splice G lo v=fO G lo v false:=by
 unfold splice fO tK;refine dR (by simp only [GE,GL,GO];omega) λk hk=>?_;rw [if_neg (show ¬(false=true) by decide)];by_cases i:k<lo
 ·rw [if_neg ao];simp only [nth,List.getD_eq_getElem?_getD];rw [GH (by rw [GL];omega),List.getElem?_take,if_pos i]
 ·by_cases o:k<lo+v.length
  ·rw [if_pos ⟨by omega,o⟩];simp only [nth,List.getD_eq_getElem?_getD];rw [GK (by rw [GL];omega),GL,GH ao]
   congr 2;omega
  ·rw [if_neg ao];simp only [nth,List.getD_eq_getElem?_getD];rw [GK (by rw [GL];omega),GL,GK ao,List.getElem?_drop]
   congr 2;omega
theorem pn (g c lo n:Nat) (B:N0) (xs x:N1) (L R d:Nat) (w:N5) (h:w.ownsRow 0 2 1 (.slice (some (aq g 0)) n c) n (az .i64 xs)) (hB:Rd w B (az .i64 x)) (hl:x.length=L) (hn:lo+L<=n) (hm:n<=17592186043904) (A:∀b,B=some b->b.block≠g):Calls prog 52 #[.slice (some (aq g lo)) L R,.slice B L d] w λe N=>e=.returned (.bool true)/\N.ownsRow 0 2 1 (.slice (some (aq g 0)) n c) n (az .i64 (fO xs lo x true))/\Keep (λi=>i=g) w N:=by
 have y:=fT h;unfold fO;rw [hl];obtain ⟨Z,T,Hn,U,HN⟩:=ag h hB y hl A;clear h hB y hl A;go_enter func52,ntmps52;go_wp2_with fail
 go_loopw [13] (λi wr=>∃k:Nat,k<=L/\i=H8 k/\wr.ownsRow 0 2 1 (.slice (some (aq g 0)) n c) n (az .i64 (tK xs lo x true k))/\Keep (λi=>i=g) w wr) (λi _=>L-(intOf i).toNat)
 ·exact ⟨0,Gc _,rfl,by rw [zq];exact Z.o,Keep.refl _ _⟩
 case round=>
  obtain ⟨k,hk,rfl,h,C⟩:=hrel;by_cases D:k<L
  ·have hg:=(h.lt g rfl).2;have v:lo+k<xs.length:=by rw [Hn.o];omega
   have Y:=cL h (show lo+k<n by omega);rw [jD _ _ _ _ v,if_neg ao] at Y;have f1:=h.frozenAt (lo+k);obtain ⟨O,V,rfl,Q⟩:=T.o.num (show k<x.length by rw [U.o];exact D);have J:O≠g:=HN.o _ rfl;have p2:wr.cell? (aq O (V+k))=some (H8 (nth x k)):=C.cell Q J;have p:=CE xs lo x true v;rw [if_pos rfl] at p;obtain ⟨I,u,H⟩:=ae C h p;clear C h p v Q;go_wp2_with fail
   go_region
   all_goals go_wp2_with fail
   all_goals
    go_roundw
    case rel=>
     refine ⟨k+1,by omega,by go_num,?_,?_⟩
     ·rw [<-H.o];exact eD (bW u.o 1) (lo+k) _
     ·exact Keep.setCell (I.o.drewN 1) (aq g (lo+k)) (.inr rfl) _
    case measure=>simp [intOf];omega
  ·obtain rfl:k=L:=ao;obtain ⟨I,u⟩:=ab C h;clear C h;go_wp2_with fail;go_ret;exact ⟨rfl,u.o,I.o⟩
theorem AC:eC prog 174 6:=⟨⟨_,underlying174,rfl⟩,by kernel_rfl⟩
theorem mj {α:Type} {i p:List α} {lo n:Nat} (h:lo+p.length<=n) (hn:n<=i.length):(splice i lo p).take n=splice (i.take n) lo p:=by
 unfold splice;have o:lo<=n:=ao;rw [List.take_append,List.take_append,List.take_take,GL,List.take_take,List.drop_take,Nat.min_eq_right o,Nat.min_eq_left o,Nat.min_eq_left (show lo<=i.length by omega),List.take_of_length_le (show p.length<=n-lo by omega),Nat.sub_sub]
theorem nv {α:Type} {i o:List α} {lo:Nat} (h:lo+o.length<=i.length):(splice i lo o).length=i.length:=by
 unfold splice;simp only [GE,GL,GO];omega
theorem wC {w:N5} {base:Nat} {e:N6} {g n cap:Nat} {xs:N4} (h:w.ownsRow base e 1 (.slice (some ⟨g,0,none⟩) n cap) n xs):
  ∃o:N4,w.heap[g]?=some (.cells o.toArray e (0,0))/\o.take n=xs/\n<=o.length/\∀(p:N5) (i:N4),p.heap[g]?=some (.cells (List.toArray i) e (0,0))->i.length=o.length->p.ownsRow base e 1 (.slice (some ⟨g,0,none⟩) n cap) n (i.take n):=by
 rcases h.2 with ⟨H,_⟩ | ⟨I,v,o,u,hb,D,B,A,y,x⟩
 ·cases H
 ·simp only [GT,Option.some.injEq,Addr.mk.injEq,and_true,true_and] at u;obtain ⟨rfl,rfl⟩:=u;rw [Nat.mul_one] at y x;have hl:o.toList.length=cap:=by simpa using y
  refine ⟨o.toList,by simpa using D,by simpa using x,by omega,λp i hw C=>⟨by rw [GL];omega,.inr ⟨g,cap,i.toArray,rfl,hb,hw,B,A,?_,?_⟩⟩⟩
  ·simp;omega
  ·simp
theorem BE {w:N5} {b:Nat} (y:Itm) (h:Acn) (H:y.a=some h) (u v:N0) (C:Int) (hC:C≠0) (p:∀i,ap w i->Calls prog 223 #[.pointer u,.agg #[H8 (h.st:Nat),H8 (h.bk:Nat),H8 (h.ph:Nat),H8 (h.rd:Nat),H8 (h.ch:Nat)]] i λe T=>e=.returned (.tuple #[.agg Id,H8 C])/\ap i T):Calls prog 215 #[.pointer (some ⟨b,0,none⟩),.agg (aX y).toArray,.agg #[.pointer u,.pointer v]] w λe i=>e=.returned (H8 C)/\ap w i:=by
 obtain ⟨lo,Z⟩:∃lo,h.at'.1=lo:=⟨_,rfl⟩;obtain ⟨I,U⟩:∃I,h.at'.2=I:=⟨_,rfl⟩;rw [vf H Z U];obtain ⟨W0,W1,B,A,Y,g1,D,O⟩:=gq w #[H8 (y.kind:Nat),H8 (y.st:Nat),H8 (y.n:Nat),.bool h.send,.bool h.add,H8 (h.st:Nat),H8 (h.bk:Nat),H8 (h.ph:Nat),H8 (h.rd:Nat),H8 (h.ch:Nat),H8 (lo:Nat),H8 (I:Nat)] #[.pointer u,.pointer v] 135 324;obtain ⟨N,R,G0,G1,K1,x⟩:=ah B A Y g1 D p;clear B A Y g1 D p H Z U O;go_enter func215,ntmps215;go_upto_region 1 with (fail);rw [N.o,R.o];go_upto_region 2 with (first | (refine eg #[.bool h.send,.bool h.add,H8 (h.st:Nat),H8 (h.bk:Nat),H8 (h.ph:Nat),H8 (h.rd:Nat),H8 (h.ch:Nat),H8 (lo:Nat),H8 (I:Nat)] (b:=w.heap.size) G0.o lB rfl rfl rfl rfl ?_) | (refine dx (F4 _ _) lB rfl rfl rfl rfl rfl rfl rfl ?_;intro J e2 k2;obtain ⟨E2,L⟩:=ab e2 (di k2);clear e2 k2));have q2:=br J;have B2:=aa (bt K1.o L.o);have s0:∀i,ap J i->i.cell? ⟨w.heap.size+1,0,none⟩=some (.pointer u):=λi q=>Ga i (w.heap.size+1) 0 _ _ _ (sb (sb G1.o _ L.o) i q);have Q:=λi (q:ap J i)=>Gf (F1 (sb G1.o _ L.o)) q.size;go_wp2_with (refine eg #[H8 (h.st:Nat),H8 (h.bk:Nat),H8 (h.ph:Nat),H8 (h.rd:Nat),H8 (h.ch:Nat)] (b:=W1.heap.size) E2.o ux rfl rfl rfl rfl ?_);refine (x.o J B2.o).mono ?_;rintro e w3 ⟨rfl,V⟩;have a0:(C != 0)=true:=by rw [bne_iff_ne];exact hC
 have B3:=aa (bt B2.o V);clear q2 s0 Q V;go_wp2_with (refine dx (F4 _ _) AC rfl rfl rfl rfl rfl rfl rfl ?_;intro W4 e4 k4;have K4:=aa (bt B3.o (di k4));clear e4 k4);go_ret;exact ⟨rfl,K4.o⟩
theorem BD {H:Nat->Prop} {w:N5} {b x:Nat} {i:Inp} {a:MAd} {m:Mst} (h:aH H w b i x a m) (bX:i.start.length<=60) (y:Itm) (B:Acn) (a5:y.a=some B) (lo C:Nat) (h1:B.at'.1=lo) (h2:B.at'.2=C) (cb:lo<C) (cc:C<=i.start.length) (v:N0) {base l:Nat} {g:Option Nat} {s:LSt} (hL:aJ w base l g s) (cf:a.bg<base) (bn:s.recv<s.msgs.length) (aM:(aN s.msgs s.recv).tag=B.tg) (R:(aN s.msgs s.recv).vals.length=C-lo):Calls prog 215 #[.pointer (some ⟨b,0,none⟩),.agg (aX y).toArray,.agg #[.pointer (some ⟨l,0,none⟩),.pointer v]] w λe p=>e=.returned (H8 0)/\Keep (λk=>k=l\/k=a.bg) w p/\
   aJ p base l g {s with recv:=s.recv+1}/\p.ownsRow 0 2 1 (.slice (some ⟨a.bg,0,none⟩) i.start.length a.cg) i.start.length (az .i64 (fO m.G lo (aN s.msgs s.recv).vals B.add)):=by
 rw [vf a5 h1 h2];have T:=h.blk;obtain ⟨cl,Q⟩:=hL.blk
 have c9:i.start.length<=a.cg:=by
  obtain ⟨_,_,e,h⟩:=aE h.oG;simp only [GT] at e;omega
 have bd:b≠l:=km h.blk Q (by decide);have a8:l≠a.bg:=λe=>aw Q (by decide) h.oG (by rw [e];rfl);have a3:=h.wG.1;have bh:=h.blk;obtain ⟨u,hu⟩:∃u,(some ⟨l,0,none⟩:N0)=u:=⟨_,rfl⟩;rw [hu];obtain ⟨W0,W1,aP,a0,g0,g1,a2,bi⟩:=gq w #[H8 (y.kind:Nat),H8 (y.st:Nat),H8 (y.n:Nat),.bool B.send,.bool B.add,H8 (B.st:Nat),H8 (B.bk:Nat),H8 (B.ph:Nat),H8 (B.rd:Nat),H8 (B.ch:Nat),H8 (lo:Nat),H8 (C:Nat)] #[.pointer u,.pointer v] 135 324;rw [<-hu] at g1 a0;rw [<-hu];have bb:=sb T _ a2;obtain ⟨bN,bG,b1,G0,G1,K1,HM,HL⟩:=aj aP a0 bb g0 g1 a2 h hL;obtain ⟨bV,D,cd,bO⟩:=af aM R Q a3;clear aP a0 bb g0 g1 a2 T bh h hL a5 h1 h2 bi hu aM R Q a3;go_enter func215,ntmps215;go_upto_region 1 with (fail);rw [bN.o,bG.o];go_upto_region 2 with (first | (refine eg #[.bool B.send,.bool B.add,H8 (B.st:Nat),H8 (B.bk:Nat),H8 (B.ph:Nat),H8 (B.rd:Nat),H8 (B.ch:Nat),H8 (lo:Nat),H8 (C:Nat)] (b:=w.heap.size) G0.o lB rfl rfl rfl rfl ?_) | (refine dx (F4 _ _) lB rfl rfl rfl rfl rfl rfl rfl ?_;intro W2 e2 k2;obtain ⟨E2,K2⟩:=ab e2 (di k2);clear e2 k2));have B2:=aa (bt K1.o K2.o);have a1:=sY base l g s B.tg W2 (HL.o.below B2.o) bn bV.o;rw [D.o] at a1;have a4:=aa a1;have s0:W2.cell? ⟨w.heap.size+1,0,none⟩=some (.pointer (some ⟨l,0,none⟩)):=Ga W2 (w.heap.size+1) 0 _ _ _ (sb G1.o _ K2.o);clear a1;go_wp2_with (refine eg #[H8 (B.st:Nat),H8 (B.bk:Nat),H8 (B.ph:Nat),H8 (B.rd:Nat),H8 (B.ch:Nat)] (b:=W1.heap.size) E2.o ux rfl rfl rfl rfl ?_);refine a4.o.mono ?_;rintro e w3 ⟨A,c,rfl,o3,L3,k3⟩;have bv:l≠W1.heap.size:=by have:=HL.o.blocks.1;have:=K1.o.size;omega
 have e3:=(k3.block W1.heap.size (F1 E2.o) (λe=>bv e.symm)).trans E2.o;have b3:=(k3.block b (F1 (sb b1.o _ K2.o)) bd).trans (sb b1.o _ K2.o);have a7:=k3.own (aA HM.o.oG B2.o) (λj hj e=>a8 (by cases hj;exact e.symm));obtain ⟨O3,bI,K3,E3,bz,bw⟩:=ah o3 L3 ((Keep.below (S:=λk=>k=l) B2.o).trans k3) e3 b3 a7;clear o3 L3 k3 e3 b3 a7 s0 a4;go_upto_region 5 with (refine dx (F4 _ _) AC rfl rfl rfl rfl rfl rfl rfl ?_;intro L e4 k4;obtain ⟨E4,K4⟩:=ab e4 (di k4);clear e4 k4);have q4:=(br L).drew;have kx:=λp (q:ap L p)=>sb (sb E3.o _ K4.o) p q;have bA:∀p,ap L p->p.cell? ⟨b,13,none⟩=some (.slice (some ⟨a.bg,0,none⟩) i.start.length a.cg):=λp q=>Ga p b 13 _ _ _ (sb (sb bz.o _ K4.o) p q);have x1:∀p,ap L p->p.cell? ⟨W1.heap.size,1,none⟩=some (.bool B.add):=λp q=>Ga p _ 1 _ _ _ (kx p q);have x7:∀p,ap L p->p.cell? ⟨W1.heap.size,7,none⟩=some (H8 (lo:Nat)):=λp q=>Ga p _ 7 _ _ _ (kx p q);have x8:∀p,ap L p->p.cell? ⟨W1.heap.size,8,none⟩=some (H8 (C:Nat)):=λp q=>Ga p _ 8 _ _ _ (kx p q);have y5:∀p,ap L p->p.cell? ⟨w3.heap.size,5,none⟩=some (.slice A (C-lo:Nat) c):=λp q=>Ga p _ 5 _ _ _ (sb E4.o p q);have xl:=sl (sb E3.o _ K4.o);have yl:=sl E4.o;have ci:(lo:Int)<=C:=ao;have cj:(C:Int)<=a.cg:=ao;have c6:lo<=C:=ao;have c7:C<=a.cg:=ao;have c8:¬a.cg=lo:=ao;clear kx;refine HA.g (λp:N5=>ap L p) ?_;refine HA.t ?_ [0,1,2,3,4,5,6,7,8,9,10,11] q4 ?_;refine HA.d ?_;have N:=aa (K4.o.trans (q4.mono K4.o.size));have o5:=aA O3.o N.o;have L5:=bI.o.below N.o;have Z:=aA bw.o N.o;have K5:=(K3.o.mono (S':=λk=>k=l\/k=a.bg) λk _ e=>.inl e).trans (Keep.below N.o)
 have b6:∀z,A=some z->z.block≠a.bg:=λz hz e=>by
  rcases o5.2 with ⟨e',_⟩ | ⟨r,_,_,e',hb,_⟩
  ·injection e' with e1;rw [e1] at hz;cases hz
  ·injection e' with e1;rw [e1] at hz;cases hz;exact absurd hb (by simp only at e;omega)
 have b8:∀p,Keep (λk=>k=a.bg) L.drew p->aJ p base l g {s with recv:=s.recv+1}:=λp k=>by
  refine L5.keep k a8 (λj hj e=>?_) (λj _ _ hb e=>ao);subst hj;obtain ⟨cg,hg⟩:=L5.ringBlk;exact aw hg (by decide) Z (by rw [e];rfl)
 obtain ⟨O5,a6,b2,bM,b4⟩:=ag o5 Z K5 b6 b8;clear o5 L5 Z K5 b6 b8 bA
 cases hadd:B.add with
 | true=>
  rw [hadd] at x1;obtain ⟨I,bs⟩:=ab hadd (pn a.bg a.cg lo i.start.length A m.G (aN s.msgs s.recv).vals (C-lo) (a.cg-lo) c L.drew a6.o (Rd.own O5.o) D.o ao ao bM.o);clear hadd;go_wp2_with fail;refine bs.o.mono ?_;rintro e w6 ⟨rfl,o6,k6⟩;obtain ⟨O6,L6,K6⟩:=ae o6 (b4.o w6 k6) (b2.o.trans (k6.mono λk _ e=>.inr e));clear o6 k6 x1 x7 x8 y5 xl yl q4;go_wp2_with fail;go_ret;exact ⟨rfl,K6.o,L6.o,by first | exact O6.o | (rw [I.o];exact O6.o)⟩
 | false=>
  rw [hadd] at x1;have I:=aa hadd;obtain ⟨Y,V,b5,b7,ak⟩:=wC a6.o;have O:(az .i64 (aN s.msgs s.recv).vals).length=C-lo:=by rw [aS,D.o]
  have J:lo+(az .i64 (aN s.msgs s.recv).vals).length<=Y.length:=by rw [O];omega
  have U:∀p:N5,p.heap[a.bg]?=some (.cells (splice Y lo (az .i64 (aN s.msgs s.recv).vals)).toArray 2 (0,0))->p.ownsRow 0 2 1 (.slice (some ⟨a.bg,0,none⟩) i.start.length a.cg) i.start.length (az .i64 (fO m.G lo (aN s.msgs s.recv).vals false)):=λp hw=>by
   have:=ak p _ hw (nv J)
   rwa [mj (by rw [O];omega) b7,b5,gP,qA (by rw [D.o,bO.o];omega)] at this
  obtain ⟨ax,bo,ad,b0,bl⟩:=ag V O J U (Rd.own O5.o);clear hadd V b5 b7 ak O J U;go_wp2_with (refine iI rfl (.tmp 41) (.tmp 43) 73 26 rfl 2 underlying73 (by kernel_rfl) (some ⟨a.bg,lo,none⟩) A (C-lo) (a.cg-lo) c rfl rfl a.bg lo Y 2 ax.o (az .i64 (aN s.msgs s.recv).vals) bo.o (λ_=>rfl) bl.o ad.o (bS _ _) ?_;intro w6 g6 k6;obtain ⟨O6,L6,K6⟩:=ae (b0.o w6 g6) (b4.o w6 k6) (b2.o.trans (k6.mono λk _ e=>.inr e));clear g6 k6 x1 x7 x8 y5 xl yl q4);go_ret;exact ⟨rfl,K6.o,L6.o,by first | exact O6.o | (rw [I.o];exact O6.o)⟩
theorem aJ.box {w o:N5} {base l b:Nat} {g:Option Nat} {s:LSt} (h:aJ w base l g s) (k:Keep (λk=>k=b) w o) (p:l≠b) (v:b<base):aJ o base l g s:=
 h.keep k p (λi u e=>by have:=(h.blocks.2 i u).1;omega) (λi c _ hb e=>ao)
theorem aH.setGH {H:Nat->Prop} {w y:N5} {b x:Nat} {i:Inp} {a:MAd} {m:Mst} (h:aH H w b i x a m) (hn:∀k,Mut b a k->¬H k) (hk:Keep (λk=>k=a.bg\/H k) w y) (G:N1) (oG:y.ownsRow 0 2 1 (.slice (some (aq a.bg 0)) i.start.length a.cg) i.start.length (az .i64 G)) (wG:G.length=i.start.length/\W64 G):aH H y b i x a {m with G:=G}:=by
 have he:Ext (aW (eJ H b a) w) (aW (eJ H b a) y):=dN (hk.mono λk _ e=>e.imp (λe=>.inr (.inr (.inr (.inl e)))) id) (λk _ Z=>Z);have nb:b≠a.bg:=λe=>aw h.blk (by decide) h.oG (by rw [e];rfl);have hb:=(hk.block b (F1 h.blk) (λe=>e.elim nb (hn b (.inl rfl)))).trans h.blk;have u:∀{v:Value} {e size n xs},(∀j,v.ownBlock=some j->j≠a.bg/\Mut b a j)->w.ownsRow 0 e size v n xs->y.ownsRow 0 e size v n xs:=λp u=>hk.own u (λj o e=>e.elim (p j o).1 (hn j (p j o).2))
 have D:∀{v:Value} {e:N6} {size n:Nat} {xs:N4},e≠2->w.ownsRow 0 e size v n xs->∀j,v.ownBlock=some j->j≠a.bg:=λp u j o e=>by
  rcases h.oG.2 with ⟨A,_⟩ | ⟨r',_,_,A,_,J,_⟩
  ·cases A
  ·simp only [GT,Option.some.injEq,Addr.mk.injEq] at A;obtain ⟨⟨V,_⟩,_⟩:=A;exact aw J (Ne.symm p) u (by rw [o,e,V])
 obtain ⟨U,a1,Y,N,O,B,Q⟩:=h.pl;obtain ⟨rows,C,T,I,L⟩:=h.re
 exact ⟨hb,dB h.sh he,iW cQ h.ex he,fa h.sa he,⟨U,a1,Y,N,O,B,fd Q he⟩,a9 h.bu he,a9 h.it he,⟨rows,u (λj o=>⟨D (by decide) C j o,by cases o;exact .inr (.inr (.inr (.inr (.inl rfl))))⟩) C,T,I,λj x R=>cQ (L j x R) he⟩,
  u (λj o=>by cases o;exact ⟨h.dj.2.1,.inr (.inl rfl)⟩) h.oP,u (λj o=>by cases o;exact ⟨h.dj.2.2,.inr (.inr (.inl rfl))⟩) h.oM,oG,u (λj o=>⟨D (by decide) h.oO j o,.inr (.inr (.inr (.inr (.inr o))))⟩) h.oO,h.dj,λk _ hm=>hn k hm,h.wP,h.wM,wG,h.ox,h.xw⟩
theorem BJ {H:Nat->Prop} {w:N5} {b x:Nat} {i:Inp} {a:MAd} {m:Mst} (h:aH H w b i x a m) (hn:∀k,Mut b a k->¬H k) (B:∀k,w.heap.size<=k->¬H k) (hs:bj i) {y:Itm} (hy:(bq i x m.st)[m.nx]?=some y) (hk:y.kind=3) {p:Acn} (a2:y.a=some p) (a3:p.at'.1<p.at'.2) (V:p.at'.2<=i.start.length) (u:N0) {base l:Nat} {g:Option Nat} {s:LSt} (Z:aJ w base l g s) (I:s.msgs.length<s.recv+s.cap) (L:s.msgs.length<100000000000) (J:base<=w.heap.size) (D:∀k,cI l g k->H k) (a0:b<base):Calls prog 204 #[(ar b),.pointer u,(ar l)] w λe v=>e=.returned (H8 0)/\
   Dd (cI l g) b i x a m (λT v m1=>m1=m/\∃o,(∀k,T k↔H k\/o=some k)/\aJ v base l o (s.send ⟨p.tg,(m.G.drop p.at'.1).take (p.at'.2-p.at'.1)⟩)/\(o=g\/∃k,o=some k/\w.heap.size<=k)) w v:=by
 have a1:l≠b:=λe=>hn b (.inl rfl) (D b (.inl e.symm))
 refine (sV h hn B (G:=cI l g) (λk e=>?_) hs hy u (some (aq l 0)) 214 (λv=>by rw [hk];kernel_rfl) (λargs w=>by kernel_rfl) (λ_=>False)
  (λT v m1=>m1=m/\∃o,(∀k,T k↔H k\/o=some k)/\aJ v base l o (s.send ⟨p.tg,(m.G.drop p.at'.1).take (p.at'.2-p.at'.1)⟩)/\(o=g\/∃k,o=some k/\w.heap.size<=k)) ?_ (λv q=>?_)).mono ?_
 ·rcases e with e | e
  ·rw [e];exact Z.blocks.1
  ·exact (Z.blocks.2 k e).2
 ·rintro T w1 w2 m1 ⟨e,o,h1,h2,h3⟩ kk;exact ⟨e,o,h1,h2.box kk a1 a0,h3⟩
 ·have U:=h.below q hn;refine (BC U hs.n y p a2 a3 V u (Z.below q) I L (Ge J q.size)).mono ?_;rintro e a4 ⟨he,N,o,R,Q⟩
  have A:∀k,o=some k->H k\/v.heap.size<=k:=λk e=>by
   rcases Q with rfl | ⟨j,e1,Y⟩
   ·exact .inl (D k (.inr e))
   ·rw [e1] at e;cases e;exact .inr Y
  have O:∀k,Mut b a k->¬(H k\/o=some k):=λk hm e=>by
   rcases e with e | e
   ·exact hn k hm e
   ·rcases A k e with e | e
    ·exact hn k hm e
    ·have:=U.mlt k hm;omega
  refine .inl ⟨he,λk=>H k\/o=some k,a,m,U.step (N.mono λk _ e=>D k e) (λk hl e=>?_) O,O,λk hl e=>?_,rfl,rfl,N.mono λk _ e=>.inr e,λk hm=>.inl hm,⟨rfl,rfl,rfl⟩,rfl,o,λk=>Iff.rfl,R,?_⟩
  ·rcases e with e | e
   ·exact e
   ·rcases A k e with e | e
    ·exact e
    ·omega
  ·rcases e with e | e
   ·exact B k (Ge (Ge q.size N.size) hl) e
   ·have:=(R.blocks.2 k e).2;omega
  ·exact Q.imp id λ⟨k,e1,Y⟩=>⟨k,e1,Ge q.size Y⟩
 ·rintro e v (⟨he,hd⟩ | ⟨C,_,hF,_⟩)
  ·exact ⟨he,hd⟩
  ·exact hF.elim
theorem BM {H:Nat->Prop} {w:N5} {b x:Nat} {i:Inp} {a:MAd} {m:Mst} (h:aH H w b i x a m) (hn:∀k,Mut b a k->¬H k) (v:∀k,w.heap.size<=k->¬H k) (J:bj i) {y:Itm} (N:(bq i x m.st)[m.nx]?=some y) (hk:y.kind=3) {p:Acn} (B:y.a=some p) (I:p.at'.1<p.at'.2) (D:p.at'.2<=i.start.length) (u:N0) {base l:Nat} {g:Option Nat} {s:LSt} (Q:aJ w base l g s) (o:s.msgs.length=s.recv+s.cap):Calls prog 204 #[(ar b),.pointer u,(ar l)] w λe A=>e=.returned (H8 11)/\ap w A:=by
 refine (iS h hn v (G:=λ_=>False) (λ_ h=>h.elim) J N u (some (aq l 0)) 214 (λA=>by rw [hk];kernel_rfl) (λargs w=>by kernel_rfl) (λC=>C=11) (λ_ _=>False) (λ_ _ _ h _=>h) (λA q=>?_)).mono ?_
 ·refine (uT (h.below q hn) J.n y p B I D u (Q.below q) o).mono ?_;rintro e O ⟨he,k⟩;exact .inr ⟨11,by decide,rfl,he,k⟩
 ·rintro e A (⟨_,_,_,_,_,_,_,_,_,L⟩ | ⟨C,_,R,he,k⟩)
  ·exact L.elim
  ·rw [R] at he;exact ⟨he,k⟩
theorem BK {H:Nat->Prop} {w:N5} {b x:Nat} {i:Inp} {a:MAd} {m:Mst} (h:aH H w b i x a m) (hn:∀k,Mut b a k->¬H k) (B:∀k,w.heap.size<=k->¬H k) (hs:bj i) {y:Itm} (hy:(bq i x m.st)[m.nx]?=some y) (hk:y.kind=4) {o:Acn} (T:y.a=some o) (U:o.at'.1<o.at'.2) (L:o.at'.2<=i.start.length) (v:N0) {base l:Nat} {g:Option Nat} {s:LSt} (Z:aJ w base l g s) (u:∀k,cI l g k->H k) (N:b<base) (Q:a.bg<base) (I:s.recv<s.msgs.length) (J:(aN s.msgs s.recv).tag=o.tg) (A:(aN s.msgs s.recv).vals.length=o.at'.2-o.at'.1) (hw:W64 (aN s.msgs s.recv).vals):Calls prog 204 #[(ar b),(ar l),.pointer v] w λe p=>e=.returned (H8 0)/\
   tV H (λk=>k=l) b i x a m (λp m1=>m1={m with G:=fO m.G o.at'.1 (aN s.msgs s.recv).vals o.add}/\aJ p base l g {s with recv:=s.recv+1}) w p:=by
 have O:l≠b:=λe=>hn b (.inl rfl) (u b (.inl e.symm))
 refine (iS h hn B (G:=λk=>k=l) (λk e=>by rw [e];exact Z.blocks.1) hs hy (some (aq l 0)) v 215 (λp=>by rw [hk];kernel_rfl) (λargs w=>by kernel_rfl) (λ_=>False)
  (λp m1=>m1={m with G:=fO m.G o.at'.1 (aN s.msgs s.recv).vals o.add}/\aJ p base l g {s with recv:=s.recv+1}) (λw1 w2 m1 V kk=>⟨V.1,V.2.box kk O N⟩) (λp q=>?_)).mono ?_
 ·have Y:=h.below q hn;refine (BD Y hs.n y o T _ _ rfl rfl U L v (Z.below q) Q I J A).mono ?_;rintro e a0 ⟨he,D,R,hG⟩;exact .inl ⟨he,a,_,Y.setGH hn (D.mono λk _ e=>e.elim (λe=>.inr (u k (.inl e))) .inl) _ hG ⟨by rw [oZ];exact h.wG.1,tM h.wG.2 hw⟩,rfl,rfl,D.mono λk _ e=>e.elim .inr (λe=>.inl (.inr (.inr (.inr (.inl e))))),λk hm=>.inl hm,⟨rfl,rfl,rfl⟩,rfl,R⟩
 ·rintro e p (⟨he,hd⟩ | ⟨C,_,hF,_⟩)
  ·exact ⟨he,hd⟩
  ·exact hF.elim
theorem oc {H:Nat->Prop} {w:N5} {b x:Nat} {i:Inp} {a:MAd} {m:Mst} (h:aH H w b i x a m) (hn:∀k,Mut b a k->¬H k) (A:∀k,w.heap.size<=k->¬H k) (O:bj i) {y:Itm} (L:(bq i x m.st)[m.nx]?=some y) (hk:y.kind=4) {u:Acn} (I:y.a=some u) (v:N0) {base l:Nat} {g:Option Nat} {s:LSt} (Q:aJ w base l g s) (D:s.recv=s.msgs.length\/(s.recv<s.msgs.length/\(aN s.msgs s.recv).tag≠u.tg)):Calls prog 204 #[(ar b),(ar l),.pointer v] w λe B=>e=.returned (H8 (if s.recv=s.msgs.length then 12 else 10))/\ap w B:=by
 refine (iS h hn A (G:=λ_=>False) (λ_ h=>h.elim) O L (some (aq l 0)) v 215 (λB=>by rw [hk];kernel_rfl) (λargs w=>by kernel_rfl) (λC=>C=if s.recv=s.msgs.length then 12 else 10) (λ_ _=>False) (λ_ _ _ h _=>h) (λB q=>?_)).mono ?_
 ·refine (BE y u I (some (aq l 0)) v (if s.recv=s.msgs.length then 12 else 10) (by split<;>decide) (λo N=>?_)).mono ?_
  ·have p:=(Q.below q).below N;rcases D with e | ⟨e,ne⟩
   ·rw [if_pos e];exact pC base l g s u.tg o p e
   ·rw [if_neg ao];exact rt base l g s u.tg o p e ne
  ·rintro e o ⟨he,k⟩;exact .inr ⟨_,by split<;>decide,rfl,he,k⟩
 ·rintro e B (⟨_,_,_,_,_,_,_,_,_,J⟩ | ⟨C,_,R,he,k⟩)
  ·exact J.elim
  ·rw [R] at he;exact ⟨he,k⟩
def fN (i:Inp) (x:Nat) (m:Mst) (y:Itm):Mst:=
 if y.kind=1 then {m with G:=cy i m.P m.G (cz i.data (n9 i x y.st y.n))}
 else if y.kind=2 then {m with op:=m.op++[y.n]}
 else if y.kind=5 then
  {m with P:=apP i.cfg.rate i.cfg.mom i.cfg.shift m.P m.M ((m.G.drop (aD (au i).buks y.n).1).take ((aD (au i).buks y.n).2-(aD (au i).buks y.n).1)) (aD (au i).buks y.n).1 ((aD (au i).buks y.n).2-(aD (au i).buks y.n).1),M:=apM i.cfg.mom i.cfg.shift m.M ((m.G.drop (aD (au i).buks y.n).1).take ((aD (au i).buks y.n).2-(aD (au i).buks y.n).1)) (aD (au i).buks y.n).1 ((aD (au i).buks y.n).2-(aD (au i).buks y.n).1),op:=eT m.op y.n}
 else {m with rc:=m.rc++[(m.P,m.M)],G:=List.replicate i.start.length 0}
def Fx (m:Mst) (y:Itm):Prop:=(y.kind=1\/y.kind=2\/y.kind=5\/y.kind=6)/\m.op.length<=1000/\(y.kind=5->0<m.op.length)/\(y.kind=6->m.rc.length<=1000)
def bB (n s k:Nat):Nat:=min ((be n s-k)*s) n
theorem CI {n s k:Nat} (p:1<=s) (hk:k<be n s):aD (pb n s) k=(bB n s (k+1),bB n s k)/\bB n s (k+1)<bB n s k/\bB n s k<=n:=by
 have o:=fe (n:=n) (size:=s) (k:=be n s-1-k) ao;have i:be n s-(k+1)=be n s-1-k:=ao
 have h:(be n s-k)*s=(be n s-1-k)*s+s:=by
  rw [show be n s-k=(be n s-1-k)+1 by omega,GW]
 have hl:k<(pb n s).length:=by rw [gy];exact hk
 refine ⟨?_,?_,?_⟩
 ·rw [cu _ _ hl];simp only [pb,List.getElem_reverse,dt,dU,List.getElem_map,List.getElem_range,List.length_map,List.length_range];unfold bB;rw [i,h];simp only [Prod.mk.injEq,and_true];omega
 ·unfold bB;rw [i,h];omega
 ·unfold bB;omega
theorem rE (n s:Nat) (o:1<=s):bB n s 0=n:=by
 unfold bB be;by_cases h:n=0
 ·simp [h]
 ·rw [if_neg h,Nat.sub_zero,GW];have i:=Nat.div_add_mod (n-1) s;have p:=Nat.mod_lt (n-1) (show 0<s from o);rw [Nat.mul_comm] at i;omega
theorem Fd (n s:Nat):bB n s (be n s)=0:=by simp [bB]
theorem zm (a c:Nat):eT (List.range' a (c+1)) a=List.range' (a+1) c:=by
 unfold eT;rw [List.range'_succ,List.filter_cons,if_neg (by simp)]
 exact List.filter_eq_self.2 λj h=>by
  rw [List.mem_range'_1] at h;simp only [G9];omega
theorem sU {H:Nat->Prop} {w:N5} {b x:Nat} {i:Inp} {a:MAd} {m:Mst} (h:aH H w b i x a m) (hn:∀k,Mut b a k->¬H k) (o:∀k,w.heap.size<=k->¬H k) (J:bj i) {y:Itm} (B:(bq i x m.st)[m.nx]?=some y) (hk:Fx m y) (L: -9223372036854775808<=i.cfg.rate/\i.cfg.rate<=9223372036854775807) (Q: -9223372036854775808<=i.cfg.mom/\i.cfg.mom<=9223372036854775807) (u v:N0):Calls prog 204 #[(ar b),.pointer u,.pointer v] w λe C=>e=.returned (H8 0)/\tV H (λ_=>False) b i x a m (λ_ m1=>m1=fN i x m y) w C:=by
 obtain ⟨k0,R,k5,k6⟩:=hk;obtain ⟨h1,V⟩:=cF B;have N:=vz B;have I:=J.ok;rcases k0 with k | k | k | k
 ·refine (BN h hn o J B k u v).mono λe C q=>?_
  have p:fN i x m y={m with G:=cy i m.P m.G (cz i.data (n9 i x m.st y.n))}:=by
   unfold fN;rw [if_pos k,N]
  rw [p];exact q
 ·refine (uX h hn o J B k R u v).mono λe C q=>?_
  have p:fN i x m y={m with op:=m.op++[y.n]}:=by
   unfold fN;rw [if_neg ao,if_pos k]
  rw [p];exact q
 ·obtain ⟨g,Z,g1,g2⟩:=yX V (.inr k);obtain ⟨j,T,rfl⟩:=List.getElem_of_mem Z;have O:=I.grp T;rw [cu _ _ T] at O;have D:y.n<(au i).buks.length:=ao;have A:=D;rw [Pln.buks,gy] at A;obtain ⟨U,b2,Y⟩:=CI I.bu A;have hr:aD (au i).buks y.n=(bB (au i).n (au i).bu (y.n+1),bB (au i).n (au i).bu y.n):=U;refine (DO h hn o J B k u v D (k5 k) R L Q _ _ hr b2 Y).mono λe C q=>?_;have p:=fN.eq_1 i x m y;rw [if_neg ao,if_neg ao,if_pos k,hr] at p;rw [p];exact q
 ·refine (uW h hn o J B k (k6 k) u v).mono λe C q=>?_
  have p:fN i x m y={m with rc:=m.rc++[(m.P,m.M)],G:=List.replicate i.start.length 0}:=by
   unfold fN;rw [if_neg ao,if_neg ao,if_neg ao]
  rw [p];exact q
theorem ue (i:Inp) (n:Nat):kw i (n+1)=kw i n++[cM i n]:=by
 unfold kw;rw [GV,List.map_append];rfl
def opF (s:Nat×Nat) (y:Itm):Nat×Nat:=if y.kind=2 then (s.1,s.2+1) else if y.kind=5 then (s.1+1,s.2) else s
def kJ (wi nb:Nat):Nat×Nat->List Itm->Prop
 | _,[]=>True
 | s,y::r=>(y.kind=2->y.n=s.2/\s.2<nb/\s.2+1<=s.1+wi)/\(y.kind=5->y.n=s.1/\s.1<s.2)/\kJ wi nb (opF s y) r
theorem iy (wi nb:Nat):∀(l r:List Itm) (s:Nat×Nat),kJ wi nb s (l++r)↔kJ wi nb s l/\kJ wi nb (l.foldl opF s) r
 | [],r,s=>by simp [kJ]
 | y::l,r,s=>by
  have:=iy wi nb l r (opF s y);simp only [List.cons_append,kJ,List.foldl_cons,this,and_assoc]
theorem kI {wi nb:Nat}:∀{l:List Itm} {s:Nat×Nat} {k:Nat} {y:Itm},kJ wi nb s l->l[k]?=some y->(y.kind=2->y.n=((l.take k).foldl opF s).2/\((l.take k).foldl opF s).2<nb/\((l.take k).foldl opF s).2+1<=((l.take k).foldl opF s).1+wi)/\(y.kind=5->y.n=((l.take k).foldl opF s).1/\((l.take k).foldl opF s).1<((l.take k).foldl opF s).2)
 | [],_,_,_,_,h=>by simp at h
 | z::l,s,0,y,hr,h=>by
  simp only [Gz,Option.some.injEq] at h;subst h;exact ⟨hr.1,hr.2.1⟩
 | z::l,s,k+1,y,hr,h=>by
  rw [Gy] at h;exact kI (l:=l) hr.2.2 h
theorem sJ {wi nb:Nat}:∀{l:List Itm} {s:Nat×Nat},kJ wi nb s l->s.1<=s.2->s.2<=nb->s.2<=s.1+wi->∀k,((l.take k).foldl opF s).1<=((l.take k).foldl opF s).2/\((l.take k).foldl opF s).2<=nb/\((l.take k).foldl opF s).2<=((l.take k).foldl opF s).1+wi
 | [],s,_,h1,h2,h3,k=>by simpa using ⟨h1,h2,h3⟩
 | y::l,s,h,h1,h2,h3,0=>⟨h1,h2,h3⟩
 | y::l,s,h,h1,h2,h3,k+1=>by
  have hk:(opF s y).1<=(opF s y).2/\(opF s y).2<=nb/\(opF s y).2<=(opF s y).1+wi:=by
   unfold opF;by_cases i:y.kind=2
   ·rw [if_pos i];have:=h.1 i;exact ⟨by omega,by omega,by omega⟩
   ·rw [if_neg i];by_cases o:y.kind=5
    ·rw [if_pos o];have:=h.2.1 o;exact ⟨by omega,h2,by omega⟩
    ·rw [if_neg o];exact ⟨h1,h2,h3⟩
  exact sJ h.2.2 hk.1 hk.2.1 hk.2.2 k
theorem kH {wi nb:Nat}:∀{l:List Itm} (s:Nat×Nat),(∀y∈l,y.kind≠2/\y.kind≠5)->kJ wi nb s l/\l.foldl opF s=s
 | [],s,_=>⟨trivial,rfl⟩
 | y::l,s,h=>by
  have i:=h y (by simp);have e:opF s y=s:=by unfold opF;rw [if_neg i.1,if_neg i.2]
  have o:=kH (wi:=wi) (nb:=nb) (l:=l) s λz p=>h z (by simp [p]);refine ⟨⟨λk=>absurd k i.1,λk=>absurd k i.2,?_⟩,?_⟩
  ·rw [e];exact o.1
  ·rw [List.foldl_cons,e];exact o.2
theorem lI {wi nb:Nat} (st u:Nat):∀(k l:Nat),l+k<=nb->l+k<=u+wi->kJ wi nb (u,l) ((List.range' l k).map λj=>(⟨2,st,j,none⟩:Itm))/\((List.range' l k).map λj=>(⟨2,st,j,none⟩:Itm)).foldl opF (u,l)=(u,l+k)
 | 0,l,_,_=>⟨trivial,rfl⟩
 | k+1,l,h1,h2=>by
  rw [List.range'_succ,List.map_cons];have h:=lI (wi:=wi) (nb:=nb) st u k (l+1) ao ao;refine ⟨⟨λ_=>⟨rfl,by show l<nb;omega,by show l+1<=u+wi;omega⟩,λi=>(by cases i),h.1⟩,?_⟩;rw [List.foldl_cons]
  show List.foldl opF (u,l+1) _=_
  rw [h.2]
  congr 1;omega
theorem ql {wi nb:Nat} (st l:Nat):∀(k u:Nat),u+k<=l->kJ wi nb (u,l) ((List.range' u k).map λj=>(⟨5,st,j,none⟩:Itm))/\((List.range' u k).map λj=>(⟨5,st,j,none⟩:Itm)).foldl opF (u,l)=(u+k,l)
 | 0,u,_=>⟨trivial,rfl⟩
 | k+1,u,h1=>by
  rw [List.range'_succ,List.map_cons];have h:=ql (wi:=wi) (nb:=nb) st l k (u+1) ao;refine ⟨⟨λi=>(by cases i),λ_=>⟨rfl,by show u<l;omega⟩,h.1⟩,?_⟩;rw [List.foldl_cons]
  show List.foldl opF (u+1,l) _=_
  rw [h.2]
  congr 1;omega
theorem Bj {p:Pln} (x st:Nat) (g:Rg) (A:g.1<=g.2) (v:g.2<=p.buks.length) (B:g.2<=g.1+p.wi):kJ p.wi p.buks.length (g.1,g.1) (b9 p x st g)/\(b9 p x st g).foldl opF (g.1,g.1)=(g.2,g.2):=by
 have a1:=lI (wi:=p.wi) (nb:=p.buks.length) st g.1 (g.2-g.1) g.1 ao ao;have u:g.1+(g.2-g.1)=g.2:=ao;rw [u] at a1
 have i:=kH (wi:=p.wi) (nb:=p.buks.length) (l:=(List.range 2).flatMap λph=>(List.range (p.W-1)).flatMap λr=>(List.range' g.1 (g.2-g.1)).flatMap λj=>aU p x st ph r j) (g.1,g.2) (λy h=>by
  simp only [List.mem_flatMap] at h;obtain ⟨_,_,_,_,_,_,h⟩:=h;unfold aU at h;obtain ⟨c,_,rfl⟩:=List.mem_map.1 h;unfold eZ
  split<;>exact ⟨λe=>(by cases e),λe=>(by cases e)⟩)
 have o:=ql (wi:=p.wi) (nb:=p.buks.length) st g.2 (g.2-g.1) g.1 ao;rw [u] at o;unfold b9;refine ⟨?_,?_⟩
 ·rw [iy,iy,List.foldl_append,a1.2,i.2];exact ⟨⟨a1.1,i.1⟩,o.1⟩
 ·rw [List.foldl_append,List.foldl_append,a1.2,i.2,o.2]
theorem lK {p:Pln} (o:aT p) (x st:Nat):∀k,k<=be p.buks.length p.wi->kJ p.wi p.buks.length (0,0) (((List.range k).map λj=>((j*p.wi,min (j*p.wi+p.wi) p.buks.length):Rg)).flatMap (b9 p x st))/\(((List.range k).map λj=>((j*p.wi,min (j*p.wi+p.wi) p.buks.length):Rg)).flatMap (b9 p x st)).foldl opF (0,0)=(min (k*p.wi) p.buks.length,min (k*p.wi) p.buks.length)
 | 0,_=>⟨trivial,by simp⟩
 | k+1,hk=>by
  have h:=lK o x st k ao;have v:=fe (n:=p.buks.length) (size:=p.wi) (k:=k) ao;have u:min (k*p.wi) p.buks.length=k*p.wi:=ao;have i:=Bj (p:=p) x st (k*p.wi,min (k*p.wi+p.wi) p.buks.length) (by show k*p.wi<=_;omega) (by show min _ _<=_;omega) (by show min _ _<=_;omega);rw [GV,List.map_append,List.flatMap_append,iy,List.foldl_append,h.2,u];simp only [List.map_cons,List.map_nil,List.flatMap_cons,List.flatMap_nil,List.append_nil];rw [GW];exact ⟨⟨h.1,i.1⟩,i.2⟩
theorem ix {p:Pln} (o:aT p) (x st:Nat):kJ p.wi p.buks.length (0,0) (aB p x st)/\(aB p x st).foldl opF (0,0)=(p.buks.length,p.buks.length):=by
 have a1:=kH (wi:=p.wi) (nb:=p.buks.length) (l:=(List.range p.mi).map λa=>(⟨1,st,a,none⟩:Itm)) (0,0) (λy i=>by obtain ⟨_,_,rfl⟩:=List.mem_map.1 i;exact ⟨λe=>(by cases e),λe=>(by cases e)⟩);have h:=lK o x st _ (F3 _)
 have A:min (be p.buks.length p.wi*p.wi) p.buks.length=p.buks.length:=by
  have:=rE p.buks.length p.wi o.wi;unfold bB at this
  rwa [Nat.sub_zero] at this
 rw [A] at h;have u:=kH (wi:=p.wi) (nb:=p.buks.length) (l:=[(⟨6,st,0,none⟩:Itm)]) (p.buks.length,p.buks.length) (λy i=>by rw [List.mem_singleton.1 i];exact ⟨λe=>(by cases e),λe=>(by cases e)⟩);have v:p.grps=(List.range (be p.buks.length p.wi)).map λj=>((j*p.wi,min (j*p.wi+p.wi) p.buks.length):Rg):=rfl;unfold aB;rw [v];refine ⟨?_,?_⟩
 ·rw [iy,iy,List.foldl_append,a1.2,h.2];exact ⟨⟨a1.1,h.1⟩,u.1⟩
 ·rw [List.foldl_append,List.foldl_append,a1.2,h.2];exact u.2
def opP (p:Pln) (x st nx:Nat):Nat×Nat:=((aB p x st).take nx).foldl opF (0,0)
theorem ro {p:Pln} (h:aT p) (x st nx:Nat):(opP p x st nx).1<=(opP p x st nx).2/\(opP p x st nx).2<=p.buks.length/\(opP p x st nx).2<=(opP p x st nx).1+p.wi:=
 sJ (ix h x st).1 (F3 _) (Gc _) (Gc _) nx
theorem fJ {p:Pln} {x st nx:Nat} {y:Itm} (h:(aB p x st)[nx]?=some y):opP p x st (nx+1)=opF (opP p x st nx) y:=by
 unfold opP;rw [List.take_add_one,h,List.foldl_append];rfl
theorem wD {p:Pln} (i:aT p) {x st nx:Nat} (h:(aB p x st).length<=nx):opP p x st nx=(p.buks.length,p.buks.length):=by
 unfold opP;rw [List.take_of_length_le h];exact (ix i x st).2
def opL (p:Pln) (x st nx:Nat):List Nat:=List.range' (opP p x st nx).1 ((opP p x st nx).2-(opP p x st nx).1)
theorem DJ {p:Pln} (h:aT p) (x st nx:Nat):(opL p x st nx).length<=p.wi/\(opL p x st nx).length<=p.buks.length:=by
 have:=ro h x st nx;unfold opL;rw [List.length_range'];omega
theorem lR {p:Pln} (u:aT p) {x st nx:Nat} {y:Itm} (i:(aB p x st)[nx]?=some y):(y.kind=6↔nx+1=(aB p x st).length):=by
 have hn:=(GF.1 i).1;have e:aB p x st=((List.range p.mi).map (λa=>(⟨1,st,a,none⟩:Itm))++p.grps.flatMap (b9 p x st))++[⟨6,st,0,none⟩]:=rfl;generalize hf:(List.range p.mi).map (λa=>(⟨1,st,a,none⟩:Itm))++p.grps.flatMap (b9 p x st)=front at e;have hl:(aB p x st).length=front.length+1:=by rw [e];simp
 rcases Gn nx front.length with h | h
 ·have hm:y∈front:=by
   rw [e,GH h] at i;exact List.mem_of_getElem? i
  have hk:y.kind≠6:=by
   rw [<-hf] at hm;rcases GU.1 hm with hm | hm
   ·obtain ⟨_,_,rfl⟩:=List.mem_map.1 hm;exact λe=>by cases e
   ·obtain ⟨g,_,hm⟩:=List.mem_flatMap.1 hm;unfold b9 at hm;simp only [GU,List.mem_map,List.mem_flatMap] at hm;rcases hm with (⟨_,_,rfl⟩ | ⟨_,_,_,_,_,_,hm⟩) | ⟨_,_,rfl⟩
    ·exact λe=>by cases e
    ·unfold aU at hm;obtain ⟨c,_,rfl⟩:=List.mem_map.1 hm;unfold eZ
     split<;>exact λe=>by cases e
    ·exact λe=>by cases e
  exact ⟨λe=>absurd e hk,λe=>ao⟩
 ·have o:nx=front.length:=ao;subst o;rw [e] at i;simp at i;subst i;exact ⟨λ_=>hl.symm,λ_=>rfl⟩
theorem jz {p:Pln} {x st:Nat} {y:Itm} (h:y∈aB p x st) (hn:y.a=none):y.kind=1\/y.kind=2\/y.kind=5\/y.kind=6:=by
 unfold aB at h;simp only [GU,List.mem_map,List.mem_flatMap,List.mem_singleton] at h;rcases h with (⟨_,_,rfl⟩ | ⟨g,_,h⟩) | rfl
 ·exact .inl rfl
 ·unfold b9 at h;simp only [GU,List.mem_map,List.mem_flatMap] at h;rcases h with (⟨_,_,rfl⟩ | ⟨_,_,_,_,_,_,h⟩) | ⟨_,_,rfl⟩
  ·exact .inr (.inl rfl)
  ·unfold aU at h;obtain ⟨c,_,rfl⟩:=List.mem_map.1 h
   cases hn
  ·exact .inr (.inr (.inl rfl))
 ·exact .inr (.inr (.inr rfl))
structure MOk (i:Inp) (x:Nat) (m:Mst):Prop where
 op:m.op=opL (au i) x m.st m.nx
 rc:m.rc.length=m.st+1
 rl:∀y∈m.rc,y.1.length=i.start.length/\y.2.length=i.start.length
 lP:m.P.length=i.start.length
 lM:m.M.length=i.start.length
 lG:m.G.length=i.start.length
 ps:(m.st<i.cfg.steps.toNat/\m.nx<(aB (au i) x 0).length)\/(m.st=i.cfg.steps.toNat/\m.nx=0)
theorem MOk.zero {i:Inp} (x:Nat):MOk i x (eK i):=by
 refine ⟨rfl,rfl,λy o=>?_,rfl,by simp [eK],by simp [eK],?_⟩
 ·simp only [eK,List.mem_singleton] at o;subst o;exact ⟨rfl,by simp⟩
 ·by_cases h:0<i.cfg.steps.toNat
  ·exact .inl ⟨h,fZ _ _ _⟩
  ·exact .inr ⟨by show 0=_;omega,rfl⟩
theorem MOk.done {i:Inp} (u:bj i) {x:Nat} {m:Mst} (h:MOk i x m):bR i x m<=(cN i x).length:=by
 rw [lm u.ok];unfold bR;rcases h.ps with ⟨o,p⟩ | ⟨o,p⟩
 ·have:=HU (aB (au i) x 0).length (Nat.succ_le_of_lt o);rw [GW] at this;omega
 ·rw [o,p];omega
theorem MOk.cur {i:Inp} (p:bj i) {x:Nat} {m:Mst} (h:MOk i x m):(bq i x m.st)[m.nx]?=(cN i x)[bR i x m]?:=by
 rcases h.ps with ⟨o,u⟩ | ⟨o,u⟩
 ·have v:=GG (l:=aB (au i) x m.st) (i:=m.nx) (by rw [gw p.ok];exact u);have:=xh p.ok v o;unfold bq bR;rw [if_pos o,this,v]
 ·unfold bq bR;rw [if_neg ao,List.getElem?_nil,List.getElem?_eq_none (by rw [lm p.ok,o];omega)]
theorem MOk.okAt {i:Inp} (o:bj i) {x:Nat} {m:Mst} (h:MOk i x m) {y:Itm} (p:(bq i x m.st)[m.nx]?=some y) (hn:y.a=none):Fx m y:=by
 obtain ⟨B,A⟩:=cF p;have hc:bq i x m.st=aB (au i) x m.st:=if_pos B;rw [hc] at p;have v:=kI (ix o.ok x m.st).1 p;have D:=(DJ o.ok x m.st m.nx).2;have C:=o.ok.buks;have u:=o.s;refine ⟨jz A hn,by rw [h.op];omega,λH=>?_,λ_=>by rw [h.rc];omega⟩;rw [h.op];have:=(v.2 H).2;unfold opL;rw [List.length_range']
 show 0<(opP (au i) x m.st m.nx).2-(opP (au i) x m.st m.nx).1
 unfold opP;omega
theorem MOk.next {i:Inp} (H:bj i) {x:Nat} {m m1:Mst} (h:MOk i x m) {y:Itm} (A:(bq i x m.st)[m.nx]?=some y) (V:m1.st=m.st) (U:m1.nx=m.nx) (T:m1.P.length=i.start.length) (Q:m1.M.length=i.start.length) (R:m1.G.length=i.start.length) (J:m1.op=if y.kind=2 then m.op++[y.n] else if y.kind=5 then eT m.op y.n else m.op) (v:m1.rc=if y.kind=6 then m.rc++[(m.P,m.M)] else m.rc):MOk i x (adv i x m1):=by
 obtain ⟨g1,g2⟩:=cF A;have hc:bq i x m.st=aB (au i) x m.st:=if_pos g1;rw [hc] at A;have O:=kI (ix H.ok x m.st).1 A;have hv:=ro H.ok x m.st m.nx;have N:=fJ A;have a0:=gw H.ok x m.st;have u:=lR H.ok A;have Z:=(GF.1 A).1
 have D:m1.op=opL (au i) x m.st (m.nx+1):=by
  rw [J,h.op];unfold opL;rw [N];unfold opF;change (y.kind=2->y.n=(opP (au i) x m.st m.nx).2/\(opP (au i) x m.st m.nx).2<_/\_)/\(y.kind=5->y.n=(opP (au i) x m.st m.nx).1/\(opP (au i) x m.st m.nx).1<(opP (au i) x m.st m.nx).2) at O;by_cases I:y.kind=2
  ·rw [if_pos I,if_pos I];have:=(O.1 I).1
   show _=List.range' (opP (au i) x m.st m.nx).1 ((opP (au i) x m.st m.nx).2+1-(opP (au i) x m.st m.nx).1)
   rw [show (opP (au i) x m.st m.nx).2+1-(opP (au i) x m.st m.nx).1=((opP (au i) x m.st m.nx).2-(opP (au i) x m.st m.nx).1)+1 by omega,List.range'_concat,this]
   congr 2
   omega
  ·rw [if_neg I,if_neg I];by_cases B:y.kind=5
   ·rw [if_pos B,if_pos B];have Y:=O.2 B;rw [Y.1]
    show _=List.range' ((opP (au i) x m.st m.nx).1+1) ((opP (au i) x m.st m.nx).2-((opP (au i) x m.st m.nx).1+1))
    rw [show (opP (au i) x m.st m.nx).2-(opP (au i) x m.st m.nx).1=((opP (au i) x m.st m.nx).2-((opP (au i) x m.st m.nx).1+1))+1 by omega,zm]
   ·rw [if_neg B,if_neg B]
 have p:∀z∈m1.rc,z.1.length=i.start.length/\z.2.length=i.start.length:=by
  rw [v]
  split
  ·intro z C;rcases GU.1 C with C | C
   ·exact h.rl z C
   ·rw [List.mem_singleton.1 C];exact ⟨h.lP,h.lM⟩
  ·exact h.rl
 unfold adv;rw [U,V,hc];by_cases o:m.nx+1<(aB (au i) x m.st).length
 ·rw [if_pos o];refine ⟨by show m1.op=opL _ _ m.st (m.nx+1);exact D,?_,p,T,Q,R,.inl ⟨by show m.st<_;omega,by show m.nx+1<_;omega⟩⟩
  show m1.rc.length=m.st+1
  rw [v,if_neg (λe=>by have:=u.1 e;omega)];exact h.rc
 ·rw [if_neg o];have hl:m.nx+1=(aB (au i) x m.st).length:=ao;refine ⟨?_,?_,p,T,Q,R,?_⟩
  ·show m1.op=opL _ _ (m.st+1) 0
   rw [D];unfold opL;rw [wD H.ok (Nat.le_of_eq hl.symm),Nat.sub_self];rfl
  ·show m1.rc.length=m.st+1+1
   rw [v,if_pos (u.2 hl),GE,h.rc];rfl
  ·by_cases L:m.st+1<i.cfg.steps.toNat
   ·exact .inl ⟨L,fZ _ _ _⟩
   ·exact .inr ⟨by show m.st+1=_;omega,rfl⟩
theorem sx {l:List Rg} {j:Nat} (h:l.length<=j):aD l j=(0,0):=by simp [aD,List.getD,h]
theorem E5 {s:Rg} {c:Nat} (hc:1<=c):∀r∈chR s c,s.1<=r.1/\r.1<r.2/\(s.1<=s.2->r.2<=s.2):=by
 intro r hr;simp only [chR,shR,dU,List.map_map,List.mem_map,List.mem_range,Function.comp] at hr;obtain ⟨j,i,rfl⟩:=hr;have:=fe i;refine ⟨by simp only;omega,by simp only;omega,λh=>by simp only;omega⟩
def EP (p:Pln) (x:Nat) (t:Tg):Rg:=aD (chR (aD (bY (aD p.buks t.b.toNat) p.W) (aO p.W x t.c.toNat t.d.toNat)) p.ck) t.e.toNat
theorem pZ {st bk:Nat} {b:Rg} {W c x ph r:Nat} {a:Acn} (h:a∈bf st bk b W c x ph r):
  ∃i,a.at'=aD (chR (aD (bY b W) i) c) a.ch/\a.ch<(chR (aD (bY b W) i) c).length/\(a.send=false->i=aO W x ph r):=by
 unfold bf fq at h;obtain ⟨k,hk,h⟩:=List.mem_flatMap.1 h;rw [GU] at h;rcases h with h | h<;>split at h
 ·rename_i hl
  simp only [List.mem_singleton] at h;subst h;exact ⟨bU W x ph r,rfl,hl,λe=>by cases e⟩
 ·simp at h
 ·rename_i hl
  simp only [List.mem_singleton] at h;subst h;exact ⟨aO W x ph r,rfl,hl,λ_=>rfl⟩
 ·simp at h
theorem fv {p:Pln} {x st:Nat} {y:Itm} (h:y∈aB p x st) {a:Acn} (i:y.a=some a):y.kind=(if a.send then 3 else 4)/\a.st=st/\a∈bf st a.bk (aD p.buks a.bk) p.W p.ck x a.ph a.rd:=by
 unfold aB at h;simp only [GU,List.mem_map,List.mem_flatMap,List.mem_singleton] at h;rcases h with (⟨_,_,rfl⟩ | ⟨g,_,h⟩) | rfl
 ·cases i
 ·unfold b9 at h;simp only [GU,List.mem_map,List.mem_flatMap] at h;rcases h with (⟨_,_,rfl⟩ | ⟨ph,_,r,_,j,_,h⟩) | ⟨_,_,rfl⟩
  ·cases i
  ·unfold aU at h;obtain ⟨c,hc,rfl⟩:=List.mem_map.1 h;simp only [eZ,Option.some.injEq] at i;subst i;obtain ⟨o,A,u,v,_⟩:=ir hc;refine ⟨rfl,o,?_⟩;rw [A,u,v];exact hc
  ·cases i
 ·cases i
theorem vN {p:Pln} (u:aT p) {x st:Nat} {y:Itm} (h:y∈aB p x st) {a:Acn} (B:y.a=some a):a.at'.1<a.at'.2/\a.at'.2<=p.n:=by
 obtain ⟨_,_,C⟩:=fv h B;obtain ⟨o,A,v,_⟩:=pZ C;have hm:=List.getElem_mem v;rw [<-cu _ _ v,<-A] at hm;have hc:=E5 u.ck _ hm
 have hb:(aD p.buks a.bk).1<=(aD p.buks a.bk).2/\(aD p.buks a.bk).2<=p.n:=by
  rcases Gn a.bk p.buks.length with i | i
  ·have:=xe _ (List.getElem_mem i);rw [<-cu _ _ i] at this;exact this
  ·have:aD p.buks a.bk=(0,0):=sx i;rw [this];simp
 have D:(aD (bY (aD p.buks a.bk) p.W) o).1<=(aD (bY (aD p.buks a.bk) p.W) o).2/\(aD (bY (aD p.buks a.bk) p.W) o).2<=(aD p.buks a.bk).2:=by
  rcases Gn o (bY (aD p.buks a.bk) p.W).length with i | i
  ·have:=Ds u.W1 hb.1 _ (List.getElem_mem i);rw [<-cu _ _ i] at this;exact this
  ·have:aD (bY (aD p.buks a.bk) p.W) o=(0,0):=sx i;rw [this];simp
 have:=hc.2.2 D.1;exact ⟨hc.2.1,by omega⟩
theorem C3 {p:Pln} {x st:Nat} {y:Itm} (h:y∈aB p x st) {a:Acn} (u:y.a=some a) (hr:a.send=false):a.at'=EP p x a.tg:=by
 obtain ⟨_,_,v⟩:=fv h u;obtain ⟨A,i,_,o⟩:=pZ v;rw [i,o hr];rfl
def El (i:Inp) (x:Nat) (s:LSt):Prop:=∀j,j<s.msgs.length->W64 (aN s.msgs j).vals/\((aN s.msgs j).tag.a=999\/(aN s.msgs j).vals.length=(EP (au i) x (aN s.msgs j).tag).2-(EP (au i) x (aN s.msgs j).tag).1)
theorem El.len {i:Inp} (C:bj i) {x:Nat} {s:LSt} (h:El i x s) {st:Nat} {y:Itm} (B:st<i.cfg.steps.toNat) (A:y∈aB (au i) x st) {a:Acn} (v:y.a=some a) (hr:a.send=false) (u:s.recv<s.msgs.length) (p:(aN s.msgs s.recv).tag=a.tg): (aN s.msgs s.recv).vals.length=a.at'.2-a.at'.1/\W64 (aN s.msgs s.recv).vals:=by
 obtain ⟨D,o⟩:=h _ u;refine ⟨?_,D⟩;rw [C3 A v hr,<-p];rcases o with o | o
 ·exfalso;rw [p] at o;have e:a.tg.a=(a.st:Int):=rfl;rw [e,(fv A v).2.1] at o;have:=C.s;omega
 ·exact o
theorem ff {p:Pln} {x st:Nat} {a:Acn} (h:a∈aY (aB p x st)):a.st=st/\a.ph<2/\a.rd<p.W-1/\a.bk<p.buks.length/\a∈bf st a.bk (aD p.buks a.bk) p.W p.ck x a.ph a.rd:=by
 rw [gh] at h;simp only [jG,jH,List.mem_flatMap,List.mem_range] at h;obtain ⟨k,hk,ph,i,r,hr,j,B,o⟩:=h;obtain ⟨y,u,A,v,_⟩:=ir o;rw [y,u,A,v];exact ⟨rfl,i,hr,by omega,o⟩
theorem Ei {p:Pln} (o:aT p) {x st ph r bk:Nat} (h:ph<2) (hr:r<p.W-1) (v:bk<p.buks.length) {a:Acn} (u:a∈bf st bk (aD p.buks bk) p.W p.ck x ph r):a∈aY (aB p x st):=by
 rw [gh];simp only [jG,jH,List.mem_flatMap,List.mem_range];have hw:=o.wi;have i:=Nat.div_add_mod bk p.wi;have hm:=Nat.mod_lt bk (show 0<p.wi by omega);rw [Nat.mul_comm] at i;refine ⟨bk/p.wi,?_,ph,h,r,hr,bk%p.wi,by omega,by rw [i];exact u⟩;unfold be;rw [if_neg ao];have:bk/p.wi<=(p.buks.length-1)/p.wi:=Nat.div_le_div_right ao;omega
theorem jM {st bk:Nat} {b:Rg} {W c x ph r:Nat} {a:Acn}:a∈bf st bk b W c x ph r↔ (∃ch,ch<(chR (aD (bY b W) (bU W x ph r)) c).length/\a=⟨true,false,st,bk,ph,r,ch,aD (chR (aD (bY b W) (bU W x ph r)) c) ch⟩)\/ (∃ch,ch<(chR (aD (bY b W) (aO W x ph r)) c).length/\a=⟨false,ph==0,st,bk,ph,r,ch,aD (chR (aD (bY b W) (aO W x ph r)) c) ch⟩):=by
 unfold bf fq;rw [List.mem_flatMap];constructor
 ·rintro ⟨k,hk,h⟩;rw [GU] at h;rcases h with h | h<;>split at h
  ·rename_i hl;exact .inl ⟨k,hl,by simpa using h⟩
  ·simp at h
  ·rename_i hl;exact .inr ⟨k,hl,by simpa using h⟩
  ·simp at h
 ·rintro (⟨ch,hl,rfl⟩ | ⟨ch,hl,rfl⟩)
  ·exact ⟨ch,List.mem_range.2 ao,GU.2 (.inl (by rw [if_pos hl];simp))⟩
  ·exact ⟨ch,List.mem_range.2 ao,GU.2 (.inr (by rw [if_pos hl];simp))⟩
def Cov (r:Rg) (q:Nat):Prop:=r.1<=q/\q<r.2
theorem js {b:Rg} {W s:Nat} (h:s<W):aD (bY b W) s=(bdN (b.2-b.1) W s+b.1,bdN (b.2-b.1) W (s+1)+b.1):=by
 simp [aD,bY,shR,fR,List.getD,h]
theorem qB {s:Rg} {c k:Nat} (h:k<(chR s c).length):aD (chR s c) k=(k*c+s.1,min (k*c+c) (s.2-s.1)+s.1)/\k<be (s.2-s.1) c:=by
 have hl:(chR s c).length=be (s.2-s.1) c:=by simp [chR,shR,dU]
 rw [hl] at h;exact ⟨by simp [aD,chR,shR,dU,List.getD,h],h⟩
theorem mU {b:Rg} {W s s' q:Nat} (h:s<W) (p:s'<W) (c:Cov (aD (bY b W) s) q) (i:Cov (aD (bY b W) s') q):s=s':=by
 rw [js h] at c;rw [js p] at i;obtain ⟨c1,c2⟩:=c;obtain ⟨u,o⟩:=i;simp only at c1 c2 u o;rcases Nat.lt_trichotomy s s' with e | e | e
 ·have:=du (b.2-b.1) W (show s+1<=s' by omega);omega
 ·exact e
 ·have:=du (b.2-b.1) W (show s'+1<=s by omega);omega
theorem At {b:Rg} {W q:Nat} (u:0<W) (h:Cov b q):∃s,s<W/\Cov (aD (bY b W) s) q:=by
 obtain ⟨y,v⟩:=h
 have i:∀k,k<=W->q-b.1<bdN (b.2-b.1) W k->∃s,s<k/\bdN (b.2-b.1) W s<=q-b.1/\q-b.1<bdN (b.2-b.1) W (s+1):=by
  intro k
  induction k with
  | zero=>intro _ h;simp [bdN] at h
  | succ k ih=>
   intro hk h;by_cases p:q-b.1<bdN (b.2-b.1) W k
   ·obtain ⟨s,o,h⟩:=ih ao p;exact ⟨s,by omega,h⟩
   ·exact ⟨k,by omega,by omega,h⟩
 obtain ⟨s,o,p,x⟩:=i W (F3 _) (by rw [gY _ _ u];omega);refine ⟨s,o,?_⟩;rw [js o];exact ⟨by simp only;omega,by simp only;omega⟩
theorem pa {s:Rg} {c k q:Nat} (h:k<(chR s c).length) (hc:Cov (aD (chR s c) k) q):Cov s q:=by
 obtain ⟨e,_⟩:=qB h;rw [e] at hc;obtain ⟨i,o⟩:=hc;simp only at i o;exact ⟨by omega,by omega⟩
theorem CF {s:Rg} {c k i q:Nat} (h:k<(chR s c).length) (p:i<(chR s c).length) (hc:Cov (aD (chR s c) k) q) (o:Cov (aD (chR s c) i) q):k=i:=by
 rw [(qB h).1] at hc;rw [(qB p).1] at o;obtain ⟨x,u⟩:=hc;obtain ⟨y,v⟩:=o;simp only at x u y v;rcases Nat.lt_trichotomy k i with e | e | e
 ·have:=HU c (show k+1<=i by omega);rw [GW] at this;omega
 ·exact e
 ·have:=HU c (show i+1<=k by omega);rw [GW] at this;omega
theorem Es {s:Rg} {c q:Nat} (hc:1<=c) (h:Cov s q):∃k,k<(chR s c).length/\Cov (aD (chR s c) k) q:=by
 obtain ⟨p,o⟩:=h;have hl:(chR s c).length=be (s.2-s.1) c:=by simp [chR,shR,dU]
 have i:=Nat.div_add_mod (q-s.1) c;have hm:=Nat.mod_lt (q-s.1) (show 0<c by omega);rw [Nat.mul_comm] at i
 have hk:(q-s.1)/c<(chR s c).length:=by
  rw [hl];unfold be;rw [if_neg ao];have:(q-s.1)/c<=(s.2-s.1-1)/c:=Nat.div_le_div_right ao;omega
 refine ⟨_,hk,?_⟩;rw [(qB hk).1];exact ⟨by simp only;omega,by simp only;omega⟩
theorem rF {n s k i:Nat} (h:k<=i):bB n s i<=bB n s k:=by
 unfold bB;have:=HU s (show be n s-i<=be n s-k by omega);omega
theorem m9 {p:Pln} (i:aT p) {j:Nat} (h:j<p.buks.length):aD p.buks j=(bB p.n p.bu (j+1),bB p.n p.bu j):=by
 rw [Pln.buks,gy] at h;exact (CI i.bu h).1
theorem m8 {p:Pln} (u:aT p) {j i q:Nat} (x:j<p.buks.length) (o:i<p.buks.length) (h:Cov (aD p.buks j) q) (v:Cov (aD p.buks i) q):j=i:=by
 rw [m9 u x] at h;rw [m9 u o] at v;obtain ⟨B,y⟩:=h;obtain ⟨C,A⟩:=v;simp only at B y C A;rcases Nat.lt_trichotomy j i with e | e | e
 ·have:=rF (n:=p.n) (s:=p.bu) (show j+1<=i by omega);omega
 ·exact e
 ·have:=rF (n:=p.n) (s:=p.bu) (show i+1<=j by omega);omega
theorem CH {p:Pln} (v:aT p) {q:Nat} (h:q<p.n):∃j,j<p.buks.length/\Cov (aD p.buks j) q:=by
 have o:∀k,k<=be p.n p.bu->bB p.n p.bu k<=q->∃j,j<k/\bB p.n p.bu (j+1)<=q/\q<bB p.n p.bu j:=by
  intro k
  induction k with
  | zero=>intro _ u;rw [rE _ _ v.bu] at u;omega
  | succ k ih=>
   intro hk u;by_cases B:bB p.n p.bu k<=q
   ·obtain ⟨j,x,h⟩:=ih ao B;exact ⟨j,by omega,h⟩
   ·exact ⟨k,by omega,u,by omega⟩
 obtain ⟨j,x,A,y⟩:=o _ (F3 _) (by rw [Fd];omega);have i:j<p.buks.length:=by rw [Pln.buks,gy];exact x
 exact ⟨j,i,by rw [m9 v i];exact ⟨A,y⟩⟩
theorem nN {p:Pln} (o:aT p) {x st ph r bk q s:Nat} (h:ph<2) (hr:r<p.W-1) (i:bk<p.buks.length) (v:aO p.W x ph r=s) (hc:Cov (aD (bY (aD p.buks bk) p.W) s) q):
  ∃a∈aY (aB p x st),a.send=false/\a.st=st/\a.bk=bk/\a.ph=ph/\a.rd=r/\Cov a.at' q:=by
 subst v;obtain ⟨k,hk,u⟩:=Es o.ck hc;exact ⟨_,Ei o h hr i (jM.2 (.inr ⟨k,hk,rfl⟩)),rfl,rfl,rfl,rfl,rfl,u⟩
theorem rh {p:Pln} {x st:Nat} {a:Acn} (h:a∈aY (aB p x st)) (o:a.send=false):a.add=(a.ph==0)/\a.ch<(chR (aD (bY (aD p.buks a.bk) p.W) (aO p.W x a.ph a.rd)) p.ck).length/\a.at'=aD (chR (aD (bY (aD p.buks a.bk) p.W) (aO p.W x a.ph a.rd)) p.ck) a.ch:=by
 obtain ⟨_,_,_,_,u⟩:=ff h;rcases jM.1 u with ⟨ch,hl,e⟩ | ⟨ch,hl,e⟩
 ·rw [e] at o;cases o
 ·have i:a.ch=ch:=by rw [e]
  refine ⟨by rw [e],by rw [i];exact hl,by rw [i];rw [e]⟩
theorem EH {p:Pln} {x st:Nat} {a:Acn} (h:a∈aY (aB p x st)) (o:a.send=true):a.ch<(chR (aD (bY (aD p.buks a.bk) p.W) (bU p.W x a.ph a.rd)) p.ck).length/\a.at'=aD (chR (aD (bY (aD p.buks a.bk) p.W) (bU p.W x a.ph a.rd)) p.ck) a.ch:=by
 obtain ⟨_,_,_,_,u⟩:=ff h;rcases jM.1 u with ⟨ch,hl,e⟩ | ⟨ch,hl,e⟩
 ·have i:a.ch=ch:=by rw [e]
  exact ⟨by rw [i];exact hl,by rw [i];rw [e]⟩
 ·rw [e] at o;cases o
instance (r:Rg) (q:Nat):Decidable (Cov r q):=inferInstanceAs (Decidable (_/\_))
def rvA (old G:N1) (a:Acn):N1:=if a.send then G else fO G a.at'.1 ((old.drop a.at'.1).take (a.at'.2-a.at'.1)) a.add
def rvL (old G:N1) (al:List Acn):N1:=al.foldl (rvA old) G
theorem Dw (old G:N1) (a:Acn):(rvA old G a).length=G.length:=by
 unfold rvA
 split
 ·rfl
 ·exact oZ _ _ _ _
theorem qX (old:N1):∀(al:List Acn) (G:N1),(rvL old G al).length=G.length
 | [],_=>rfl
 | a::al,G=>by
  show (rvL old (rvA old G a) al).length=_
  rw [qX old al,Dw]
theorem Bc {old:N1} {lo h q:Nat} (i:lo<=q) (o:q<h) (p:h<=old.length):nth ((old.drop lo).take (h-lo)) (q-lo)=nth old q:=by
 rw [dh _ _ (by simp;omega),dh _ _ ao];simp only [List.getElem_take,List.getElem_drop]
 congr 1
 omega
theorem Dv {old G:N1} {a:Acn} {q:Nat} (p:a.send=false) (o:a.at'.2<=old.length) (u:old.length=G.length) (i:q<G.length):
  nth (rvA old G a) q=if Cov a.at' q then (if a.add then wrap64 (nth G q+nth old q) else nth old q) else nth G q:=by
 unfold rvA;rw [if_neg (by rw [p];decide)];unfold fO;rw [jD _ _ _ _ i];have hl:((old.drop a.at'.1).take (a.at'.2-a.at'.1)).length=a.at'.2-a.at'.1:=by simp;omega
 rw [hl];by_cases hc:Cov a.at' q
 ·obtain ⟨c1,c2⟩:=hc;rw [if_pos ⟨c1,by omega⟩,if_pos (show Cov a.at' q from ⟨c1,c2⟩),Bc c1 c2 o]
 ·rw [if_neg (λh=>hc ⟨h.1,by omega⟩),if_neg hc]
theorem lw {b:Rg} {W c st bk x ph r n q:Nat} {old G:N1} (Y:aO W x ph r<W) (hb:b.2<=n) (Q:old.length=n) (hG:G.length=n) (Z:q<n) (hc:1<=c) (a4:b.1<=b.2):
  nth (rvL old G (bf st bk b W c x ph r)) q=if Cov (aD (bY b W) (aO W x ph r)) q then (if ph=0 then wrap64 (nth G q+nth old q) else nth old q) else nth G q:=by
 classical
 obtain ⟨S,R⟩:∃S,aD (bY b W) (aO W x ph r)=S:=⟨_,rfl⟩
 have a0:S.2<=n/\S.1<=S.2:=by
  rw [<-R,js Y];have y:=du (b.2-b.1) W (show aO W x ph r+1<=W by omega);have p:=du (b.2-b.1) W (show aO W x ph r<=aO W x ph r+1 by omega);rw [gY _ _ ao] at y;exact ⟨show bdN (b.2-b.1) W (aO W x ph r+1)+b.1<=n by omega,show bdN (b.2-b.1) W (aO W x ph r)+b.1<=bdN (b.2-b.1) W (aO W x ph r+1)+b.1 by omega⟩
 unfold bf fq;rw [R];obtain ⟨X,U⟩:∃X,chR (aD (bY b W) (bU W x ph r)) c=X:=⟨_,rfl⟩;rw [U];obtain ⟨V,T⟩:∃V,(if ph=0 then wrap64 (nth G q+nth old q) else nth old q)=V:=⟨_,rfl⟩;rw [T];obtain ⟨F,O⟩:∃F:Nat->List Acn,F=λi=>(if i<X.length then [(⟨true,false,st,bk,ph,r,i,aD X i⟩:Acn)] else [])++(if i<(chR S c).length then [⟨false,ph==0,st,bk,ph,r,i,aD (chR S c) i⟩] else []):=⟨_,rfl⟩;rw [<-O]
 have B:∀m,((∃i,i<m/\i<(chR S c).length/\Cov (aD (chR S c) i) q)->nth (rvL old G ((List.range m).flatMap F)) q=V)/\((¬∃i,i<m/\i<(chR S c).length/\Cov (aD (chR S c) i) q)->nth (rvL old G ((List.range m).flatMap F)) q=nth G q):=by
  intro m
  induction m with
  | zero=>exact ⟨by rintro ⟨i,hi,_⟩;omega,λ_=>rfl⟩
  | succ m ih=>
   rw [GV,List.flatMap_append];obtain ⟨L,N⟩:∃L,(List.range m).flatMap F=L:=⟨_,rfl⟩;rw [N] at ih;rw [N];have v:(rvL old G L).length=n:=by rw [qX,hG]
   have e1:rvL old G (L++[m].flatMap F)=if m<(chR S c).length then rvA old (rvL old G L) ⟨false,ph==0,st,bk,ph,r,m,aD (chR S c) m⟩ else rvL old G L:=by
    unfold rvL;rw [List.foldl_append,O];simp only [List.flatMap_cons,List.flatMap_nil,List.append_nil];by_cases y:m<X.length<;>by_cases p:m<(chR S c).length<;>simp [y,p,rvA]
   rw [e1];by_cases p:m<(chR S c).length
   ·rw [if_pos p];have D:=(qB p).1;have I:(aD (chR S c) m).2<=n:=by rw [D];show min (m*c+c) (S.2-S.1)+S.1<=n;omega
    have hn:=Dv (old:=old) (G:=rvL old G L) (a:=⟨false,ph==0,st,bk,ph,r,m,aD (chR S c) m⟩) (q:=q) rfl (by rw [Q];exact I) (by rw [Q,v]) (by rw [v];exact Z);by_cases o:Cov (aD (chR S c) m) q
    ·have C:=ih.2 (by rintro ⟨i,hi,H,J⟩;have:=CF H p J o;omega);rw [if_pos (show Cov _ q from o),C] at hn
     have hv:nth (rvA old (rvL old G L) ⟨false,ph==0,st,bk,ph,r,m,aD (chR S c) m⟩) q=V:=by
      rw [hn,<-T]
      cases ph<;>simp
     exact ⟨λ_=>hv,λh=>absurd ⟨m,by omega,p,o⟩ h⟩
    ·rw [if_neg (show ¬Cov _ q from o)] at hn;rw [hn];refine ⟨?_,λh=>ih.2 λ⟨i,a1,A,u⟩=>h ⟨i,by omega,A,u⟩⟩;rintro ⟨i,a1,A,u⟩;rcases Gn i m with h | h
     ·exact ih.1 ⟨i,h,A,u⟩
     ·obtain rfl:i=m:=ao;exact absurd u o
   ·rw [if_neg p];exact ⟨λ⟨i,a1,A,u⟩=>ih.1 ⟨i,by omega,A,u⟩,λh=>ih.2 λ⟨i,a1,A,u⟩=>h ⟨i,by omega,A,u⟩⟩
 by_cases o:Cov S q
 ·rw [if_pos o];obtain ⟨k,y,p⟩:=Es hc o;exact (B _).1 ⟨k,by omega,y,p⟩
 ·rw [if_neg o];exact (B _).2 λ⟨i,_,y,p⟩=>o (pa y p)
theorem AH {b:Rg} {W c st bk x ph r:Nat} (p:aO W x ph r<W) (u:b.1<=b.2) (hc:1<=c) {a:Acn} (v:a∈bf st bk b W c x ph r) (C:a.send=false):a.at'.1<a.at'.2/\a.at'.2<=b.2/\a.add=(ph==0):=by
 rcases jM.1 v with ⟨ch,hl,rfl⟩ | ⟨ch,hl,rfl⟩
 ·cases C
 ·obtain ⟨S,i⟩:∃S,aD (bY b W) (aO W x ph r)=S:=⟨_,rfl⟩;rw [i] at hl ⊢
  have A:S.2<=b.2/\S.1<=S.2:=by
   rw [<-i,js p];have B:=du (b.2-b.1) W (show aO W x ph r+1<=W by omega);have H:=du (b.2-b.1) W (show aO W x ph r<=aO W x ph r+1 by omega);rw [gY _ _ ao] at B;exact ⟨show bdN (b.2-b.1) W (aO W x ph r+1)+b.1<=b.2 by omega,show bdN (b.2-b.1) W (aO W x ph r)+b.1<=bdN (b.2-b.1) W (aO W x ph r+1)+b.1 by omega⟩
  have h:=qB hl
  have hk:ch*c<S.2-S.1:=by
   have o:=h.2;unfold be at o
   split at o
   ·omega
   ·have y:ch<=(S.2-S.1-1)/c:=ao;have I:=HU c y;have D:=Nat.div_mul_le_self (S.2-S.1-1) c;omega
  refine ⟨?_,?_,rfl⟩
  ·show (aD (chR S c) ch).1<(aD (chR S c) ch).2
   rw [h.1]
   show ch*c+S.1<min (ch*c+c) (S.2-S.1)+S.1
   omega
  ·show (aD (chR S c) ch).2<=b.2
   rw [h.1]
   show min (ch*c+c) (S.2-S.1)+S.1<=b.2
   omega
theorem xd {b:Rg} {W s c:Nat} (o:s<W) (i:b.1<=b.2) (hc:1<=c):(chR (aD (bY b W) s) c).length<=b.2:=by
 have hl:(chR (aD (bY b W) s) c).length=be ((aD (bY b W) s).2-(aD (bY b W) s).1) c:=by simp [chR,shR,dU]
 have h:=du (b.2-b.1) W (show s+1<=W by omega);rw [gY _ _ ao] at h;rw [hl,js o]
 show be (bdN (b.2-b.1) W (s+1)+b.1-(bdN (b.2-b.1) W s+b.1)) c<=b.2
 unfold be
 split
 ·omega
 ·have:=Nat.div_le_self (bdN (b.2-b.1) W (s+1)+b.1-(bdN (b.2-b.1) W s+b.1)-1) c;omega
theorem uC {b:Rg} {W c st bk x ph r:Nat} (i:0<W) (h:b.1<=b.2) (hc:1<=c):(bf st bk b W c x ph r).length<=2*b.2:=by
 unfold bf;rw [nQ];have p:=xd (b:=b) (W:=W) (s:=bU W x ph r) (Nat.mod_lt _ i) h hc;have o:=xd (b:=b) (W:=W) (s:=aO W x ph r) (Nat.mod_lt _ i) h hc;omega
theorem EL {W x k:Nat} (h:x<W) (hk:k+1<W):aO W x 0 k=if k+1<=x then x-(k+1) else x+W-(k+1):=by
 unfold aO
 split
 ·rw [show x+(2*W+0-k-1)=x-(k+1)+W+W by omega,Nat.add_mod_right,Nat.add_mod_right,Nat.mod_eq_of_lt ao]
 ·rw [show x+(2*W+0-k-1)=x+W-(k+1)+W by omega,Nat.add_mod_right,Nat.mod_eq_of_lt ao]
theorem EK {W x r:Nat} (h:x<W) (hr:r+1<W):aO W x 1 r=if r<=x then x-r else x+W-r:=by
 unfold aO
 split
 ·rw [show x+(2*W+1-r-1)=x-r+W+W by omega,Nat.add_mod_right,Nat.add_mod_right,Nat.mod_eq_of_lt ao]
 ·rw [show x+(2*W+1-r-1)=x+W-r+W by omega,Nat.add_mod_right,Nat.mod_eq_of_lt ao]
def eN (W x s:Nat):Nat:=if s<=x then x-s else x+W-s
def pvN (W x:Nat):Nat:=if x=0 then W-1 else x-1
def ye (b:Rg) (W c st bk k:Nat) (G:Nat->N1) (x:Nat):N1:=rvL (G (pvN W x)) (G x) (bf st bk b W c x (k/(W-1)) (k%(W-1)))
def jj (b:Rg) (W c st bk:Nat) (l:Nat->N1):Nat->Nat->N1
 | 0=>l
 | k+1=>ye b W c st bk k (jj b W c st bk l k)
def psR (W:Nat) (l:Nat->N1) (s e q:Nat):Int:=wrap64 ((List.range (e+1)).map λd=>nth (l ((s+d)%W)) q).sum
theorem AV (W:Nat) (l:Nat->N1) (s e q:Nat):wrap64 (nth (l ((s+(e+1))%W)) q+psR W l s e q)=psR W l s (e+1) q:=by
 unfold psR;rw [GV (n:=e+1),List.map_append,List.sum_append];simp only [List.map_cons,List.map_nil,List.sum_cons,List.sum_nil,Int.add_zero];rw [Int.add_comm,qL]
theorem kD {b:Rg} {W c st bk n:Nat} {l:Nat->N1} (i:1<=W) (h:∀x,x<W->(l x).length=n):∀k x,x<W->(jj b W c st bk l k x).length=n
 | 0,x,hx=>h x hx
 | k+1,x,hx=>by
  show (rvL _ (jj b W c st bk l k x) _).length=n
  rw [qX];exact kD i h k x hx
theorem AP {b:Rg} {W c st bk n:Nat} {l:Nat->N1} (hb:b.2<=n) (L:b.1<=b.2) (hc:1<=c) (hl:∀x,x<W->(l x).length=n/\W64 (l x)) {q s:Nat} (T:q<n) (Y:s<W) (p:Cov (aD (bY b W) s) q):
  ∀k,k<=2*(W-1)->∀x,x<W->nth (jj b W c st bk l k x) q=
   if k<=W-1 then (if eN W x s<=k then psR W l s (eN W x s) q else nth (l x) q)
   else if eN W x s<k-(W-1)\/eN W x s=W-1 then psR W l s (W-1) q else psR W l s (eN W x s) q:=by
 have B:∀x,x<W->(s+eN W x s)%W=x:=λx i=>by
  unfold eN
  split
  ·rw [show s+(x-s)=x by omega,Nat.mod_eq_of_lt i]
  ·rw [show s+(x+W-s)=x+W by omega,Nat.add_mod_right,Nat.mod_eq_of_lt i]
 have R:∀x,x<W->eN W x s<W:=λx i=>by unfold eN;split<;>omega
 have D:∀x,x<W->pvN W x<W:=λx i=>by unfold pvN;split<;>omega
 have U:∀x,x<W->eN W (pvN W x) s=if eN W x s=0 then W-1 else eN W x s-1:=λx i=>by
  unfold eN pvN
  split<;>split<;>split<;>first | omega | (split<;>omega)
 have u:=λk x i=>kD (b:=b) (c:=c) (st:=st) (bk:=bk) (show 1<=W by omega) (λx i=>(hl x i).1) k x i;intro k
 induction k with
 | zero=>
  intro _ x i;rw [if_pos (Gc _)]
  split
  ·next h=>
   have C:eN W x s=0:=ao;have hm:=B x i;rw [C];unfold psR;simp only [GY,List.range_one,List.map_cons,List.map_nil,List.sum_cons,List.sum_nil,Int.add_zero];rw [C] at hm;rw [hm];have hw:=(hl x i).2 q (by rw [(hl x i).1];exact T)
   show nth (l x) q=wrap64 (nth (l x) q)
   unfold wrap64;omega
  ·rfl
 | succ k ih=>
  intro hk x i;have Q:0<W-1:=ao;have N:=ih ao x i;have H:=ih ao (pvN W x) (D x i);have a0:=R x i;rw [U x i] at H;by_cases V:k<W-1
  ·have O:k/(W-1)=0:=Nat.div_eq_of_lt V;have hr:k%(W-1)=k:=Nat.mod_eq_of_lt V;have y:=EL (W:=W) (x:=x) (k:=k) i ao;have A:aO W x 0 k<W:=by rw [y];split<;>omega
   have o:aO W x 0 k=s↔eN W x s=k+1:=by rw [y];unfold eN;split<;>split<;>omega
   show nth (rvL (jj b W c st bk l k (pvN W x)) (jj b W c st bk l k x) (bf st bk b W c x (k/(W-1)) (k%(W-1)))) q=_
   rw [O,hr,lw A hb (u k _ (D x i)) (u k x i) T hc L,if_pos rfl,N,H,if_pos (show k<=W-1 by omega),if_pos (show k<=W-1 by omega),if_pos (show k+1<=W-1 by omega)];by_cases he:eN W x s=k+1
   ·rw [o.2 he,if_pos p,if_neg (show ¬eN W x s<=k by omega),if_neg (show ¬eN W x s=0 by omega),if_pos (show eN W x s-1<=k by omega),if_pos (show eN W x s<=k+1 by omega),he,Nat.add_sub_cancel];have hm:=B x i;rw [he] at hm;have:=AV W l s k q;rw [hm] at this;exact this
   ·rw [if_neg (λI=>he (o.1 (mU A Y I p)))];by_cases v:eN W x s<=k
    ·rw [if_pos v,if_pos (show eN W x s<=k+1 by omega)]
    ·rw [if_neg v,if_neg (show ¬eN W x s<=k+1 by omega)]
  ·obtain ⟨r,rfl⟩:∃r,k=W-1+r:=⟨k-(W-1),by omega⟩;have J:r<W-1:=ao;have O:(W-1+r)/(W-1)=1:=by rw [Nat.add_comm,Nat.add_div_right _ Q,Nat.div_eq_of_lt J]
   have hr:(W-1+r)%(W-1)=r:=by rw [Nat.add_comm,Nat.add_mod_right,Nat.mod_eq_of_lt J]
   have y:=EK (W:=W) (x:=x) (r:=r) i ao;have A:aO W x 1 r<W:=by rw [y];split<;>omega
   have o:aO W x 1 r=s↔eN W x s=r:=by rw [y];unfold eN;split<;>split<;>omega
   show nth (rvL (jj b W c st bk l (W-1+r) (pvN W x)) (jj b W c st bk l (W-1+r) x) (bf st bk b W c x ((W-1+r)/(W-1)) ((W-1+r)%(W-1)))) q=_
   rw [O,hr,lw A hb (u _ _ (D x i)) (u _ x i) T hc L,if_neg (show ¬(1=0) by decide),N,H,if_neg (show ¬W-1+r+1<=W-1 by omega)];have Z:W-1+r+1-(W-1)=r+1:=ao;have e8:W-1+r-(W-1)=r:=ao;rw [Z,e8];by_cases he:eN W x s=r
   ·rw [o.2 he,if_pos p,if_pos (show eN W x s<r+1\/eN W x s=W-1 by omega),he];by_cases C:r=0
    ·subst C;rw [if_pos rfl,if_pos (show W-1+0<=W-1 by omega),if_pos (show W-1<=W-1+0 by omega)]
    ·rw [if_neg C,if_neg (show ¬W-1+r<=W-1 by omega),if_pos (show r-1<r\/r-1=W-1 by omega)]
   ·rw [if_neg (λI=>he (o.1 (mU A Y I p)))];by_cases C:r=0
    ·subst C;rw [if_pos (show W-1+0<=W-1 by omega),if_pos (show eN W x s<=W-1+0 by omega)];by_cases v:eN W x s<0+1\/eN W x s=W-1
     ·rw [if_pos v];rcases v with v | v
      ·omega
      ·rw [v]
     ·rw [if_neg v]
    ·rw [if_neg (show ¬W-1+r<=W-1 by omega)];by_cases v:eN W x s<r\/eN W x s=W-1
     ·rw [if_pos v,if_pos (show eN W x s<r+1\/eN W x s=W-1 by omega)]
     ·rw [if_neg v,if_neg (show ¬(eN W x s<r+1\/eN W x s=W-1) by omega)]
theorem Aq {b:Rg} {W s q:Nat} (p:s<W) (h:Cov (aD (bY b W) s) q):Cov b q:=by
 rw [js p] at h;obtain ⟨i,o⟩:=h;simp only at i o;have:=du (b.2-b.1) W (show s+1<=W by omega);rw [gY _ _ ao] at this;exact ⟨by omega,by omega⟩
theorem AO {b:Rg} {W c st bk n:Nat} {l:Nat->N1} (hb:b.2<=n) (u:b.1<=b.2) (hc:1<=c) (hl:∀x,x<W->(l x).length=n) {q:Nat} (A:q<n) (o:¬Cov b q):
  ∀k,k<=2*(W-1)->∀x,x<W->nth (jj b W c st bk l k x) q=nth (l x) q:=by
 have y:∀x,x<W->pvN W x<W:=λx i=>by unfold pvN;split<;>omega
 intro k
 induction k with
 | zero=>intro _ x _;rfl
 | succ k ih=>
  intro hk x i;have h:=λk x i=>kD (b:=b) (c:=c) (st:=st) (bk:=bk) (show 1<=W by omega) hl k x i;have p:aO W x (k/(W-1)) (k%(W-1))<W:=Nat.mod_lt _ ao
  show nth (rvL (jj b W c st bk l k (pvN W x)) (jj b W c st bk l k x) (bf st bk b W c x (k/(W-1)) (k%(W-1)))) q=_
  rw [lw p hb (h k _ (y x i)) (h k x i) A hc u,if_neg (λv=>o (Aq p v)),ih ao x i]
end Go.Proofs.YtindmkcnjlgomaaGreat
