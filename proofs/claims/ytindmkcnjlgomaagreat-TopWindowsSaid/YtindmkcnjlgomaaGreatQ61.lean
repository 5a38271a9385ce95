/- No condition. -/
import Derived.Test.YtindmkcnjlgomaaGreatQ25
set_option linter.unusedSimpArgs false
set_option linter.unusedVariables false
set_option maxRecDepth 100000
set_option maxHeartbeats 4000000
namespace Go.Proofs.YtindmkcnjlgomaaGreat
open Go.RowKit
open Tryz
theorem Ie {H:Nat->Prop} {w:R8} {b x:Nat} {i:Inp} {a:MAd} {m:Mst} (h:aU H w b i x a m) (hn:m.op.length<=60):Calls prog 207 #[(au b)] w λe C=>∃v,e=.returned v/\C.ownsRow w.heap.size 3 1 v m.op.length (aA .i64 (eF m.op))/\aq w C:=by
 obtain ⟨A,c,u,_⟩:=aD h.oO;have hc:=m7 A (eF m.op) c w (by have:=h.oO;rw [u] at this;exact Rd.own this) (by rw [mq];omega);rw [mq] at hc;have B:=NW h.blk;rw [u] at B;obtain ⟨n,p⟩:∃n,m.op.length=n:=⟨_,rfl⟩;rw [p] at hc B |-;have L:=aa hc;clear h hc p hn u;go_enter func207,ntmps207;go_wp2_with fail;refine L.o.mono ?_;rintro e N ⟨v,rfl,D,y⟩;obtain ⟨J,I⟩:=ae D y;clear D y;go_wp2_with fail;go_ret;exact ⟨_,rfl,J.o,I.o⟩
section
variable {w:R8} {b:Nat} {ring:Value} {cap sent recv peak:Nat}
end
theorem Lv (b:Nat) (ring:Value) (cap sent recv peak:Nat) (w:R8) (h:aC w b ring cap sent recv peak):Calls prog 45 #[(au b)] w λe i=>e=.returned (RI peak)/\w=i:=by
 have c4:=h.c4;go_enter func45,ntmps45;go_wp2;go_ret;exact ⟨rfl,rfl⟩
section
variable {E:Nat->Prop} {i:Inp} {V w w':R8} {X:Nat} {M:WSt}
theorem WIn.al (h:WIn E i V X M w):dX i M:=by
 obtain ⟨⟨D,B,h1,o,u⟩,p⟩:=h;exact o.al
end
theorem FF {X:Value} {z:Int} {w:R8} (i:∀h,aq w h->Calls prog 43 #[X,RI z] h λe u=>e=.returned (.tuple #[.nilIface,.pointer none,.pointer none,.bool false])/\aq h u):Calls prog 15 #[X,RI z] w λe h=>e=.returned (RJ)/\aq w h:=by
 have p:=aa i;have y:=br w;clear i;go_enter func15,ntmps15;go_wp2_with fail;refine (p.o _ y).mono ?_;rintro e A ⟨rfl,v⟩;have x:=aa v;clear v;go_wp2_with fail;go_ret;exact ⟨rfl,x.o⟩
theorem FE {X:Value} {z b:Nat} {la lb:Value} {R:Ending->R8->Prop} {w:R8} (p:Calls prog 43 #[X,RI (z:Nat)] w λe h=>e=.returned (.tuple #[.iface 100 ((au b)),la,lb,.bool true])/\aq w h) (i:∀x,aq w x->Calls prog 207 #[(au b)] x λe h=>(∃v,e=.returned v)/\R e h):Calls prog 15 #[X,RI (z:Nat)] w R:=by
 have hm:∀(w:R8),(method 483 100 ((au b)) "Open").run prog w=.ok (207,(au b)) w:=λ_=>by kernel_rfl
 obtain ⟨u,B⟩:=ae p i;clear p i;go_enter func15,ntmps15;go_wp2_with fail;refine u.o.mono ?_;rintro e A ⟨rfl,y⟩;have C:=aa (B.o A y);clear y;go_wp2_with fail;refine C.o.mono ?_;rintro e H ⟨⟨v,rfl⟩,hr⟩;have D:=aa hr;clear hr;go_wp2_with fail;exact D.o
theorem FI {X:Value} {z:Int} {w:R8} (i:∀h,aq w h->Calls prog 43 #[X,RI z] h λe u=>e=.returned (.tuple #[.nilIface,.pointer none,.pointer none,.bool false])/\aq h u):Calls prog 16 #[X,RI z] w λe h=>e=.returned (.tuple #[RJ,RI 0])/\aq w h:=by
 have p:=aa i;have y:=br w;clear i;go_enter func16,ntmps16;go_wp2_with fail;refine (p.o _ y).mono ?_;rintro e A ⟨rfl,v⟩;have x:=aa v;clear v;go_wp2_with fail;go_ret2;exact ⟨rfl,x.o⟩
theorem FH {X:Value} {z b l pk:Nat} {la:Value} {R:Value->R8->Prop} {w:R8} (x:Calls prog 43 #[X,RI (z:Nat)] w λe h=>e=.returned (.tuple #[.iface 100 ((au b)),la,(au l),.bool true])/\aq w h) (i:∀p,aq w p->Calls prog 44 #[(au l)] p λe h=>∃v,e=.returned v/\R v h) (u:∀v p,R v p->Calls prog 45 #[(au l)] p λe h=>e=.returned (RI (pk:Nat))/\R v h):Calls prog 16 #[X,RI (z:Nat)] w λe p=>∃v,e=.returned (.tuple #[v,RI (pk:Nat)])/\R v p:=by
 obtain ⟨A,H,L⟩:=af x i u;clear x i u;go_enter func16,ntmps16;go_wp2_with fail;refine A.o.mono ?_;rintro e D ⟨rfl,B⟩;have C:=aa (H.o D B);clear B;go_wp2_with fail;refine C.o.mono ?_;rintro e J ⟨v,rfl,hr⟩;have I:=aa hr;clear hr;go_wp2_with fail;refine (L.o v J I.o).mono ?_;rintro e N ⟨rfl,hr⟩;have y:=aa hr;clear hr;go_wp2_with fail;go_ret2;exact ⟨v,rfl,y.o⟩
section
variable {E:Nat->Prop} {i:Inp} {V w w':R8} {X:Nat} {M:WSt}
theorem Lf (hs:bD i) {x:Nat} {m:Mst} (h:MOk i x m):m.op.length<=60:=by
 rw [h.op];exact QD (yQ hs.ok x m.st m.nx).2 hs.ok.buks
theorem WIn.openIn (h:WIn E i V X M w) (hs:bD i) {x:Nat} (p:x<(ax i).W):Calls prog 15 #[(au X),RI (x:Nat)] w λe w'=>∃v,e=.returned v/\w'.ownsRow w.heap.size 3 1 v (M.m x).op.length (aA .i64 (eF (M.m x).op))/\aq w w':=by
 obtain ⟨⟨D,B,rfl,o,H⟩,C⟩:=h;refine (FE (R:=λe w'=>∃v,e=.returned v/\w'.ownsRow w.heap.size 3 1 v (M.m x).op.length (aA .i64 (eF (M.m x).op))/\aq w w') (o.at hs p) λA q=>?_).mono λe w' hr=>hr;refine (Ie ((o.below q).mem.mach x p) (Lf hs (o.al.ok.mok x p))).mono ?_;rintro e I ⟨v,rfl,u,y⟩;exact ⟨⟨v,rfl⟩,v,rfl,aF u q.size,bt q y⟩
theorem WIn.openOut (h:WIn E i V X M w) {z:Int} (J:¬(0<=z/\z<((ax i).W:Int))):Calls prog 15 #[(au X),RI z] w λe w'=>e=.returned (RJ)/\aq w w':=by
 obtain ⟨⟨D,B,rfl,p,H⟩,C⟩:=h;obtain ⟨y,I,u,v,o,x,A⟩:=p.rows;exact FF λw' q=>yy (sb o w' q) ap
end
def lH (w:R8) (base:Nat) (v:Value) (ms:List Msg):Prop:=
 ∃rows,w.ownsRow base 174 6 v ms.length (List.flatten rows)/\rows.length=ms.length/\(∀r∈rows,r.length=6)/\∀j,j<ms.length->zx w base (fg rows j) (aQ ms j)
theorem OJ {w:R8} {base base':Nat} {e B:R9} {size o n D:Nat} {v v':Value} {xs u:R7} (h:w.ownsRow base e size v n xs) (H:w.ownsRow base' B o v' D u) (x:e≠B):∀k,v.ownBlock=some k->v'.ownBlock≠some k:=λk hk p=>by
 rcases h.2 with ⟨hn,_⟩ | ⟨g,cap,C,rfl,_,hg,_⟩
 .rw [hn] at hk;cases hk
 .obtain rfl:g=k:=by simpa [Value.ownBlock] using hk
  rcases H.2 with ⟨hn,_⟩ | ⟨I,y,A,rfl,_,i,_⟩
  .rw [hn] at p;cases p
  .obtain rfl:I=g:=by simpa [Value.ownBlock] using p
   rw [hg] at i;injection i with i;injection i with _ i;exact x i
theorem Id {wr y u:R8} {base hb:Nat} {A x:N_} {k c c2 Q L:Nat} {rows:List (R7)} {ms:List Msg} {t0 t1 t2 C D:Int} {zs:Q_} (hk:ms.length=k) (H:base<=wr.heap.size) (N:wr.ownsRow base 174 6 (.slice A k c) k (List.flatten rows)) (J:rows.length=ms.length) (V:∀r∈rows,r.length=6) (hm:∀j,j<ms.length->zx wr base (fg rows j) (aQ ms j)) (hB:aq wr y) (o:y.ownsRow hb 2 1 (.slice x zs.length c2) zs.length (aA .i64 zs)) (Y:wr.heap.size<hb) {v:Value} (hg:(y.setCell (ar wr.heap.size 5) v).grownBy u (Value.slice A k c).ownBlock) (I:u.ownsRow base 174 6 (.slice (some (ar Q 0)) (k+1) L) (k+1) (List.flatten rows++[RI t0,RI t1,RI t2,RI C,RI D,.slice x zs.length c2])):
  lH u base (.slice (some (ar Q 0)) (k+1) L) (ms++[⟨⟨t0,t1,t2,C,D⟩,zs⟩]):=by
 have U:Keep (λi=>(Value.slice A k c).ownBlock=some i) wr u:=((Keep.below hB).setCell _ (.inl (Qx _)) _).grown hg λi p=>.inr p;have R:Keep (λi=>i=wr.heap.size\/(Value.slice A k c).ownBlock=some i) y u:=((Keep.refl _ _).setCell _ (.inr (.inl rfl)) _).grown hg λi p=>.inr (.inr p);refine ⟨rows++[[RI t0,RI t1,RI t2,RI C,RI D,.slice x zs.length c2]],?_,by simp [J],?_,?_⟩
 .rw [Rs,List.flatten_cons,List.flatten_nil,List.append_nil,Rh,Rr,hk];exact I
 .intro r hr;rcases Rw.1 hr with hr | hr
  .exact V r hr
  .rw [List.mem_singleton.1 hr];rfl
 .intro j Z;rcases QO j ms.length with h | h
  .rw [j3 _ _ _ ap,ki _ _ _ h];obtain ⟨B,d,e,O⟩:=hm j h;exact ⟨B,d,e,U.own O λi p=>OJ O N (by decide) i p⟩
  .obtain rfl:j=ms.length:=by simp at Z;omega
   rw [kl,<-J,j4];refine ⟨x,c2,rfl,aF (base:=hb) (R.own o λi p=>?_) ap⟩;have:=(o.lt i p).1;rintro (rfl | T)
   .omega
   .have:=(N.lt i T).2;omega
theorem Lw (base b:Nat) (g:Option Nat) (s:LSt) (w:R8) (h:aV w base b g s):Calls prog 44 #[.pointer (some ⟨b,0,none⟩)] w λe x=>∃A c,e=.returned (.slice A (s.msgs.length-s.recv) c)/\lH x w.heap.size (.slice A (s.msgs.length-s.recv) c) (s.msgs.drop s.recv)/\aq w x:=by
 have B:=h.ok;obtain ⟨ring,rows,hc,_⟩:=h.ex;have hl:=mZ b _ _ _ _ _ _ hc B.rs (by have:=B.many;omega);obtain ⟨n,hn⟩:∃n,s.msgs.length-s.recv=n:=⟨_,rfl⟩;have a1:(s.msgs.length:Int)-s.recv=(n:Int):=by have:=B.rs;omega
 rw [a1] at hl;rw [hn];obtain ⟨H,Hl,J,Hn⟩:=ag h hl B hn;clear h hl B hn a1 hc;go_enter func44,ntmps44;go_wp2_with fail;refine Hl.o.mono ?_;rintro e x ⟨rfl,k,rfl⟩;go_wp2_with fail
 go_loopw [8,3] (λi out wr=>∃k A c,k<=n/\i=RI (k:Int)/\out=.slice A k c/\lH wr w.heap.size (.slice A k c) ((s.msgs.drop s.recv).take k)/\aq w wr) (λi _ _=>n-(intOf i).toNat)
 case atStart=>
  refine ⟨0,none,0,QB _,rfl,rfl,⟨[],?_,rfl,by simp,by simp⟩,QH (QA _ _) _⟩;exact ⟨rfl,.inl ⟨rfl,rfl⟩⟩
 case round=>
  obtain ⟨k,A,c,hk,rfl,rfl,hM,hW⟩:=hrel;by_cases b7:k<n
  .have b3:=(H.o.below (hW.mono (Qx _))).at_ (s.recv+k) ap (by have:=Hn.o;omega);obtain ⟨Q,rc,A',c',_,y,hi,h6,v⟩:=b3;have Y:=J.o.cap1;have a2:=J.o.cap2;have aG:=J.o.many;have a1:=Hn.o;obtain ⟨m,hm⟩:∃m,aQ s.msgs (s.recv+k)=m:=⟨_,rfl⟩
   have a4:m.vals.length<=17592186043904:=by
    refine J.o.vals m ?_;rw [<-hm,aQ,List.getD,Rj ap];exact List.getElem_mem _
   rw [hm] at h6 v;obtain ⟨i,T⟩:∃i,(s.recv+k)%s.cap=i:=⟨_,rfl⟩;rw [T] at hi h6;obtain ⟨L,hL⟩:∃L,min s.msgs.length s.cap=L:=⟨_,rfl⟩;rw [hL] at hi y;obtain ⟨⟨t0,t1,t2,t3,t4⟩,zs⟩:=m;have hp:=λW' b1=>ko b (.slice (some ⟨Q,0,none⟩) L rc) s.cap s.msgs.length s.recv s.peak (s.recv+k) i W' b1 Y a2 T;have c0:=y.c0;have c3:=y.c3;obtain ⟨d0,d1,d2,d3,d4,d5⟩:=h6;dsimp only at d0 d1 d2 d3 d4 d5 v a4;have b9:IntKind.i64.wrap ((s.recv:Int)+(k:Int))=((s.recv+k:Nat):Int):=by rw [QC _ ap];omega
   have b8:=Qw y;have b6:=aB d0;obtain ⟨Hp,b4,a5,HM,HW,Hm⟩:=ai hp y v hM hW hm;clear hp y v hM hW hm T hL;go_wp2_with fail
   go_region_held3 (λx=>x.cell? ⟨b,0,none⟩=some (.slice (some ⟨Q,0,none⟩) L rc)/\x.cell? ⟨b,3,none⟩=some (RI (s.recv:Int))/\x.cell? ⟨Q,i*6,none⟩=some (RI t0)/\x.cell? ⟨Q,i*6+1,none⟩=some (RI t1)/\
     x.cell? ⟨Q,i*6+2,none⟩=some (RI t2)/\x.cell? ⟨Q,i*6+3,none⟩=some (RI t3)/\x.cell? ⟨Q,i*6+4,none⟩=some (RI t4)/\x.cell? ⟨Q,i*6+5,none⟩=some (.slice A' zs.length c')) (simp [go_sem, *])
    ((go_at_call 76;refine (Hp.o _ ?_).mono ?_;(focus (repeat' (first | (with_reducible exact b4.o) | (with_reducible refine aC.drew ?_) | (with_reducible refine aC.drewN ?_ _) | (with_reducible refine aC.alloc ?_ _) | (with_reducible refine aC.set0 (ring:=.slice RA L rc) ?_ _) | (with_reducible refine aC.set2 (sent:=s.msgs.length) ?_ _ _ ?_) | (with_reducible refine aC.set4 (peak:=s.peak) ?_ _ _ ?_) | (with_reducible refine aC.far ?_ _ _ ?_) | omega | (push_cast;omega))));rintro e x ⟨rfl,rfl⟩))
   all_goals
    go_wp2_with fail;refine (nW A' zs c' _ ?_ a4).mono ?_
    .repeat' (first | exact Rd.own a5.o | (with_reducible refine Rd.alloc ?_ _) | (with_reducible refine Rd.drewN ?_ _) | (with_reducible refine Rd.drew ?_))
    rintro e I ⟨v2,rfl,u,p⟩;have e0:I.cell? ⟨wr.heap.size,0,none⟩=some (RI t0):=by rw [p.cell (by simp)];simp [go_sem]
    have e1:I.cell? ⟨wr.heap.size,1,none⟩=some (RI t1):=by rw [p.cell (by simp)];simp [go_sem]
    have e2:I.cell? ⟨wr.heap.size,2,none⟩=some (RI t2):=by rw [p.cell (by simp)];simp [go_sem]
    have e3:I.cell? ⟨wr.heap.size,3,none⟩=some (RI t3):=by rw [p.cell (by simp)];simp [go_sem]
    have e4:I.cell? ⟨wr.heap.size,4,none⟩=some (RI t4):=by rw [p.cell (by simp)];simp [go_sem]
    have e5:I.cell? ⟨wr.heap.size,5,none⟩=some (.slice A' zs.length c'):=by rw [p.cell (by simp)];simp [go_sem]
    have f5:I.frozen? ⟨wr.heap.size,5,none⟩=false:=by rw [p.frozen (by simp)];simp [go_sem]
    obtain ⟨A2,c2,rfl,_⟩:=aD u
    have V:aq wr I:=by
     refine Below.trans ?_ (p.mono (by simp));exact am
    obtain ⟨U,D,a6,ad,a3⟩:=HM.o;have R:((s.msgs.drop s.recv).take k).length=k:=by simp;omega
    rw [R] at D;have O:=(az D V);have N:(I.setCell ⟨wr.heap.size,5,none⟩ (.slice A2 zs.length c2)).ownsRow w.heap.size 174 6 (.slice A k c) k (List.flatten U):=ownsRow_setCell_other O (λe=>by have:=(D.lt _ e).2;simp at this) _;have b5:wr.heap.size<I.heap.size:=by have:=p.size;simp at this;omega
    obtain ⟨a0,a7,b2,av,a8,aR,aM,b0⟩:=ak u V R a3 N D a6 ad;clear u p V R a3 D O N a6 ad;go_wp2_with (at_builtin;refine aX lE _ rfl (.tmp 30) (.tmp 32) rfl w.heap.size _ k _ rfl a8.o [RI t0,RI t1,RI t2,RI t3,RI t4,.slice A2 zs.length c2] (by simp [go_sem]) rfl (rq _ _ _ _ _ _ rfl) ap (by unfold maxLen;omega) (by have:=HW.o.size;simp;omega) ?_);intro gO cO w5 C a9 ab;obtain ⟨Z,aP,ao⟩:=af C a9 ab;clear C a9 ab;go_wp2_with fail;go_roundw
    case rel=>
     refine ⟨k+1,some ⟨gO,0,none⟩,cO,by omega,by go_num,rfl,?_,?_⟩
     .rw [show (s.msgs.drop s.recv).take (k+1)=(s.msgs.drop s.recv).take k++[⟨⟨t0,t1,t2,t3,t4⟩,zs⟩] by
       rw [<-Hm.o,List.take_add_one,aQ,List.getD]
       simp [List.getElem?_drop,Rj (show s.recv+k<s.msgs.length by omega)]]
      exact Id b2.o HW.o.size aR.o aM.o b0.o av.o a7.o a0.o (by simp) ao.o Z.o
     .have hs:=HW.o.size;refine HW.o.trans (Below.trans (a7.o.mono hs) (Below.trans ((QA _ _).setCell ?_ _) aP.o));exact hs
    case measure=>simp [intOf];omega
  .obtain rfl:k=n:=ap;obtain ⟨HM,HW⟩:=ae hM hW;clear hM hW;go_wp2_with fail;go_ret;refine ⟨A,c,rfl,?_,HW.o⟩;have:=HM.o
   rwa [List.take_of_length_le (by simp;have:=Hn.o;omega)] at this
section
variable {E:Nat->Prop} {i:Inp} {V w w':R8} {X:Nat} {M:WSt}
theorem lH.base {w:R8} {b i:Nat} {v:Value} {ms:List Msg} (h:lH w b v ms) (hb:i<=b):lH w i v ms:=by
 obtain ⟨rows,h1,p,y,u⟩:=h;refine ⟨rows,aF h1 hb,p,y,λj x=>?_⟩;obtain ⟨B,d,e,o⟩:=u j x;exact ⟨B,d,e,aF o hb⟩
def Qr (s:LSt) (w:R8) (e:Ending) (w':R8):Prop:=∃A c,e=.returned (.tuple #[.slice A (s.msgs.length-s.recv) c,RI (s.peak:Nat)])/\lH w' w.heap.size (.slice A (s.msgs.length-s.recv) c) (s.msgs.drop s.recv)/\aq w w'
theorem WIn.linkIn (h:WIn E i V X M w) (hs:bD i) {x:Nat} (u:x<(ax i).W):Calls prog 16 #[(au X),RI (x:Nat)] w (Qr (M.s x) w):=by
 obtain ⟨⟨D,B,rfl,p,J⟩,I⟩:=h;refine (FH (R:=λv w'=>∃A c,v=.slice A ((M.s x).msgs.length-(M.s x).recv) c/\lH w' w.heap.size (.slice A ((M.s x).msgs.length-(M.s x).recv) c) ((M.s x).msgs.drop (M.s x).recv)/\aq w w') (pk:=(M.s x).peak) (p.at hs u) (λC q=>?_) (λv C hr=>?_)).mono ?_
 .refine (Lw _ _ _ _ _ ((p.below q).mem.lnk x u)).mono ?_;rintro e y ⟨A,c,rfl,o,H⟩;exact ⟨_,rfl,A,c,rfl,o.base q.size,bt q H⟩
 .obtain ⟨A,c,rfl,o,q⟩:=hr;obtain ⟨ring,rows,hc,_⟩:=((p.below q).mem.lnk x u).ex;refine (Lv _ _ _ _ _ _ _ hc).mono ?_;rintro e y ⟨rfl,rfl⟩;exact ⟨rfl,A,c,rfl,o,q⟩
 .rintro e y ⟨v,rfl,A,c,rfl,o,q⟩;exact ⟨A,c,rfl,o,q⟩
theorem WIn.linkOut (h:WIn E i V X M w) {z:Int} (J:¬(0<=z/\z<((ax i).W:Int))):Calls prog 16 #[(au X),RI z] w λe w'=>e=.returned (.tuple #[RJ,RI 0])/\aq w w':=by
 obtain ⟨⟨D,B,rfl,p,H⟩,C⟩:=h;obtain ⟨y,I,u,v,o,x,A⟩:=p.rows;exact FI λw' q=>yy (sb o w' q) ap
end
theorem WIn.openR {E:Nat->Prop} {i:Inp} {V w:R8} {X:Nat} {M:WSt} (h:WIn E i V X M w) (hs:bD i) (z:Int):Calls prog 15 #[(au X),RI z] w λe p=>(∃A n c lo,e=.returned (.slice A n c)/\(n:Int)<=i.cfg.window/\lo+n<=60/\Rd p A (aA .i64 (eF (List.range' lo n))))/\aq w p:=by
 by_cases C:0<=z/\z<((ax i).W:Int)
 .obtain ⟨x,rfl⟩:∃x:Nat,z=x:=⟨z.toNat,by omega⟩;have y:x<(ax i).W:=ap;refine (h.openIn hs y).mono ?_;rintro e p ⟨v,rfl,o,q⟩;have h1:=(yQ hs.ok x (M.m x).st (M.m x).nx).1;have D:((ax i).wi:Int)=i.cfg.window:=by have:=hs.g.c.wi;simp only [ax];omega
  have I:=tE hs.ok x (M.m x).st (M.m x).nx;have H:=hs.ok.buks;have B:=(h.al.ok.mok x y).op;rw [B] at o;have u:(opL (ax i) x (M.m x).st (M.m x).nx).length=(opP (ax i) x (M.m x).st (M.m x).nx).2-(opP (ax i) x (M.m x).st (M.m x).nx).1:=by unfold opL;exact List.length_range'
  rw [u] at o;rw [u] at h1;obtain ⟨A,c,rfl, -⟩:=aD o;exact ⟨⟨A,_,c,(opP (ax i) x (M.m x).st (M.m x).nx).1,rfl,by omega,by omega,Rd.own o⟩,q⟩
 .refine (h.openOut C).mono ?_;rintro e p ⟨rfl,q⟩;exact ⟨⟨none,0,0,0,rfl,by have:=hs.g.c.wi;omega,by omega,Rd.nil _ _⟩,q⟩
theorem WIn.linkZ {E:Nat->Prop} {i:Inp} {V w:R8} {X:Nat} {M:WSt} (h:WIn E i V X M w) (hs:bD i) (z:Int):Calls prog 16 #[(au X),RI z] w λe o=>(∃(A:N_) (n c pk:Nat),e=.returned (.tuple #[.slice A n c,RI (pk:Nat)])/\(n:Int)<=i.cfg.cap/\(pk:Int)<=i.cfg.cap)/\aq w o:=by
 have u:=hs.g.c.ca;by_cases v:0<=z/\z<((ax i).W:Int)
 .obtain ⟨x,rfl⟩:∃x:Nat,z=x:=⟨z.toNat,by omega⟩;have p:x<(ax i).W:=ap;refine (h.linkIn hs p).mono ?_;rintro e o ⟨A,c,rfl, -,q⟩;have hl:=h.al.ok.lok x p;exact ⟨⟨A,_,c,_,rfl,by omega,by omega⟩,q⟩
 .refine (h.linkOut v).mono ?_;rintro e o ⟨rfl,q⟩;exact ⟨⟨none,0,0,0,rfl,by omega,by omega⟩,q⟩
theorem Di {lo n k:Nat} (h:k<n):nth (eF (List.range' lo n)) k=((lo+k:Nat):Int):=by
 rw [dB _ _ (by rw [mq,List.length_range'];exact h)];simp [eF]
end Go.Proofs.YtindmkcnjlgomaaGreat
namespace Go.Proofs.YtindmkcnjlgomaaGreat
open Go.RowKit Go.ChangeShapes Go.WideShapes Go.ChangeAt
open Tryz
theorem tu {H:Type} {ci:R9×Value->H} {base:Nat} {v0 v1:Value} {d0 d1:DataW H} {p0 p1:List MemPlace} (W:R8) (o0:Value.okWide prog W .any base 29 v0) (h0:DataW.Trod ci prog W 0 (λ_=>true) true 29 v0 d0 p0) (z0:ge prog 29 d0) (o1:Value.okWide prog W .any base 22 v1) (h1:DataW.Trod ci prog W 0 (λ_=>true) true 22 v1 d1 p1) (z1:ge prog 22 d1):Calls prog 4 #[v0,v1] W λe v=>e=.returned (.bool true)/\aq W v:=by
 obtain ⟨A,c,D,cd,T,ct,R,cr,i,rfl,hI,_⟩:=uQ o0 h0 z0;obtain ⟨B0,I,b7,rfl,bA⟩:=AJ o1 h1 z1;clear o0 h0 z0 o1 h1 z1;have U:=λv (q:aq W v)=>ua A c D cd T ct R cr i B0 I.length b7 v (hI.below q);have c7:=λv (q:aq W v) (hs:iZ i)=>(hI.below q).rd hs;have bs:=λv (q:aq W v)=>bA.hr.below q;obtain ⟨W1,Z⟩:∃W1,W.alloc (.cells (aL A c D cd T ct R cr i) 29)=W1:=⟨_,rfl⟩;have hx:W1.heap[W.heap.size]?=some (.cells (aL A c D cd T ct R cr i) 29 (0,0)):=by rw [<-Z];exact Qy W _
 have hB:aq W W1:=by rw [<-Z];exact (br W).alloc (Qx _) _
 have tl:=sl hx;obtain ⟨O,c6,bb,HB,bw,Hx,dc⟩:=aj hx Z c7 hB bs (λv (q:aq W1 v)=>hB.trans (q.mono hB.size)) (λv (q:aq W1 v)=>(jL v).mono λe d2 (h:_/\Below _ _ _)=>(⟨h.1,hB.trans ((q.trans (h.2.mono q.size)).mono hB.size)⟩:e=.returned (.bool true)/\aq W d2));obtain ⟨bn,Q⟩:∃bn,I.length=bn:=⟨_,rfl⟩;rw [Q] at U |-;obtain ⟨V,a3⟩:=ae Q U;clear U c7 hI hx hB Z bs bA Q;go_enter func4,ntmps4;go_wp2_with (refine aN (aL A c D cd T ct R cr i) (b:=W.heap.size) (by rw [c6.o];exact O.o) ez rfl rfl rfl rfl ?_);rw [c6.o];refine (a3.o W1 (Hx.o _ (br W1))).mono ?_;rintro e w3 ⟨⟨b,rfl,a6⟩,k3⟩;have Q3:=aa (bt (br W1) k3);clear k3;rcases dW b with rfl | rfl
 .clear a6;go_wp2_with fail;refine (dc.o _ Q3.o).mono ?_;rintro e w4 ⟨rfl,h3⟩;go_wp2_with fail;go_ret;exact ⟨rfl,h3⟩
 have Hs:=aa (a6 rfl);have J:=aa (Hs.o.1.sm Hs.o.2.1);have dd:=Hs.o.2.2;have bf:=aa Hs.o.1.1;have a0:=aa (bb.o w3 (Hx.o _ Q3.o) bf.o);obtain ⟨da,cw⟩:=ae a0.o.ra a0.o.rm;clear a6 Hs a3;go_wp2_with (refine aN (aL A c D cd T ct R cr i) (b:=W.heap.size) (sb O.o _ Q3.o) ez rfl rfl rfl rfl ?_);have x:=oK (E:=λ_=>False) A c D cd T ct R cr i w3 a0.o J.o (λ_ e=>e.elim);refine x.mono ?_;rintro e w4 hn;obtain ⟨X,rfl,J4,hX,k4⟩:=hn.winP (P:=nj A c D T ct R i B0 I) (λS hS=>⟨eN a0.o (tI hn.q λk e=>(hS k e).elim id False.elim),aW (bw.o _ (Hx.o _ Q3.o)) (tI hn.q λk e=>(hS k e).elim id False.elim)⟩);obtain ⟨C,Q4⟩:=ae J4 (bt Q3.o k4);clear J4 hn x k4;obtain ⟨wi,aG⟩:∃wi,i.cfg.window=wi:=⟨_,rfl⟩;obtain ⟨cp,a5⟩:∃cp,i.cfg.cap=cp:=⟨_,rfl⟩;have bh:∀v,aq W1 v->v.cell? (ar W.heap.size 10)=some (RI wi):=λv q=>by rw [<-aG];exact Qz v W.heap.size 10 _ _ _ (sb O.o v q)
 have be:∀v,aq W1 v->v.cell? (ar W.heap.size 11)=some (RI cp):=λv q=>by rw [<-a5];exact Qz v W.heap.size 11 _ _ _ (sb O.o v q)
 obtain ⟨d9,d7,d3,d4⟩:=ag bh be aG a5;clear bh be aG a5;go_wp2_with fail
 go_loopw [28] (λu wr=>∃k:Nat,k<=bn/\u=RI k/\lT (nj A c D T ct R i B0 I) (λ_=>False) i w3 X (dJ i (fA i) (I.take k)).1 wr) (λu _=>bn-(intOf u).toNat)
 .exact ⟨0,QB _,rfl,C.o⟩
 case round=>
  clear C;obtain ⟨k,hk,rfl,hj⟩:=hrel;have C:=aa hj;clear hj;by_cases cA:k<bn
  .have dv:(k:Int)<bn:=ap;have b1:k<I.length:=by rw [V.o];exact cA
   obtain ⟨b,o,rfl,p⟩:=(C.o.p nj.stab).2.num b1;obtain ⟨M,hM⟩:∃M,(dJ i (fA i) (I.take k)).1=M:=⟨_,rfl⟩;have L:=wW (i:=i) (M:=fA i) b1;rw [hM] at L;rw [hM] at C;obtain ⟨z,hz⟩:∃z,nth I k=z:=⟨_,rfl⟩;rw [hz] at p L;have b5:=C.o.pick nj.stab J.o da.o cw.o z;obtain ⟨M',a7⟩:∃M',(pkZ i M z).1=M':=⟨_,rfl⟩;obtain ⟨pb,b6⟩:∃pb,(pkZ i M z).2=pb:=⟨_,rfl⟩;rw [a7,b6] at b5;rw [a7] at L;obtain ⟨d5,bX⟩:=ae L b5;clear hM L hz b1 b5 a7 b6 C;go_wp2_with fail;refine bX.o.mono ?_;rintro e dr ⟨rfl,b0⟩;have b9:=aa b0;have b4:=b0.win.openR J.o z;rw [d3.o] at b4;have bG:=aa b4;clear b0 bX p b4;go_wp2_with fail;refine bG.o.mono ?_;rintro e dG ⟨⟨A2,n2,c2,lo,rfl,d8,dn,N⟩,cj⟩;have ad:=aa (b9.o.below nj.stab cj);have a8:=ad.o.win.linkZ J.o z;rw [d4.o] at a8;obtain ⟨b8,bi⟩:=ae a8 N;clear bG b9 cj a8 N;go_wp2_with fail;refine b8.o.mono ?_;rintro e aP ⟨⟨A3,n3,c3,pk,rfl,cI,bO⟩,aR⟩;have cb:=aa (ad.o.below nj.stab aR);have aM:=bt Q3.o (cb.o.q.toBelow (Qx _) (λ_ e=>e.elim));have cx:=d9.o aP aM;have d6:=d7.o aP aM;have cc:=aa (bi.o.below aR);have g1:¬(wi<(n2:Int)):=ap;have g2:¬(cp<(n3:Int)):=ap;have g3:¬(cp<(pk:Int)):=ap;clear b8 ad aR aM bi d8 cI bO;go_wp2_with fail;clear cx d6 g1 g2 g3
   go_loopw [67] (λu wr=>wr=aP/\∃y:Nat,y<=n2/\u=RI y) (λu _=>n2-(intOf u).toNat)
   .exact ⟨rfl,0,QB _,rfl⟩
   case round=>
    obtain ⟨rfl,y,dp,rfl⟩:=hrel;by_cases dk:y<n2
    .have df:(y:Int)<n2:=ap;have cM:(eF (List.range' lo n2)).length=n2:=by rw [mq,List.length_range']
     obtain ⟨b2,o2,rfl,p0⟩:=cc.o.num (k:=0) ap;obtain ⟨b3,o3,e3,p1⟩:=cc.o.num (k:=y) ap;injection e3 with e3
     injection e3 with e4 e5
     subst e4 e5;rw [Di ap] at p0 p1;rw [Nat.add_zero,Nat.add_zero] at p0;have e6:IntKind.i64.wrap ((lo:Int)+(y:Int))=((lo+y:Nat):Int):=by rw [QC _ ap];omega
     have e7:(((lo+y:Nat):Int) != ((lo+y:Nat):Int))=false:=by simp
     clear cM;go_wp2_with fail;go_roundw
     .exact ⟨trivial,y+1,by omega,by go_num⟩
     .simp [intOf];omega
    .obtain rfl:y=n2:=ap;have cs:¬((y:Int)<y):=ap;go_wp2_with fail;go_roundw
     .exact ⟨k+1,by omega,by go_num,by rw [d5.o];exact cb.o⟩
     .simp [intOf];omega
  .obtain rfl:k=bn:=ap;have cs:¬((k:Int)<k):=ap;have e0:I.take k=I:=List.take_of_length_le (by rw [V.o];omega);rw [e0] at C;obtain ⟨M0,av⟩:∃M0,M0=(dJ i (fA i) I).1:=⟨_,rfl⟩;rw [<-av] at C;obtain ⟨cO,Q4⟩:=ae av (bt Q3.o (C.o.q.toBelow (Qx _) (λ_ e=>e.elim)));clear hk e0 av;go_wp2_with (refine aN (aL A c D cd T ct R cr i) (b:=W.heap.size) (sb O.o _ Q4.o) ez rfl rfl rfl rfl ?_);obtain ⟨S,ao,⟨a9,cf⟩,cL,a4⟩:=C.o.ref;have x:=Og (S:=S) A c D cd T ct R cr i ao (bb.o wr (Hx.o _ Q4.o) bf.o) (λv q=>eN a9 (im q)) J.o;obtain ⟨c8,cv,cy,bv⟩:=ag ao a9 cf a4;clear ao a9 cf cL a4;refine x.mono ?_;rintro e w5 ⟨vs,rfl,hz,ho,hm,k5⟩;obtain ⟨Hz,Ho,HM,K5,Q5⟩:=ah hz ho hm k5 (bt Q4.o k5);clear x hz ho hm k5;go_upto_region 20 with (refine aI (Qy _ _) dh rfl rfl rfl rfl Hz.o (by rw [Hz.o];rfl) Ho.o ?_;intro w6 e6 k6;obtain ⟨E6,K6⟩:=ae e6 (aO k6);clear e6 k6);have Q6:=aa (bt Q5.o K6.o);go_wp2_with (refine aN vs (b:=w5.heap.size) (o:=0) E6.o (by rw [Hz.o];exact dh) rfl rfl rfl (by rw [Rf];exact Rt) ?_);have B:=Of (S:=λk=>S k\/k=w5.heap.size) (w:=w6) (A:=B0) (c:=b7) (l:=I) J.o (λk e=>e.elim (λe=>by have:=c8.o k e;have:=K5.o.size;have:=K6.o.size;omega) (λe=>by have:=Qw E6.o;omega)) (HM.o.ext (bP (Keep.below K6.o) λk hk e=>e.elim id λe=>absurd hk ap)) (by rw [V.o];omega) (bw.o _ (Hx.o _ Q6.o));rw [V.o] at B;obtain ⟨n0,bz⟩:∃n0,n0=(dJ i (fA i) I).2:=⟨_,rfl⟩;rw [<-cO.o,<-bz] at B;clear bz;refine B.mono ?_;rintro e w7 ⟨dw,rfl,bV,N,bo,k7⟩;obtain ⟨bI,cn,c9,K7,Q7⟩:=ah bV N bo k7 (bt Q6.o k7);clear B bV N bo k7;go_upto_region 21 with (refine aI (b:=w5.heap.size) (sb E6.o _ K7.o) dh rfl rfl rfl rfl bI.o (by rw [Hz.o];exact bI.o.symm) cn.o ?_;intro w8 e8 k8;obtain ⟨E8,K8⟩:=ae e8 k8;clear e8 k8);obtain ⟨Y,hY⟩:∃Y,w5.heap.size=Y:=⟨_,rfl⟩;have ab:aq wr w8:=(bt (bt K5.o K6.o) K7.o).trans (K8.o.toBelow (by have:=K5.o.size;have:=K6.o.size;have:=K7.o.size;omega) (λk e=>by have:=K5.o.size;omega));have J8:=C.o.below nj.stab ab;have a2:=λv (q:aq w8 v)=>(J8.win.below q).cnt;have q8:=bt Q4.o ab;have a1:=E8.o;rw [hY] at a1 |-;obtain ⟨⟨mv,lv,⟨⟨AM,cm,AL,cl,rfl, -⟩, -, -⟩, -, -⟩, -⟩:=c9.o;have cY:∀v,aq w8 v->v.cell? (ar Y 2)=some (RI (M0.sum i:Nat)):=λv q=>Qz v Y 2 _ _ _ (sb a1 v q);have lY:=Qw a1;obtain ⟨bN,Q8⟩:=ae a2 q8;clear HM c9 E8 K8 K7 K6 K5 c8 cv cy bv C ab a2 a1 J8 E6 Q7 Q6 Q5 hY q8;refine HA.g (λv:R8=>aq w8 v) ?_;have s0:=(br w8).drew;refine HA.c 0 (jL _) ?_;rintro _ w9 ⟨rfl,k9⟩;have s1:=bt s0 k9;refine ⟨_,rfl,s1,λ_=>?_⟩;refine HA.t ?_ [1,2,4,5] s1 ?_;refine HA.c 3 (bN.o w9 s1) ?_;rintro _ ds ⟨rfl,bM⟩;have s2:=bt s1 bM;refine ⟨_,rfl,s2,λ_=>?_⟩;refine HA.t ?_ [6,7,8] s2 ?_;refine HA.d ?_;have co:=aa (Hx.o _ (bt Q8.o s2));clear s0 s1 s2 k9 bM;go_wp2_with fail;go_ret;exact ⟨rfl,co.o⟩
end Go.Proofs.YtindmkcnjlgomaaGreat
