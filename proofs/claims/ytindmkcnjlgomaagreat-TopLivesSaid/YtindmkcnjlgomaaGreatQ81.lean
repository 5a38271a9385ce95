/- No condition. -/
import Derived.Test.YtindmkcnjlgomaaGreatQ25
import Derived.Maps.OwnSet
import Derived.Maps.OwnOps
set_option linter.unusedSimpArgs false
set_option linter.unusedVariables false
set_option maxRecDepth 100000
set_option maxHeartbeats 4000000
namespace Go.Proofs.YtindmkcnjlgomaaGreat
open Go.RowKit
open Tryz
theorem yr {l1 i:Q_} {k:Nat} (h1:k<l1.length) (o:k<i.length) (h:l1.take k=i.take k) (p:nth l1 k=nth i k):l1.take (k+1)=i.take (k+1):=by
 rw [fK l1 k h1,fK i k o,h,p]
theorem DL {l1 i:Q_} (h:l1.length=i.length) (o:l1.take l1.length=i.take l1.length):l1=i:=by
 rw [Rt] at o;rw [o,h,Rt]
theorem ID (A1 x:N_) (l1 h:Q_) (c1 c2:Nat) (w:R8) (h1:Rd w A1 (aA .i64 l1)) (B:Rd w x (aA .i64 h)) (hl:l1.length<=140737488355328):Calls prog 28 #[.slice A1 l1.length c1,.slice x h.length c2] w λe A=>e=.returned (.bool (decide (l1=h)))/\∃n,A=w.drewN n:=by
 by_cases p:l1.length=h.length
 .have v:((l1.length:Int) != (h.length:Int))=false:=by simp [p]
  go_enter func28,ntmps28;go_wp2
  go_loopw [5,13] (λ_ i wr=>∃k:Nat,k<=l1.length/\i=RI k/\l1.take k=h.take k/\∃n,wr=w.drewN n) (λ_ i _=>l1.length-(intOf i).toNat)
  .exact ⟨0,QB _,rfl,rfl,0,rfl⟩
  case round=>
   obtain ⟨k,hk,rfl,o,n,rfl⟩:=hrel;by_cases y:k<h.length
   .obtain ⟨H,L,rfl,D⟩:=h1.num (k:=k) ap;obtain ⟨I,J,rfl,C⟩:=B.num (k:=k) ap;go_wp2
    go_quiet (fail)
    go_wp2
    .have u:(nth l1 k != nth h k)=true:=by assumption
     go_ret;refine ⟨cP ?_,_,World.drewN_drewN _ _ _⟩;symm;rw [RE];rintro rfl;simp at u
    .have u:(nth l1 k != nth h k)=false:=by assumption
     go_roundw
     .exact ⟨k+1,by omega,by go_num,yr ap ap o (by simpa using u),_,rfl⟩
     .simp [intOf];omega
   .go_wp2;go_ret;refine ⟨cP ?_,n,rfl⟩;symm;rw [decide_eq_true_iff];obtain rfl:k=l1.length:=ap;exact DL p o
 .have v:((l1.length:Int) != (h.length:Int))=true:=by simp;omega
  go_enter func28,ntmps28;go_wp2;go_ret;refine ⟨cP ?_,0,rfl⟩;symm;rw [RE];rintro rfl;exact p rfl
section
variable {w:R8} {b:Nat} {ring:Value} {cap sent recv peak:Nat}
end
theorem NG (b:Nat) (ring:Value) (cap sent recv peak:Nat) (w:R8) (h:aC w b ring cap sent recv peak):Calls prog 210 #[(au b)] w λe i=>e=.returned (RI cap)/\w=i:=by
 have c1:=h.c1;go_enter func210,ntmps210;go_wp2;go_ret;exact ⟨rfl,rfl⟩
section
variable {i:Inp} {M:WSt}
theorem dX.fin_can (h:dX i M) (hs:bD i) (u:1<=i.cfg.cap.toNat):M.fin i↔∀z,z<(ax i).W->¬can i i.cfg.cap.toNat (M.pos i) z:=by
 constructor
 .rintro p z o ⟨y,x,_⟩;have:=(Ri.1 x).1;rw [p z o] at this;omega
 .intro hc;refine Classical.byContradiction λhn=>?_;obtain ⟨z,o,v⟩:=h.some hs u hn;exact hc z o v
end
theorem Oq {t:Tg} {h:Acn} {D:Bool} (v:D=true↔t=h.tg) (h1:t.a=h.st) (i:t.b=h.bk) (u:t.c=h.ph) (o:t.d=h.rd) (p:t.e=h.ch):true=D:=by
 obtain ⟨a,b,c,d,e⟩:=t;simp only at h1 i u o p;subst h1 i u o p;exact (v.2 rfl).symm
theorem PD {t:Tg} {i:Acn} {D:Bool} (o:D=true↔t=i.tg) (h:¬(t.a=i.st/\t.b=i.bk/\t.c=i.ph/\t.d=i.rd/\t.e=i.ch)):false=D:= (Bool.eq_false_iff.2 λe=>h (by rw [o.1 e];exact ⟨rfl,rfl,rfl,rfl,rfl⟩)).symm
theorem EK {H:Nat->Prop} {w:R8} {b x:Nat} {i:Inp} {a:MAd} {m:Mst} (h:aU H w b i x a m) (hn:(cz i x m.st).length<=m.nx) (u v:N_):Calls prog 205 #[(au b),.pointer u,.pointer v] w λe D=>e=.returned (.bool false)/\aq w D:=by
 have p:=yS h hn;have y:=aa p;clear p h hn;go_enter func205,ntmps205;go_wp2_with fail;refine y.o.mono ?_;rintro e J ⟨rfl,B⟩;go_wp2_with (refine aI (Qy _ _) mN rfl rfl rfl rfl rfl rfl rfl ?_;intro N C A;obtain ⟨L,I⟩:=ae C (bt B (aO A));clear C A B);go_ret;exact ⟨rfl,I.o⟩
theorem EJ {H:Nat->Prop} {w:R8} {b x:Nat} {i:Inp} {a:MAd} {m:Mst} (h:aU H w b i x a m) {y:Itm} (L:(cz i x m.st)[m.nx]?=some y) (V:y.kind≠3) (T:y.kind≠4) (u v:N_):Calls prog 205 #[(au b),.pointer u,.pointer v] w λe R=>e=.returned (.bool true)/\aq w R:=by
 have p:=jQ h L;obtain ⟨B,Z,D,b0,b1,i0,i1,i2,i3,i4,i5,i6,A⟩:=tF y;have O:(y.kind:Int)=B:=by have:=A;simp only [bC,List.cons.injEq,Value.int.injEq,true_and] at this;exact this.1
 rw [A] at p;have n3:¬B=3:=ap;have n4:¬B=4:=ap;have C:=aa p;clear p h L A O V T;go_enter func205,ntmps205;go_wp2_with fail;refine C.o.mono ?_;rintro e Q ⟨rfl,I⟩;go_upto_region 2 with (refine aI (Qy _ _) mN rfl rfl rfl rfl rfl rfl rfl ?_;intro N J D;obtain ⟨U,Y⟩:=ae J (bt I (aO D));clear J D I);have t0:N.cell? (ar Q.heap.size 0)=some (RI B):=Qz N _ 0 _ _ _ U.o;go_wp2_with fail;go_ret;exact ⟨rfl,Y.o⟩
theorem Be {H:Nat->Prop} {w:R8} {b x:Nat} {i:Inp} {a:MAd} {m:Mst} (h:aU H w b i x a m) {y:Itm} (hy:(cz i x m.st)[m.nx]?=some y) (h3:y.kind=3) (u:N_) {base l:Nat} {g:Option Nat} {s:LSt} (Y:aV w base l g s) (Q:s.msgs.length<=100000000000):Calls prog 205 #[(au b),.pointer u,(au l)] w λe w'=>e=.returned (.bool (decide (s.msgs.length<s.recv+s.cap)))/\aq w w':=by
 have p:=jQ h hy;obtain ⟨U,k1,T,b0,b1,i0,i1,i2,i3,i4,i5,i6,A⟩:=tF y;have e0:(y.kind:Int)=U:=by have:=A;simp only [bC,List.cons.injEq,Value.int.injEq,true_and] at this;exact this.1
 rw [A] at p;obtain rfl:U=3:=ap;obtain ⟨D,L⟩:∃D,decide (s.msgs.length<s.recv+s.cap)=D:=⟨_,rfl⟩;have C:decide ((s.msgs.length:Int)-s.recv<s.cap)=D:=by rw [<-L];exact decide_eq_decide.2 ap
 rw [L];obtain ⟨I,HL,J⟩:=af p Y C;clear p h hy A e0 h3 Y L C;go_enter func205,ntmps205;go_wp2_with fail;refine I.o.mono ?_;rintro e w1 ⟨rfl,V⟩;go_upto_region 2 with (refine aI (Qy _ _) mN rfl rfl rfl rfl rfl rfl rfl ?_;intro W2 Z T;obtain ⟨E2,B2⟩:=ae Z (bt V (aO T));clear Z T V);have t0:W2.cell? (ar w1.heap.size 0)=some (RI 3):=Qz W2 _ 0 _ _ _ E2.o;go_wp2_with fail;obtain ⟨ok,ring,rows,hc,_⟩:=HL.o.below B2.o;refine (mZ l _ _ _ _ _ _ hc ok.rs ap).mono ?_;rintro e w3 ⟨rfl,n,rfl⟩;have v:=QH B2.o n;obtain ⟨R,ring',rows',B,_⟩:=HL.o.below v;obtain ⟨N,O⟩:=ae v B;clear ok R hc B v;go_wp2_with fail;refine (NG l _ _ _ _ _ _ O.o).mono ?_;rintro e w4 ⟨rfl,rfl⟩;go_wp2_with fail;go_ret;exact ⟨congrArg (λd=>Ending.returned (.bool d)) J.o,N.o⟩
theorem Bf {H:Nat->Prop} {w:R8} {b x:Nat} {i:Inp} {a:MAd} {m:Mst} (h:aU H w b i x a m) {y:Itm} (hy:(cz i x m.st)[m.nx]?=some y) (V:y.kind=4) {p:Acn} (C:y.a=some p) (v:N_) {base l:Nat} {g:Option Nat} {s:LSt} (hL:aV w base l g s) (B:s.recv<s.msgs.length) (D:Bool) (L:D=true↔(aQ s.msgs s.recv).tag=p.tg):Calls prog 205 #[(au b),(au l),.pointer v] w λe I=>e=.returned (.bool D)/\aq w I:=by
 have u:=jQ h hy;rw [yY C rfl rfl,V] at u;have A:=λI (q:aq w I)=>vb base l g s I (hL.below q) B;obtain ⟨t,U⟩:∃t,(aQ s.msgs s.recv).tag=t:=⟨_,rfl⟩;rw [U] at A L;obtain ⟨J,O,HD⟩:=af u A L;clear u h hy V hL B U A C L;go_enter func205,ntmps205;go_wp2_with fail;refine J.o.mono ?_;rintro e w1 ⟨rfl,Y⟩;go_upto_region 2 with (refine aI (Qy _ _) mN rfl rfl rfl rfl rfl rfl rfl ?_;intro Q e2 k2;obtain ⟨Z,B2⟩:=ae e2 (bt Y (aO k2));clear e2 k2 Y);have t0:Q.cell? (ar w1.heap.size 0)=some (RI 4):=Qz Q _ 0 _ _ _ Z.o;go_wp2_with fail;refine (O.o Q B2.o).mono ?_;rintro e w3 ⟨rfl,N⟩;obtain ⟨B3,E3⟩:=ae (bt B2.o N) (sb Z.o _ N);clear N t0;go_upto_region 8 with (refine aI (Qy _ _) jZ rfl rfl rfl rfl rfl rfl rfl ?_;intro W4 e4 T;obtain ⟨E4,B4,R⟩:=af e4 (bt B3.o (aO T)) (sb E3.o _ (aO T));clear e4 T);go_wp2_with (first | (refine tw #[RI t.a,RI t.b,RI t.c,RI t.d,RI t.e] E4.o jZ rfl rfl rfl rfl ?_) | (refine tw #[RI (p.st:Nat),RI (p.bk:Nat),RI (p.ph:Nat),RI (p.rd:Nat),RI (p.ch:Nat)] R.o jZ rfl rfl rfl rfl ?_))
 all_goals (go_ret;refine ⟨congrArg (λd=>Ending.returned (.bool d)) ?_,B4.o⟩;first | exact Oq HD.o (by assumption) (by assumption) (by assumption) (by assumption) (by assumption) | exact PD HD.o (by rintro ⟨z1,z2,z3,z4,z5⟩;contradiction))
theorem Im {H:Nat->Prop} {w:R8} {b x:Nat} {i:Inp} {a:MAd} {m:Mst} (h:aU H w b i x a m) {y:Itm} (U:(cz i x m.st)[m.nx]?=some y) (h4:y.kind=4) (v:N_) {base l:Nat} {g:Option Nat} {s:LSt} (R:aV w base l g s) (A:s.recv=s.msgs.length):Calls prog 205 #[(au b),(au l),.pointer v] w λe C=>e=.returned (.bool false)/\aq w C:=by
 have p:=jQ h U;obtain ⟨O,k1,L,b0,b1,i0,i1,i2,i3,i4,i5,i6,u⟩:=tF y;have Z:(y.kind:Int)=O:=by have:=u;simp only [bC,List.cons.injEq,Value.int.injEq,true_and] at this;exact this.1
 rw [u] at p;obtain rfl:O=4:=ap;have B:=λC (q:aq w C)=>pQ base l g s C (R.below q) A;obtain ⟨D,I⟩:=ae p B;clear p h U u Z h4 R A B;go_enter func205,ntmps205;go_wp2_with fail;refine D.o.mono ?_;rintro e w1 ⟨rfl,Q⟩;go_upto_region 2 with (refine aI (Qy _ _) mN rfl rfl rfl rfl rfl rfl rfl ?_;intro J T L;obtain ⟨E2,Y⟩:=ae T (bt Q (aO L));clear T L Q);have t0:J.cell? (ar w1.heap.size 0)=some (RI 4):=Qz J _ 0 _ _ _ E2.o;go_wp2_with fail;refine (I.o J Y.o).mono ?_;rintro e w3 ⟨rfl,N⟩;have B3:=aa (bt Y.o N);clear N t0;go_wp2_with (refine aI (Qy _ _) jZ rfl rfl rfl rfl rfl rfl rfl ?_;intro W4 e4 V;have B4:=aa (bt B3.o (aO V));clear e4 V);go_ret;exact ⟨rfl,B4.o⟩
theorem Nz {E:Nat->Prop} {B:Nat} {w:R8} {b l l' x:Nat} {i:Inp} {a:MAd} {m m1:Mst} {s t s1 t1:LSt} {g u:Option Nat} {C:Nat} (h:Wld E B w b l l' i x a m s t g u) (hs:bD i) (hm:MOk i x m) (p:t.msgs.length<100000000000) (hr:jE i x m s t m1 s1 t1 C):Calls prog 205 #[(au b),(au l),(au l')] w λe o=>e=.returned (.bool (decide (C=0)))/\aq w o:=by
 cases hr with
 | fin hf=>exact EK h.mach hf _ _
 | own y hy ha=>
  have hk:=jn (du hy).2 ha;exact EJ h.mach hy ap ap _ _
 | send y ac hy ha hk hroom=>
  refine (Be h.mach hy hk _ h.lt ap).mono ?_;rintro e o ⟨he,k⟩;rw [RC hroom] at he;exact ⟨he,k⟩
 | full y ac hy ha hk hf=>
  refine (Be h.mach hy hk _ h.lt ap).mono ?_;rintro e o ⟨he,k⟩;rw [RD ap] at he;exact ⟨he,k⟩
 | recv y ac hy ha hk hlt heq=>exact Bf h.mach hy hk ha _ h.lf hlt true ⟨λ_=>heq,λ_=>rfl⟩
 | none y ac hy ha hk h0=>exact Im h.mach hy hk _ h.lf h0
 | other y ac hy ha hk hlt hne=>exact Bf h.mach hy hk ha _ h.lf hlt false ⟨λe=>(by cases e),λe=>absurd e hne⟩
section
variable {E:Nat->Prop} {i:Inp} {w w':R8} {D:WAd} {B:Nat} {M M1:WSt} {x C:Nat}
theorem gS.enabled (h:gS E i w D B M) (hs:bD i) (p:x<(ax i).W) (hw:WOk i M) (o:(M.s x).msgs.length<100000000000) (u:Pk i M x M1 C):Calls prog 205 #[.pointer (some ⟨D.b x,0,none⟩),.pointer (some ⟨D.l (pvW (ax i).W x),0,none⟩),.pointer (some ⟨D.l x,0,none⟩)] w λe w'=>e=.returned (.bool (decide (C=0)))/\aq w w':=by
 obtain ⟨m1,s1,t1,hr,rfl⟩:=u;rcases QO (ax i).W 2 with h1 | v
 .cases hr with
  | fin hf=>exact EK (h.mach x p) hf _ _
  | own y hy ha=>
   have hk:=jn (du hy).2 ha;exact EJ (h.mach x p) hy ap ap _ _
  | send y ac hy ha=>exact (ju h1 hy ha).elim
  | full y ac hy ha=>exact (ju h1 hy ha).elim
  | recv y ac hy ha=>exact (ju h1 hy ha).elim
  | none y ac hy ha=>exact (ju h1 hy ha).elim
  | other y ac hy ha=>exact (ju h1 hy ha).elim
 .exact Nz (h.wld p v) hs (hw.mok x p) o hr
end
def onL (ok:Nat->Bool) (n:Nat):Q_:=((List.range n).filter ok).map λk:Nat=>(k:Int)
theorem AP (ok:Nat->Bool) (n:Nat):onL ok (n+1)=onL ok n++if ok n then [(n:Int)] else []:=by
 unfold onL;rw [Rx,List.filter_append,List.map_append]
 cases h:ok n<;>simp [h]
theorem ED (ok:Nat->Bool) (n:Nat):(onL ok n).length<=n:=by
 unfold onL;rw [List.length_map];exact QD (List.length_filter_le _ _) (by simp)
theorem yv {X n cw:Nat} {AW:N_} {v1 v2:Value} {bb:Nat->Nat} {la lb:Nat->Value} {ok:Nat->Bool} {w:R8} (hb:w.heap[X]?=some (.cells #[.slice AW n cw,v1,v2] 99 (0,0))) (hn:n<=1000) (B:∀k h,k<n->aq w h->Calls prog 43 #[(au X),RI (k:Nat)] h λe i=>e=.returned (.tuple #[.iface 100 (.pointer (some ⟨bb k,0,none⟩)),la k,lb k,.bool true])/\aq h i) (C:∀k h,k<n->aq w h->Calls prog 205 #[.pointer (some ⟨bb k,0,none⟩),la k,lb k] h λe i=>e=.returned (.bool (ok k))/\aq h i):Calls prog 25 #[(au X)] w λe h=>∃v,e=.returned v/\h.ownsRow w.heap.size 3 1 v (onL ok n).length (aA .i64 (onL ok n))/\aq w h:=by
 have t:=λh q=>bx3 (sb hb h q);have hm:∀(b:Nat) (w:R8),(method 483 100 ((au b)) "Enabled").run prog w=.ok (205,(au b)) w:=λ_ _=>by kernel_rfl
 obtain ⟨H,L,HM,T⟩:=ag B C hm t;have q0:=br w;clear hb B C hm;go_enter func25,ntmps25;go_wp2_with fail;clear t
 go_loopw [3,16] (λv u wr=>∃k:Nat,k<=n/\u=RI k/\wr.ownsRow w.heap.size 3 1 v (onL ok k).length (aA .i64 (onL ok k))/\aq w wr) (λ_ u _=>n-(intOf u).toNat)
 .exact ⟨0,QB _,rfl,QI ..,q0⟩
 case round=>
  obtain ⟨k,hk,rfl,O,q⟩:=hrel;obtain ⟨A,c,e,hc⟩:=aD O;subst e;obtain ⟨HO,I⟩:=ae O q;have Z:=ED ok k;clear O;by_cases x:k<n
  .have a0:(k:Int)<n:=ap;have c1:=H.o k wr x q;have C1:=aa c1;clear c1 q;go_wp2_with fail;refine C1.o.mono ?_;rintro e w1 ⟨rfl,D⟩;have J:=I.o.trans (D.mono I.o.size);obtain ⟨O1,Q1⟩:=ae (az HO.o D) J;have c2:=L.o k w1 x J;have C2:=aa c2;have Q:=HM.o (bb k);clear c2 D J;go_wp2_with fail;refine C2.o.mono ?_;rintro e w2 ⟨rfl,U⟩;obtain ⟨V,O2⟩:=ae (Q1.o.trans (U.mono Q1.o.size)) (az O1.o U);clear U Q
   cases hok:ok k with
   | true=>
    have R:=aa hok;have N:=V.o.size;clear hok;go_wp2_with (at_builtin;refine aX gq _ rfl (.tmp 31) (.tmp 33) rfl w.heap.size (.slice A (onL ok k).length c) (onL ok k).length _ rfl O2.o [RI (k:Nat)] rfl rfl (by simp [Value.oneCell']) ap (by unfold maxLen;omega) N ?_);intro g c3 w3 o3 Y _;have p:onL ok (k+1)=onL ok k++[(k:Int)]:=by rw [AP,R.o];rfl
    have y:w3.ownsRow w.heap.size 3 1 (.slice (some (ar g 0)) ((onL ok k).length+1) c3) (onL ok (k+1)).length (aA .i64 (onL ok (k+1))):=by
     have e4:(onL ok (k+1)).length=(onL ok k).length+1:=by rw [p];simp
     have e5:aA .i64 (onL ok (k+1))=aA .i64 (onL ok k)++[RI (k:Nat)]:=by rw [p];simp [aA]
     rw [e4,e5];exact o3
    obtain ⟨O3,Q3⟩:=ae y (V.o.trans Y);clear o3 Y y p;go_wp2_with fail;go_roundw
    .exact ⟨k+1,by omega,by go_num,O3.o,Q3.o⟩
    .simp [intOf];omega
   | false=>
    have R:=aa hok;have p:onL ok (k+1)=onL ok k:=by rw [AP,R.o];simp
    have E3:=aa p;clear hok p;go_wp2_with fail;go_roundw
    .exact ⟨k+1,by omega,by go_num,by rw [E3.o];exact O2.o,V.o⟩
    .simp [intOf];omega
  .obtain rfl:k=n:=ap;have a1:¬((k:Int)<k):=ap;clear q;go_wp2_with fail;go_ret;exact ⟨_,rfl,HO.o,I.o⟩
noncomputable def Ql (i:Inp) (M:WSt) (x:Nat):Bool:=(pkF i M x).2
noncomputable def tr (i:Inp) (M:WSt):Q_:=onL (Ql i M) (ax i).W
section
variable {E:Nat->Prop} {i:Inp} {V w w':R8} {X:Nat} {M:WSt}
theorem uX {z:Int} (h:dX i M) (hs:bD i):z∈tr i M↔(pkZ i M z).2=true:=by
 unfold tr onL;rw [List.mem_map];constructor
 .rintro ⟨x,p,rfl⟩;rw [List.mem_filter,List.mem_range] at p;rw [yM p.1];exact p.2
 .intro o;by_cases u:0<=z/\z<((ax i).W:Int)
  .obtain ⟨x,rfl⟩:∃x:Nat,z=x:=⟨z.toNat,by omega⟩;rw [yM ap] at o;exact ⟨x,List.mem_filter.2 ⟨List.mem_range.2 ap,o⟩,rfl⟩
  .rw [Ey u] at o
   cases o
theorem Mr (h:dX i M) (hs:bD i) (u:1<=i.cfg.cap.toNat):(tr i M).length=0↔M.fin i:=by
 rw [h.fin_can hs u,List.length_eq_zero_iff];constructor
 .intro he z p hc;have:(z:Int)∈tr i M:=(uX h hs).2 (by rw [yM p];exact (rV h hs p).2.1.2 hc);rw [he] at this
  cases this
 .intro v;rcases p:tr i M with _ | ⟨z,l⟩
  .rfl
  exfalso;have hm:z∈tr i M:=by rw [p];exact List.mem_cons_self
  unfold tr onL at hm;rw [List.mem_map] at hm;obtain ⟨x,o,rfl⟩:=hm;rw [List.mem_filter,List.mem_range] at o;exact v x o.1 ((rV h hs o.1).2.1.1 o.2)
theorem WIn.on (h:WIn E i V X M w) (hs:bD i):Calls prog 25 #[(au X)] w λe w'=>∃v,e=.returned v/\w'.ownsRow w.heap.size 3 1 v (tr i M).length (aA .i64 (tr i M))/\aq w w':=by
 obtain ⟨⟨D,B,rfl,o,Q⟩,O⟩:=h;obtain ⟨L,R,H,I,u,J,N⟩:=o.rows;have A:=hs.ok.W8;refine yv (bb:=D.b) (la:=λx=>.pointer (some ⟨D.l (pvW (ax i).W x),0,none⟩)) (lb:=λx=>.pointer (some ⟨D.l x,0,none⟩)) u ap (λx w' p q=>(o.below q).at hs p) (λx w' p q=>?_);obtain ⟨C,y,hb⟩:=uF o.al hs p;have:=(o.below q).mem.enabled hs p o.al.ok (by have:=o.al.msgs_le hs p;omega) y;rw [<-hb] at this;exact this
end
def Kt (k:Cfg) (n:Int):Pln:=⟨k.workers.toNat,k.micros.toNat,k.bucket.toNat,k.chunk.toNat,k.window.toNat,n.toNat⟩
noncomputable def Jq (k:Cfg) (n:Int):Nat:=if iz k n=true then jh (Kt k n)*k.steps.toNat else 0
end Go.Proofs.YtindmkcnjlgomaaGreat
namespace Go.Proofs.YtindmkcnjlgomaaGreat
open Go.RowKit Go.ChangeShapes Go.WideShapes Go.ChangeAt
open Tryz
structure Oc (i:Inp):Prop where
 sp:vT i.cfg i.start.length (iz i.cfg i.start.length)
 eq:Jq i.cfg i.start.length=jF i
 le:jF i<=4860000
theorem wB.bnd {i:Inp} (h:wB i) (p:dQ i=0):Oc i:=by
 have hs:=h.sm p;have hg:=hs.g.c;have hc:=fl.2 hg;have u:=pE hg.z;have he:=hs.g.s;have hn:1<=i.start.length:=by rw [he];exact u
 have hm:=hs.n;have hr:iz i.cfg i.start.length=true:=by simp only [iz,hc,Bool.and_eq_true,RF];exact ⟨trivial,by omega,by omega⟩
 have o:=kQ hs.ok;have v:=qL hs.ok;have x:=hs.s;refine ⟨(h.2 p).1,?_,?_⟩
 .unfold Jq;rw [if_pos hr,o];rfl
 .rw [o];have:jh (ax i)*i.cfg.steps.toNat<=810000*6:=Nat.mul_le_mul v ap;omega
end Go.Proofs.YtindmkcnjlgomaaGreat
namespace Go.Proofs.YtindmkcnjlgomaaGreat
open Go.RowKit
open Tryz
section
variable {P:R8->Prop} {E:Nat->Prop} {i:Inp} {V w w':R8} {X:Nat} {M:WSt}
theorem lT.al (h:lT P E i V X M w):dX i M:=by
 obtain ⟨⟨D,B,h1,o,v,p⟩,u⟩:=h;exact o.al
theorem lT.imp {P':R8->Prop} (h:lT P E i V X M w) (y:∀u,P u->P' u):lT P' E i V X M w:=by
 obtain ⟨⟨D,B,h1,o,x,p⟩,v⟩:=h;exact ⟨⟨D,B,h1,o,x,y _ p⟩,v⟩
end
theorem Mh {i:Inp} {M:WSt} {z:Int} (h:dX i M) (hs:bD i):decide (z∈tr i M)=(pkZ i M z).2:=by
 cases hb:(pkZ i M z).2 with
 | true=>exact RC ((uX h hs).2 hb)
 | false=>exact RD λo=>by rw [(uX h hs).1 o] at hb;cases hb
end Go.Proofs.YtindmkcnjlgomaaGreat
namespace Go.Proofs.YtindmkcnjlgomaaGreat
open Go.RowKit Go.Maps
open Tryz
section
variable {P:Program} {ops:T0} {Q:Exit->T1->R8->Prop} {S:R8->Prop}
theorem HAS.ins {L:List Nat} {a:T1} {w:R8} {i:Nat} {o:Oper} {t:R9} {m x y:Operand} {mv h val:Value} {u:R8} (p:(Instr.mapUpdate t mv h val).run P w=.ok () u) (A:S u) (k:HA P ops Q S (i::L) (a.put o.dst undef) u) (v:ops[i]?=some o:=by (simp only [QZ,Ra,Rc];rfl)) (hop:o.op=.insert t m x y:=by rfl) (hm:a.eval m=mv:=by rfl) (hx:a.eval x=h:=by rfl) (hy:a.eval y=val:=by rfl) (hw:Region.wanted o (yielded ops a.tmps)=true:=by rfl):HAS P ops Q S i L a w:=by
 refine ⟨o,v,λC B=>?_⟩;rw [if_pos hw];unfold Oper.wp
 have he:(execOp a.eval o).run P w=.ok .skip u:=by
  unfold execOp;simp only [hop,hm,hx,hy,Sem.run_bind,p,Result.andThen_ok,Sem.run_pure]
 rw [he];exact B.out _ _ A λ_=>k
end
theorem vQ:Keyed prog 4:=bool_keyed underlying4
theorem Fo (w:R8):(zeroValue 3).run prog w=.ok (RI 0) w:=by kernel_rfl
def rG (m:Nat) (t:Bool) (b:Nat) (w:R8):Prop:=∃(n:Nat) (D:DataW Unit),n<=m/\w.ownsMap prog 4 (plainElem prog 3) b n D/\Maps.IsMap D/\D.atKey (.bool true) (.lit (.int .i64 0))=.lit (.int .i64 (if t then 1 else 0))/\D.atKey (.bool false) (.lit (.int .i64 0))=.lit (.int .i64 0)
theorem rG.below {m:Nat} {t:Bool} {b:Nat} {w i:R8} (h:rG m t b w) (q:aq w i):rG m t b i:=by
 obtain ⟨n,D,h1,⟨o,c,hb,F,hs,rfl⟩,p⟩:=h;exact ⟨n,_,h1,⟨o,c,(q.block _ (Array.getElem?_eq_some_iff.1 hb).1).trans hb,F,hs,rfl⟩,p⟩
theorem rG.made (w:R8):rG 0 false w.heap.size (w.alloc (.map #[] 0)):=⟨0,.map [],QB _,World.ownsMap_made (H:=Unit) w prog 4 (plainElem prog 3),Maps.isMap_empty,rfl,rfl⟩
theorem PR:(Lit.bool true)≠.bool false:=by simp
theorem PS:(Lit.bool false)≠.bool true:=by simp
theorem rG.insT {m:Nat} {b:Nat} {w:R8} (hm:m<=10) (h:rG m false b w):∃i,(Instr.mapUpdate 78 (.map (some b)) (.bool true) (RI 1)).run prog w=.ok () i/\rG (m+1) true b i/\w.grownBy i (some b):=by
 obtain ⟨n,D,h1,v,o,A,x⟩:=h;obtain ⟨i,p,y,u⟩:=v.update (val:=RI 1) vQ underlying78 (by unfold maxLen;omega) (keyOf_bool_mk underlying4 true) (plainElem_int underlying3 (WalkArith.wf_i64 ap));have hk:WideAt.IsKeyLit (.bool true):=trivial;exact ⟨i,p,⟨n+1,_,by omega,y,o.put _ _,by rw [Maps.atKey_put_same o hk];simp,by rw [Maps.atKey_put_other PS];exact x⟩,u⟩
theorem rG.insF {m:Nat} {t:Bool} {b:Nat} {w:R8} (hm:m<=10) (h:rG m t b w):∃i,(Instr.mapUpdate 78 (.map (some b)) (.bool false) (RI 0)).run prog w=.ok () i/\rG (m+1) t b i/\w.grownBy i (some b):=by
 obtain ⟨n,D,h1,v,o,x,A⟩:=h;obtain ⟨i,p,y,u⟩:=v.update (val:=RI 0) vQ underlying78 (by unfold maxLen;omega) (keyOf_bool_mk underlying4 false) (plainElem_int underlying3 (WalkArith.wf_i64 ap));have hk:WideAt.IsKeyLit (.bool false):=trivial;exact ⟨i,p,⟨n+1,_,by omega,y,o.put _ _,by rw [Maps.atKey_put_other PR];exact x,by rw [Maps.atKey_put_same o hk]⟩,u⟩
theorem rG.look {m:Nat} {b:Nat} {w:R8} (h:rG m true b w) (x:Bool):(Instr.lookup 78 (.map (some b)) (.bool x) false).run prog w=.ok (RI (if x then 1 else 0)) w:=by
 obtain ⟨n,D,h1,p,y,u,v⟩:=h;obtain ⟨c,o,i, -⟩:=p.lookup_int vQ underlying78 underlying3 (Fo _) (keyOf_bool_mk underlying4 x);rw [o]
 cases x
 .rw [v] at i;simp only [DataW.lit.injEq,Lit.int.injEq,true_and] at i;rw [<-i];simp
 .rw [u] at i;simp only [DataW.lit.injEq,Lit.int.injEq,true_and] at i;rw [<-i];simp
theorem yd {B b:Nat} {a w i:R8} (h:Below B a w) (hg:w.grownBy i (some b)) (hB:B<=w.heap.size) (hb:B<=b):Below B a i:=h.grown hg hB λk hk=>by cases hk;exact hb
end Go.Proofs.YtindmkcnjlgomaaGreat
namespace Go.Proofs.YtindmkcnjlgomaaGreat
open Go.RowKit
open Tryz
theorem Cy (A:N_) (l:Q_) (c:Nat) (z:Int) (w:R8) (h:Rd w A (aA .i64 l)) (hl:l.length<=140737488355328):Calls prog 54 #[.slice A l.length c,RI z] w λe J=>(∃r:Int,e=.returned (RI r)/\(0<=r↔z∈l))/\∃n,J=w.drewN n:=by
 obtain ⟨m,hm⟩:∃m,l.length=m:=⟨_,rfl⟩;rw [hm] at hl |-;obtain ⟨H,D⟩:=ae h hm;clear h hm;go_enter func54,ntmps54;go_wp2_with fail
 go_loopw [4,8] (λ_ i wr=>∃k:Nat,k<=m/\i=RI k/\(∀j,j<k->nth l j≠z)/\∃n,wr=w.drewN n) (λ_ i _=>m-(intOf i).toNat)
 .exact ⟨0,QB _,rfl,λj v=>absurd v (Nat.not_lt_zero j),0,rfl⟩
 case round=>
  obtain ⟨k,hk,rfl,p,n,rfl⟩:=hrel;have I:=aa p;clear p;by_cases B:k<m
  .have L:(k:Int)<m:=ap;have u:k<l.length:=by rw [D.o];exact B
   obtain ⟨b,o,rfl,hc⟩:=H.o.num u;have hr:∀C,(w.drewN C).cell? (ar b (o+k))=some (RI (nth l k)):=λC=>hc;by_cases x:nth l k=z
   .have y:z=nth l k:=x.symm;subst y;go_wp2;go_ret;exact ⟨⟨_,rfl,⟨λ_=>by rw [dB _ _ u];exact List.getElem_mem u,λ_=>ap⟩⟩,_,rfl⟩
   .have O:(z==nth l k)=false:=by rw [beq_eq_false_iff_ne];exact λe=>x e.symm
    have N:=aa x;clear x;go_wp2;go_roundw
    case rel=>exact ⟨k+1,by omega,by go_num,λj v=>by
      rcases QO j k with h1 | h1
      .exact I.o j h1
      .obtain rfl:j=k:=ap
       exact N.o,_,rfl⟩
    case measure=>simp [intOf];omega
  .obtain rfl:k=m:=ap;go_wp2;go_ret;refine ⟨⟨_,rfl,⟨λh=>absurd h ap,λh=>?_⟩⟩,_,rfl⟩;obtain ⟨j,v,e⟩:=List.mem_iff_getElem.1 h;exact absurd (by rw [dB _ _ v];exact e) (I.o j (by rw [<-D.o];exact v))
theorem zj (A:N_) (l:Q_) (c:Nat) (z:Int) (w:R8) (h:Rd w A (aA .i64 l)) (hl:l.length<=140737488355328):Calls prog 27 #[.slice A l.length c,RI z] w λe p=>e=.returned (.bool (decide (z∈l)))/\∃n,p=w.drewN n:=by
 have i:=λn=>Cy A l c z (w.drewN n) (h.drewN n) hl;obtain ⟨m,hm⟩:∃m,l.length=m:=⟨_,rfl⟩;rw [hm] at i |-;have u:=aa i;clear i h;go_enter func27,ntmps27;go_wp2_with fail;refine (u.o 0).mono ?_;rintro e x ⟨⟨r,rfl,hr⟩,n,rfl⟩;have v:=aa hr;clear hr;go_wp2_with fail;go_ret;refine ⟨cP ?_,_,rfl⟩;rw [decide_eq_decide];exact v.o
end Go.Proofs.YtindmkcnjlgomaaGreat
namespace Go.Proofs.YtindmkcnjlgomaaGreat
open Go.RowKit Go.ChangeShapes Go.WideShapes Go.ChangeAt
open Tryz
theorem wz {H:Type} {dv:R9×Value->H} {base:Nat} {v0 v1:Value} {d0 d1:DataW H} {p0 p1:List MemPlace} (W:R8) (o0:Value.okWide prog W .any base 29 v0) (h0:DataW.Trod dv prog W 0 (λ_=>true) true 29 v0 d0 p0) (z0:ge prog 29 d0) (o1:Value.okWide prog W .any base 22 v1) (h1:DataW.Trod dv prog W 0 (λ_=>true) true 22 v1 d1 p1) (z1:ge prog 22 d1):Calls prog 6 #[v0,v1] W λe x=>e=.returned (.bool true)/\aq W x:=by
 obtain ⟨A,c,D,cd,T,ct,R,cr,i,rfl,hI,_⟩:=uQ o0 h0 z0;obtain ⟨B0,C,ci,rfl,d4⟩:=AJ o1 h1 z1;clear o0 h0 z0 o1 h1 z1;have av:=λx (q:aq W x)=>ua A c D cd T ct R cr i B0 C.length ci x (hI.below q);have dk:=λx (q:aq W x) (hs:iZ i)=>(hI.below q).rd hs;have cx:=λx (q:aq W x)=>d4.hr.below q;obtain ⟨W1,b1⟩:∃W1,W.alloc (.cells (aL A c D cd T ct R cr i) 29)=W1:=⟨_,rfl⟩;have hx:W1.heap[W.heap.size]?=some (.cells (aL A c D cd T ct R cr i) 29 (0,0)):=by rw [<-b1];exact Qy W _
 have hB:aq W W1:=by rw [<-b1];exact (br W).alloc (Qx _) _
 have tl:=sl hx;obtain ⟨bX,da,cj,HB,cL,Hx,ey⟩:=aj hx b1 dk hB cx (λx (q:aq W1 x)=>hB.trans (q.mono hB.size)) (λx (q:aq W1 x)=>(jL x).mono λe eo (h:_/\Below _ _ _)=>(⟨h.1,hB.trans ((q.trans (h.2.mono q.size)).mono hB.size)⟩:e=.returned (.bool true)/\aq W eo));obtain ⟨bn,ab⟩:∃bn,C.length=bn:=⟨_,rfl⟩;rw [ab] at av |-;obtain ⟨aR,be⟩:=ae ab av;clear av dk hI hx hB b1 cx d4 ab;go_enter func6,ntmps6;go_wp2_with (refine aN (aL A c D cd T ct R cr i) (b:=W.heap.size) (by rw [da.o];exact bX.o) ez rfl rfl rfl rfl ?_);rw [da.o];refine (be.o W1 (Hx.o _ (br W1))).mono ?_;rintro e w3 ⟨⟨b,rfl,bh⟩,k3⟩;have Q3:=aa (bt (br W1) k3);clear k3;rcases dW b with rfl | rfl
 .clear bh;go_wp2_with fail;refine (ey.o _ Q3.o).mono ?_;rintro e w4 ⟨rfl,h3⟩;go_wp2_with fail;go_ret;exact ⟨rfl,h3⟩
 have Hs:=aa (bh rfl);have y:=aa (Hs.o.1.sm Hs.o.2.1);have eB:=Hs.o.2.2;have co:=aa Hs.o.1.1;have b2:=aa (cj.o w3 (Hx.o _ Q3.o) co.o);obtain ⟨ew,e5,ek⟩:=af b2.o.ra b2.o.rm (Hs.o.1.bnd Hs.o.2.1);clear bh Hs be;go_wp2_with (refine aN (aL A c D cd T ct R cr i) (b:=W.heap.size) (sb bX.o _ Q3.o) ez rfl rfl rfl rfl ?_);have I:=oK (E:=λ_=>False) A c D cd T ct R cr i w3 b2.o y.o (λ_ e=>e.elim);refine I.mono ?_;rintro e w4 hn;obtain ⟨X,rfl,J4,hX,k4⟩:=hn.winP (P:=nj A c D T ct R i B0 C) (λS hS=>⟨eN b2.o (tI hn.q λk e=>(hS k e).elim id False.elim),aW (cL.o _ (Hx.o _ Q3.o)) (tI hn.q λk e=>(hS k e).elim id False.elim)⟩);obtain ⟨L,Q4⟩:=ae J4 (bt Q3.o k4);clear J4 hn I k4;go_wp2_with fail
 go_loopw [26] (λu wr=>∃k:Nat,k<=bn/\u=RI k/\lT (nj A c D T ct R i B0 C) (λ_=>False) i w3 X (dJ i (fA i) (C.take k)).1 wr) (λu _=>bn-(intOf u).toNat)
 .exact ⟨0,QB _,rfl,L.o⟩
 case round=>
  clear L;obtain ⟨k,hk,rfl,hj⟩:=hrel;have L:=aa hj;clear hj;by_cases ee:k<bn
  .have eV:(k:Int)<bn:=ap;have c8:k<C.length:=by rw [aR.o];exact ee
   obtain ⟨b,o,rfl,p⟩:=(L.o.p nj.stab).2.num c8;obtain ⟨M,hM⟩:∃M,(dJ i (fA i) (C.take k)).1=M:=⟨_,rfl⟩;have b0:=wW (i:=i) (M:=fA i) c8;rw [hM] at b0;rw [hM] at L;obtain ⟨z,hz⟩:∃z,nth C k=z:=⟨_,rfl⟩;rw [hz] at p b0;have aM:=L.o.al;have a5:=Mh (z:=z) aM y.o;have b6:(tr i M).length<=1000:=QD (ED _ _) (by have:=y.o.ok.W8;omega);have a0:=Mr aM y.o (by have:=y.o.g.c.ca;omega);have cf:=yN aM y.o z;obtain ⟨fb,cb⟩:∃fb:Bool,fb=true↔M.fin i:=by classical exact ⟨decide (M.fin i),decide_eq_true_iff⟩
   rw [<-cb] at a0;have aG:=L.o.win.on y.o;have en:=L.o.q.size;obtain ⟨S,Z,dG,bN,J⟩:=L.o.ref;obtain ⟨N,a9,d2,aP⟩:=ag J Z dG cf.2;obtain ⟨CL,bf⟩:∃CL,tr i M=CL:=⟨_,rfl⟩;rw [bf] at a0 b6 aG a5;obtain ⟨cn,bo⟩:∃cn,CL.length=cn:=⟨_,rfl⟩;rw [bo] at a0 b6 aG
   have b4:((cn:Int)==0)=fb:=by
    cases fb with
    | true=>rw [a0.2 rfl];rfl
    | false=>rw [beq_eq_false_iff_ne];intro e;have:=a0.1 ap;cases this
   obtain ⟨ei,dp,a2,b8,ev,cA,c9,es⟩:=ak b4 b6 bo a5 bf aG b0 cb;clear hM hz c8 aM cf J Z dG bN bf bo a0 b4 a5 b6 aG b0 cb en;go_wp2_with fail;refine cA.o.mono ?_;rintro e w9 ⟨v,rfl,c7,k9⟩;obtain ⟨A1,c1,rfl, -⟩:=aD c7;obtain ⟨J9,B⟩:=ae (N.o (λu=>nj A c D T ct R i (some (ar b o)) C u/\Rd u A1 (aA .i64 CL)) w9 k9 ⟨nj.stab _ _ (im k9) d2.o,ii c7 a9.o⟩) (show MO (λu=>nj A c D T ct R i (some (ar b o)) C u/\Rd u A1 (aA .i64 CL)) from λ_ _ he h=>⟨nj.stab _ _ he h.1,aW h.2 he⟩);clear c7 k9 N a9 d2 cA L p;go_wp2_with fail;refine (J9.o.win.cnt).mono ?_;rintro e er ⟨rfl,a8⟩;have bO:=aa (J9.o.below B.o a8);have e7:=aa (bO.o.win.done y.o es.o);clear a8 J9;go_wp2_with fail;refine e7.o.mono ?_;rintro e eM ⟨rfl,dc⟩;have e4:=aa (bO.o.below B.o dc);have cc:=e4.o.pick B.o y.o ew.o e5.o z;obtain ⟨M',bs⟩:∃M',(pkZ i M z).1=M':=⟨_,rfl⟩;obtain ⟨pb,bi⟩:∃pb,(pkZ i M z).2=pb:=⟨_,rfl⟩;rw [bs,bi] at cc aP;rw [bs] at c9;rw [bi] at b8;obtain ⟨s0,bG⟩:∃s0,M.sum i=s0:=⟨_,rfl⟩;obtain ⟨s1,c6⟩:∃s1,M'.sum i=s1:=⟨_,rfl⟩;rw [bG,c6] at aP;obtain ⟨d9,d6⟩:=ae cc c6;rw [bG];have b4:=ei.o;have ej:(fb != fb)=false:=by simp
   clear dc bO cc bs bi bG c6;go_wp2_with fail;clear b4 ej;refine d9.o.mono ?_;rintro e a1 ⟨rfl,a3⟩;obtain ⟨cs,O⟩:=ae a3 (λx (q:aq a1 x)=>(a3.win.below q).cnt);rw [d6.o] at O;have a4:=zj A1 CL c1 z;rw [b8.o,a2.o] at a4;obtain ⟨cv,bI⟩:=ae a4 (λx (q:aq a1 x)=>((a3.below B.o q).p B.o).2);have a6:=aP.o.1
   have dr:s1<=4860000:=by
    have h1:=a3.al.sum_le y.o;rw [d6.o] at h1;exact QD h1 ek.o.le
   clear a3 a4 d9;obtain ⟨df,bA⟩:∃df:Int,df=if pb then 1 else 0:=⟨_,rfl⟩
   have ea:IntKind.i64.wrap ((s1:Int)-(s0:Int))=df:=by
    rw [bA]
    cases pb with
    | true=>
     have h:s1=s0+1:=a6;rw [QC _ ap,if_pos rfl];omega
    | false=>
     have h:s1=s0:=a6;rw [QC _ ap,if_neg (by decide)];omega
   have eu:(pb != pb)=false:=by simp
   have d3:(df != df)=false:=by simp
   have ec:=aa bA;clear a6 bA dr;go_upto_region 12 with (fail)
   go_cut [58] (λv wr=>v=.bool false/\aq a1 wr)
   case first=>
    refine HA.g (λx:R8=>aq a1 x) ?_;have q:=(br a1).drew;refine HA.t ?_ [0,1,2] q ?_;refine HA.c 3 (cv.o _ (bI.o _ q) (by have:=dp.o;have:=a2.o;omega)) ?_;rintro _ eS ⟨rfl,dT,rfl⟩;have q1:=bt q (QH (br _) dT);refine ⟨_,rfl,q1,λ_=>?_⟩;refine HA.t ?_ [4,5,6,8,14] q1 ?_;obtain ⟨U,hU⟩:∃U,a1.drew.drewN dT=U:=⟨_,rfl⟩;rw [hU] at q1 |-;clear hU q;have eX:=@run_makeMap prog;have q:=q1;clear q1;have e9:=O.o
    repeat' first
     | (refine HA.three 7 11 12 ?_ ?_ ?_)
     | (refine HA.two 7 10 ?_ ?_)
     | (refine HA.two 7 11 ?_ ?_)
     | (refine HA.two 7 12 ?_ ?_)
     | (refine HA.two 11 12 ?_ ?_)
     | (refine HA.two 7 15 ?_ ?_)
     | (refine HA.sole 15 ?_)
     | (refine HA.sole 7 ?_)
     | (refine HA.sole 10 ?_)
     | (refine HA.sole 11 ?_)
     | (refine HA.sole 12 ?_)
     | (refine HAS.c (i:=7) (e9 U q) ?_;rintro _ V ⟨rfl,kV⟩;(try replace mp:=mp.below kV);replace q:=bt q kV;refine ⟨_,rfl,q,λ_=>?_⟩;clear kV;obtain ⟨U,rfl⟩:∃U,U=V:=⟨_,rfl⟩;refine HA.t ?_ [9] q ?_)
     | (have gb:=q.size;have mp:=rG.made U;have q2:=bt q ((br U).alloc (Qx _) (.map #[] 0));refine HAS.v (i:=10) (U.alloc (.map #[] 0)) (.map (some U.heap.size)) q2 ?_;replace q:=q2;clear q2;obtain ⟨V,hV⟩:∃V,U.alloc (.map #[] 0)=V:=⟨_,rfl⟩;rw [hV] at mp q |-;obtain ⟨mb,dw⟩:∃mb,U.heap.size=mb:=⟨_,rfl⟩;rw [dw] at mp gb |-;clear hV dw;obtain ⟨U,rfl⟩:∃U,U=V:=⟨_,rfl⟩)
     | (obtain ⟨V,hr,a7,hg⟩:=mp.insT (by decide);have q2:=yd q hg q.size gb;refine HAS.ins (i:=11) hr q2 ?_;clear hr hg;replace mp:=a7;replace q:=q2;clear a7 q2;obtain ⟨U,rfl⟩:∃U,U=V:=⟨_,rfl⟩)
     | (obtain ⟨V,hr,a7,hg⟩:=mp.insF (by decide);have q2:=yd q hg q.size gb;refine HAS.ins (i:=12) hr q2 ?_;clear hr hg;replace mp:=a7;replace q:=q2;clear a7 q2;obtain ⟨U,rfl⟩:∃U,U=V:=⟨_,rfl⟩)
     | (have hl:=mp.look pb;rw [<-ec.o] at hl;refine HAS.v (i:=15) U (RI df) q ?_;clear hl)
     | (refine HA.t ?_ [13] q ?_)
     | (refine HA.t ?_ [16,17] q ?_;refine HA.d ?_;have QQ:=aa q;clear mp q gb;go_wp2_with fail;go_meet;exact ⟨rfl,QQ.o⟩)
   case rest=>
    obtain ⟨rfl,bV⟩:=hcut;obtain ⟨b5,b9⟩:=ae (cs.o.below B.o bV) (bI.o _ bV);clear ea eu d3 bV cs bI
    cases pb with
    | true=>
     have cy:=aa (b5.o.imp (P':=nj A c D T ct R i (some (ar b o)) C) λ_ h=>h.1);go_wp2_with fail;go_roundw
     .exact ⟨k+1,by omega,by go_num,by rw [c9.o];exact cy.o⟩
     .simp [intOf];omega
    | false=>
     have cI:M'=M:=aP.o.2 rfl;have ao:=b5.o.win.on y.o;rw [cI,ev.o,a2.o] at ao;have bb:=aa ao;clear ao cI;go_wp2_with fail;refine bb.o.mono ?_;rintro e d8 ⟨v,rfl,ad,bz⟩;obtain ⟨A2,c2,rfl, -⟩:=aD ad;have hq:=ID A1 A2 CL CL c1 c2 d8 (b9.o.below bz) (Rd.own ad) (by have:=dp.o;have:=a2.o;omega);rw [a2.o] at hq;obtain ⟨Hq,dd⟩:=ae hq (b5.o.below B.o bz);clear hq ad bz b5 b9 bb;go_wp2_with fail;refine Hq.o.mono ?_;rintro e eL ⟨rfl,el,rfl⟩;have ef:=aa ((dd.o.below B.o (QH (br d8) el)).imp (P':=nj A c D T ct R i (some (ar b o)) C) λ_ h=>h.1);have d3:decide (CL=CL)=true:=RC rfl;clear dd Hq;go_wp2_with fail;go_roundw
     .exact ⟨k+1,by omega,by go_num,by rw [c9.o];exact ef.o⟩
     .simp [intOf];omega
  .obtain rfl:k=bn:=ap;have eG:¬((k:Int)<k):=ap;have e0:C.take k=C:=List.take_of_length_le (by rw [aR.o];omega);rw [e0] at L;obtain ⟨M0,bM⟩:∃M0,M0=(dJ i (fA i) C).1:=⟨_,rfl⟩;rw [<-bM] at L;obtain ⟨em,Q4⟩:=ae bM (bt Q3.o (L.o.q.toBelow (Qx _) (λ_ e=>e.elim)));clear hk e0 bM;go_wp2_with (refine aN (aL A c D cd T ct R cr i) (b:=W.heap.size) (sb bX.o _ Q4.o) ez rfl rfl rfl rfl ?_);obtain ⟨S,Z,⟨bv,ds⟩,bN,J⟩:=L.o.ref;have I:=Og (S:=S) A c D cd T ct R cr i Z (cj.o wr (Hx.o _ Q4.o) co.o) (λx q=>eN bv (im q)) y.o;obtain ⟨a9,e3,eb,N⟩:=ag Z bv ds J;clear Z bv ds bN J;refine I.mono ?_;rintro e w5 ⟨vs,rfl,hz,ho,hm,k5⟩;obtain ⟨Hz,Ho,HM,K5,Q5⟩:=ah hz ho hm k5 (bt Q4.o k5);clear I hz ho hm k5;go_upto_region 18 with (refine aI (Qy _ _) dh rfl rfl rfl rfl Hz.o (by rw [Hz.o];rfl) Ho.o ?_;intro w6 e6 k6;obtain ⟨E6,K6⟩:=ae e6 (aO k6);clear e6 k6);have Q6:=aa (bt Q5.o K6.o);go_wp2_with (refine aN vs (b:=w5.heap.size) (o:=0) E6.o (by rw [Hz.o];exact dh) rfl rfl rfl (by rw [Rf];exact Rt) ?_);have Q:=Of (S:=λk=>S k\/k=w5.heap.size) (w:=w6) (A:=B0) (c:=ci) (l:=C) y.o (λk e=>e.elim (λe=>by have:=a9.o k e;have:=K5.o.size;have:=K6.o.size;omega) (λe=>by have:=Qw E6.o;omega)) (HM.o.ext (bP (Keep.below K6.o) λk hk e=>e.elim id λe=>absurd hk ap)) (by rw [aR.o];omega) (cL.o _ (Hx.o _ Q6.o));rw [aR.o] at Q;obtain ⟨n0,cM⟩:∃n0,n0=(dJ i (fA i) C).2:=⟨_,rfl⟩;rw [<-em.o,<-cM] at Q;clear cM;refine Q.mono ?_;rintro e w7 ⟨eY,rfl,d7,cO,cw,k7⟩;obtain ⟨d5,e1,dn,K7,Q7⟩:=ah d7 cO cw k7 (bt Q6.o k7);clear Q d7 cO cw k7;go_upto_region 19 with (refine aI (b:=w5.heap.size) (sb E6.o _ K7.o) dh rfl rfl rfl rfl d5.o (by rw [Hz.o];exact d5.o.symm) e1.o ?_;intro w8 e8 k8;obtain ⟨E8,K8⟩:=ae e8 k8;clear e8 k8);obtain ⟨Y,hY⟩:∃Y,w5.heap.size=Y:=⟨_,rfl⟩;have bw:aq wr w8:=(bt (bt K5.o K6.o) K7.o).trans (K8.o.toBelow (by have:=K5.o.size;have:=K6.o.size;have:=K7.o.size;omega) (λk e=>by have:=K5.o.size;omega));have J8:=L.o.below nj.stab bw;have b7:=λx (q:aq w8 x)=>(J8.win.below q).cnt;have q8:=bt Q4.o bw;have b3:=E8.o;rw [hY] at b3 |-;obtain ⟨⟨mv,lv,⟨⟨AM,cm,AL,cl,rfl, -⟩, -, -⟩, -, -⟩, -⟩:=dn.o;have cY:∀x,aq w8 x->x.cell? (ar Y 2)=some (RI (M0.sum i:Nat)):=λx q=>Qz x Y 2 _ _ _ (sb b3 x q);have lY:=Qw b3;obtain ⟨O,Q8⟩:=ae b7 q8;clear HM dn E8 K8 K7 K6 K5 a9 e3 eb N L bw b7 b3 J8 E6 Q7 Q6 Q5 hY q8;refine HA.g (λx:R8=>aq w8 x) ?_;have s0:=(br w8).drew;refine HA.c 0 (jL _) ?_;rintro _ w9 ⟨rfl,k9⟩;have s1:=bt s0 k9;refine ⟨_,rfl,s1,λ_=>?_⟩;refine HA.t ?_ [1,2,4,5] s1 ?_;refine HA.c 3 (O.o w9 s1) ?_;rintro _ er ⟨rfl,a8⟩;have s2:=bt s1 a8;refine ⟨_,rfl,s2,λ_=>?_⟩;refine HA.t ?_ [6,7,8] s2 ?_;refine HA.d ?_;have e2:=aa (Hx.o _ (bt Q8.o s2));clear s0 s1 s2 k9 a8;go_wp2_with fail;go_ret;exact ⟨rfl,e2.o⟩
end Go.Proofs.YtindmkcnjlgomaaGreat
