/- No condition. -/
import Derived.Test.YtgmajkppbhiopaaGreatB13
import Derived.Maps.OwnSet
import Derived.Maps.OwnOps
set_option linter.unusedSimpArgs false
set_option linter.unusedVariables false
set_option maxRecDepth 100000
set_option maxHeartbeats 4000000
namespace Go.Proofs.YtgmajkppbhiopaaGreat
open Go.RowKit
open Tryz
structure WIn (E:Nat->Prop) (i:Inp) (V:World) (X:Nat) (M:WSt) (w:World):Prop where
 ex:∃D B,D.X=X/\WAt E i w D B M/\∀j,D.all (aA i).W j->V.heap.size<=j
 q:aq V w
section
variable {E:Nat->Prop} {i:Inp} {V w w':World} {X:Nat} {M:WSt}
theorem WIn.below (h:WIn E i V X M w) (hb:aq w w'):WIn E i V X M w':=by
 obtain ⟨⟨D,B,h1,o,u⟩,p⟩:=h
 exact ⟨⟨D,B,h1,o.below hb,u⟩,bt p hb⟩
theorem KW.win {e:Ending} (h:KW E i w e w'):∃X,e=.returned (.tuple #[(au X),Nd 0])/\WIn E i w X (fL i) w'/\w.heap.size<=X/\aq w w':=by
 obtain ⟨D,B,h1,u,p,o⟩:=h
 exact ⟨D.X,h1,⟨⟨D,B,rfl,u,o⟩,p⟩,o _ (.inl rfl),p⟩
theorem WIn.pick (h:WIn E i V X M w) (hs:cF i) (o: -9223372036854775808<=i.cfg.rate/\i.cfg.rate<=9223372036854775807) (p: -9223372036854775808<=i.cfg.mom/\i.cfg.mom<=9223372036854775807) (z:Int):
  Calls prog 15 #[(au X),Nd z] w fun e w'=>e=.returned (.bool (pkZ i M z).2)/\WIn E i V X (pkZ i M z).1 w':=by
 obtain ⟨⟨D,B,rfl,H,v⟩,u⟩:=h
 refine (Cl H hs o p z).mono ?_
 rintro e w' ⟨he,J,x,L,y,I⟩
 have A:=u.size
 exact ⟨he,⟨J,B,x,L,fun j C=>(I j C).elim (v j) fun h=>ap⟩,u.trans (y.toBelow A v)⟩
theorem WIn.run (h:WIn E i V X M w) (hs:cF i) (v: -9223372036854775808<=i.cfg.rate/\i.cfg.rate<=9223372036854775807) (u: -9223372036854775808<=i.cfg.mom/\i.cfg.mom<=9223372036854775807) {A:Option Addr} {c:Nat} {l:List Int} (hl:l.length<=1000000) (hA:Rd V A (aB .i64 l)):
  Calls prog 19 #[(au X),.slice A l.length c] w fun e w'=>e=.returned (Nd ((fv i M l).2:Nat))/\WIn E i V X (fv i M l).1 w':=by
 refine (EG (I:=fun w' p=>WIn E i V X p w') (st:=pkZ i) hl (fun w' p o=>hA.below o.q) (fun w' p z o _=>o.pick hs v u z) h).mono ?_
 rintro e w' ⟨he,o⟩
 exact ⟨he,o⟩
theorem WIn.done (h:WIn E i V X M w) (hs:cF i) {Bo:Bool} (hB:Bo=true↔M.fin i):
  Calls prog 32 #[(au X)] w fun e w'=>e=.returned (.bool Bo)/\aq w w':=by
 obtain ⟨⟨D,B,rfl,v,Y⟩,T⟩:=h
 obtain ⟨U,Z,Q,cl,I,L,R⟩:=v.rows
 have N:=hs.ok.W8
 have O:((List.range (aA i).W).map D.b).map (fun b=>Value.iface 97 ((au b)))=rh D (aA i).W:=by rw [List.map_map];rfl
 refine CF (ok:=fun x=>decide (M.pos i x<(dM i x).length)) (bs:=(List.range (aA i).W).map D.b) I (by rw [O];exact aW L (fg _ _)) (by simp) ap ?_ fun x b w' hb q=>?_
 ·rw [hB]
  constructor
  ·intro C x p
   have:=C x p
   simp [this]
  ·intro C x p
   have J:=C x p
   have h6:=v.al.pos_le hs p
   simp only [M9] at J
   omega
 ·have p:x<(aA i).W:=by
   have:=(MK.1 hb).1
   simpa using this
  have A:b=D.b x:=by
   rw [List.getElem?_map,List.getElem?_range p] at hb
   simpa using hb.symm
  subst A
  have hm:=(v.below q).mem.mach x p
  have u:=v.al.ok.mok x p
  cases hy:(cQ i x (M.m x).st)[(M.m x).nx]? with
  | none=>
   refine (BD hm (List.getElem?_eq_none_iff.1 hy)).mono ?_
   rintro e H ⟨rfl,k⟩
   have o:=u.cur hs
   rw [hy] at o
   have:=List.getElem?_eq_none_iff.1 o.symm
   exact ⟨_,by rw [show decide (M.pos i x<(dM i x).length)=false from M8 (by unfold WSt.pos;omega)],⟨rfl,by decide⟩,k⟩
  | some y=>
   refine (uv hm hy).mono ?_
   rintro e H ⟨rfl,k⟩
   have o:=u.cur hs
   rw [hy] at o
   have:=(MK.1 o.symm).1
   exact ⟨_,by rw [show decide (M.pos i x<(dM i x).length)=true from M7 this],⟨by simp [qb],by rw [List.all_eq_true];exact BJ y⟩,k⟩
end
theorem Bg:cR prog 29 15:=⟨⟨_,underlying29,rfl⟩,by kernel_rfl⟩
theorem I9:cR prog 24 12:=⟨⟨_,underlying24,rfl⟩,by kernel_rfl⟩
theorem pQ:cR prog 81 4:=⟨⟨_,underlying81,rfl⟩,by kernel_rfl⟩
theorem FI {I Q y L N D O H B J h p u i:Value} {T:Option Addr} {R U:Nat} {A:Option Addr} {pl pc:Nat} {C:Int} {w:World} (hC:C≠0)
  (x:∀V,aq w V->Calls prog 13 #[.agg #[I,Q,y,L,N,D,O,H,B,J,h,p,u,.slice T R U,i]] V fun e a0=>e=.returned (.tuple #[.pointer none,Nd C])/\aq V a0):
  Calls prog 37 #[.agg #[I,Q,y,L,N,D,O,H,B,J,h,p,u,.slice T R U,i],.slice A pl pc] w fun e V=>e=.returned (.tuple #[.agg #[Nd 0,Nd 0,Nd 0,.bool false],Nd C])/\aq w V:=by
 obtain ⟨W1,v⟩:∃W1,(w.alloc (.cells #[I,Q,y,L,N,D,O,H,B,J,h,p,u,.slice T R U,i] 29)).alloc (.cells #[Nd 0,Nd 0,Nd 0,.bool false] 81)=W1:=⟨_,rfl⟩
 have g0:W1.heap[w.heap.size]?=some (.cells #[I,Q,y,L,N,D,O,H,B,J,h,p,u,.slice T R U,i] 29 (0,0)):=by rw [<-v];exact sb (Mh w _) _ ((br _).alloc (Mg _) _)
 have g1:W1.heap[w.heap.size+1]?=some (.cells #[Nd 0,Nd 0,Nd 0,.bool false] 81 (0,0)):=by rw [<-v];have:=Mh (w.alloc (.cells #[I,Q,y,L,N,D,O,H,B,J,h,p,u,.slice T R U,i] 29)) (.cells #[Nd 0,Nd 0,Nd 0,.bool false] 81);rwa [Mw] at this
 have q0:aq w W1:=by rw [<-v];exact ((br w).alloc (Mg _) _).alloc (by rw [Mw];omega) _
 have tl:=sl g1
 obtain ⟨Hn,Y,G0,G1,Z⟩:=ah x v g0 g1 q0;clear x v g0 g1 q0
 go_enter func37,ntmps37
 go_wp2_with (refine aK #[I,Q,y,L,N,D,O,H,B,J,h,p,u,.slice T R U,i] (b:=w.heap.size) (by rw [Y.o];exact G0.o) Bg rfl rfl rfl rfl ?_)
 rw [Y.o]
 refine (Hn.o _ Z.o).mono ?_
 rintro e w2 ⟨rfl,k2⟩
 have hc:¬C=0:=hC
 have a1:(C != 0)=true:=by rw [bne_iff_ne];exact hC
 obtain ⟨H2,K2⟩:=ae (sb G1.o _ k2) k2;clear k2
 go_wp2_with (refine aH (b:=w.heap.size+1) H2.o pQ rfl rfl rfl rfl rfl rfl rfl ?_;intro w3 e3 k3;obtain ⟨E3,K3⟩:=ae e3 k3;clear e3 k3)
 try simp only [Exit.inBlock,Exit.then]
 refine Mu (cH rfl rfl E3.o pQ) rfl ?_
 exact ⟨rfl,(Z.o.trans (K2.o.mono Z.o.size)).trans (K3.o.toBelow (by have h1:=Z.o.size;have h2:=K2.o.size;(try simp only [World.size_alloc] at h1 h2 ⊢);omega) (fun j e=>ap))⟩
theorem Dd {P0 P1 P2:World->Nat->World->Prop} {N Z D R U I Y J H O p u x v:Value} {T:Option Addr} {ts ct:Nat} {A:Option Addr} {pl pc n t:Nat} {B:Bool} {w:World} (a6:pl<=1000000) (hn:n<=1000000000) (ht:t<=1000000000)
  (L:∀h,aq w h->Calls prog 13 #[.agg #[N,Z,D,R,U,I,Y,J,H,O,p,u,x,.slice T ts ct,v]] h fun e i=>∃X,e=.returned (.tuple #[(au X),Nd 0])/\P0 h X i/\aq h i)
  (Q:∀V X h,aq w V->P0 V X h->Calls prog 19 #[(au X),.slice A pl pc] h fun e i=>e=.returned (Nd (n:Nat))/\P1 V X i/\aq V i)
  (a0:∀V X h,aq w h->P1 V X h->Calls prog 72 #[.agg #[N,Z,D,R,U,I,Y,J,H,O,p,u],Nd (ts:Nat)] h fun e i=>e=.returned (Nd (t:Nat))/\P2 V X i/\aq h i)
  (C:∀V X h,P2 V X h->Calls prog 32 #[(au X)] h fun e i=>e=.returned (.bool B)/\aq h i):
  Calls prog 37 #[.agg #[N,Z,D,R,U,I,Y,J,H,O,p,u,x,.slice T ts ct,v],.slice A pl pc] w fun e h=>e=.returned (.tuple #[.agg #[Nd (n:Nat),Nd ((t:Int)-n),Nd ((pl:Int)-n),.bool B],Nd 0])/\aq w h:=by
 obtain ⟨W1,y⟩:∃W1,(w.alloc (.cells #[N,Z,D,R,U,I,Y,J,H,O,p,u,x,.slice T ts ct,v] 29)).alloc (.cells #[Nd 0,Nd 0,Nd 0,.bool false] 81)=W1:=⟨_,rfl⟩
 have g0:W1.heap[w.heap.size]?=some (.cells #[N,Z,D,R,U,I,Y,J,H,O,p,u,x,.slice T ts ct,v] 29 (0,0)):=by rw [<-y];exact sb (Mh w _) _ ((br _).alloc (Mg _) _)
 have g1:W1.heap[w.heap.size+1]?=some (.cells #[Nd 0,Nd 0,Nd 0,.bool false] 81 (0,0)):=by rw [<-y];have:=Mh (w.alloc (.cells #[N,Z,D,R,U,I,Y,J,H,O,p,u,x,.slice T ts ct,v] 29)) (.cells #[Nd 0,Nd 0,Nd 0,.bool false] 81);rwa [Mw] at this
 have q0:aq w W1:=by rw [<-y];exact ((br w).alloc (Mg _) _).alloc (by rw [Mw];omega) _
 have tl:=sl g1
 have a5:∀h,aq W1 h->h.cell? (ar w.heap.size 13)=some (.slice T ts ct):=fun h q=>Mi h w.heap.size 13 _ _ _ (sb g0 h q)
 obtain ⟨Hn,Hr,Hs,Hd,a1,G0,G1,Q0⟩:=ak L Q a0 C y g0 g1 q0;clear L Q a0 C y g0 g1 q0
 go_enter func37,ntmps37
 go_wp2_with (refine aK #[N,Z,D,R,U,I,Y,J,H,O,p,u,x,.slice T ts ct,v] (b:=w.heap.size) (by rw [a1.o];exact G0.o) Bg rfl rfl rfl rfl ?_)
 rw [a1.o]
 refine (Hn.o _ Q0.o).mono ?_
 rintro e w2 ⟨X,rfl,p0,k2⟩
 obtain ⟨a3,K2⟩:=ae p0 k2;clear p0 k2
 go_wp2_with fail
 refine (Hr.o _ _ _ Q0.o a3.o).mono ?_
 rintro e w3 ⟨rfl,p1,k3⟩
 have q3:aq W1 w3:=k3
 obtain ⟨a2,Q3⟩:=ae p1 q3;clear p1 k3
 go_wp2_with (refine aK #[N,Z,D,R,U,I,Y,J,H,O,p,u] (b:=w.heap.size) (sb G0.o _ Q3.o) I9 rfl rfl rfl rfl ?_)
 refine (Hs.o _ _ _ (Q0.o.trans (Q3.o.mono Q0.o.size)) a2.o).mono ?_
 rintro e w4 ⟨rfl,p2,k4⟩
 obtain ⟨a4,Q4⟩:=ae p2 (bt Q3.o k4)
 have w1:IntKind.i64.wrap ((t:Int)-n)=(t:Int)-n:=Mm _ ap
 have a7:IntKind.i64.wrap ((pl:Int)-n)=(pl:Int)-n:=Mm _ ap
 clear p2 k4 q3 a5
 go_wp2_with fail
 refine (Hd.o _ _ _ a4.o).mono ?_
 rintro e w5 ⟨rfl,k5⟩
 have Q5:=aa (bt Q4.o k5);have H5:=aa (sb G1.o _ Q5.o);clear k5
 go_wp2_with (refine aH (b:=w.heap.size+1) H5.o pQ rfl rfl rfl rfl rfl rfl rfl ?_;intro w6 e6 k6;obtain ⟨E6,K6⟩:=ae e6 k6;clear e6 k6)
 try simp only [Exit.inBlock,Exit.then]
 refine Mu (cH rfl rfl E6.o pQ) rfl ?_
 exact ⟨rfl,(Q0.o.trans (Q5.o.mono Q0.o.size)).trans (K6.o.toBelow (by have h1:=Q0.o.size;have h2:=Q5.o.size;(try simp only [World.size_alloc] at h1 h2 ⊢);omega) (fun j e=>ap))⟩
end Go.Proofs.YtgmajkppbhiopaaGreat
namespace Go.Proofs.YtgmajkppbhiopaaGreat
open Tryz
def nC (n:Int):Bool:=decide (1<=n/\n<=64)
def fN (l:List Int):Nat->Int->Option Nat
 | 0,_=>none
 | i+1,x=>if nth l i=x then some i else fN l i x
theorem J6 (l:List Int) (x:Int):∀i,fN l i x=none↔∀j,j<i->nth l j≠x:=by
 intro i
 induction i with
 | zero=>simp [fN]
 | succ i ih=>
  simp only [fN]
  split
  ·rename_i h;constructor
   ·intro o;cases o
   ·intro o;exact absurd h (o i ap)
  ·rename_i h;rw [ih];constructor
   ·intro o j u
    rcases Mv j i with p | p
    ·exact o j p
    ·obtain rfl:j=i:=ap
     exact h
   ·intro o j u;exact o j ap
theorem xO (l:List Int) (x:Int):∀i k,fN l i x=some k->k<i/\nth l k=x/\∀j,k<j->j<i->nth l j≠x:=by
 intro i
 induction i with
 | zero=>simp [fN]
 | succ i ih=>
  intro k h
  simp only [fN] at h
  split at h
  ·rename_i p;cases h;exact ⟨by omega,p,fun j h1 u=>ap⟩
  ·rename_i p
   obtain ⟨h1,u,y⟩:=ih k h
   refine ⟨by omega,u,fun j v A=>?_⟩
   rcases Mv j i with o | o
   ·exact y j v o
   ·obtain rfl:j=i:=ap
    exact p
def xW (m:Int) (l:List Int) (i:Nat):Bool:=
 decide (0<=nth l i/\nth l i<m)&&match fN l i (nth l i) with
  | none=>true
  | some j=>decide (m<=(i:Int)-(j:Int))
def iJ (m:Int) (l:List Int):Nat->Nat
 | 0=>0
 | i+1=>iJ m l i+if xW m l i=true then 0 else if m<=l.length then 1 else 0
theorem Cj (m:Int) (l:List Int):∀i,iJ m l i<=i:=by
 intro i
 induction i with
 | zero=>simp [iJ]
 | succ i ih=>simp only [iJ];split<;>(try split)<;>omega
def sG (m:Int) (l:List Int):Bool:=nC m&&decide (iJ m l l.length=0)
end Go.Proofs.YtgmajkppbhiopaaGreat
namespace Go.Proofs.YtgmajkppbhiopaaGreat
open Go.RowKit Go.Maps
open Tryz
theorem s9 (n:Int) (w:World):
  Calls prog 107 #[.int .i64 n] w fun e i=>e=.returned (.bool (nC n))/\w=i:=by
 by_cases h1:1<=n
 ·by_cases h:n<=64
  ·go_enter func107,ntmps107
   go_wp2
   go_ret
   exact ⟨by simp [nC,h1,h],rfl⟩
  ·go_enter func107,ntmps107
   go_wp2
   go_ret
   exact ⟨by simp [nC,h],rfl⟩
 ·go_enter func107,ntmps107
  go_wp2
  go_ret
  exact ⟨by simp [nC];omega,rfl⟩
def uZ (D:DataW Unit) (l:List Int) (i:Nat):Prop:=
 Maps.IsMap D/\∀x:Int,Maps.has D (.int .i64 x)=(fN l i x).isSome/\D.atKey (.int .i64 x) (.lit (.int .i64 0))=.lit (.int .i64 (((fN l i x).getD 0:Nat):Int))
theorem xG (l:List Int):uZ (.map []) l 0:=⟨Maps.isMap_empty,fun x=>⟨rfl,rfl⟩⟩
theorem zW {D:DataW Unit} {l:List Int} {i:Nat} (h:uZ D l i) (hw:(Lit.int .i64 (nth l i)).wf=true):uZ (D.put (.int .i64 (nth l i)) (.lit (.int .i64 (i:Int)))) l (i+1):=by
 obtain ⟨p,h⟩:=h
 refine ⟨p.put _ _,fun x=>?_⟩
 by_cases u:nth l i=x
 ·subst u
  have hk:WideAt.IsKeyLit (.int .i64 (nth l i)):=trivial
  rw [Maps.has_put_same p hk,Maps.atKey_put_same p hk]
  simp [fN]
 ·have o:(Lit.int .i64 x)≠.int .i64 (nth l i):=fun e=>by injection e with _ e;exact u e.symm
  rw [Maps.has_put_other o,Maps.atKey_put_other o,(h x).1,(h x).2]
  simp [fN,u]
theorem BI:Keyed prog 3:=int_keyed underlying3
theorem Ef (w:World):(zeroValue 3).run prog w=.ok (.int .i64 0) w:=by kernel_rfl
theorem Cz (m:Int) (l:List Int) (i:Nat) (BL Y L n:Nat) (D:DataW Unit) (w:World) (hi:i<=140737488355328) (hn:n<=140737488355328) (hm:1<=m/\m<=64) (T:(Lit.int .i64 (nth l i)).wf=true)
  (hL:w.cell? ⟨BL,0,none⟩=some (.map (some L))) (hW:w.cell? ⟨Y,0,none⟩=some (.int .i64 m)) (a4:BL≠L) (a0:Y≠L)
  (V:uZ D l i) (x:w.ownsMap prog 3 (plainElem prog 3) L n D):
  Calls prog 108 #[.int .i64 i,.int .i64 (nth l i),.pointer (some ⟨BL,0,none⟩),.pointer (some ⟨Y,0,none⟩)] w fun e w'=>
   e=.returned (.bool (xW m l i))/\∃D',uZ D' l (i+1)/\w'.ownsMap prog 3 (plainElem prog 3) L (n+1) D'/\w.grownBy w' (some L):=by
 have N:=aa T;clear T
 go_enter func108,ntmps108
 have C:=(V.2 (nth l i)).2
 have H:=(V.2 (nth l i)).1
 obtain ⟨c0,J⟩:∃c0:Int,c0=(((fN l i (nth l i)).getD 0:Nat):Int):=⟨_,rfl⟩
 obtain ⟨s0,O⟩:∃s0:Bool,s0=(fN l i (nth l i)).isSome:=⟨_,rfl⟩
 rw [<-J] at C
 rw [<-O] at H
 have a2:0<=c0/\c0<=i:=by
  rw [J]
  cases h:fN l i (nth l i) with
  | none=>simp
  | some k=>have:=(xO l _ i k h).1;simp;omega
 obtain ⟨Hc,Hs,Z,R⟩:=ag J O C H;clear J O C H
 go_wp2_with (first
  | (at_lookup;refine wpList_lookup_own_ok_int _ rfl _ _ 208 rfl 3 3 .i64 BI underlying208 underlying3 (Ef _) L n D rfl x _ _ rfl (keyOf_int_mk underlying3 N.o) ?_;intro c v a1;rw [Z.o] at v;rw [R.o];injection v with v;injection v with _ v;rw [<-v];clear v a1)
  | (at_mapUpdate;refine wpList_mapUpdate_own _ rfl _ _ _ 208 rfl 3 3 BI underlying208 _ L n D rfl x (by unfold maxLen;omega) _ _ _ rfl rfl (keyOf_int_mk underlying3 N.o) _ [] (plainElem_int underlying3 (WalkArith.wf_i64 ap)) ?_))
 intro w1 B Q
 have a3:w1.cell? ⟨Y,0,none⟩=some (.int .i64 m):=Q.cell hW (by simpa using a0)
 have U:=zW V N.o
 have A:xW m l i=(decide (0<=nth l i/\nth l i<m)&&(!s0||decide (m<=(i:Int)-c0))):=by
  rw [Hc.o,Hs.o,xW]
  congr 1
  cases fN l i (nth l i)<;>simp
 obtain ⟨p,I,u,y⟩:=ag A U B Q;clear A U B Q x V hL hW
 by_cases g1:0<=nth l i
 ·by_cases g2:nth l i<m
  ·have e1:decide (0<=nth l i/\nth l i<m)=true:=by simp [g1,g2]
   rw [e1] at p
   clear e1
   cases s0 with
   | true=>
    by_cases g3:m<=(i:Int)-c0
    ·have e2:decide (m<=(i:Int)-c0)=true:=by simp [g3]
     go_wp2
     go_ret
     exact ⟨cW (by rw [p.o,e2];rfl),_,I.o,u.o,y.o⟩
    ·have e2:decide (m<=(i:Int)-c0)=false:=by simp;omega
     go_wp2
     go_ret
     exact ⟨cW (by rw [p.o,e2];rfl),_,I.o,u.o,y.o⟩
   | false=>
    go_wp2
    go_ret
    exact ⟨cW (by rw [p.o];rfl),_,I.o,u.o,y.o⟩
  ·go_wp2
   go_ret
   exact ⟨cW (by rw [p.o];simp;omega),_,I.o,u.o,y.o⟩
 ·go_wp2
  go_ret
  exact ⟨cW (by rw [p.o];simp;omega),_,I.o,u.o,y.o⟩
theorem ya (m:Int) (A:Option Addr) (l:List Int) (c:Nat) (w:World) (hl:l.length<=140737488355328) (hA:Rd w A (aB .i64 l)) (T:∀k,k<l.length->(Lit.int .i64 (nth l k)).wf=true):
  Calls prog 71 #[.int .i64 m,.slice A l.length c] w fun e w'=>e=.returned (.bool (sG m l))/\aq w w':=by
 have a0:=aa T;clear T
 by_cases hr:nC m=true
 ·have hm:1<=m/\m<=64:=by simpa [nC] using hr
  have a2:=@run_makeMap prog
  go_enter func71,ntmps71
  go_wp2_with (go_at_call 107;refine (s9 _ _).mono ?_;rintro e w' ⟨rfl,rfl⟩)
  go_loopw [7,17] (fun v i wr=>∃k:Nat,k<=l.length/\i=.int .i64 k/\v=.int .i64 (iJ m l k)/\(∃D,uZ D l k/\wr.ownsMap prog 3 (plainElem prog 3) (w.heap.size+1) k D)/\
    wr.cell? ⟨w.heap.size,0,none⟩=some (.int .i64 m)/\wr.cell? ⟨w.heap.size+1+1,0,none⟩=some (.map (some (w.heap.size+1)))/\aq w wr) (fun _ i _=>l.length-(intOf i).toNat)
  case atStart=>
   refine ⟨0,Mk _,rfl,rfl,⟨.map [],xG l,?_⟩,?_,?_,?_⟩
   ·have:=(World.ownsMap_made (H:=Unit) (w.alloc (.cells #[.int .i64 m] 3)) prog 3 (plainElem prog 3)).alloc (.cells #[.map (some (w.heap.size+1))] 208)
    simpa using this
   ·simp [go_sem]
   ·simp [go_sem]
   ·exact (((Mj _ w).alloc (Mg _) _).alloc (by simp) _).alloc (by simp;omega) _
  case round=>
   obtain ⟨k,hk,rfl,rfl,⟨D,U,p⟩,L,O,hb⟩:=hrel
   have a3:=Cj m l k
   by_cases R:k<l.length
   ·obtain ⟨b,o,rfl,hc⟩:=(hA.below hb).num R
    have B:=Cz m l k (w.heap.size+1+1) w.heap.size (w.heap.size+1) k D wr ap ap hm (a0.o k R) O L ap ap U p
    by_cases hg:xW m l k=true
    ·rw [hg] at B
     obtain ⟨Hg,J,HD,V,N⟩:=ah hg B U p hb;clear hg B U p hb
     go_wp2_with ((with_reducible refine J.o.mono ?_);rintro e w1 ⟨rfl,D1,C,h,u⟩)
     have y:=u.cell L (by simp)
     have x:=u.cell O (by simp)
     go_roundw
     case rel=>exact ⟨k+1,by omega,by go_num,by rw [iJ,if_pos Hg.o,Nat.add_zero],⟨D1,C,h⟩,y,x,N.o.grown u N.o.size (fun j Z=>by cases Z;omega)⟩
     case measure=>simp [intOf];omega
    ·have I:=hg
     rw [Bool.not_eq_true] at I
     rw [I] at B
     obtain ⟨Hg,J,HD,V,N⟩:=ah hg B U p hb;clear hg I B U p hb
     go_wp2_with ((with_reducible refine J.o.mono ?_);rintro e w1 ⟨rfl,D1,C,h,u⟩;have y:=u.cell L (by simp);have x:=u.cell O (by simp))
     ·have Y:m<=(l.length:Int):=by assumption
      go_roundw
      case rel=>exact ⟨k+1,by omega,by go_num,by rw [iJ,if_neg Hg.o,if_pos Y];go_num,⟨D1,C,h⟩,y,x,N.o.grown u N.o.size (fun j Z=>by cases Z;omega)⟩
      case measure=>simp [intOf];omega
     ·have Y:(l.length:Int)<m:=by assumption
      go_roundw
      case rel=>exact ⟨k+1,by omega,by go_num,by rw [iJ,if_neg Hg.o,if_neg ap,Nat.add_zero],⟨D1,C,h⟩,y,x,N.o.grown u N.o.size (fun j Z=>by cases Z;omega)⟩
      case measure=>simp [intOf];omega
   ·obtain rfl:k=l.length:=ap
    by_cases Q:iJ m l l.length=0
    ·have a1:(((iJ m l l.length:Nat):Int)==0)=true:=by simp [Q]
     have Hz:=aa Q;clear Q
     go_wp2
     go_ret
     exact ⟨cW (by rw [sG,Hz.o,hr];rfl),hb⟩
    ·have a1:(((iJ m l l.length:Nat):Int)==0)=false:=by simp [Q]
     have Hz:=aa Q;clear Q
     go_wp2
     go_ret
     exact ⟨cW (by rw [sG,hr,M8 Hz.o];rfl),hb⟩
 ·rw [Bool.not_eq_true] at hr
  have hf:sG m l=false:=by rw [sG,hr];rfl
  go_enter func71,ntmps71
  go_wp2_with (go_at_call 107;refine (s9 _ _).mono ?_;rintro e w' ⟨rfl,rfl⟩)
  go_ret
  exact ⟨by rw [hf];rfl,(Mj _ w).alloc (Mg _) _⟩
theorem BU (w:World) (xs:List Value) (e:TypeId):Rd (w.alloc (.cells xs.toArray e)) (some ⟨w.heap.size,0,none⟩) xs:=fun k u h=>by
 refine ⟨_,_,rfl,?_⟩
 rw [M6,Mi _ w.heap.size k xs.toArray e (0,0) (Mh w _)]
 simpa using h
theorem vY {l:List Int} (h:∀x∈l,0<=x/\x<=1000000):∀k,k<l.length->(Lit.int .i64 (nth l k)).wf=true:=fun k hk=>by
 have:=h (nth l k) (by rw [du l k hk];exact List.getElem_mem hk)
 exact WalkArith.wf_i64 ap
theorem Cb (w:World):Calls prog 36 #[] w fun e A=>e=.returned (.bool true)/\aq w A:=by
 have u:=fun W hA=>ya 2 (some ⟨w.heap.size,0,none⟩) [1,0,1,0] 4 W (by decide) hA (vY (by decide))
 rw [show sG 2 [1,0,1,0]=true from by decide] at u
 have i:=fun B W hA=>ya 2 (some ⟨B,0,none⟩) [0,1,1] 3 W (by decide) hA (vY (by decide))
 rw [show sG 2 [0,1,1]=false from by decide] at i
 obtain ⟨C,y⟩:=ae u i;clear u i
 go_enter func36,ntmps36
 go_wp2_with fail
 refine (C.o _ (BU w (aB .i64 [1,0,1,0]) 3)).mono ?_
 rintro e x ⟨rfl,h⟩
 have p:=h.size
 go_wp2_with fail
 refine (y.o _ _ (BU x (aB .i64 [0,1,1]) 3)).mono ?_
 rintro e D ⟨rfl,v⟩
 go_wp2_with fail
 go_ret
 refine ⟨rfl,?_⟩
 simp at p
 refine (((Mj _ w).alloc (Mg _) _).trans (h.mono (by simp))).trans ?_
 exact ((Mj _ x).alloc ap _).trans (v.mono (by simp;omega))
end Go.Proofs.YtgmajkppbhiopaaGreat
namespace Go.Proofs.YtgmajkppbhiopaaGreat
open Go.RowKit
open Tryz
theorem yq (p:Pln) (h:Nat) (C a1 D A B i:Value) (w:World) (Z:cY p) (hn:1<=p.n) (N:p.bu<=1048576) (L:p.wi<=1048576) (O:h<=12)
  (J:∀u,aq w u->Calls prog 76 #[.agg #[C,a1,D,A,Nd (p.W:Nat),B,Nd (p.mi:Nat),Nd (h:Nat),Nd (p.bu:Nat),Nd (p.ck:Nat),Nd (p.wi:Nat),i]] u fun e R=>e=.returned (Nd 0)/\aq u R):
  Calls prog 72 #[.agg #[C,a1,D,A,Nd (p.W:Nat),B,Nd (p.mi:Nat),Nd (h:Nat),Nd (p.bu:Nat),Nd (p.ck:Nat),Nd (p.wi:Nat),i],Nd (p.n:Nat)] w fun e u=>e=.returned (Nd ((ko p*h:Nat):Int))/\aq w u:=by
 obtain ⟨y,v⟩:∃y,w.alloc (.cells #[C,a1,D,A,Nd (p.W:Nat),B,Nd (p.mi:Nat),Nd (h:Nat),Nd (p.bu:Nat),Nd (p.ck:Nat),Nd (p.wi:Nat),i] 24)=y:=⟨_,rfl⟩
 have Y:y.heap[w.heap.size]?=some (.cells #[C,a1,D,A,Nd (p.W:Nat),B,Nd (p.mi:Nat),Nd (h:Nat),Nd (p.bu:Nat),Nd (p.ck:Nat),Nd (p.wi:Nat),i] 24 (0,0)):=by rw [<-v];exact Mh w _
 have x:aq w y:=by rw [<-v];exact (br w).alloc (Mg _) _
 have hc:=uk p C a1 D A B (Nd (h:Nat)) i y Z hn N L (fun u q=>J u (x.trans (q.mono x.size)))
 obtain ⟨Q,H,Hc⟩:=af v x hc
 have t0:=fun u q=>jL (sb Y u q)
 have q0:=br y
 clear v Y x hc J
 go_enter func72,ntmps72
 go_wp2_with fail
 rw [Q.o]
 refine Hc.o.mono ?_
 rintro e U ⟨P,rfl,hP,pa,T⟩
 have I:=pa.agr (Agr.refl _ U)
 obtain ⟨Ht,V⟩:=ae (zC p h P C a1 D A B i U Z O I) (H.o.trans (T.mono H.o.size));clear pa I T
 go_wp2_with fail
 refine Ht.o.mono ?_
 rintro e w2 ⟨rfl,k2⟩
 have K2:=aa (V.o.trans (k2.mono V.o.size));clear k2
 go_wp2_with fail
 go_ret
 exact ⟨aY (by push_cast;rfl),K2.o⟩
def Lt (k:Cfg) (n:Int):Pln:=⟨k.workers.toNat,k.micros.toNat,k.bucket.toNat,k.chunk.toNat,k.window.toNat,n.toNat⟩
noncomputable def Ln (k:Cfg) (n:Int):Nat:=if kg k n=true then ko (Lt k n)*k.steps.toNat else 0
def LN (i:Inp):Prop:=AT i/\(dP i=0->i.cfg.workers<=6/\i.cfg.steps<=5/\i.start.length<=40)
theorem zm (A:Option Addr) (c:Nat) (D:Option Addr) (I:Nat) (T:Option Addr) (x:Nat) (R:Option Addr) (H:Nat) (i:Inp) (w:World) (h:jI w A c D T x R i):
  Calls prog 11 #[.agg (aL A c D I T x R H i)] w (tj (LN i) w):=by
 obtain ⟨v,y⟩:∃v,w.alloc (.cells (aL A c D I T x R H i) 29)=v:=⟨_,rfl⟩
 have O:v.heap[w.heap.size]?=some (.cells (aL A c D I T x R H i) 29 (0,0)):=by rw [<-y];exact Mh w _
 have B:aq w v:=by rw [<-y];exact (br w).alloc (Mg _) _
 have hf:=zn A c D I T x R H i v (h.below B)
 have U:=fun (hs:kl i) p (q:aq v p)=>jq A c D I T x R H i p (((h.rd hs).below B).below q)
 have t4:∀p,aq v p->p.cell? (ar w.heap.size 4)=some (Nd i.cfg.workers):=fun p q=>Mi p w.heap.size 4 _ _ _ (sb O p q)
 have t7:∀p,aq v p->p.cell? (ar w.heap.size 7)=some (Nd i.cfg.steps):=fun p q=>Mi p w.heap.size 7 _ _ _ (sb O p q)
 have a1:∀p,aq v p->p.cell? (ar w.heap.size 13)=some (.slice T i.start.length x):=fun p q=>Mi p w.heap.size 13 _ _ _ (sb O p q)
 unfold tj LN
 unfold tj at hf
 obtain ⟨N,L,Hf,a0,G0⟩:=ah y B hf U O
 have q0:=br v
 clear y O B hf U h
 go_enter func11,ntmps11
 go_wp2_with (refine aK (aL A c D I T x R H i) (b:=w.heap.size) (by rw [N.o];exact G0.o) gu rfl rfl rfl rfl ?_)
 rw [N.o]
 refine Hf.o.mono ?_
 rintro e w1 ⟨⟨b,rfl,hb⟩,V⟩
 have Q:=bt q0 V
 obtain ⟨J,Z⟩:=ae (L.o.trans (V.mono L.o.size)) hb;clear hb V q0
 cases b with
 | false=>
  go_wp2_with fail
  go_ret
  exact ⟨⟨false,rfl,fun h=>by cases h⟩,J.o⟩
 | true=>
  go_wp2_with (first | (refine aK (aL A c D I T x R H i) (sb G0.o _ Q) gu rfl rfl rfl rfl ?_) | (refine IU (aL A c D I T x R H i) (sb G0.o _ Q) gu rfl rfl rfl rfl ?_))
  refine (a0.o (Z.o (by trivial)).1 w1 Q).mono ?_
  rintro e w2 ⟨rfl,k2⟩
  have q2:=bt Q k2
  have u:=aa (J.o.trans (k2.mono J.o.size));clear k2 Q
  obtain ⟨C,Y⟩:∃C,dP i=C:=⟨_,rfl⟩
  rw [Y]
  have HC:=aa Y;clear Y
  by_cases h0:C=0
  ·subst h0
   by_cases h6:i.cfg.workers<=6
   ·by_cases h5:i.cfg.steps<=5
    ·by_cases h4:i.start.length<=40
     ·go_wp2_with fail
      go_ret
      exact ⟨⟨_,rfl,fun _=>⟨Z.o (by trivial),fun _=>⟨h6,h5,h4⟩⟩⟩,u.o⟩
     ·go_wp2_with fail
      go_ret
      exact ⟨⟨false,by simp;omega,fun h=>by cases h⟩,u.o⟩
    ·go_wp2_with fail
     go_ret
     exact ⟨.inl rfl,u.o⟩
   ·go_wp2_with fail
    go_ret
    exact ⟨.inl rfl,u.o⟩
  ·go_wp2_with fail
   go_ret
   exact ⟨⟨true,rfl,fun _=>⟨Z.o (by trivial),fun h=>absurd (HC.o.symm.trans h) h0⟩⟩,u.o⟩
end Go.Proofs.YtgmajkppbhiopaaGreat
namespace Go.Proofs.YtgmajkppbhiopaaGreat
open Go.RowKit Go.ChangeShapes Go.WideShapes Go.ChangeAt
open Tryz
theorem FV {H:Type} {i:TypeId×Value->H} {W:World} {base:Nat} {v:Value} {d:DataW H} {p:List MemPlace} (o:Value.okWide prog W .any base 22 v) (h:DataW.Trod i prog W 0 (fun _=>true) true 22 v d p) (z:j8 prog 22 d):
  ∃(A:Option Addr) (l:List Int) (c:Nat),v=.slice A l.length c/\Lf W A l c:=by
 obtain ⟨a,C,cap,rfl⟩:=okWide_slice underlying22 o
 obtain ⟨l,⟨A,c,e,h1,u,B,x,y⟩,_⟩:=qC rU h z
 simp [Value.cells] at e
 obtain ⟨rfl,rfl,rfl⟩:=e
 exact ⟨_,l,_,rfl,⟨h1,u,B,x,ve y⟩⟩
structure Li (i:Inp):Prop where
 sp:vU i.cfg i.start.length (kg i.cfg i.start.length)
 eq:Ln i.cfg i.start.length=pN i
 le:pN i<=4860000
theorem AT.bnd {i:Inp} (h:AT i) (p:dP i=0):Li i:=by
 have hs:=h.sm p
 have hg:=hs.g.c
 have hc:=fz.2 hg
 have u:=qV hg.z
 have he:=hs.g.s
 have hn:1<=i.start.length:=by rw [he];exact u
 have hm:=hs.n
 have hr:kg i.cfg i.start.length=true:=by simp only [kg,hc,Bool.and_eq_true,Na];exact ⟨trivial,by omega,by omega⟩
 have o:=mD hs.ok
 have v:=qN hs.ok
 have x:=hs.s
 refine ⟨(h.2 p).1,?_,?_⟩
 ·unfold Ln
  rw [if_pos hr,o]
  rfl
 ·rw [o]
  have:ko (aA i)*i.cfg.steps.toNat<=810000*6:=Nat.mul_le_mul v ap
  omega
theorem vm {i:Inp} (hs:cF i) (l:List Int):(fv i (fL i) l).2<=pN i/\((fv i (fL i) l).1.fin i↔(fv i (fL i) l).2=pN i):=by
 obtain ⟨h1,h⟩:=I6 (gP.zero hs) hs l
 rw [rp,M6] at h
 have o:=h1.sum_le hs
 rw [h] at o
 exact ⟨o,by rw [h1.fin_iff hs,h]⟩
theorem yC (A:Option Addr) (c:Nat) (D:Option Addr) (L:Nat) (T:Option Addr) (y:Nat) (R:Option Addr) (I:Nat) (i:Inp) (B:Option Addr) (l:List Int) (pc:Nat) (w:World) (h:gi w A c D T y R i) (hs:cF i) (hb:Li i) (hl:l.length<=1000000) (hA:Rd w B (aB .i64 l)) {Bo:Bool} (hB:Bo=true↔(fv i (fL i) l).1.fin i):
  Calls prog 37 #[.agg (aL A c D L T y R I i),.slice B l.length pc] w fun e o=>e=.returned (.tuple #[.agg #[Nd ((fv i (fL i) l).2:Nat),Nd ((pN i:Int)-(fv i (fL i) l).2),Nd ((l.length:Int)-(fv i (fL i) l).2),.bool Bo],Nd 0])/\aq w o:=by
 have hr:=(vm hs l).1
 have a2:=hb.le
 have hg:=hs.g.c
 have Z:=hg.w;have a1:=hg.mi;have a0:=hg.st;have Y:=hg.bu;have a3:=hg.ch;have U:=hg.wi
 have N:((aA i).W:Int)=i.cfg.workers:=by simp only [aA];omega
 have J:((aA i).mi:Int)=i.cfg.micros:=by simp only [aA];omega
 have O:((i.cfg.steps.toNat:Nat):Int)=i.cfg.steps:=ap
 have Q:((aA i).bu:Int)=i.cfg.bucket:=by simp only [aA];omega
 have C:((aA i).ck:Int)=i.cfg.chunk:=by simp only [aA];omega
 have H:((aA i).wi:Int)=i.cfg.window:=by simp only [aA];omega
 have x:=fun o (q:aq w o)=>yq (aA i) i.cfg.steps.toNat (.slice A i.cfg.sizes.length c) (Nd i.cfg.shift) (Nd i.cfg.rate) (Nd i.cfg.mom) (Nd i.cfg.batch) (Nd i.cfg.cap) o hs.ok (by have:=qV hg.z;have:=hs.g.s;simp only [aA];omega) (by simp only [aA];omega) (by simp only [aA];omega) (by have:=hs.s;omega) (fun p q'=>by
  have:=mY A c i.cfg p (h.c.below (bt q q'))
  rw [fz.2 hg] at this
  rw [N,J,O,Q,C,H]
  exact this)
 rw [<-mD hs.ok,N,J,O,Q,C,H] at x
 refine Dd (P0:=fun V X o=>WIn (fun _=>False) i V X (fL i) o) (P1:=fun V X o=>WIn (fun _=>False) i V X (fv i (fL i) l).1 o) (P2:=fun V X o=>WIn (fun _=>False) i V X (fv i (fL i) l).1 o) hl ap ap (fun o q=>?_) (fun V X o q v=>?_) (fun V X o q v=>?_) (fun V X o v=>?_)
 ·refine (Cm (E:=fun _=>False) A c D L T y R I i o (h.below q) hs (fun j e=>e.elim)).mono ?_
  intro e p hn
  obtain ⟨X,h1,u,h3,h4⟩:=hn.win
  exact ⟨X,h1,u,h4⟩
 ·refine (v.run hs h.ra h.rm hl (hA.below q)).mono ?_
  rintro e p ⟨h1,u⟩
  exact ⟨h1,u,u.q⟩
 ·refine (x o q).mono ?_
  rintro e p ⟨h1,u⟩
  exact ⟨h1,v.below u,u⟩
 ·exact v.done hs hB
end Go.Proofs.YtgmajkppbhiopaaGreat
namespace Go.Proofs.YtgmajkppbhiopaaGreat
open Go.RowKit
open Tryz
def dH (mv:Nat->Array Value) (n:Nat):List Value:=((List.range n).map fun x=>(mv x).toList).flatten
theorem lh (mv:Nat->Array Value) (n:Nat):dH mv (n+1)=dH mv n++(mv n).toList:=by simp [dH,MY]
theorem wD {mv mv':Nat->Array Value} {n:Nat} (h:∀x,x<n->mv x=mv' x):dH mv n=dH mv' n:=by
 unfold dH
 congr 1
 exact List.map_congr_left fun x i=>by rw [h x (List.mem_range.1 i)]
section
variable {mv:Nat->Array Value} {n k x:Nat}
theorem ks (h:∀x,x<n->(mv x).size=k):(dH mv n).length=n*k:=by
 induction n with
 | zero=>simp [dH]
 | succ n ih=>rw [lh,MJ,ih (fun x i=>h x ap),Array.length_toList,h n ap,MZ]
theorem oJ (h:∀x,x<n->(mv x).size=k) (i:x<n) {f:Nat} (o:f<k):(dH mv n)[x*k+f]?=(mv x)[f]?:=by
 induction n with
 | zero=>omega
 | succ n ih=>
  have hl:=ks (n:=n) (fun x i=>h x ap)
  rw [lh]
  by_cases e:x=n
  ·subst e
   rw [MN ap,hl,Nat.add_sub_cancel_left,Array.getElem?_toList]
  ·have:x*k+k<=n*k:=by rw [<-MZ];exact Nc k ap
   rw [MM ap]
   exact ih (fun x i=>h x ap) ap
theorem tV (h:∀x,x<n->(mv x).toList.all (·.oneCell')=true):∀u∈dH mv n,u.oneCell'=true:=by
 intro u i
 simp only [dH,List.mem_flatten,List.mem_map,List.mem_range] at i
 obtain ⟨l,⟨x,o,rfl⟩,i⟩:=i
 exact List.all_eq_true.1 (h x o) u i
theorem jU {w:World} {A:Option Addr} (hr:Rd w A (dH mv n)) (h:∀x,x<n->(mv x).size=k) (hk:0<k) (i:x<n):∃b o,A=some (ar b o)/\w.rangeAt b (o+x*k) (mv x).toList:=by
 have y:=oJ h i hk
 rw [Nat.add_zero] at y
 obtain ⟨v,C⟩:∃v,(mv x)[0]?=some v:=⟨_,Array.getElem?_eq_getElem (by rw [h x i];exact hk)⟩
 obtain ⟨b,o,rfl,_⟩:=hr _ _ (y.trans C)
 refine ⟨b,o,rfl,fun j u p=>?_⟩
 have B:j<k:=by have:=(MK.1 p).1;rw [Array.length_toList,h x i] at this;exact this
 obtain ⟨D,H,e,hc⟩:=hr (x*k+j) u (by rw [oJ h i B,<-Array.getElem?_toList];exact p)
 injection e with e;injection e with e1 e2 _
 subst e1;subst e2
 rw [M5]
 exact hc
end
def CD:List Value->Nat->List Value->List Value
 | xs,_,[]=>xs
 | xs,o,v::r=>CD (xs.set o v) (o+1) r
theorem Ba:∀(ys xs:List Value) (o j:Nat),o+ys.length<=xs.length->(CD xs o ys)[j]?=if o<=j/\j<o+ys.length then ys[j-o]? else xs[j]?
 | [],xs,o,j,_=>by rw [if_neg (by simp [List.length_nil];try omega)];rfl
 | v::r,xs,o,j,h=>by
  rw [List.length_cons] at h
  rw [CD,Ba r (xs.set o v) (o+1) j (by rw [List.length_set];omega),List.length_cons]
  by_cases h1:j=o
  ·subst h1
   rw [if_neg ap,if_pos ap,Nat.sub_self,List.getElem?_set_self ap]
   rfl
  ·by_cases i:o+1<=j/\j<o+1+r.length
   ·rw [if_pos i,if_pos ap,show j-o=(j-(o+1))+1 by omega,MF]
   ·rw [if_neg i,if_neg ap,List.getElem?_set_ne ap]
theorem CR {mv mv':Nat->Array Value} {n k x:Nat} (h:∀x,x<n->(mv x).size=k) (i:∀x,x<n->(mv' x).size=k) (B:x<n) (hm:∀y,y≠x->mv' y=mv y):CD (dH mv n) (x*k) (mv' x).toList=dH mv' n:=by
 have hl:=ks h
 have v:=ks i
 have A:x*k+k<=n*k:=by rw [<-MZ];exact Nc k ap
 have o:(mv' x).toList.length=k:=by rw [Array.length_toList,i x B]
 refine List.ext_getElem? fun j=>?_
 rw [Ba _ _ _ _ ap,o]
 by_cases C:j<n*k
 ·by_cases hk:k=0
  ·subst hk;omega
  obtain ⟨y,f,rfl,p⟩:∃y f,j=y*k+f/\f<k:=⟨j/k,j%k,by rw [Nat.mul_comm,Nat.div_add_mod],Nat.mod_lt _ ap⟩
  have u:y<n:=by
   refine Classical.byContradiction fun hc=>?_
   have:=Nc k (show n<=y by omega)
   omega
  rw [oJ i u p]
  by_cases e:y=x
  ·subst e
   rw [if_pos ap,Nat.add_sub_cancel_left,Array.getElem?_toList]
  ·rw [if_neg ?_,oJ h u p,hm y e]
   rintro ⟨h1,D⟩
   rcases Nat.lt_or_gt_of_ne e with e | e
   ·have:=Nc k (show y+1<=x by omega)
    rw [MZ] at this
    omega
   ·have:=Nc k (show x+1<=y by omega)
    rw [MZ] at this
    omega
 ·rw [if_neg ap,List.getElem?_eq_none ap,List.getElem?_eq_none ap]
theorem oT:∀(ys:List Value) {w:World} {base g c n o:Nat} {e:TypeId} {size:Nat} {xs:List Value},w.ownsRow base e size (.slice (some (ar g 0)) n c) n xs->(w.setCells g o ys).ownsRow base e size (.slice (some (ar g 0)) n c) n (CD xs o ys)
 | [],_,_,_,_,_,_,_,_,_,h=>h
 | v::r,w,base,g,c,n,o,e,size,xs,h=>oT r (h.stored o v).1
theorem iv:∀(ys:List Value) (w:World) (g o:Nat),Keep (fun j=>j=g) w (w.setCells g o ys)
 | [],w,_,_=>Keep.refl _ w
 | v::r,w,g,o=>(Keep.setCell (S:=fun j=>j=g) (Keep.refl _ w) (ar g o) (.inr rfl) v).trans (iv r _ g (o+1))
theorem mU {w:World} {base g c n:Nat} {e:TypeId} {size:Nat} {xs:List Value} (h:w.ownsRow base e size (.slice (some (ar g 0)) n c) n xs) {x:Nat} (B:x<n):w.there g (x*size) size:=fun j v=>by
 rcases h.2 with ⟨p,_⟩ | ⟨C,cap,i,p,hb,hg,h1,y,u,A⟩
 ·cases p
 ·injection p with e1;injection e1 with e1;injection e1 with e1 _ _
  subst e1
  have o:x*size+j<i.size:=by
   rw [u]
   have:=Nc size (show x+1<=cap by omega)
   rw [MZ] at this
   omega
  exact ⟨by rw [Mi w g _ _ _ _ hg,Array.getElem?_eq_getElem o];rfl,Mq w g _ _ _ hg⟩
theorem cN:cR prog 39 3:=⟨⟨_,underlying39,rfl⟩,by kernel_rfl⟩
theorem lX:cR prog 106 22:=⟨⟨_,underlying106,rfl⟩,by kernel_rfl⟩
theorem iL:cR prog 75 4:=⟨⟨_,underlying75,rfl⟩,by kernel_rfl⟩
structure RWv (u:World) (vs:Array Value) (n:Nat) (mv lv:Nat->Array Value) (cnt:Nat):Prop where
 ex:∃AM cm AL cl,vs=#[.slice AM n cm,.slice AL n cl,Nd (cnt:Nat)]/\Rd u AM (dH mv n)/\Rd u AL (dH lv n)/\n<=cm/\n<=cl
 sm:∀x,x<n->(mv x).size=22/\(mv x).toList.all (·.oneCell')=true
 sl:∀x,x<n->(lv x).size=4/\(lv x).toList.all (·.oneCell')=true
def KY (R:Array Value->Array Value->Array Value->World->Prop) (C:Int) (w:World) (e:Ending) (i:World):Prop:=∃m1 h v1:Array Value,e=Ending.returned (.tuple #[.agg m1,.agg h,.agg v1,Nd C])/\(m1.size=22/\h.size=4/\v1.size=4)/\(m1.toList.all (·.oneCell')=true/\h.toList.all (·.oneCell')=true/\v1.toList.all (·.oneCell')=true)/\R m1 h v1 i/\aq w i
theorem Fa {w:World} {vs:Array Value} {n x p cnt:Nat} {mv N:Nat->Array Value} {C:Int} {R:Array Value->Array Value->Array Value->World->Prop} (h:RWv w vs n mv N cnt) (A:x<n) (hn:n<=1000) (hp:(x+n-1)%n=p)
  (a0:∀i,w.heap.size+4<=i.heap.size->aq w i->Calls prog 89 #[.agg (mv x),.agg (N p),.agg (N x)] i (KY R C (i))) (hR:∀m1 u1 v1 w1 w2,R m1 u1 v1 w1->Keep (fun k=>w.heap.size<=k/\k<w.heap.size+4) w1 w2->R m1 u1 v1 w2):
  Calls prog 48 #[.agg vs,Nd (x:Nat)] w (KY R C (w)):=by
 obtain ⟨⟨AM,cm,AL,cl,rfl,hM,hL, -, -⟩,D,u⟩:=h
 have ab:p<n:=by rw [<-hp];exact Nat.mod_lt _ ap
 obtain ⟨L,o1,rfl,r1⟩:=jU hM (fun x A=>(D x A).1) (by decide) A
 obtain ⟨V,Z,rfl,r2⟩:=jU hL (fun x A=>(u x A).1) (by decide) ab
 obtain ⟨b3,o3,e3,r3⟩:=jU hL (fun x A=>(u x A).1) (by decide) A
 cases e3
 obtain ⟨B,H⟩:∃B,(((w.alloc (.cells #[.slice (some (ar L o1)) n cm,.slice (some (ar V Z)) n cl,Nd (cnt:Nat)] 39)).alloc (.cells Nh 106)).alloc (.cells #[Nd 0,Nf,Nd 0,Nd 0] 75)).alloc (.cells #[Nd 0,Nf,Nd 0,Nd 0] 75)=B:=⟨_,rfl⟩
 have a4:vR w [.cells #[.slice (some (ar L o1)) n cm,.slice (some (ar V Z)) n cl,Nd (cnt:Nat)] 39,.cells Nh 106,.cells #[Nd 0,Nf,Nd 0,Nd 0] 75,.cells #[Nd 0,Nf,Nd 0,Nd 0] 75]=B:=H
 have q0:=fH [.cells #[.slice (some (ar L o1)) n cm,.slice (some (ar V Z)) n cl,Nd (cnt:Nat)] 39,.cells Nh 106,.cells #[Nd 0,Nf,Nd 0,Nd 0] 75,.cells #[Nd 0,Nf,Nd 0,Nd 0] 75] w
 have g0:=cV [.cells #[.slice (some (ar L o1)) n cm,.slice (some (ar V Z)) n cl,Nd (cnt:Nat)] 39,.cells Nh 106,.cells #[Nd 0,Nf,Nd 0,Nd 0] 75,.cells #[Nd 0,Nf,Nd 0,Nd 0] 75] w 0 rfl
 have g1:=cV [.cells #[.slice (some (ar L o1)) n cm,.slice (some (ar V Z)) n cl,Nd (cnt:Nat)] 39,.cells Nh 106,.cells #[Nd 0,Nf,Nd 0,Nd 0] 75,.cells #[Nd 0,Nf,Nd 0,Nd 0] 75] w 1 rfl
 have g2:=cV [.cells #[.slice (some (ar L o1)) n cm,.slice (some (ar V Z)) n cl,Nd (cnt:Nat)] 39,.cells Nh 106,.cells #[Nd 0,Nf,Nd 0,Nd 0] 75,.cells #[Nd 0,Nf,Nd 0,Nd 0] 75] w 2 rfl
 have g3:=cV [.cells #[.slice (some (ar L o1)) n cm,.slice (some (ar V Z)) n cl,Nd (cnt:Nat)] 39,.cells Nh 106,.cells #[Nd 0,Nf,Nd 0,Nd 0] 75,.cells #[Nd 0,Nf,Nd 0,Nd 0] 75] w 3 rfl
 have a6:B.heap.size=w.heap.size+4:=by rw [<-H];simp
 rw [a4] at q0 g0 g1 g2 g3
 rw [Nat.add_zero] at g0
 have l1:L<w.heap.size:=by
  obtain ⟨v,hv⟩:∃v,(mv x).toList[0]?=some v:=⟨_,ML (by rw [Array.length_toList,(D x A).1];decide)⟩
  exact az (r1 0 v hv)
 have l2:V<w.heap.size:=by
  obtain ⟨v,hv⟩:∃v,(N x).toList[0]?=some v:=⟨_,ML (by rw [Array.length_toList,(u x A).1];decide)⟩
  exact az (r3 0 v hv)
 have rg:∀{b o cs},b<w.heap.size->w.rangeAt b o cs->∀i,Keep (fun k=>w.heap.size<k/\k<w.heap.size+4) B i->i.rangeAt b o cs:=fun hb hr i k j v hv=>by
  have h1:=hr j v hv
  exact (World.cell?_of_block ((k.block _ (Mo hb q0.size) (fun e=>ap)).trans (q0.block _ hb))).trans h1
 obtain ⟨R1,R2,R3⟩:=af (fun i q=>rg l1 r1 i q) (fun i q=>rg l2 r2 i q) (fun i q=>rg l2 r3 i q)
 have t:∀i,Keep (fun k=>w.heap.size<k/\k<w.heap.size+4) B i->_:=fun i q=>bx3 ((q.block _ (Mf g0) (fun e=>ap)).trans g0)
 have O:((x:Int)+(n:Int)-1).tmod (n:Int)=(p:Int):=by
  rw [<-hp,Int.tmod_eq_emod_of_nonneg ap,Int.natCast_emod,show ((x+n-1:Nat):Int)=(x:Int)+n-1 by omega]
 have aG:((x:Int)+(n:Int)-1)%(n:Int)=(p:Int):=by rw [<-Int.tmod_eq_emod_of_nonneg ap];exact O
 have b0:¬(n=0):=ap
 have h1:0<=(x:Int):=ap
 have h2:(x:Int)<(n:Int):=ap
 have h3:0<=(p:Int):=ap
 have h4:(p:Int)<(n:Int):=ap
 have w1:IntKind.i64.wrap ((x:Int)+n)=(x:Int)+n:=Mm _ ap
 have w2:IntKind.i64.wrap ((x:Int)+n-1)=(x:Int)+n-1:=Mm _ ap
 have w3:IntKind.i64.wrap (p:Int)=(p:Int):=Mm _ ap
 have w5:IntKind.i64.wrap (((x:Int)+n-1).tmod n)=(p:Int):=by rw [O];exact w3
 have w6:IntKind.i64.wrap (((x:Int)+n-1)%n)=(p:Int):=by rw [aG];exact w3
 have a8:=D x A;have ad:=u p ab;have a5:=u x A
 obtain ⟨aM,HR,aR,Q0,G1,G2,G3,Hm⟩:=ak a0 hR H q0 g1 g2 g3 a8;obtain ⟨Hl,av⟩:=ae ad a5
 have s0:Keep (fun k=>w.heap.size<k/\k<w.heap.size+4) B B.drew:=(Keep.refl _ _).drew
 have ao:=aa a6
 have tl:=sl g3
 clear a0 hR H a4 q0 g0 g1 g2 g3 a8 ad a5 D u hM hL r1 r2 r3 rg hp a6
 go_enter func48,ntmps48
 go_wp2_with fail
 rw [aR.o]
 refine HA.g (fun i:World=>Keep (fun k=>w.heap.size<k/\k<w.heap.size+4) B i) ?_
 refine HA.t ?_ [0,1,2,3] s0 ?_
 refine HA.lr 4 R1.o (by rw [Array.length_toList,Hm.o.1];exact lX) s0 ?_
 refine HA.t ?_ [5,6,7,8,9,10,11,12,13] s0 ?_
 refine HA.lr 14 R2.o (by rw [Array.length_toList,Hl.o.1];exact iL) s0 ?_
 refine HA.t ?_ [15,16,17,18] s0 ?_
 refine HA.lr 19 R3.o (by rw [Array.length_toList,av.o.1];exact iL) s0 ?_
 have ea:(mv x).toList.toArray=mv x:=Array.toArray_toList
 have eb:(N p).toList.toArray=N p:=Array.toArray_toList
 have ec:(N x).toList.toArray=N x:=Array.toArray_toList
 rw [ea,eb,ec]
 refine HA.c 20 (aM.o _ (by rw [MV,ao.o];omega) (Q0.o.drew)) ?_
 rintro _ w7 ⟨m1,u1,v1,rfl,⟨z1,z2,z3⟩,⟨a1,a2,a3⟩,hr,k7⟩
 have b7:=bt (br B).drew k7
 have s1:=s0.trans (Keep.below (S:=fun k=>w.heap.size<k/\k<w.heap.size+4) k7)
 refine ⟨_,rfl,s1,fun _=>?_⟩
 refine HA.t ?_ [21,22,23,24] s1 ?_
 refine HA.st 25 (sb G1.o _ b7) lX (fun w8 e8 J=>⟨s1.trans (J.mono fun k _ e=>ap),?_⟩) (hn:=z1) (hs:=by rw [z1];rfl) (h1:=a1)
 refine HA.st 26 ((J.block _ (Mf (sb G2.o _ b7)) ap).trans (sb G2.o _ b7)) iL (fun w9 e9 T=>⟨(s1.trans (J.mono fun k _ e=>ap)).trans (T.mono fun k _ e=>ap),?_⟩) (hn:=z2) (hs:=by rw [z2];rfl) (h1:=a2)
 have a7:=(T.block _ (Mo (Mf (sb G3.o _ b7)) J.size) ap).trans ((J.block _ (Mf (sb G3.o _ b7)) ap).trans (sb G3.o _ b7))
 refine HA.st 27 a7 iL (fun I a9 y=>⟨((s1.trans (J.mono fun k _ e=>ap)).trans (T.mono fun k _ e=>ap)).trans (y.mono fun k _ e=>ap),?_⟩) (hn:=z3) (hs:=by rw [z3];rfl) (h1:=a3)
 have Y:=((s1.trans (J.mono fun k _ e=>ap)).trans (T.mono fun k _ e=>ap)).trans (y.mono fun k _ (e:k=w.heap.size+3)=>by omega:Keep (fun k=>w.heap.size<k/\k<w.heap.size+4) w9 I)
 refine HA.t ?_ [28] Y ?_
 refine HA.d ?_
 have f8:I.heap[w.heap.size+1]?=_:=(y.block _ (by have:=Mf e8;have:=T.size;omega) ap).trans ((T.block _ (Mf e8) ap).trans e8)
 have f9:I.heap[w.heap.size+1+1]?=_:=(y.block _ (Mf e9) ap).trans e9
 have U:=HR.o _ _ _ _ _ hr (((J.mono fun k _ (e:k=w.heap.size+1)=>by omega:Keep (fun k=>w.heap.size<=k/\k<w.heap.size+4) w7 w8).trans (T.mono fun k _ (e:k=w.heap.size+2)=>ap)).trans (y.mono fun k _ (e:k=w.heap.size+3)=>ap))
 have Q:aq w I:=Q0.o.trans (Y.toBelow Q0.o.size (fun j e=>ap))
 obtain ⟨HF,F8,F9,aP,Z1,Z2,Z3,A1⟩:=ak (Mp U Q) f8 f9 a9 z1 z2 z3 a1;obtain ⟨A2,A3⟩:=ae a2 a3;clear U Q f8 f9 e8 e9 a9 z1 z2 z3 a1 a2 a3 J T y Y s1 b7 a7 k7 hr t
 go_wp2_with fail
 try simp only [Exit.inBlock,Exit.then]
 refine Mu (fk rfl rfl rfl rfl F8.o F9.o aP.o (by rw [Z1.o];exact lX) (by rw [Z2.o];exact iL) (by rw [Z3.o];exact iL)) rfl ?_
 exact ⟨m1,u1,v1,rfl,⟨Z1.o,Z2.o,Z3.o⟩,⟨A1.o,A2.o,A3.o⟩,HF.o.1,HF.o.2⟩
theorem HE:dt prog 36 106 (.agg Nh) 22 320:=⟨underlying36,info_parts (by kernel_rfl),rfl,by decide⟩
theorem HU:dt prog 37 75 (.agg #[Nd 0,Nf,Nd 0,Nd 0]) 4 48:=⟨underlying37,info_parts (by kernel_rfl),rfl,by decide⟩
section
variable {P:Program} {ops:Array Oper} {Q:Exit->Act->World->Prop} {S:World->Prop} {n:Nat}
theorem XA.sole {L:List Nat} {a:Act} {w:World} (i:Nat) (p:XAS P ops Q S n i L a w) (hr:cZ ops L=[i]:=by decide +kernel):XA P ops Q S n L a w:=by
 obtain ⟨o,u,h⟩:=p
 exact XA.one i u hr h
theorem XA.three {L:List Nat} {a:Act} {w:World} (i j k:Nat) (B:XAS P ops Q S n i L a w) (y:XAS P ops Q S n j L a w) (hk:XAS P ops Q S n k L a w) (hr:cZ ops L=[i,j,k]:=by decide +kernel):XA P ops Q S n L a w:=by
 obtain ⟨N,A,B⟩:=B
 obtain ⟨O,x,y⟩:=y
 obtain ⟨ok,v,hk⟩:=hk
 have D:unl (bF ops.size L)=unl (bF ops.size (i::L))+1:=cI (by rw [hr];simp)
 have I:unl (bF ops.size L)=unl (bF ops.size (j::L))+1:=cI (by rw [hr];simp)
 have J:unl (bF ops.size L)=unl (bF ops.size (k::L))+1:=cI (by rw [hr];simp)
 have H:unl (bF ops.size (j::L))=unl (bF ops.size (i::L)):=ap
 have C:unl (bF ops.size (k::L))=unl (bF ops.size (i::L)):=ap
 refine ⟨?_⟩
 rw [D]
 refine cq (by rw [dL];exact hr) (by simp) (aT.cons A (fun u p=>B u fun a w o hw=>p.out a w o fun h=>(hw h).out) (aT.cons x (fun u p=>y u fun a w o hw=>p.out a w o fun h=>?_) (aT.cons v (fun u p=>hk u fun a w o hw=>p.out a w o fun h=>?_) aT.nil)))
 ·have:=(hw h).out
  rw [H] at this
  exact this
 ·have:=(hw h).out
  rw [C] at this
  exact this
end
def LI (S:Nat->Prop) (R:Array Value->Array Value->Array Value->World->Prop) (vs:Array Value) (n:Nat) (mv u:Nat->Array Value) (cnt x p:Nat) (C:Int) (w:World) (e:Ending) (i:World):Prop:=
 (C≠0/\e=.returned (.tuple #[.agg vs,.bool false])/\aq w i)\/(C=0/\∃m1 o v1 h:Array Value,e=.returned (.tuple #[.agg h,.bool true])/\RWv (aF S i) h n (aZ mv x m1) (if 1<n then aZ (aZ u p o) x v1 else u) (cnt+1)/\R m1 o v1 i/\aq w i)
theorem CQ {w:World} {vs:Array Value} {n cnt:Nat} {mv T:Nat->Array Value} {z:Int} (h:RWv w vs n mv T cnt) (Y:z<0\/(n:Int)<=z):
  Calls prog 16 #[.agg vs,Nd z] w fun e H=>e=.returned (.tuple #[.agg vs,.bool false])/\aq w H:=by
 obtain ⟨⟨D,cm,v,C,rfl, -, -, -, -⟩, -, -⟩:=h
 obtain ⟨u,i⟩:∃u,(w.alloc (.cells #[.slice D n cm,.slice v n C,Nd (cnt:Nat)] 39)).alloc (.cells #[Nf,Nf,Nd 0] 39)=u:=⟨_,rfl⟩
 have J:u.heap[w.heap.size]?=some (.cells #[.slice D n cm,.slice v n C,Nd (cnt:Nat)] 39 (0,0)):=by rw [<-i];exact sb (Mh w _) _ ((br _).alloc (Mg _) _)
 have g1:u.heap[w.heap.size+1]?=some (.cells #[Nf,Nf,Nd 0] 39 (0,0)):=by rw [<-i];have:=Mh (w.alloc (.cells #[.slice D n cm,.slice v n C,Nd (cnt:Nat)] 39)) (.cells #[Nf,Nf,Nd 0] 39);rwa [Mw] at this
 have N:aq w u:=by rw [<-i];exact ((br w).alloc (Mg _) _).alloc (by rw [Mw];omega) _
 have tl:=sl g1
 have t0:=fun H q=>bx3 (sb J H q)
 have V:=br u
 obtain ⟨y,Q,R,G0⟩:=ag i g1 N J;clear i J g1 N
 have p:∀x,Keep (fun j=>j=w.heap.size+1) u x->aq w x:=fun x k=>R.o.trans (k.toBelow R.o.size (fun j e=>ap))
 have O:=aa p;clear p
 by_cases h1:z<0
 ·go_enter func16,ntmps16
  go_upto_region 1 with (fail)
  rw [y.o]
  go_wp2_with (first | (refine aK #[.slice D n cm,.slice v n C,Nd (cnt:Nat)] (b:=w.heap.size) G0.o cN rfl rfl rfl rfl ?_) | (refine aH (b:=w.heap.size+1) Q.o cN rfl rfl rfl rfl rfl rfl rfl ?_;intro x A B;obtain ⟨L,I⟩:=ae A B;clear A B))
  try simp only [Exit.inBlock,Exit.then]
  refine Mu (cH rfl rfl L.o cN) rfl ?_
  exact ⟨rfl,O.o _ I.o⟩
 ·have U:(n:Int)<=z:=ap
  go_enter func16,ntmps16
  go_upto_region 1 with (fail)
  rw [y.o]
  go_wp2_with (first | (refine aK #[.slice D n cm,.slice v n C,Nd (cnt:Nat)] (b:=w.heap.size) G0.o cN rfl rfl rfl rfl ?_) | (refine aH (b:=w.heap.size+1) Q.o cN rfl rfl rfl rfl rfl rfl rfl ?_;intro x A B;obtain ⟨L,I⟩:=ae A B;clear A B))
  try simp only [Exit.inBlock,Exit.then]
  refine Mu (cH rfl rfl L.o cN) rfl ?_
  exact ⟨rfl,O.o _ I.o⟩
theorem wZ {S:Nat->Prop} {R:Array Value->Array Value->Array Value->World->Prop} {w B i W h:World} {n cnt I C cm A b:Nat} {mv u:Nat->Array Value} {m1 p v1:Array Value} (Y:∀k,S k->k<w.heap.size) (L:aq w B) (Q:aq B i) (q:aq i W) (k:Keep (fun j=>j=b) W h) (hb:w.heap.size<=b/\b<w.heap.size+2) (V:b<i.heap.size)
  (oM:W.ownsRow i.heap.size 106 22 (.slice (some (ar I 0)) n cm) n (dH mv n)) (oL:W.ownsRow i.heap.size 75 4 (.slice (some (ar C 0)) n A) n (dH u n)) (hm:∀x,x<n->(mv x).size=22/\(mv x).toList.all (·.oneCell')=true) (hl:∀x,x<n->(u x).size=4/\(u x).toList.all (·.oneCell')=true)
  (hr:R m1 p v1 B) (Z:∀m1 p v1 D T,R m1 p v1 D->Keep (fun k=>w.heap.size<=k/\k<w.heap.size+6) D T->R m1 p v1 T):
  RWv (aF S h) #[.slice (some (ar I 0)) n cm,.slice (some (ar C 0)) n A,Nd ((cnt+1:Nat):Int)] n mv u (cnt+1)/\R m1 p v1 h/\aq w h:=by
 have hz:=L.size;have U:=Q.size
 have y:=k.own oM (fun j h1 H=>by have:=(oM.lt j h1).1;omega)
 have v:=k.own oL (fun j h1 H=>by have:=(oL.lt j h1).1;omega)
 have hc:n<=cm/\n<=A:=by
  obtain ⟨_,_,O,h1⟩:=aD oM
  obtain ⟨_,_,J,H⟩:=aD oL
  injection O with _ _ O;injection J with _ _ J
  omega
 have o:∀k,S k->k<i.heap.size:=fun k e=>by have:=Y k e;omega
 have N:=bt Q q
 exact ⟨⟨⟨_,_,_,_,rfl,gD y o,gD v o,hc⟩,hm,hl⟩,Z _ _ _ _ _ hr ((Keep.below N).trans (k.mono fun j _ e=>ap)),(bt L N).trans (k.toBelow (by have:=q.size;omega) (fun j e=>ap))⟩
theorem RWv.upd {mv:Nat->Array Value} {n k x:Nat} {u:Array Value} (h:∀x,x<n->(mv x).size=k/\(mv x).toList.all (·.oneCell')=true) (p:u.size=k) (i:u.toList.all (·.oneCell')=true):∀y,y<n->(aZ mv x u y).size=k/\(aZ mv x u y).toList.all (·.oneCell')=true:=fun y o=>by
 by_cases e:y=x
 ·subst e;rw [bJ];exact ⟨p,i⟩
 ·rw [bC _ _ e];exact h y o
theorem pS {mv:Nat->Array Value} {n k x:Nat} {u:Array Value} (h:∀x,x<n->(mv x).size=k/\(mv x).toList.all (·.oneCell')=true) (v:u.size=k) (p:u.toList.all (·.oneCell')=true) (o:x<n):CD (dH mv n) (x*k) u.toList=dH (aZ mv x u) n:=by
 have:=CR (mv:=mv) (mv':=aZ mv x u) (fun x o=>(h x o).1) (fun y i=>(RWv.upd h v p y i).1) o (fun y i=>bC _ _ i)
 rwa [bJ] at this
theorem Fk {S:Nat->Prop} {R:Array Value->Array Value->Array Value->World->Prop} {w:World} {vs:Array Value} {n cnt x p:Nat} {mv lv:Nat->Array Value} {C:Int} (hS:∀k,S k->k<w.heap.size) (h:RWv w vs n mv lv cnt) (Z:x<n) (hn:n<=1000) (hp:(x+n-1)%n=p) (f9:cnt<=1000000000)
  (bX:∀u,w.heap.size+6<=u.heap.size->aq w u->Calls prog 89 #[.agg (mv x),.agg (lv p),.agg (lv x)] u (KY R C u)) (hR:∀m1 I v1 w1 w2,R m1 I v1 w1->Keep (fun k=>w.heap.size<=k/\k<w.heap.size+6) w1 w2->R m1 I v1 w2):
  Calls prog 16 #[.agg vs,Nd (x:Nat)] w (LI S R vs n mv lv cnt x p C w):=by
 have bG:p<n:=by rw [<-hp];exact Nat.mod_lt _ ap
 have b4:=fun u (q:aq w u) (hz:u.heap.size=w.heap.size+2)=>Fa (R:=R) (C:=C) (show RWv u vs n mv lv cnt from by
  obtain ⟨⟨AM,cm,AL,cl,h1,L,h3,h4⟩,h5,h6⟩:=h
  exact ⟨⟨AM,cm,AL,cl,h1,L.below q,h3.below q,h4⟩,h5,h6⟩) Z hn hp (fun eX h1 q'=>bX eX ap (bt q q')) (fun m1 I v1 w1 w2 hr k=>hR m1 I v1 w1 w2 hr (k.mono fun j _ e=>ap))
 obtain ⟨⟨AM,cm,AL,cl,rfl,hM,hL,fn,g4⟩,aR,b1⟩:=h
 obtain ⟨W0,a5⟩:∃W0,(w.alloc (.cells #[.slice AM n cm,.slice AL n cl,Nd (cnt:Nat)] 39)).alloc (.cells #[Nf,Nf,Nd 0] 39)=W0:=⟨_,rfl⟩
 have g0:W0.heap[w.heap.size]?=some (.cells #[.slice AM n cm,.slice AL n cl,Nd (cnt:Nat)] 39 (0,0)):=by rw [<-a5];exact sb (Mh w _) _ ((br _).alloc (Mg _) _)
 have g1:W0.heap[w.heap.size+1]?=some (.cells #[Nf,Nf,Nd 0] 39 (0,0)):=by rw [<-a5];have:=Mh (w.alloc (.cells #[.slice AM n cm,.slice AL n cl,Nd (cnt:Nat)] 39)) (.cells #[Nf,Nf,Nd 0] 39);rwa [Mw] at this
 have q0:aq w W0:=by rw [<-a5];exact ((br w).alloc (Mg _) _).alloc (by rw [Mw];omega) _
 have d0:W0.heap.size=w.heap.size+2:=by rw [<-a5];simp
 have tl:=sl g1
 have t0:=fun u q=>bx3 (sb g0 u q)
 have q1:=br W0
 have fe:(x:Int)<n:=ap
 have fc:¬((x:Int)<0):=ap
 have cy:∀u,aq w u->Rd u AM (dH mv n):=fun u q=>hM.below q
 have hrl:∀u,aq w u->Rd u AL (dH lv n):=fun u q=>hL.below q
 have d8:=ks (fun x Z=>(aR x Z).1);have e1:=ks (fun x Z=>(b1 x Z).1)
 have cb:=tV (fun x Z=>(aR x Z).2);have cA:=tV (fun x Z=>(b1 x Z).2)
 obtain ⟨f4,G1,Q0,G0,dn,HR,el,ec⟩:=ak a5 g1 q0 g0 b4 hR d0 aR;obtain ⟨bw,cj,e4,f5,f2,ej,ei,HS⟩:=ak b1 cy hrl d8 e1 cb cA hS;have Hp:=aa hp;clear a5 g0 g1 q0 b4 hR d0 aR b1 hM hL cy hrl d8 e1 cb cA bX hS hp
 go_enter func16,ntmps16
 go_upto_region 1 with (fail)
 rw [f4.o]
 go_wp2_with (refine aK #[.slice AM n cm,.slice AL n cl,Nd (cnt:Nat)] (b:=w.heap.size) G0.o cN rfl rfl rfl rfl ?_)
 refine (dn.o _ Q0.o (by rw [el.o])).mono ?_
 rintro e D ⟨m1,I,v1,rfl,⟨z1,z2,z3⟩,⟨a1,a2,a3⟩,hr,k5⟩
 have q5:=bt q1 k5
 obtain ⟨Z1,Z2,J,O1,O2,O3,e5⟩:=aj z1 z2 z3 a1 a2 a3 hr;clear z1 z2 z3 a1 a2 a3 hr k5 q1
 have b5:aq D (((D.alloc (.cells Nh 106)).alloc (.cells #[Nd 0,Nf,Nd 0,Nd 0] 75)).alloc (.cells #[Nd 0,Nf,Nd 0,Nd 0] 75)):=fH [Obj.cells Nh 106,.cells #[Nd 0,Nf,Nd 0,Nd 0] 75,.cells #[Nd 0,Nf,Nd 0,Nd 0] 75] D
 obtain ⟨bO,bs,aP,B5⟩:=ag (show (((D.alloc (.cells Nh 106)).alloc (.cells #[Nd 0,Nf,Nd 0,Nd 0] 75)).alloc (.cells #[Nd 0,Nf,Nd 0,Nd 0] 75)).heap[D.heap.size]?=_ from cV [Obj.cells Nh 106,.cells #[Nd 0,Nf,Nd 0,Nd 0] 75,.cells #[Nd 0,Nf,Nd 0,Nd 0] 75] D 0 rfl) (show (((D.alloc (.cells Nh 106)).alloc (.cells #[Nd 0,Nf,Nd 0,Nd 0] 75)).alloc (.cells #[Nd 0,Nf,Nd 0,Nd 0] 75)).heap[D.heap.size+1]?=_ from cV [Obj.cells Nh 106,.cells #[Nd 0,Nf,Nd 0,Nd 0] 75,.cells #[Nd 0,Nf,Nd 0,Nd 0] 75] D 1 rfl) (show (((D.alloc (.cells Nh 106)).alloc (.cells #[Nd 0,Nf,Nd 0,Nd 0] 75)).alloc (.cells #[Nd 0,Nf,Nd 0,Nd 0] 75)).heap[D.heap.size+1+1]?=_ from cV [Obj.cells Nh 106,.cells #[Nd 0,Nf,Nd 0,Nd 0] 75,.cells #[Nd 0,Nf,Nd 0,Nd 0] 75] D 2 rfl) b5;clear b5
 go_upto_region 5 with (first
  | (refine aH (b:=D.heap.size) bO.o lX rfl rfl rfl rfl Z1.o (by rw [Z1.o];rfl) O1.o ?_;intro w6 e6 k6;obtain ⟨E6,K6⟩:=ae e6 k6;clear e6 k6)
  | (refine aH (b:=D.heap.size+1) ((K6.o.block _ (Mf bs.o) ap).trans bs.o) iL rfl rfl rfl rfl Z2.o (by rw [Z2.o];rfl) O2.o ?_;intro w7 e7 k7;obtain ⟨E7,K7⟩:=ae e7 k7;clear e7 k7)
  | (refine aH (b:=D.heap.size+1+1) ((K7.o.block _ (Mo (Mf aP.o) K6.o.size) ap).trans ((K6.o.block _ (Mf aP.o) ap).trans aP.o)) iL rfl rfl rfl rfl J.o (by rw [J.o];rfl) O3.o ?_;intro y e8 k8;obtain ⟨E8,K8⟩:=ae e8 k8;clear e8 k8))
 have bf:aq D y:=B5.o.trans (((K6.o.toBelow B5.o.size (fun j e=>ap)).trans (K7.o.toBelow (by have h1:=B5.o.size;have h2:=K6.o.size;(try simp only [World.size_alloc] at h1 h2 ⊢);omega) (fun j e=>ap))).trans (K8.o.toBelow (by have h1:=B5.o.size;have h2:=K6.o.size;have h3:=K7.o.size;(try simp only [World.size_alloc] at h1 h2 h3 ⊢);omega) (fun j e=>ap)))
 have ea:y.heap[D.heap.size]?=_:=(K8.o.block _ (Mo (Mf E6.o) K7.o.size) ap).trans ((K7.o.block _ (Mf E6.o) ap).trans E6.o)
 have e0:y.heap[D.heap.size+1]?=_:=(K8.o.block _ (Mf E7.o) ap).trans E7.o
 obtain ⟨eS,cn⟩:=ae ea e0
 have q8:=bt q5 bf
 obtain ⟨Q5,d9⟩:=ae q5 bf;clear ea e0 bf B5 bO bs aP E6 E7 K6 K7 K8 q5
 by_cases hC:C=0
 rotate_left
 ·have fr:(C != 0)=true:=by rw [bne_iff_ne];exact hC
  have HC:=aa hC
  have h1:=sb G1.o _ q8
  obtain ⟨H1,Q8⟩:=ae h1 q8;clear h1 hC
  go_wp2_with (first | (refine aK #[.slice AM n cm,.slice AL n cl,Nd (cnt:Nat)] (b:=w.heap.size) (sb G0.o _ Q8.o) cN rfl rfl rfl rfl ?_) | (refine aH (b:=w.heap.size+1) H1.o cN rfl rfl rfl rfl rfl rfl rfl ?_;intro w9 e9 k9;obtain ⟨E9,K9⟩:=ae e9 k9;clear e9 k9))
  try simp only [Exit.inBlock,Exit.then]
  refine Mu (cH rfl rfl E9.o cN) rfl ?_
  exact .inl ⟨HC.o,rfl,(Q0.o.trans (Q8.o.mono Q0.o.size)).trans (K9.o.toBelow (by have h1:=Q0.o.size;have h2:=Q8.o.size;(try simp only [World.size_alloc] at h1 h2 ⊢);omega) (fun j e=>ap))⟩
 subst hC
 go_upto_region 7 with (fail)
 have cv:=sb G0.o _ q8
 have dT:=sb G1.o _ q8
 obtain ⟨ct,a7,Q8⟩:=af cv dT q8
 have bh:IntKind.i64.wrap ((cnt:Int)+1)=((cnt+1:Nat):Int):=by rw [Mm _ ap];push_cast;rfl
 have es:=aa bh;clear cv dT q8 t0 tl bh
 go_cut [11] (fun v wx=>∃N A3 c3 A7 c7,v=(au N)/\wx.heap[N]?=some (.cells #[.slice A3 n c3,.slice A7 n c7,Nd ((cnt+1:Nat):Int)] 39 (0,0))/\y.heap.size<=N/\wx.ownsRow y.heap.size 106 22 (.slice A3 n c3) n (dH mv n)/\wx.ownsRow y.heap.size 75 4 (.slice A7 n c7) n (dH lv n)/\aq y wx)
 case first=>
  have t8:=fun u q=>bx3 (sb ct.o u q)
  obtain ⟨em,eu⟩:=ae (fun u (q:aq y u)=>cj.o u (Q0.o.trans ((bt Q8.o q).mono Q0.o.size))) (fun u (q:aq y u)=>e4.o u (Q0.o.trans ((bt Q8.o q).mono Q0.o.size)))
  have bh:=es.o
  have tl:=fun u (q:aq y u)=>Mo (Mf ct.o) q.size
  have q:=(br y).drew
  refine XA.g 13 (fun u:World=>aq y u) ?_
  refine XA.t ?_ [1,2,5,6,8,9,10] q ?_
  obtain ⟨U,hU⟩:∃U,y.drew=U:=⟨_,rfl⟩
  rw [hU] at q ⊢
  clear hU
  repeat' first
   | (refine XA.three 0 4 12 ?_ ?_ ?_)
   | (refine XA.three 3 4 12 ?_ ?_ ?_)
   | (refine XA.two 0 4 ?_ ?_)
   | (refine XA.two 0 12 ?_ ?_)
   | (refine XA.two 3 4 ?_ ?_)
   | (refine XA.two 3 12 ?_ ?_)
   | (refine XA.two 4 12 ?_ ?_)
   | (refine XA.two 7 12 ?_ ?_)
   | (refine XA.sole 0 ?_)
   | (refine XA.sole 3 ?_)
   | (refine XA.sole 4 ?_)
   | (refine XA.sole 7 ?_)
   | (refine XA.sole 12 ?_)
   | (refine XAS.v (i:=0) (U.alloc (.cells #[] 106)) (.slice (some (ar U.heap.size 0)) 0 0) (q.alloc q.size _) ?_;have nM:(U.alloc (.cells #[] 106)).ownsRow y.heap.size 106 22 (.slice (some (ar U.heap.size 0)) 0 0) 0 []:=aE (et U 106 22) q.size;have B:=(br U).alloc (Mg _) (.cells #[] 106);obtain ⟨V,hv⟩:∃V,U.alloc (.cells #[] 106)=V:=⟨_,rfl⟩;rw [hv] at nM B ⊢;clear hv;(try replace oM:=ay oM B);(try replace oL:=ay oL B);(try replace A:=sb A _ B);replace q:=bt q B;have oM:=nM;obtain ⟨bM,d2⟩:∃b,U.heap.size=b:=⟨_,rfl⟩;rw [d2] at oM ⊢;clear nM B d2;obtain ⟨U,rfl⟩:∃U,U=V:=⟨_,rfl⟩)
   | (refine XAS.v (i:=4) (U.alloc (.cells #[] 75)) (.slice (some (ar U.heap.size 0)) 0 0) (q.alloc q.size _) ?_;have nL:(U.alloc (.cells #[] 75)).ownsRow y.heap.size 75 4 (.slice (some (ar U.heap.size 0)) 0 0) 0 []:=aE (et U 75 4) q.size;have B:=(br U).alloc (Mg _) (.cells #[] 75);obtain ⟨V,hv⟩:∃V,U.alloc (.cells #[] 75)=V:=⟨_,rfl⟩;rw [hv] at nL B ⊢;clear hv;(try replace oM:=ay oM B);(try replace oL:=ay oL B);(try replace A:=sb A _ B);replace q:=bt q B;have oL:=nL;obtain ⟨bL,ds⟩:∃b,U.heap.size=b:=⟨_,rfl⟩;rw [ds] at oL ⊢;clear nL B ds;obtain ⟨U,rfl⟩:∃U,U=V:=⟨_,rfl⟩)
   | (refine XAS.v (i:=12) (U.alloc (.cells #[Nf,Nf,Nd 0] 39)) ((au U.heap.size)) (q.alloc q.size _) ?_;have nN:=Mh U (.cells #[Nf,Nf,Nd 0] 39);have lN:=q.size;have B:=(br U).alloc (Mg _) (.cells #[Nf,Nf,Nd 0] 39);obtain ⟨V,hv⟩:∃V,U.alloc (.cells #[Nf,Nf,Nd 0] 39)=V:=⟨_,rfl⟩;rw [hv] at nN B ⊢;clear hv;(try replace oM:=ay oM B);(try replace oL:=ay oL B);(try replace A:=sb A _ B);replace q:=bt q B;have A:=nN;obtain ⟨N,hN⟩:∃b,U.heap.size=b:=⟨_,rfl⟩;rw [hN] at A lN ⊢;clear nN B hN;obtain ⟨U,rfl⟩:∃U,U=V:=⟨_,rfl⟩)
   | (refine XAS.o (i:=3) (fun K' hK=>?_);refine bR HE (.tmp 34) (.tmp 36) rfl rfl y.heap.size (.slice (some (ar bM 0)) 0 0) 0 [] rfl oM AM n cm (dH mv n) rfl (em.o _ q) f5.o ej.o ap (by unfold maxLen;omega) q.size ?_;intro A3 c3 V o3 b3 g3 n3;rw [M6,List.nil_append] at o3;have kG:Keep (fun j=>(Value.slice (some (ar bM 0)) 0 0).ownBlock=some j) U V:=(Keep.refl _ U).grown g3 (fun k hk=>.inr hk);(try replace oL:=kG.own oL (fun j h1 L=>fB oL oM (by decide) j h1 L));(try replace A:=(kG.block _ (Mf A) (fun e=>ax A (by decide) oM e.symm)).trans A);rw [M6];refine hK.out _ _ (q.trans b3) fun _=>?_;replace q:=q.trans b3;clear hK K' n3 g3 b3 kG oM;have oM:=o3;clear o3;obtain ⟨U,rfl⟩:∃U,U=V:=⟨_,rfl⟩)
   | (refine XAS.o (i:=7) (fun K' hK=>?_);refine bR HU (.tmp 38) (.tmp 40) rfl rfl y.heap.size (.slice (some (ar bL 0)) 0 0) 0 [] rfl oL AL n cl (dH lv n) rfl (eu.o _ q) f2.o ei.o ap (by unfold maxLen;omega) q.size ?_;intro A7 c7 V o7 b7 g7 n7;rw [M6,List.nil_append] at o7;have kG:Keep (fun j=>(Value.slice (some (ar bL 0)) 0 0).ownBlock=some j) U V:=(Keep.refl _ U).grown g7 (fun k hk=>.inr hk);(try replace oM:=kG.own oM (fun j h1 L=>fB oM oL (by decide) j h1 L));(try replace A:=(kG.block _ (Mf A) (fun e=>ax A (by decide) oL e.symm)).trans A);rw [M6];refine hK.out _ _ (q.trans b7) fun _=>?_;replace q:=q.trans b7;clear hK K' n7 g7 b7 kG oL;have oL:=o7;clear o7;obtain ⟨U,rfl⟩:∃U,U=V:=⟨_,rfl⟩)
   | (refine XA.t ?_ [11] q ?_)
   | fail
  all_goals
   refine XA.e ?_
   simp only [MH,MI]
   obtain ⟨GN,OM,OL,QQ⟩:=ag A oM oL q;clear A oM oL q t8
   go_wp2_with (refine aH (b:=N) GN.o cN rfl rfl rfl rfl rfl rfl rfl ?_;intro w9 e9 k9;obtain ⟨E9,K9⟩:=ae e9 k9;clear e9 k9)
   go_meet
   exact ⟨N,_,_,_,_,rfl,E9.o,lN,K9.o.own OM.o (fun j h1 L=>ax GN.o (by decide) OM.o (by rw [h1,L])),K9.o.own OL.o (fun j h1 L=>ax GN.o (by decide) OL.o (by rw [h1,L])),QQ.o.trans (K9.o.toBelow QQ.o.size (fun j e=>ap))⟩
 case rest=>
  obtain ⟨N,A3,c3,A7,c7,rfl,A,lN,oM,oL,kc⟩:=hcut
  obtain ⟨gm,cM,eM,_⟩:=oM.form ap
  injection eM with eM _ eM2
  subst eM;subst eM2
  obtain ⟨gl,cL,eL,_⟩:=oL.form ap
  injection eL with eL _ eL2
  subst eL;subst eL2
  have tm:=mU oM Z
  have d7:=sb eS.o _ kc;have d4:=sb cn.o _ kc;have dk:=sb E8.o _ kc;have cc:=sb a7.o _ kc
  have tN:=bx3 A
  have e3:=oM.lt gm rfl;have cd:=oL.lt gl rfl
  have fs:¬(n=0):=ap
  have h1:0<=(x:Int):=ap
  have dG:(m1.toList.drop 0).take m1.toList.length=m1.toList:=by rw [MI,MU]
  have da:(I.toList.drop 0).take I.toList.length=I.toList:=by rw [MI,MU]
  have c6:(v1.toList.drop 0).take v1.toList.length=v1.toList:=by rw [MI,MU]
  obtain ⟨f6,ek,fb,fa,g2,bz,a9,bd⟩:=ak tm d7 d4 dk cc A oM oL;obtain ⟨KC,en,ew,f1,dr,ci⟩:=ai kc dG da c6 e3 cd;clear tm d7 d4 dk cc A oM oL kc dG da c6 e3 cd
  have hI:(prog.info? 106).map (·.size)=some m1.size:=by rw [Z1.o];exact lX.s
  have hJ:m1.all (·.oneCell')=true:=by rw [<-Array.all_toList];exact O1.o
  obtain ⟨HI,HJ⟩:=ae hI hJ;clear hI hJ
  go_upto_region 9 with (first | (refine aK m1 ek.o (by rw [Z1.o];exact lX) rfl rfl rfl en.o ?_) | (refine wpList_store_mid rfl 106 _ _ rfl gm (x*22) m1 rfl rfl (by rw [Z1.o];exact f6.o) HI.o HJ.o ?_))
  have H:=iv m1.toList wc gm (x*22)
  have b0:=oT m1.toList (o:=x*22) a9.o
  have bl:=H.own bd.o (fun j h1 L=>fB bd.o a9.o (by decide) j h1 (by rw [L];rfl))
  have b2:=(H.block N (Mf bz.o) (fun e=>(ax bz.o (by decide) a9.o) (by rw [e];rfl))).trans bz.o
  obtain ⟨W9,dv⟩:∃W9,wc.setCells gm (x*22) m1.toList=W9:=⟨_,rfl⟩
  rw [dv] at H b0 bl b2 ⊢
  have f0:Keep (fun j=>y.heap.size<=j) y W9:=(Keep.below KC.o).trans (H.mono fun j _ e=>by have:=dr.o.1;omega)
  rw [pS ec.o Z1.o O1.o Z] at b0
  have dc:=RWv.upd (x:=x) ec.o Z1.o O1.o
  have q9:aq y W9:=KC.o.trans (H.toBelow KC.o.size (fun j e=>by have:=dr.o.1;omega))
  have co:=sb cn.o _ q9;have cf:=sb E8.o _ q9;have cr:=sb a7.o _ q9
  have ee:=bx3 b2
  obtain ⟨bi,a0,a4,Q9,ef,fi,eB,e2⟩:=ak b0 bl b2 q9 co cf cr dc;clear dv H b0 bl b2 f0 q9 co cf cr dc tN
  by_cases cx:1<n
  ·have d6:(1:Int)<n:=ap
   have dp:(prog.info? 75).map (·.size)=some I.size:=by rw [Z2.o];exact iL.s
   have d1:I.all (·.oneCell')=true:=by rw [<-Array.all_toList];exact O2.o
   have d5:(prog.info? 75).map (·.size)=some v1.size:=by rw [J.o];exact iL.s
   have eb:v1.all (·.oneCell')=true:=by rw [<-Array.all_toList];exact O3.o
   have c8:=mU a0.o bG
   obtain ⟨eG,ev,eV,f3,fd⟩:=ah dp d1 d5 eb c8;clear dp d1 d5 eb c8
   go_upto_region 10 with (fail)
   have ab:((x:Int)+(n:Int)-1).tmod (n:Int)=(p:Int):=by
    rw [<-Hp.o,Int.tmod_eq_emod_of_nonneg ap,Int.natCast_emod,show ((x+n-1:Nat):Int)=(x:Int)+n-1 by omega]
   have cs:((x:Int)+(n:Int)-1)%(n:Int)=(p:Int):=by rw [<-Int.tmod_eq_emod_of_nonneg ap];exact ab
   have h3:0<=(p:Int):=ap
   have h4:(p:Int)<(n:Int):=ap
   have w1:IntKind.i64.wrap ((x:Int)+n)=(x:Int)+n:=Mm _ ap
   have w2:IntKind.i64.wrap ((x:Int)+n-1)=(x:Int)+n-1:=Mm _ ap
   have w3:IntKind.i64.wrap (p:Int)=(p:Int):=Mm _ ap
   have eo:IntKind.i64.wrap (((x:Int)+n-1).tmod n)=(p:Int):=by rw [ab];exact w3
   have w6:IntKind.i64.wrap (((x:Int)+n-1)%n)=(p:Int):=by rw [cs];exact w3
   have tq:=fun u q=>bx3 (sb a4.o u q)
   have tl:=sl a4.o
   have q:=(br W9).drew
   refine XA.g 10 (fun u:World=>aq W9 u) ?_
   refine XA.t ?_ [0,1,2,3,4,5,6,7] q ?_
   refine XA.ld 8 I (fun u q=>sb ef.o u q) (by rw [Z2.o];exact iL) q ?_ (hcs:=ew.o)
   refine XA.t ?_ [9] q ?_
   refine XA.e ?_
   simp only [MH,MI]
   clear tq tl q ab cs h3 h4 w1 w2 w3 eo w6 ee
   go_upto_region 11 with (refine wpList_store_mid rfl 75 _ _ rfl gl (p*4) I rfl rfl (by rw [Z2.o];exact mU a0.o.drew bG) eG.o ev.o ?_)
   have H:=(Keep.refl (fun j=>j=gl) W9).drew.trans (iv I.toList W9.drew gl (p*4))
   have Y:=oT I.toList (o:=p*4) a0.o.drew
   have av:=H.own bi.o (fun j h1 L=>fB bi.o a0.o (by decide) j h1 (by rw [L];rfl))
   have Q:=(H.block N (Mf a4.o) (fun e=>(ax a4.o (by decide) a0.o) (by rw [e];rfl))).trans a4.o
   obtain ⟨aM,b6⟩:∃aM,W9.drew.setCells gl (p*4) I.toList=aM:=⟨_,rfl⟩
   rw [b6] at H av Y Q ⊢
   rw [pS bw.o Z2.o O2.o bG] at Y
   have cw:=RWv.upd (x:=p) bw.o Z2.o O2.o
   have bN:aq y aM:=Q9.o.trans (H.toBelow Q9.o.size (fun j e=>by have:=ci.o.1;omega))
   have bb:=sb E8.o _ bN
   have c9:=bx3 Q
   obtain ⟨b8,O,a8,bV,dw,d3⟩:=ai av Y Q bN bb cw;clear b6 H av Y Q bN bb cw
   go_upto_region 12 with (first | (refine aK v1 dw.o (by rw [J.o];exact iL) rfl rfl rfl f1.o ?_) | (refine wpList_store_mid rfl 75 _ _ rfl gl (x*4) v1 rfl rfl (by rw [J.o];exact mU O.o Z) eV.o f3.o ?_))
   have H:=iv v1.toList aM gl (x*4)
   have T:=oT v1.toList (o:=x*4) O.o
   have ad:=H.own b8.o (fun j h1 L=>fB b8.o O.o (by decide) j h1 (by rw [L];rfl))
   have a6:=(H.block N (Mf a8.o) (fun e=>(ax a8.o (by decide) O.o) (by rw [e];rfl))).trans a8.o
   obtain ⟨bn,b9⟩:∃bn,aM.setCells gl (x*4) v1.toList=bn:=⟨_,rfl⟩
   rw [b9] at H ad T a6 ⊢
   rw [pS d3.o J.o O3.o Z] at T
   have bA:aq y bn:=bV.o.trans (H.toBelow bV.o.size (fun j e=>by have:=ci.o.1;omega))
   obtain ⟨be,bv,eY,f7,Qe⟩:=ah (sb a7.o _ bA) a6 ad T bA;clear b9 H ad T a6 bA c9
   go_wp2_with (first | (refine aK #[.slice (some (ar gm 0)) n c3,.slice (some (ar gl 0)) n c7,Nd ((cnt+1:Nat):Int)] (b:=N) bv.o cN rfl rfl rfl rfl ?_) | (refine aH (b:=w.heap.size+1) be.o cN rfl rfl rfl rfl rfl rfl rfl ?_;intro f8 ao aG;obtain ⟨bI,bo⟩:=ae ao aG;clear ao aG))
   try simp only [Exit.inBlock,Exit.then]
   refine Mu (cH rfl rfl bI.o cN) rfl ?_
   exact .inr ⟨rfl,m1,I,v1,_,rfl,by
    rw [if_pos cx]
    exact wZ HS.o (Q0.o.trans ((show aq W0 D from Q5.o).mono Q0.o.size)) d9.o Qe.o bo.o ap (Mf a7.o) eY.o f7.o e2.o (RWv.upd d3.o J.o O3.o) e5.o HR.o⟩
  ·have d6:¬((1:Int)<n):=ap
   obtain ⟨be,bv⟩:=ae eB.o a4.o;clear ee
   go_wp2_with (first | (refine aK #[.slice (some (ar gm 0)) n c3,.slice (some (ar gl 0)) n c7,Nd ((cnt+1:Nat):Int)] (b:=N) bv.o cN rfl rfl rfl rfl ?_) | (refine aH (b:=w.heap.size+1) be.o cN rfl rfl rfl rfl rfl rfl rfl ?_;intro f8 ao aG;obtain ⟨bI,bo⟩:=ae ao aG;clear ao aG))
   try simp only [Exit.inBlock,Exit.then]
   refine Mu (cH rfl rfl bI.o cN) rfl ?_
   exact .inr ⟨rfl,m1,I,v1,_,rfl,by
    rw [if_neg cx]
    exact wZ HS.o (Q0.o.trans ((show aq W0 D from Q5.o).mono Q0.o.size)) d9.o Q9.o bo.o ap (Mf a7.o) bi.o a0.o e2.o bw.o e5.o HR.o⟩
section
variable {P:Program} {ops:Array Oper} {Q:Exit->Act->World->Prop} {S:World->Prop} {n:Nat}
theorem XAS.c {L:List Nat} {a:Act} {w:World} {i:Nat} {f:FuncId} {args:Array Value} {R:Ending->World->Prop} {o:Oper} (hc:Calls P f args w R)
  (k:∀e p,R e p->∃v,e=.returned v/\S p/\(S p->XA P ops Q S n (i::L) (a.put o.dst v) p)) (u:ops[i]?=some o:=by (simp only [ME,MF,MG];rfl))
  (hw:Region.wanted o (yielded ops a.tmps)=true:=by rfl) (he:(execOp a.eval o).run P w=.ok (.enter f args) w:=by go_simp):XAS P ops Q S n i L a w:=by
 refine ⟨o,u,fun B A=>?_⟩
 rw [if_pos hw]
 unfold Oper.wp
 rw [he]
 refine hc.mono fun e p y=>?_
 obtain ⟨v,rfl,x,h⟩:=k e p y
 exact A.out _ _ x h
end
theorem C8 {w:World} {vs:Array Value} {n cnt:Nat} {mv lv:Nat->Array Value} {dn il:Nat->Nat} {B:Bool} (h:RWv w vs n mv lv cnt) (hn:n<=1000) (hc:∀x,x<n->∃I c,(mv x)[20]?=some (.slice I (il x) c)/\(mv x)[21]?=some (Nd (dn x:Nat))) (hB:B=true↔∀x,x<n->il x<=dn x):
  Calls prog 33 #[.agg vs] w fun e i=>e=.returned (.bool B)/\aq w i:=by
 obtain ⟨⟨Z,cm,AL,cl,rfl,hM,hL, -, -⟩,J,U⟩:=h
 obtain ⟨u,y⟩:∃u,w.alloc (.cells #[.slice Z n cm,.slice AL n cl,Nd (cnt:Nat)] 39)=u:=⟨_,rfl⟩
 have V:u.heap[w.heap.size]?=some (.cells #[.slice Z n cm,.slice AL n cl,Nd (cnt:Nat)] 39 (0,0)):=by rw [<-y];exact Mh w _
 have C:aq w u:=by rw [<-y];exact (br w).alloc (Mg _) _
 have t0:=fun i q=>bx3 (sb V i q)
 have tl:=sl V
 have p:∀x,x<n->∃b o I c,Z=some (ar b o)/\(∀i,aq u i->i.cell? (ar b (o+x*22+20))=some (.slice I (il x) c))/\∀i,aq u i->i.cell? (ar b (o+x*22+21))=some (Nd (dn x:Nat)):=fun x O=>by
  obtain ⟨b,o,e,hr⟩:=jU hM (fun x O=>(J x O).1) (by decide) O
  obtain ⟨I,c,h1,h2⟩:=hc x O
  have c1:=hr 20 _ (by rw [Array.getElem?_toList];exact h1)
  have c2:=hr 21 _ (by rw [Array.getElem?_toList];exact h2)
  exact ⟨b,o,I,c,e,fun i q=>(World.cell?_of_block ((C.trans (q.mono C.size)).block _ (az c1))).trans c1,fun i q=>(World.cell?_of_block ((C.trans (q.mono C.size)).block _ (az c2))).trans c2⟩
 obtain ⟨HC,HB,T,Q⟩:=ag p hB y C
 have q:=br u
 clear p hB y C V hM hL J U hc
 go_enter func33,ntmps33
 go_wp2_with fail
 rw [T.o]
 go_loopw [3] (fun v wr=>∃k:Nat,k<=n/\v=Nd k/\(∀j,j<k->il j<=dn j)/\aq u wr) (fun v _=>n-(intOf v).toNat)
 case atStart=>exact ⟨0,Mk _,rfl,fun j hj=>absurd hj (Nat.not_lt_zero j),q⟩
 case round=>
  clear q
  obtain ⟨k,hk,rfl,A,q⟩:=hrel
  have N:=aa A;clear A
  by_cases D:k<n
  ·have R:(k:Int)<n:=ap
   have a0:0<=(k:Int):=ap
   obtain ⟨b,o,I,c,rfl,c1,c2⟩:=HC.o k D
   by_cases L:il k<=dn k
   ·have hd:¬((dn k:Int)<il k):=ap
    go_upto_region 4 with (fail)
    refine HA.g (fun i:World=>aq u i) ?_
    refine HA.t ?_ [0,1,2,3,4,5,6,7,8,9,10,11,12,13] q.drew ?_
    refine HA.d ?_
    have H:=aa q.drew;clear c1 c2 q
    go_wp2_with fail
    go_roundw
    case rel=>
     refine ⟨k+1,by omega,by go_num,fun j hj=>?_,H.o⟩
     rcases Mv j k with h1 | h1
     ·exact N.o j h1
     ·obtain rfl:j=k:=ap
      exact L
    case measure=>simp [intOf];omega
   ·have hd:(dn k:Int)<il k:=ap
    go_upto_region 4 with (fail)
    refine HA.g (fun i:World=>aq u i) ?_
    refine HA.t ?_ [0,1,2,3,4,5,6,7,8,9,10,11,12,13] q.drew ?_
    refine HA.d ?_
    have H:=aa q.drew;clear c1 c2 q
    go_wp2_with fail
    go_ret
    have Y:B=false:=by
     cases hBB:B with
     | false=>rfl
     | true=>exact absurd (HB.o.1 hBB k D) L
    exact ⟨by rw [Y];rfl,Q.o.trans (H.o.mono Q.o.size)⟩
  ·obtain rfl:k=n:=ap
   have H:=aa q
   have R:¬((k:Int)<k):=ap
   go_wp2_with fail
   go_ret
   exact ⟨by rw [HB.o.2 N.o];rfl,Q.o.trans (H.o.mono Q.o.size)⟩
def LF {σ:Type} (J:World->Array Value->σ->Prop) (S:Nat->Prop) (s:σ) (k:Nat) (w:World) (e:Ending) (i:World):Prop:=
 ∃h:Array Value,e=.returned (.tuple #[.agg h,Nd (k:Nat)])/\h.size=3/\h.toList.all (·.oneCell')=true/\J (aF S i) h s/\aq w i
def J9 {σ:Type} (J:World->Array Value->σ->Prop) (S:Nat->Prop) (s:σ) (b:Bool) (w:World) (e:Ending) (i:World):Prop:=
 ∃h:Array Value,e=.returned (.tuple #[.agg h,.bool b])/\h.size=3/\h.toList.all (·.oneCell')=true/\J (aF S i) h s/\aq w i
theorem Fj {σ:Type} {st:σ->Int->σ×Bool} {J:World->Array Value->σ->Prop} {S:Nat->Prop} {A:Option Addr} {c:Nat} {l:List Int} {s:σ} {w:World} {vs:Array Value} (hS:∀k,S k->k<w.heap.size) (hl:l.length<=1000000) (hA:Rd w A (aB .i64 l)) (hJ:∀u v vs s,J u vs s->Ext u v->J v vs s)
  (hp:∀(S:Nat->Prop) w vs s z,(∀k,S k->k<w.heap.size)->J (aF S w) vs s->z∈l->Calls prog 16 #[.agg vs,Nd z] w (J9 J S (st s z).1 (st s z).2 w)) (h0:J (aF S w) vs s) (hz:vs.size=3) (ho:vs.toList.all (·.oneCell')=true):
  Calls prog 20 #[.agg vs,.slice A l.length c] w (LF J S (kU st s l).1 (kU st s l).2 w):=by
 obtain ⟨n,hn⟩:∃n,l.length=n:=⟨_,rfl⟩
 rw [hn] at hl ⊢
 obtain ⟨W0,B⟩:∃W0,(w.alloc (.cells vs 39)).alloc (.cells #[Nf,Nf,Nd 0] 39)=W0:=⟨_,rfl⟩
 have g0:W0.heap[w.heap.size]?=some (.cells vs 39 (0,0)):=by rw [<-B];exact sb (Mh w _) _ ((br _).alloc (Mg _) _)
 have g1:W0.heap[w.heap.size+1]?=some (.cells #[Nf,Nf,Nd 0] 39 (0,0)):=by rw [<-B];have:=Mh (w.alloc (.cells vs 39)) (.cells #[Nf,Nf,Nd 0] 39);rwa [Mw] at this
 have q0:aq w W0:=by rw [<-B];exact ((br w).alloc (Mg _) _).alloc (by rw [Mw];omega) _
 have a1:W0.heap.size=w.heap.size+2:=by rw [<-B];simp
 have j0:J (aF (fun k=>S k\/k=w.heap.size\/k=w.heap.size+1) W0) vs s:=hJ _ _ _ _ h0 (bQ (Keep.below q0) fun k hk e=>e.elim id fun e=>ap)
 obtain ⟨ad,HP,HJ,Hn,ao,G0,G1,Q0⟩:=ak hA hp hJ hn B g0 g1 q0;obtain ⟨J0,HZ,HO,HS,a7⟩:=ah j0 hz ho hS a1;clear hA hp hJ h0 hn B g0 g1 q0 j0 hz ho hS a1
 go_enter func20,ntmps20
 go_wp2_with fail
 rw [ao.o]
 go_loopw [6,7] (fun v i wr=>∃k:Nat,k<=n/\i=Nd k/\v=Nd ((kU st s (l.take k)).2:Nat)/\∃x,wr.heap[w.heap.size]?=some (.cells x 39 (0,0))/\wr.heap[w.heap.size+1]?=some (.cells #[Nf,Nf,Nd 0] 39 (0,0))/\x.size=3/\x.toList.all (·.oneCell')=true/\J (aF (fun k=>S k\/k=w.heap.size\/k=w.heap.size+1) wr) x (kU st s (l.take k)).1/\aq w wr/\w.heap.size+2<=wr.heap.size) (fun _ i _=>n-(intOf i).toNat)
 case atStart=>exact ⟨0,Mk _,rfl,rfl,vs,G0.o,G1.o,HZ.o,HO.o,J0.o,Q0.o,by rw [a7.o];omega⟩
 case round=>
  obtain ⟨k,hk,rfl,rfl,x,gx,gy,zz,oo,jj,qq,ss⟩:=hrel
  obtain ⟨GX,GY,ZZ,OO,JJ,QQ⟩:=ai gx gy zz oo jj qq;clear gx gy zz oo jj qq
  by_cases a8:k<n
  ·have O:k<l.length:=by rw [Hn.o];exact a8
   obtain ⟨b,o,rfl,p⟩:=(ad.o.below QQ.o).num O
   have aG:(k:Int)<n:=ap
   have aM:0<=(k:Int):=ap
   have a9:=vn st s l k
   obtain ⟨M,hM⟩:∃M,kU st s (l.take k)=M:=⟨_,rfl⟩
   have a4:kU st s (l.take (k+1))=((st M.1 (nth l k)).1,M.2+if (st M.1 (nth l k)).2 then 1 else 0):=by
    rw [List.take_add_one,ML O,Option.toList_some,pP,hM,du _ _ O]
   rw [hM] at JJ a9 ⊢
   have Z:nth l k∈l:=by rw [du _ _ O];exact List.getElem_mem O
   obtain ⟨HX,HM,T⟩:=af a4 hM Z
   have p':=fun w' (q:aq wr w')=>(World.cell?_of_block (q.block b (az p))).trans p
   have P':=aa p';clear a4 hM Z p p'
   go_upto_region 5 with (fail)
   go_cut [8,9] (fun v u wx=>∃N h,v=(au N)/\u=.bool (st M.1 (nth l k)).2/\wx.heap[N]?=some (.cells h 39 (0,0))/\wr.heap.size<=N/\h.size=3/\h.toList.all (·.oneCell')=true/\J (aF (fun k=>S k\/k=w.heap.size\/k=w.heap.size+1) wx) h (st M.1 (nth l k)).1/\aq wr wx)
   case first=>
    have p':=P'.o
    have s0:=(br wr).drew
    have j1:=HJ.o _ _ _ _ JJ.o (bQ (S':=(fun k=>S k\/k=w.heap.size\/k=w.heap.size+1)) ((Keep.refl (fun k=>S k\/k=w.heap.size\/k=w.heap.size+1) wr).drew) (fun _ _ e=>e))
    have tl:=fun w' (q:aq wr w')=>Mo (Mf GX.o) q.size
    refine XA.g 10 (fun w':World=>aq wr w') ?_
    refine XA.ld 0 x (fun w' q=>sb GX.o w' q) (by rw [ZZ.o];exact cN) s0 ?_ (hcs:=by rw [MI,MU])
    refine XA.t ?_ [1,2,3,4] s0 ?_
    have Q:∀k,(fun k=>S k\/k=w.heap.size\/k=w.heap.size+1) k->k<wr.heap.size:=fun k e=>by
     rcases e with e | e | e
     ·have:=HS.o k e;omega
     ·omega
     ·omega
    refine XA.two 5 9 ?_ ?_
    ·refine XAS.c (HP.o (fun k=>S k\/k=w.heap.size\/k=w.heap.size+1) wr.drew x M.1 (nth l k) Q j1 T.o) ?_
     rintro e V ⟨h,rfl,z2,Y,j2,k6⟩
     have y:=bt s0 k6
     refine ⟨_,rfl,y,fun _=>?_⟩
     refine XA.t ?_ [6,7] y ?_
     refine XA.t0 ?_ [8] y ?_
     refine XA.v 9 (V.alloc (.cells #[Nf,Nf,Nd 0] 39)) ((au V.heap.size)) (y.alloc y.size _) ?_
     refine XA.e ?_
     simp only [MH,MI]
     obtain ⟨GN,S6,J2,C,R⟩:=ah (Mh V (.cells #[Nf,Nf,Nd 0] 39)) y j2 z2 Y;clear j2 z2 Y y k6 p' s0 j1 tl Q
     go_wp2_with (refine aH (b:=V.heap.size) GN.o cN rfl rfl rfl rfl C.o (by rw [C.o];rfl) R.o ?_;intro w7 H I;obtain ⟨U,D⟩:=ae H I;clear H I)
     go_meet
     have a6:aq V w7:=((br V).alloc (Mg _) _).trans (D.o.toBelow (by rw [Mw];omega) (fun j e=>ap))
     exact ⟨V.heap.size,h,rfl,rfl,U.o,S6.o.size,C.o,R.o,HJ.o _ _ _ _ J2.o (jl a6),S6.o.trans (a6.mono S6.o.size)⟩
    ·refine XAS.v (wr.drew.alloc (.cells #[Nf,Nf,Nd 0] 39)) ((au wr.drew.heap.size)) (s0.alloc (Mg _) _) ?_
     have s5:aq wr (wr.drew.alloc (.cells #[Nf,Nf,Nd 0] 39)):=s0.alloc (Mg _) _
     have gN:=Mh wr.drew (.cells #[Nf,Nf,Nd 0] 39)
     have a3:(wr.drew.alloc (.cells #[Nf,Nf,Nd 0] 39)).heap.size=wr.heap.size+1:=by simp
     have j5:=HJ.o _ _ _ _ j1 (bQ (S':=fun k=>(fun k=>S k\/k=w.heap.size\/k=w.heap.size+1) k\/k=wr.heap.size) (Keep.below ((br wr.drew).alloc (Mg _) (.cells #[Nf,Nf,Nd 0] 39))) (fun k hk e=>e.elim id (fun e=>absurd hk (by rw [MV];omega))))
     refine XA.c 5 (HP.o (fun k=>(fun k=>S k\/k=w.heap.size\/k=w.heap.size+1) k\/k=wr.heap.size) _ x M.1 (nth l k) (fun k e=>by
      rw [a3]
      rcases e with e | e
      ·have:=Q k e;omega
      ·omega) j5 T.o) ?_
     rintro e V ⟨h,rfl,z2,Y,j2,k6⟩
     have y:=bt s5 k6
     refine ⟨_,rfl,y,fun _=>?_⟩
     refine XA.t ?_ [6,7] y ?_
     refine XA.t0 ?_ [8] y ?_
     refine XA.e ?_
     simp only [MH,MI]
     obtain ⟨GN,S6,J2,C,R⟩:=ah (sb gN _ k6) y j2 z2 Y;clear j2 z2 Y y k6 p' s0 j1 tl Q s5 gN a3 j5
     go_wp2_with (refine aH (b:=wr.heap.size) GN.o cN rfl rfl rfl rfl C.o (by rw [C.o];rfl) R.o ?_;intro w7 H I;obtain ⟨U,D⟩:=ae H I;clear H I)
     go_meet
     exact ⟨wr.heap.size,h,rfl,rfl,U.o,Mg _,C.o,R.o,HJ.o _ _ _ _ J2.o (bQ (D.o.mono fun k _ e=>.inr e) (fun k _ e=>.inl e)),S6.o.trans (D.o.toBelow S6.o.size (fun j e=>ap))⟩
   case rest=>
    obtain ⟨N,h,rfl,rfl,gN,lN,z2,Y,j2,kc⟩:=hcut
    obtain ⟨GN,C,R,J2,KC,ab,a0⟩:=aj gN z2 Y j2 kc (sb GX.o wc kc) (sb GY.o wc kc)
    have L:(h.toList.drop 0).take h.toList.length=h.toList:=by rw [MI,MU]
    have EM:=aa L;clear gN z2 Y j2 kc L
    have w1:IntKind.i64.wrap ((M.2:Int)+1)=(M.2:Int)+1:=Mm _ ap
    have w2:IntKind.i64.wrap ((k:Int)+1)=(k:Int)+1:=Mm _ ap
    go_upto_region 7 with (first | (refine aK h GN.o (by rw [C.o];exact cN) rfl rfl rfl EM.o ?_) | (refine aH (b:=w.heap.size) ab.o cN rfl rfl rfl rfl C.o (by rw [C.o,ZZ.o]) R.o ?_;intro w7 H I;obtain ⟨U,D⟩:=ae H I;clear H I))
    have a2:=aa ((D.o.block _ (Mf a0.o) ap).trans a0.o)
    have qc:=QQ.o.trans (KC.o.mono (by have:=QQ.o.size;omega))
    have Q7:=aa (qc.trans (D.o.toBelow qc.size (fun j e=>ap)))
    have J7:=aa (HJ.o _ _ _ _ J2.o (bQ (S':=(fun k=>S k\/k=w.heap.size\/k=w.heap.size+1)) (D.o.mono fun k _ e=>.inr (.inl e)) (fun _ _ e=>e)))
    have a5:w.heap.size+2<=w7.heap.size:=by have:=KC.o.size;have:=D.o.size;omega
    clear qc
    cases hb:(st M.1 (nth l k)).2 with
    | true=>
     have HB:=aa hb;clear hb
     go_wp2_with fail
     go_roundw
     case rel=>exact ⟨k+1,by omega,by go_num,by rw [HX.o,HB.o];simp,h,U.o,a2.o,C.o,R.o,by rw [HX.o];exact J7.o,Q7.o,a5⟩
     case measure=>simp [intOf];omega
    | false=>
     have HB:=aa hb;clear hb
     go_wp2_with fail
     go_roundw
     case rel=>exact ⟨k+1,by omega,by go_num,by rw [HX.o,HB.o];simp,h,U.o,a2.o,C.o,R.o,by rw [HX.o];exact J7.o,Q7.o,a5⟩
     case measure=>simp [intOf];omega
  ·obtain rfl:k=n:=ap
   have ht:l.take k=l:=by rw [<-Hn.o,MU]
   have HT:=aa ht
   have L:(x.toList.drop 0).take x.toList.length=x.toList:=by rw [MI,MU]
   have EM:=aa L
   have av:¬((k:Int)<k):=ap
   clear ht L
   go_wp2_with (first | (refine aK x GX.o (by rw [ZZ.o];exact cN) rfl rfl rfl EM.o ?_) | (refine aH (b:=w.heap.size+1) GY.o cN rfl rfl rfl rfl ZZ.o (by rw [ZZ.o];rfl) OO.o ?_;intro w7 H I;obtain ⟨U,D⟩:=ae H I;clear H I))
   try simp only [Exit.inBlock,Exit.then]
   refine Mu (cH rfl rfl U.o (by rw [ZZ.o];exact cN)) rfl ?_
   refine ⟨x,by rw [HT.o];rfl,ZZ.o,OO.o,?_,QQ.o.trans (D.o.toBelow QQ.o.size (fun j e=>ap))⟩
   have:=JJ.o
   rw [HT.o] at this
   exact HJ.o _ _ _ _ this (bQ (D.o.mono fun k _ e=>.inr (.inr e)) (fun _ _ e=>.inl e))
theorem mK:cR prog 29 15:=⟨⟨_,underlying29,rfl⟩,by kernel_rfl⟩
theorem LC {m:Array Value} (h:m.size=22):∃U a1 V N Q O T L J R v x D I p y u A o C H B,m=#[U,a1,V,N,Q,O,T,L,J,R,v,x,D,I,p,y,u,A,o,C,H,B]:=by
 obtain ⟨l⟩:=m
 have i:l.length=22:=h
 clear h
 obtain _ | ⟨U,l⟩:=l
 ·simp at i
 obtain _ | ⟨a1,l⟩:=l
 ·simp at i
 obtain _ | ⟨V,l⟩:=l
 ·simp at i
 obtain _ | ⟨N,l⟩:=l
 ·simp at i
 obtain _ | ⟨Q,l⟩:=l
 ·simp at i
 obtain _ | ⟨O,l⟩:=l
 ·simp at i
 obtain _ | ⟨T,l⟩:=l
 ·simp at i
 obtain _ | ⟨L,l⟩:=l
 ·simp at i
 obtain _ | ⟨J,l⟩:=l
 ·simp at i
 obtain _ | ⟨R,l⟩:=l
 ·simp at i
 obtain _ | ⟨v,l⟩:=l
 ·simp at i
 obtain _ | ⟨x,l⟩:=l
 ·simp at i
 obtain _ | ⟨D,l⟩:=l
 ·simp at i
 obtain _ | ⟨I,l⟩:=l
 ·simp at i
 obtain _ | ⟨p,l⟩:=l
 ·simp at i
 obtain _ | ⟨y,l⟩:=l
 ·simp at i
 obtain _ | ⟨u,l⟩:=l
 ·simp at i
 obtain _ | ⟨A,l⟩:=l
 ·simp at i
 obtain _ | ⟨o,l⟩:=l
 ·simp at i
 obtain _ | ⟨C,l⟩:=l
 ·simp at i
 obtain _ | ⟨H,l⟩:=l
 ·simp at i
 obtain _ | ⟨B,l⟩:=l
 ·simp at i
 obtain _ | ⟨b,l⟩:=l
 ·exact ⟨U,a1,V,N,Q,O,T,L,J,R,v,x,D,I,p,y,u,A,o,C,H,B,rfl⟩
 ·simp at i
theorem Fp {H O y J L B N D A I i u v h p:Value} {C:Int} {w:World} (hC:C≠0)
  (R:∀Q,aq w Q->Calls prog 18 #[.agg #[H,O,y,J,L,B,N,D,A,I,i,u,v,h,p]] Q fun e V=>e=.returned (Nd C)/\aq Q V):
  Calls prog 14 #[.agg #[H,O,y,J,L,B,N,D,A,I,i,u,v,h,p]] w fun e Q=>e=.returned (.tuple #[.agg #[Nf,Nf,Nd 0],Nd C])/\aq w Q:=by
 obtain ⟨W1,x⟩:∃W1,(w.alloc (.cells #[H,O,y,J,L,B,N,D,A,I,i,u,v,h,p] 29)).alloc (.cells #[Nf,Nf,Nd 0] 39)=W1:=⟨_,rfl⟩
 have g0:W1.heap[w.heap.size]?=some (.cells #[H,O,y,J,L,B,N,D,A,I,i,u,v,h,p] 29 (0,0)):=by rw [<-x];exact sb (Mh w _) _ ((br _).alloc (Mg _) _)
 have g1:W1.heap[w.heap.size+1]?=some (.cells #[Nf,Nf,Nd 0] 39 (0,0)):=by rw [<-x];have:=Mh (w.alloc (.cells #[H,O,y,J,L,B,N,D,A,I,i,u,v,h,p] 29)) (.cells #[Nf,Nf,Nd 0] 39);rwa [Mw] at this
 have q0:aq w W1:=by rw [<-x];exact ((br w).alloc (Mg _) _).alloc (by rw [Mw];omega) _
 have tl:=sl g1
 obtain ⟨Z,T,G0,G1,U⟩:=ah R x g0 g1 q0
 have a0:(C != 0)=true:=by rw [bne_iff_ne];exact hC
 clear R x g0 g1 q0
 go_enter func14,ntmps14
 go_wp2_with (refine aK #[H,O,y,J,L,B,N,D,A,I,i,u,v,h,p] (b:=w.heap.size) (by rw [T.o];exact G0.o) mK rfl rfl rfl rfl ?_)
 rw [T.o]
 refine (Z.o _ U.o).mono ?_
 rintro e w2 ⟨rfl,Y⟩
 obtain ⟨H2,K2⟩:=ae (sb G1.o _ Y) Y;clear Y
 go_wp2_with (refine aH (b:=w.heap.size+1) H2.o cN rfl rfl rfl rfl rfl rfl rfl ?_;intro w3 e3 k3;obtain ⟨E3,K3⟩:=ae e3 k3;clear e3 k3)
 try simp only [Exit.inBlock,Exit.then]
 refine Mu (cH rfl rfl E3.o cN) rfl ?_
 exact ⟨rfl,(U.o.trans (K2.o.mono U.o.size)).trans (K3.o.toBelow (by have h1:=U.o.size;have h2:=K2.o.size;(try simp only [World.size_alloc] at h1 h2 ⊢);omega) (fun j e=>ap))⟩
theorem fU {S T:Nat->Prop} {a b c:World} (h:Keep S a b) (k:Keep T b c) (hs:∀j,j<a.heap.size->T j->S j):Keep S a c:=
 ⟨k.os.trans h.os,k.tape.trans h.tape,k.output.trans h.output,Mn h.size k.size,fun i o hn=>(k.block i (Mo o h.size) (fun e=>hn (hs i o e))).trans (h.block i o hn)⟩
structure IP (Rm:Nat->Array Value->World->Prop) (w:World) (X cap k:Nat) (wr:World) (mv:Nat->Array Value) (AM AL:Option Addr) (cm cl:Nat):Prop where
 box:wr.heap[X]?=some (.cells #[.slice AM k cm,.slice AL k cl,Nd 0] 39 (0,0))
 oM:wr.ownsRow (X+1) 106 22 (.slice AM k cm) k (dH mv k)
 oL:wr.ownsRow (X+1) 75 4 (.slice AL k cl) k (dH (fun _=>#[Nd (cap:Nat),Nf,Nd 0,Nd 0]) k)
 sm:∀x,x<k->(mv x).size=22/\(mv x).toList.all (·.oneCell')=true
 g:∀x,x<k->∀w2,Keep (fun j=>j=w.heap.size+1\/j=X\/lR (.slice AM k cm) (.slice AL k cl) j) wr w2->Rm x (mv x) w2
 lo:w.heap.size+2<=X
 q:aq w wr
def LG (S:Nat->Prop) (Rm:Nat->Array Value->World->Prop) (N cap:Nat) (w:World) (e:Ending) (h:World):Prop:=
 ∃(vs':Array Value) (mv:Nat->Array Value),e=.returned (.tuple #[.agg vs',Nd 0])/\RWv (aF S h) vs' N mv (fun _=>#[Nd (cap:Nat),Nf,Nd 0,Nd 0]) 0/\(∀x,x<N->Rm x (mv x) h)/\aq w h
theorem Fo {S:Nat->Prop} {Rm:Nat->Array Value->World->Prop} {i0 i1 i2 i3 i5 i6 i7 i8 i9 U ab T L:Value} {N cap:Nat} {w:World} (hS:∀k,S k->k<w.heap.size) (hN:N<=1000) (cr:cap<=1048576)
  (c7:∀i,aq w i->Calls prog 18 #[.agg #[i0,i1,i2,i3,Nd (N:Nat),i5,i6,i7,i8,i9,U,Nd (cap:Nat),ab,T,L]] i fun e b5=>e=.returned (Nd 0)/\aq i b5)
  (hm:∀k i,k<N->aq w i->Calls prog 46 #[.agg #[i0,i1,i2,i3,Nd (N:Nat),i5,i6,i7,i8,i9,U,Nd (cap:Nat),ab,T,L],Nd (k:Nat)] i fun e b5=>∃m:Array Value,e=.returned (.tuple #[.agg m,Nd 0])/\(m.size=22/\m.toList.all (·.oneCell')=true)/\aq i b5/\∀p,aq w p->Keep (fun j=>j<i.heap.size) b5 p->Rm k m p):
  Calls prog 14 #[.agg #[i0,i1,i2,i3,Nd (N:Nat),i5,i6,i7,i8,i9,U,Nd (cap:Nat),ab,T,L]] w (LG S Rm N cap w):=by
 obtain ⟨W1,ao⟩:∃W1,(w.alloc (.cells #[i0,i1,i2,i3,Nd (N:Nat),i5,i6,i7,i8,i9,U,Nd (cap:Nat),ab,T,L] 29)).alloc (.cells #[Nf,Nf,Nd 0] 39)=W1:=⟨_,rfl⟩
 have g0:W1.heap[w.heap.size]?=some (.cells #[i0,i1,i2,i3,Nd (N:Nat),i5,i6,i7,i8,i9,U,Nd (cap:Nat),ab,T,L] 29 (0,0)):=by rw [<-ao];exact sb (Mh w _) _ ((br _).alloc (Mg _) _)
 have g1:W1.heap[w.heap.size+1]?=some (.cells #[Nf,Nf,Nd 0] 39 (0,0)):=by rw [<-ao];have:=Mh (w.alloc (.cells #[i0,i1,i2,i3,Nd (N:Nat),i5,i6,i7,i8,i9,U,Nd (cap:Nat),ab,T,L] 29)) (.cells #[Nf,Nf,Nd 0] 39);rwa [Mw] at this
 have q0:aq w W1:=by rw [<-ao];exact ((br w).alloc (Mg _) _).alloc (by rw [Mw];omega) _
 have bN:W1.heap.size=w.heap.size+2:=by rw [<-ao];simp
 have t4:∀i,aq W1 i->i.cell? (ar w.heap.size 4)=some (Nd (N:Nat)):=fun i q=>Mi i w.heap.size 4 _ _ _ (sb g0 i q)
 have cx:∀i,aq W1 i->i.cell? (ar w.heap.size 11)=some (Nd (cap:Nat)):=fun i q=>Mi i w.heap.size 11 _ _ _ (sb g0 i q)
 have tl:=sl g1
 obtain ⟨co,Hm,bO,G0,G1,Q0,HS,aR⟩:=ak c7 hm ao g0 g1 q0 hS bN
 have q1:=br W1
 clear c7 hm ao g0 g1 q0 hS bN
 go_enter func14,ntmps14
 go_wp2_with (refine aK #[i0,i1,i2,i3,Nd (N:Nat),i5,i6,i7,i8,i9,U,Nd (cap:Nat),ab,T,L] (b:=w.heap.size) (by rw [bO.o];exact G0.o) mK rfl rfl rfl rfl ?_)
 rw [bO.o]
 refine (co.o _ Q0.o).mono ?_
 rintro e p ⟨rfl,k2⟩
 have q2:=bt q1 k2
 clear k2
 go_wp2_with fail
 obtain ⟨X,hX⟩:∃X,p.heap.size=X:=⟨_,rfl⟩
 obtain ⟨W3,bd⟩:∃W3,p.alloc (.cells #[Nf,Nf,Nd 0] 39)=W3:=⟨_,rfl⟩
 have g3:W3.heap[X]?=some (.cells #[Nf,Nf,Nd 0] 39 (0,0)):=by rw [<-bd,<-hX];exact Mh p _
 have q3:aq W1 W3:=by rw [<-bd];exact q2.alloc q2.size _
 have gX:w.heap.size+2<=X:=by rw [<-hX,<-aR.o];exact q2.size
 have m3:IP Rm w X cap 0 W3 (fun _=>#[]) none none 0 0:=⟨g3,Ms ..,Ms ..,fun x hx=>absurd hx (Nat.not_lt_zero _),fun x hx=>absurd hx (Nat.not_lt_zero _),gX,Q0.o.trans (q3.mono Q0.o.size)⟩
 rw [hX,bd]
 obtain ⟨M3,Q3⟩:=ae m3 q3;clear m3 g3 bd hX q2 q1 q3
 go_loopw [6] (fun v wr=>∃k:Nat,k<=N/\v=Nd k/\∃mv AM AL cm cl,IP Rm w X cap k wr mv AM AL cm cl/\aq W1 wr) (fun v _=>N-(intOf v).toNat)
 case atStart=>exact ⟨0,Mk _,rfl,_,_,_,_,_,M3.o,Q3.o⟩
 case round=>
  obtain ⟨k,hk,rfl,mv,AM,AL,cm,cl,m,q⟩:=hrel
  have h:=aa m
  have tb:=bx3 m.box
  have bv:=Mf m.box
  have QR:=aa q;clear m
  by_cases cb:k<N
  ·have d2:(k:Int)<N:=ap
   have cs:IntKind.i64.wrap ((k:Int)+1)=(k:Int)+1:=Mm _ ap
   go_wp2_with (refine aK #[i0,i1,i2,i3,Nd (N:Nat),i5,i6,i7,i8,i9,U,Nd (cap:Nat),ab,T,L] (b:=w.heap.size) (sb G0.o _ QR.o) mK rfl rfl rfl rfl ?_)
   refine (Hm.o k wr cb h.o.q).mono ?_
   rintro e w5 ⟨m1,rfl,⟨z,o⟩,k5,hR⟩
   obtain ⟨a0,a1,a2,a3,a4,a5,a6,a7,a8,a9,D,I,H,Z,B,Y,C,V,A,Q,R,J,rfl⟩:=LC z
   obtain ⟨O,K5,HR⟩:=af o k5 hR;clear z o hR k5 tb q
   go_upto_region 9 with (refine aH (Mh _ _) lX rfl rfl rfl rfl rfl rfl O.o ?_;intro w6 e6 k6;obtain ⟨E6,K6⟩:=ae e6 (aO k6);clear e6 k6)
   have k6:=bt K5.o K6.o
   have b6:=sb h.o.box w6 k6
   have ci:=bx3 b6
   obtain ⟨B6,bo,bG⟩:=af b6 (ay h.o.oM k6) (ay h.o.oL k6)
   have cw:=k6.size;have b4:=aa k6
   clear b6 k6
   go_wp2_with (first | (refine aK #[a0,a1,a2,a3,a4,a5,a6,a7,a8,a9,D,I,H,Z,B,Y,C,V,A,Q,R,J] E6.o lX rfl rfl rfl rfl ?_) | (at_builtin;refine dy HE _ rfl (.tmp 29) (.tmp 31) rfl (X+1) (.slice AM k cm) k _ rfl (bo.o.alloc _) (some (ar w6.heap.size 0)) 1 1 #[a0,a1,a2,a3,a4,a5,a6,a7,a8,a9,D,I,H,Z,B,Y,C,V,A,Q,R,J].toList rfl (dB w6 _ _ w6.heap.size rfl) rfl (fun u hu=>List.all_eq_true.1 O.o u hu) ap (by unfold maxLen;omega) (by simp;omega) ?_))
   intro A2 c2 w7 o7 b7 g7 n7
   have kA:aq w6 (w6.alloc (.cells #[a0,a1,a2,a3,a4,a5,a6,a7,a8,a9,D,I,H,Z,B,Y,C,V,A,Q,R,J] 106)):=(br w6).alloc (Mg _) _
   have bb:w7.heap[X]?=_:=(b7.block X ap).trans (sb B6.o _ kA)
   have kM:Keep (fun j=>(Value.slice AM k cm).ownBlock=some j) w6 w7:=((Keep.refl _ w6).alloc _).grown g7 (fun k hk=>.inr hk)
   have bV:=kM.own bG.o (fun j h1 h2=>fB bG.o bo.o (by decide) j h1 h2)
   have cM:=kM.size
   have cj:=bx3 bb
   have cL:=Mf bb
   obtain ⟨cc,KM,bX,O7,N7⟩:=ah bb kM bV o7 n7;clear kA bb kM bV o7 n7 b7 g7 ci
   go_upto_region 10 with (fail)
   obtain ⟨W8,be⟩:∃W8,w7.setCell (ar X 0) (.slice A2 (k+1) c2)=W8:=⟨_,rfl⟩
   have k8:Keep (fun j=>j=X) w7 W8:=by rw [<-be];exact Keep.setCell (S:=fun j=>j=X) (Keep.refl _ _) _ (.inr rfl) _
   have b8:W8.heap[X]?=some (.cells #[.slice A2 (k+1) c2,.slice AL k cl,Nd 0] 39 (0,0)):=by rw [<-be];exact ss cc.o
   have bM:=k8.own O7.o (fun j h1 h2=>by have:=(O7.o.lt j h1).1;omega)
   have bz:=k8.own bX.o (fun j h1 h2=>by have:=(bX.o.lt j h1).1;omega)
   rw [be]
   have q8:aq W1 W8:=(bt QR.o b4.o).trans ((KM.o.toBelow (by have:=QR.o.size;omega) (fun j e=>by have:=(bo.o.lt j e).1;have:=h.o.lo;have:=aR.o;omega)).trans (k8.toBelow (by have:=QR.o.size;omega) (fun j e=>by have:=h.o.lo;have:=aR.o;omega)))
   have cA:=k8.size
   have d1:=Mf b8
   have cd:=bx3 b8
   obtain ⟨cn,K8,c8,c6,Q8⟩:=ah b8 k8 bM bz q8;clear b8 k8 bM bz be cj
   go_wp2_with (at_builtin;refine dy HU _ rfl (.tmp 35) (.tmp 40) rfl (X+1) (.slice AL k cl) k _ rfl (c6.o.alloc _) (some (ar W8.heap.size 0)) 1 1 #[Nd (cap:Nat),Nf,Nd 0,Nd 0].toList rfl (dB W8 _ _ W8.heap.size rfl) rfl (by simp [Value.oneCell']) ap (by unfold maxLen;omega) (by simp;omega) ?_)
   intro A3 c3 w9 o9 b9 g9 n9
   have kA:aq W8 (W8.alloc (.cells #[Nd (cap:Nat),Nf,Nd 0,Nd 0] 75)):=(br W8).alloc (Mg _) _
   have bf:w9.heap[X]?=_:=(b9.block X ap).trans (sb cn.o _ kA)
   have kL:Keep (fun j=>(Value.slice AL k cl).ownBlock=some j) W8 w9:=((Keep.refl _ W8).alloc _).grown g9 (fun k hk=>.inr hk)
   have bn:=kL.own c8.o (fun j h1 h2=>fB c8.o c6.o (by decide) j h1 h2)
   have d0:=bx3 bf
   have cv:=Mf bf
   have av:Keep (fun j=>j=X) w9 (w9.setCell (ar X 1) (.slice A3 (k+1) c3)):=Keep.setCell (S:=fun j=>j=X) (Keep.refl _ _) _ (.inr rfl) _
   have bh:(w9.setCell (ar X 1) (.slice A3 (k+1) c3)).heap[X]?=some (.cells #[.slice A2 (k+1) c2,.slice A3 (k+1) c3,Nd 0] 39 (0,0)):=ss bf
   have b3:=av.own bn (fun j h1 h2=>by have:=(bn.lt j h1).1;omega)
   have bi:=av.own o9 (fun j h1 h2=>by have:=(o9.lt j h1).1;omega)
   have b0:dH mv k++(#[a0,a1,a2,a3,a4,a5,a6,a7,a8,a9,D,I,H,Z,B,Y,C,V,A,Q,R,J]:Array Value).toList=dH (aZ mv k #[a0,a1,a2,a3,a4,a5,a6,a7,a8,a9,D,I,H,Z,B,Y,C,V,A,Q,R,J]) (k+1):=by
    rw [lh,bJ,wD fun y hy=>(bC (f:=mv) (v:=#[a0,a1,a2,a3,a4,a5,a6,a7,a8,a9,D,I,H,Z,B,Y,C,V,A,Q,R,J]) (show y≠k by omega)).symm]
   have ad:dH (fun _=>#[Nd (cap:Nat),Nf,Nd 0,Nd 0]) k++(#[Nd (cap:Nat),Nf,Nd 0,Nd 0]:Array Value).toList=dH (fun _=>#[Nd (cap:Nat),Nf,Nd 0,Nd 0]) (k+1):=(lh _ _).symm
   have aP:Keep (fun j=>j=w.heap.size+1\/j=X\/lR (.slice AM k cm) (.slice AL k cl) j) wr (w9.setCell (ar X 1) (.slice A3 (k+1) c3)):=
    fU (Keep.below b4.o) (fU (S:=(fun j=>j=w.heap.size+1\/j=X\/lR (.slice AM k cm) (.slice AL k cl) j)) (KM.o.mono fun j _ e=>.inr (.inr (.inl e))) (fU (S:=(fun j=>j=w.heap.size+1\/j=X\/lR (.slice AM k cm) (.slice AL k cl) j)) (K8.o.mono fun j _ e=>.inr (.inl e)) (fU (S:=(fun j=>j=w.heap.size+1\/j=X\/lR (.slice AM k cm) (.slice AL k cl) j)) (kL.mono fun j _ e=>.inr (.inr (.inr e))) (av.mono fun j _ (e:j=X)=>(.inr (.inl e):(fun j=>j=w.heap.size+1\/j=X\/lR (.slice AM k cm) (.slice AL k cl) j) j)) (fun _ _ e=>e)) (fun _ _ e=>e)) (fun _ _ e=>e)) (fun _ _ e=>e)
   have b2:∀j,j<wr.heap.size->(fun j=>j=w.heap.size+1\/j=X\/lR (.slice A2 (k+1) c2) (.slice A3 (k+1) c3) j) j->(fun j=>j=w.heap.size+1\/j=X\/lR (.slice AM k cm) (.slice AL k cl) j) j:=fun j hj e=>by
    rcases e with e | e | e | e
    ·exact .inl e
    ·exact .inr (.inl e)
    ·rcases N7.o with h1 | h1
     ·rw [h1] at e;exact .inr (.inr (.inl e))
     ·rw [h1] at e;simp at e;have:=b4.o.size;omega
    ·rcases n9 with h1 | h1
     ·rw [h1] at e;exact .inr (.inr (.inr e))
     ·rw [h1] at e;simp at e;have:=b4.o.size;omega
   have aM:∀p,Keep (fun j=>j=w.heap.size+1\/j=X\/lR (.slice A2 (k+1) c2) (.slice A3 (k+1) c3) j) (w9.setCell (ar X 1) (.slice A3 (k+1) c3)) p->aq w p:=fun p kk=>by
    have h1:=fU aP kk b2
    exact h.o.q.trans (h1.toBelow h.o.q.size (fun j e=>by
     rcases e with e | e | e | e
     ·omega
     ·have:=h.o.lo;omega
     ·have:=(h.o.oM.lt j e).1;have:=h.o.lo;omega
     ·have:=(h.o.oL.lt j e).1;have:=h.o.lo;omega))
   have hg:∀x,x<k+1->∀p,Keep (fun j=>j=w.heap.size+1\/j=X\/lR (.slice A2 (k+1) c2) (.slice A3 (k+1) c3) j) (w9.setCell (ar X 1) (.slice A3 (k+1) c3)) p->Rm x (aZ mv k #[a0,a1,a2,a3,a4,a5,a6,a7,a8,a9,D,I,H,Z,B,Y,C,V,A,Q,R,J] x) p:=fun x hx p kk=>by
    by_cases aG:x=k
    ·subst aG
     rw [bJ]
     refine HR.o p (aM p kk) ?_
     have cf:Keep (fun j=>j<wr.heap.size) w5 (w9.setCell (ar X 1) (.slice A3 (x+1) c3)):=
      fU (Keep.below K6.o) (fU (S:=fun j=>j<wr.heap.size) (KM.o.mono fun j _ e=>(h.o.oM.lt j e).2) (fU (S:=fun j=>j<wr.heap.size) (K8.o.mono fun j _ (e:j=X)=>by rw [e];exact bv) (fU (S:=fun j=>j<wr.heap.size) (kL.mono fun j _ e=>(h.o.oL.lt j e).2) (av.mono fun j _ (e:j=X)=>by rw [e];exact bv) (fun _ _ e=>e)) (fun _ _ e=>e)) (fun _ _ e=>e)) (fun _ _ e=>e)
     refine fU cf kk fun j hj e=>?_
     refine Classical.byContradiction fun hc=>?_
     rcases e with e | e | e | e
     ·have:=h.o.q.size;have:=h.o.lo;omega
     ·omega
     ·rcases N7.o with h1 | h1
      ·rw [h1] at e;exact hc (h.o.oM.lt j e).2
      ·rw [h1] at e;simp at e;have:=K6.o.size;omega
     ·rcases n9 with h1 | h1
      ·rw [h1] at e;exact hc (h.o.oL.lt j e).2
      ·rw [h1] at e;simp at e;have:=K6.o.size;omega
    ·rw [bC _ _ aG]
     exact h.o.g x ap p (fU aP kk b2)
   rw [b0] at b3
   have bl:=bi
   rw [ad] at bl
   have b1:IP Rm w X cap (k+1) (w9.setCell (ar X 1) (.slice A3 (k+1) c3)) (aZ mv k #[a0,a1,a2,a3,a4,a5,a6,a7,a8,a9,D,I,H,Z,B,Y,C,V,A,Q,R,J]) A2 A3 c2 c3:=⟨bh,b3,bl,fun x hx=>by
    by_cases aG:x=k
    ·subst aG;rw [bJ];exact ⟨rfl,O.o⟩
    ·rw [bC _ _ aG];exact h.o.sm x ap,hg,h.o.lo,aM _ (Keep.refl _ _)⟩
   have qn:=Q8.o.trans ((kL.toBelow (by have:=Q8.o.size;omega) (fun j e=>by have:=(h.o.oL.lt j e).1;have:=h.o.lo;have:=aR.o;omega)).trans (av.toBelow (by have:=Q8.o.size;have:=kL.size;omega) (fun j e=>by have:=h.o.lo;have:=aR.o;omega)))
   obtain ⟨bs,QN⟩:=ae b1 qn;clear b1 qn hg aM b2 aP b0 ad bl b3 bi bh av bn kL bf kA n9 g9 b9 o9 cd
   go_wp2_with fail
   go_roundw
   case rel=>exact ⟨k+1,by omega,by go_num,_,_,_,_,_,bs.o,QN.o⟩
   case measure=>simp [intOf];omega
  ·obtain rfl:k=N:=ap
   have ct:¬((k:Int)<k):=ap
   obtain ⟨GX,c9⟩:=ae h.o.box (sb G1.o _ q)
   go_wp2_with (first | (refine aK #[.slice AM k cm,.slice AL k cl,Nd 0] (b:=X) GX.o cN rfl rfl rfl rfl ?_) | (refine aH (b:=w.heap.size+1) c9.o cN rfl rfl rfl rfl rfl rfl rfl ?_;intro w9 e9 k9;obtain ⟨E9,K9⟩:=ae e9 k9;clear e9 k9))
   try simp only [Exit.inBlock,Exit.then]
   refine Mu (cH rfl rfl E9.o cN) rfl ?_
   have cy:=h.o.lo
   have bA:=K9.o.own h.o.oM (fun j h1 h2=>by have:=(h.o.oM.lt j h1).1;omega)
   have bI:=K9.o.own h.o.oL (fun j h1 h2=>by have:=(h.o.oL.lt j h1).1;omega)
   have hc:k<=cm/\k<=cl:=by
    obtain ⟨_,_,e1,h1⟩:=aD bA
    obtain ⟨_,_,e2,h2⟩:=aD bI
    injection e1 with _ _ e1;injection e2 with _ _ e2
    omega
   have bw:∀j,S j->j<X+1:=fun j e=>by have:=HS.o j e;omega
   exact ⟨_,mv,rfl,⟨⟨AM,cm,AL,cl,rfl,gD bA bw,gD bI bw,hc⟩,h.o.sm,fun x hx=>⟨rfl,rfl⟩⟩,fun x hx=>h.o.g x hx _ (K9.o.mono fun j _ e=>.inl e),h.o.q.trans (K9.o.toBelow h.o.q.size (fun j e=>ap))⟩
theorem RWv.ext {u o:World} {vs:Array Value} {n:Nat} {mv i:Nat->Array Value} {cnt:Nat} (h:RWv u vs n mv i cnt) (hb:Ext u o):RWv o vs n mv i cnt:=by
 obtain ⟨⟨B,cm,p,v,h1,y,D,A⟩,C,x⟩:=h
 exact ⟨⟨B,cm,p,v,h1,aW y hb,aW D hb,A⟩,C,x⟩
structure RWm (u:World) (vs:Array Value) (i:Inp) (M:WSt):Prop where
 ex:∃mv lv,RWv u vs (aA i).W mv lv (M.sum i)/\(∀x,x<(aA i).W->ge u (mv x) i x (M.m x))/\∀x,x<(aA i).W->RL u (lv x) (M.s x)
 al:gP i M
theorem RWm.ext {u p:World} {vs:Array Value} {i:Inp} {M:WSt} (h:RWm u vs i M) (hb:Ext u p):RWm p vs i M:=by
 obtain ⟨⟨mv,A,h1,v,B⟩,y⟩:=h
 exact ⟨⟨mv,A,h1.ext hb,fun x o=>kz (v x o) hb,fun x o=>lF (B x o) hb⟩,y⟩
theorem RWm.sz {u:World} {vs:Array Value} {i:Inp} {M:WSt} (h:RWm u vs i M):vs.size=3/\vs.toList.all (·.oneCell')=true:=by
 obtain ⟨⟨mv,x,⟨⟨v,cm,o,p,rfl, -⟩, -, -⟩, -, -⟩, -⟩:=h
 exact ⟨rfl,rfl⟩
theorem Ks {i:Inp} {M:WSt} {x:Nat} (h:x<(aA i).W):pkZ i M x=pkF i M x:=by
 unfold pkZ;rw [if_pos ⟨by omega,by omega⟩,Int.toNat_natCast]
theorem Jl {i:Inp} {M:WSt} {z:Int} (h:¬(0<=z/\z<((aA i).W:Int))):pkZ i M z=(M,false):=by
 unfold pkZ;rw [if_neg h]
theorem gP.msgs_le {i:Inp} {M:WSt} (h:gP i M) (hs:cF i) {x:Nat} (o:x<(aA i).W):(M.s x).msgs.length<=1000000000:=by
 have h1:=h.ok.sn x o
 have C:sN i x (M.pos i x)<=M.pos i x:=JY i x _
 have A:M.pos i x<=M.sum i:=Bq o
 have B:=h.sum_le hs
 have u:=mD hs.ok
 have p:=qN hs.ok
 have y:=hs.s
 have v:ko (aA i)*i.cfg.steps.toNat<=810000*6:=Nat.mul_le_mul p ap
 omega
theorem gP.sum_lt {i:Inp} {M:WSt} (h:gP i M) (hs:cF i):M.sum i<=1000000000:=by
 have x:=h.sum_le hs
 have p:=mD hs.ok
 have o:=qN hs.ok
 have v:=hs.s
 have u:ko (aA i)*i.cfg.steps.toNat<=810000*6:=Nat.mul_le_mul o ap
 omega
theorem Ki {S:Nat->Prop} {w:World} {vs:Array Value} {i:Inp} {M:WSt} (hs:cF i) (hS:∀k,S k->k<w.heap.size) (h:RWm (aF S w) vs i M) (z:Int):
  Calls prog 16 #[.agg vs,Nd z] w (J9 (fun u vs M=>RWm u vs i M) S (pkZ i M z).1 (pkZ i M z).2 w):=by
 have H:=h.sz
 have ao:=hs.ok.W8
 obtain ⟨⟨mv,lv,h1,h2,N⟩,D⟩:=h
 have Z:=h1.ext (fg S w)
 by_cases T:0<=z/\z<((aA i).W:Int)
 rotate_left
 ·rw [Jl T]
  refine (CQ Z ap).mono ?_
  rintro e o ⟨rfl,hb⟩
  exact ⟨vs,rfl,H.1,H.2,(⟨⟨mv,lv,h1,h2,N⟩,D⟩:RWm (aF S w) vs i M).ext (jl hb),hb⟩
 obtain ⟨x,rfl⟩:∃x:Nat,z=x:=⟨z.toNat,by omega⟩
 have A:x<(aA i).W:=ap
 have hp:pvW (aA i).W x<(aA i).W:=mb ap
 rw [Ks A]
 obtain ⟨C,a6,hb⟩:=zE D hs A
 obtain ⟨hA, -,Y,a0⟩:=zF D hs A
 obtain ⟨m1,s1,t1,U,Q⟩:=a6
 have a9:=fun o (q:aq w o) (hl:w.heap.size+6<=o.heap.size)=>by
  have he:Ext (aF S w) (aF (fun k=>S k\/(w.heap.size<=k/\k<w.heap.size+6)) o):=bQ (Keep.below q) (fun k hk e=>e.elim id (fun e=>absurd hk ap))
  exact Je (S:=(fun k=>S k\/(w.heap.size<=k/\k<w.heap.size+6))) (w:=o) (fun k e=>e.elim (fun e=>by have:=hS k e;omega) (fun e=>ap)) (kz (h2 x A) he) (lF (N _ hp) he) (lF (N x A) he) hs (D.ok.mok x A) (D.ok.msgI A) (D.ok.lok x A).2.1 (by have:=D.msgs_le hs hp;omega) (by have:=D.msgs_le hs A;omega) A U
 refine (Fk (S:=S) (R:=fun m u v o=>ge (aF (fun k=>S k\/(w.heap.size<=k/\k<w.heap.size+6)) o) m i x m1/\RL (aF (fun k=>S k\/(w.heap.size<=k/\k<w.heap.size+6)) o) u s1/\RL (aF (fun k=>S k\/(w.heap.size<=k/\k<w.heap.size+6)) o) v t1) (C:=(C:Nat)) (p:=pvW (aA i).W x) hS Z A ap rfl (D.sum_lt hs) (fun o hl q=>(a9 o q hl).mono ?_) (fun m u v w1 w2 hr k=>?_)).mono ?_
 ·rintro e ad ⟨v1,v2,v3,he,z1,o1,r1,⟨B2,c2,rfl,r2⟩,⟨B3,c3,rfl,r3⟩,a8⟩
  exact ⟨v1,_,_,he,⟨z1,rfl,rfl⟩,⟨o1,rfl,rfl⟩,⟨r1,⟨B2,c2,rfl,r2⟩,⟨B3,c3,rfl,r3⟩⟩,a8⟩
 ·have he:Ext (aF (fun k=>S k\/(w.heap.size<=k/\k<w.heap.size+6)) w1) (aF (fun k=>S k\/(w.heap.size<=k/\k<w.heap.size+6)) w2):=bQ (k.mono fun j _ e=>.inr e) (fun _ _ e=>e)
  exact ⟨kz hr.1 he,lF hr.2.1 he,lF hr.2.2 he⟩
 ·rintro e o (⟨hC,he,B⟩ | ⟨hC,a1,a2,a3,V,he,hv,hr,B⟩)
  ·have hf:(pkF i M x).2=false:=by rw [hb];simp;omega
   rw [hf,a0 hf]
   exact ⟨vs,he,H.1,H.2,(⟨⟨mv,lv,h1,h2,N⟩,D⟩:RWm (aF S w) vs i M).ext (jl B),B⟩
  ·have a4:C=0:=ap
   have ht:(pkF i M x).2=true:=by rw [hb];simp [a4]
   rw [ht]
   have O:=(Y ht).2.2
   have L:Ext (aF (fun k=>S k\/(w.heap.size<=k/\k<w.heap.size+6)) o) (aF S o):=bQ (Keep.refl _ _) (fun k _ e=>.inl e)
   have J:Ext (aF S w) (aF S o):=jl B
   have I:RWm (aF S o) V i (pkF i M x).1:=by
    refine ⟨⟨_,_,by rw [O];exact hv,fun y hy=>?_,fun y hy=>?_⟩,hA⟩
    ·rw [Q]
     show ge _ (aZ mv x a1 y) i y (aZ M.m x m1 y)
     by_cases e:y=x
     ·subst e;rw [bJ,bJ];exact kz hr.1 L
     ·rw [bC _ _ e,bC _ _ e];exact kz (h2 y hy) J
    ·rw [Q]
     show RL _ ((if 1<(aA i).W then aZ (aZ lv (pvW (aA i).W x) a2) x a3 else lv) y) (aZ (aZ M.s (pvW (aA i).W x) s1) x t1 y)
     by_cases hW:1<(aA i).W
     ·rw [if_pos hW]
      by_cases e:y=x
      ·subst e;rw [bJ,bJ];exact lF hr.2.2 L
      ·rw [bC _ _ e,bC _ _ e]
       by_cases e2:y=pvW (aA i).W x
       ·rw [e2,bJ,bJ];exact lF hr.2.1 L
       ·rw [bC _ _ e2,bC _ _ e2];exact lF (N y hy) J
     ·rw [if_neg hW]
      have a5:y=x:=ap
      have ab:=F4 A ap
      subst a5
      rw [bJ]
      have a7:t1=M.s y:=by
       cases U with
       | own=>rfl
       | fin=>rfl
       | full=>rfl
       | none=>rfl
       | other=>rfl
       | send z ac T ha=>exact (nK ap T ha).elim
       | recv z ac T ha=>exact (nK ap T ha).elim
      rw [a7]
      exact lF (N y hy) J
   exact ⟨V,he,I.sz.1,I.sz.2,I,B⟩
theorem Lp {S:Nat->Prop} {w:World} {vs:Array Value} {i:Inp} {M:WSt} (hs:cF i) (v:∀k,S k->k<w.heap.size) (h:RWm (aF S w) vs i M) {A:Option Addr} {c:Nat} {l:List Int} (hl:l.length<=1000000) (hA:Rd w A (aB .i64 l)):
  Calls prog 20 #[.agg vs,.slice A l.length c] w (LF (fun u vs M=>RWm u vs i M) S (fv i M l).1 (fv i M l).2 w):=
 Fj (st:=pkZ i) v hl hA (fun _ _ _ _ h e=>h.ext e) (fun _ _ _ _ z o p _=>Ki hs o p z) h h.sz.1 h.sz.2
theorem Kj {w:World} {vs:Array Value} {i:Inp} {M:WSt} (hs:cF i) (h:RWm w vs i M) {B:Bool} (hB:B=true↔M.fin i):
  Calls prog 33 #[.agg vs] w fun e u=>e=.returned (.bool B)/\aq w u:=by
 have H:=hs.ok.W8
 obtain ⟨⟨mv,lv,h1,v,V⟩,C⟩:=h
 refine C8 (dn:=fun x=>M.pos i x) (il:=fun x=>(dM i x).length) h1 ap (fun x o=>?_) ?_
 ·obtain ⟨A,c,D,Q,T,ct,R,N,J,Y,I,L,O,U,SA,Z,IA,ic,y, -⟩:=v x o
  rw [y]
  exact ⟨IA,ic,rfl,rfl⟩
 ·rw [hB]
  constructor
  ·intro p x o
   exact Nat.le_of_eq (p x o).symm
  ·intro p x o
   have:=p x o
   have:=C.pos_le hs o
   omega
theorem Lq {S:Nat->Prop} {w:World} (A:Option Addr) (c:Nat) (D:Option Addr) (C:Nat) (T:Option Addr) (y:Nat) (R:Option Addr) (B:Nat) (i:Inp) (L:∀k,S k->k<w.heap.size) (h:gi w A c D T y R i) (hI:∀o,aq w o->gi (aF S o) A c D T y R i) (hs:cF i):
  Calls prog 14 #[.agg (aL A c D C T y R B i)] w fun e o=>∃p:Array Value,e=.returned (.tuple #[.agg p,Nd 0])/\p.size=3/\p.toList.all (·.oneCell')=true/\RWm (aF S o) p i (fL i)/\aq w o:=by
 have hg:=hs.g.c
 have V:=hg.w;have Q:=hg.ca
 have Y:((aA i).W:Int)=i.cfg.workers:=by simp only [aA];omega
 have U:((i.cfg.cap.toNat:Nat):Int)=i.cfg.cap:=ap
 have a1:=hs.ok.W8
 have v:=fun o (q:aq w o)=>jq A c D C T y R B i o (h.below q)
 have H:=fun (x:Nat) o (q:aq w o) (J:x<(aA i).W)=>zh A c D C T y R B i x o (h.below q) hs J
 have hv:aL A c D C T y R B i=#[.slice A i.cfg.sizes.length c,Nd i.cfg.shift,Nd i.cfg.rate,Nd i.cfg.mom,Nd ((aA i).W:Nat),Nd i.cfg.batch,Nd i.cfg.micros,Nd i.cfg.steps,Nd i.cfg.bucket,Nd i.cfg.chunk,Nd i.cfg.window,Nd (i.cfg.cap.toNat:Nat),.slice D i.data.length C,.slice T i.start.length y,.slice R i.draws.length B]:=by rw [Y,U]
 rw [pA.2 hs.g] at v
 rw [hv] at v H ⊢
 refine (Fo (S:=S) (Rm:=fun x m o=>ge (aF S o) m i x (fC i)) (N:=(aA i).W) (cap:=i.cfg.cap.toNat) L ap ap v (fun k o hk q=>(H k o q hk).mono ?_)).mono ?_
 ·rintro e a0 ⟨m,rfl,Z,ho,hb,hr⟩
  refine ⟨m,rfl,⟨Z,ho⟩,hb,fun O q2 k2=>hr _ (fU k2 (DS S O) fun j _ e=>by have:=L j e;have:=q.size;omega) (hI O q2)⟩
 ·rintro e o ⟨p,mv,rfl,I,hm,hb⟩
  have u:RWm (aF S o) p i (fL i):=⟨⟨mv,_,by rw [rp];exact I,hm,fun x J=>⟨none,0,rfl,fA.nil _ _ none,Mg _⟩⟩,gP.zero hs⟩
  exact ⟨p,rfl,u.sz.1,u.sz.2,u,hb⟩
theorem mJ:cR prog 84 4:=⟨⟨_,underlying84,rfl⟩,by kernel_rfl⟩
theorem CO {J R B N O H Q I D L i u v h p:Value} {A:Option Addr} {pl pc:Nat} {C:Int} {w:World} (hC:C≠0)
  (y:∀T,aq w T->Calls prog 14 #[.agg #[J,R,B,N,O,H,Q,I,D,L,i,u,v,h,p]] T fun e V=>e=.returned (.tuple #[.agg #[Nf,Nf,Nd 0],Nd C])/\aq T V):
  Calls prog 38 #[.agg #[J,R,B,N,O,H,Q,I,D,L,i,u,v,h,p],.slice A pl pc] w fun e T=>e=.returned (.tuple #[.agg #[Nd 0,Nd 0,Nd 0,.bool false],Nd C])/\aq w T:=by
 obtain ⟨W1,x⟩:∃W1,(w.alloc (.cells #[J,R,B,N,O,H,Q,I,D,L,i,u,v,h,p] 29)).alloc (.cells #[Nd 0,Nd 0,Nd 0,.bool false] 84)=W1:=⟨_,rfl⟩
 have g0:W1.heap[w.heap.size]?=some (.cells #[J,R,B,N,O,H,Q,I,D,L,i,u,v,h,p] 29 (0,0)):=by rw [<-x];exact sb (Mh w _) _ ((br _).alloc (Mg _) _)
 have g1:W1.heap[w.heap.size+1]?=some (.cells #[Nd 0,Nd 0,Nd 0,.bool false] 84 (0,0)):=by rw [<-x];have:=Mh (w.alloc (.cells #[J,R,B,N,O,H,Q,I,D,L,i,u,v,h,p] 29)) (.cells #[Nd 0,Nd 0,Nd 0,.bool false] 84);rwa [Mw] at this
 have Z:aq w W1:=by rw [<-x];exact ((br w).alloc (Mg _) _).alloc (by rw [Mw];omega) _
 have tl:=sl g1
 obtain ⟨Hn,U,G0,G1,Y⟩:=ah y x g0 g1 Z
 have a0:(C != 0)=true:=by rw [bne_iff_ne];exact hC
 clear y x g0 g1 Z
 go_enter func38,ntmps38
 go_wp2_with (refine aK #[J,R,B,N,O,H,Q,I,D,L,i,u,v,h,p] (b:=w.heap.size) (by rw [U.o];exact G0.o) mK rfl rfl rfl rfl ?_)
 rw [U.o]
 refine (Hn.o _ Y.o).mono ?_
 rintro e w2 ⟨rfl,k2⟩
 have K2:=aa k2;clear k2
 go_upto_region 2 with (refine aH (Mh _ _) cN rfl rfl rfl rfl rfl rfl rfl ?_;intro w3 e3 k3;have K3:=aa (aO k3);clear e3 k3)
 have H3:=aa (sb G1.o _ (bt K2.o K3.o))
 go_wp2_with (refine aH (b:=w.heap.size+1) H3.o mJ rfl rfl rfl rfl rfl rfl rfl ?_;intro w4 e4 k4;obtain ⟨E4,K4⟩:=ae e4 k4;clear e4 k4)
 try simp only [Exit.inBlock,Exit.then]
 refine Mu (cH rfl rfl E4.o mJ) rfl ?_
 have qq:=Y.o.trans ((bt K2.o K3.o).mono Y.o.size)
 exact ⟨rfl,qq.trans (K4.o.toBelow qq.size (fun j e=>ap))⟩
def L7 (J:World->Array Value->Prop) (w:World) (e:Ending) (i:World):Prop:=∃h:Array Value,e=.returned (.tuple #[.agg h,Nd 0])/\h.size=3/\h.toList.all (·.oneCell')=true/\J i h/\aq w i
def LY (J:World->Array Value->Prop) (n:Nat) (w:World) (e:Ending) (i:World):Prop:=∃h:Array Value,e=.returned (.tuple #[.agg h,Nd (n:Nat)])/\h.size=3/\h.toList.all (·.oneCell')=true/\J i h/\aq w i
theorem za {J0 J1:World->Array Value->Prop} {PL:Array Value} {V i1 i2 Y Q T i6 U R i9 v i x u p:Value} {A:Option Addr} {pl pc n t:Nat} {B:Bool} {w:World} (a3:pl<=1000000) (hn:n<=1000000000) (ht:t<=1000000000)
  (h0:∀w1 w2 vs,J0 w1 vs->aq w1 w2->J0 w2 vs) (h1:∀w1 w2 vs,J1 w1 vs->aq w1 w2->J1 w2 vs)
  (a1:∀h,aq w h->Calls prog 14 #[.agg #[V,i1,i2,Y,Q,T,i6,U,R,i9,v,i,x,u,p]] h (L7 J0 h))
  (a0:∀h vs,aq w h->J0 h vs->Calls prog 20 #[.agg vs,.slice A pl pc] h (LY J1 n h))
  (y:∀h,Calls prog 29 #[.agg #[V,i1,i2,Y,Q,T,i6,U,R,i9,v,i,x,u,p]] h fun e H=>e=.returned (.agg PL)/\aq h H)
  (N:∀h,aq w h->Calls prog 28 #[.agg PL] h fun e H=>e=.returned (Nd (t:Nat))/\aq h H)
  (C:∀h vs,J1 h vs->Calls prog 33 #[.agg vs] h fun e H=>e=.returned (.bool B)/\aq h H):
  Calls prog 38 #[.agg #[V,i1,i2,Y,Q,T,i6,U,R,i9,v,i,x,u,p],.slice A pl pc] w fun e h=>e=.returned (.tuple #[.agg #[Nd (n:Nat),Nd ((t:Int)-n),Nd ((pl:Int)-n),.bool B],Nd 0])/\aq w h:=by
 obtain ⟨W1,D⟩:∃W1,(w.alloc (.cells #[V,i1,i2,Y,Q,T,i6,U,R,i9,v,i,x,u,p] 29)).alloc (.cells #[Nd 0,Nd 0,Nd 0,.bool false] 84)=W1:=⟨_,rfl⟩
 have g0:W1.heap[w.heap.size]?=some (.cells #[V,i1,i2,Y,Q,T,i6,U,R,i9,v,i,x,u,p] 29 (0,0)):=by rw [<-D];exact sb (Mh w _) _ ((br _).alloc (Mg _) _)
 have g1:W1.heap[w.heap.size+1]?=some (.cells #[Nd 0,Nd 0,Nd 0,.bool false] 84 (0,0)):=by rw [<-D];have:=Mh (w.alloc (.cells #[V,i1,i2,Y,Q,T,i6,U,R,i9,v,i,x,u,p] 29)) (.cells #[Nd 0,Nd 0,Nd 0,.bool false] 84);rwa [Mw] at this
 have q0:aq w W1:=by rw [<-D];exact ((br w).alloc (Mg _) _).alloc (by rw [Mw];omega) _
 have tl:=sl g1
 obtain ⟨Hn,Hr,Hp,Ht,Hd,H0,H1,a2⟩:=ak a1 a0 y N C h0 h1 D;obtain ⟨G0,G1,Q0⟩:=af g0 g1 q0;clear a1 a0 y N C h0 h1 D g0 g1 q0
 go_enter func38,ntmps38
 go_wp2_with (refine aK #[V,i1,i2,Y,Q,T,i6,U,R,i9,v,i,x,u,p] (b:=w.heap.size) (by rw [a2.o];exact G0.o) mK rfl rfl rfl rfl ?_)
 rw [a2.o]
 refine (Hn.o _ Q0.o).mono ?_
 rintro e w2 ⟨vs,rfl,z,o,j,k2⟩
 obtain ⟨Z,O,J,K2⟩:=ag z o j k2;clear z o j k2
 go_upto_region 4 with (refine aH (Mh _ _) cN rfl rfl rfl rfl Z.o (by rw [Z.o];rfl) O.o ?_;intro w3 e3 k3;obtain ⟨E3,K3⟩:=ae e3 (aO k3);clear e3 k3)
 obtain ⟨Q3,J3⟩:=ae (bt K2.o K3.o) (H0.o _ _ _ J.o K3.o)
 have I:(vs.toList.drop 0).take vs.toList.length=vs.toList:=by rw [MI,MU]
 have EM:=aa I;clear I
 go_wp2_with (refine aK vs E3.o (by rw [Z.o];exact cN) rfl rfl rfl EM.o ?_)
 refine (Hr.o _ _ (Q0.o.trans (Q3.o.mono Q0.o.size)) J3.o).mono ?_
 rintro e w4 ⟨L,rfl,z2,o2,j2,k4⟩
 obtain ⟨Z2,O2,J2,K4⟩:=ag z2 o2 j2 k4;clear z2 o2 j2 k4
 go_upto_region 5 with (refine aH (Mh _ _) cN rfl rfl rfl rfl Z2.o (by rw [Z2.o];rfl) O2.o ?_;intro w5 e5 k5;obtain ⟨E5,K5⟩:=ae e5 (aO k5);clear e5 k5)
 obtain ⟨Q5,J5⟩:=ae (bt (bt Q3.o K4.o) K5.o) (H1.o _ _ _ J2.o K5.o)
 have I:(L.toList.drop 0).take L.toList.length=L.toList:=by rw [MI,MU]
 have w1:IntKind.i64.wrap ((t:Int)-n)=(t:Int)-n:=Mm _ ap
 have a4:IntKind.i64.wrap ((pl:Int)-n)=(pl:Int)-n:=Mm _ ap
 have s0:=(br w5).drew
 refine XA.g 13 (fun h:World=>aq w5 h) ?_
 refine XA.ld 1 #[V,i1,i2,Y,Q,T,i6,U,R,i9,v,i,x,u,p] (fun h q=>sb G0.o h (bt Q5.o q)) mK s0 ?_
 refine XA.ld 10 L (fun h q=>sb E5.o h q) (by rw [Z2.o];exact cN) s0 ?_ (hcs:=I)
 refine XA.t ?_ [0,4,6,7,8,9] s0 ?_
 refine XA.c 2 (Hp.o _) ?_
 rintro _ w6 ⟨rfl,k6⟩
 have s1:=bt s0 k6
 refine ⟨_,rfl,s1,fun _=>?_⟩
 refine XA.c 3 (Ht.o _ (Q0.o.trans ((bt Q5.o s1).mono Q0.o.size))) ?_
 rintro _ w7 ⟨rfl,k7⟩
 have s2:=bt s1 k7
 refine ⟨_,rfl,s2,fun _=>?_⟩
 refine XA.t ?_ [5] s2 ?_
 refine XA.c 11 (Hd.o _ _ (H1.o _ _ _ J5.o s2)) ?_
 rintro _ w8 ⟨rfl,k8⟩
 have s3:=bt s2 k8
 refine ⟨_,rfl,s3,fun _=>?_⟩
 refine XA.t ?_ [12] s3 ?_
 refine XA.e ?_
 simp only [MH,MI]
 have Q8:=aa (bt Q5.o s3);have H8:=aa (sb G1.o _ Q8.o);clear s0 s1 s2 s3 k6 k7 k8
 go_wp2_with (refine aH (b:=w.heap.size+1) H8.o mJ rfl rfl rfl rfl rfl rfl rfl ?_;intro w9 e9 k9;obtain ⟨E9,K9⟩:=ae e9 k9;clear e9 k9)
 try simp only [Exit.inBlock,Exit.then]
 refine Mu (cH rfl rfl E9.o mJ) rfl ?_
 have qq:=Q0.o.trans (Q8.o.mono Q0.o.size)
 exact ⟨rfl,qq.trans (K9.o.toBelow qq.size (fun j e=>ap))⟩
theorem I4 {I T A N O D R H B J i u v h p:Value} {C:Int} {w:World} (hC:C≠0)
  (L:∀y,aq w y->Calls prog 43 #[.agg #[I,T,A,N,O,D,R,H,B,J,i,u,v,h,p]] y fun e U=>e=.returned (Nd C)/\aq y U):
  Calls prog 13 #[.agg #[I,T,A,N,O,D,R,H,B,J,i,u,v,h,p]] w fun e y=>e=.returned (.tuple #[.pointer none,Nd C])/\aq w y:=by
 obtain ⟨W1,x⟩:∃W1,w.alloc (.cells #[I,T,A,N,O,D,R,H,B,J,i,u,v,h,p] 29)=W1:=⟨_,rfl⟩
 have g0:W1.heap[w.heap.size]?=some (.cells #[I,T,A,N,O,D,R,H,B,J,i,u,v,h,p] 29 (0,0)):=by rw [<-x];exact Mh w _
 have Z:aq w W1:=by rw [<-x];exact (br w).alloc (Mg _) _
 obtain ⟨V,Q,G0,Y⟩:=ag L x g0 Z
 have a0:(C != 0)=true:=by rw [bne_iff_ne];exact hC
 clear L x g0 Z
 go_enter func13,ntmps13
 go_wp2_with (refine aK #[I,T,A,N,O,D,R,H,B,J,i,u,v,h,p] (b:=w.heap.size) (by rw [Q.o];exact G0.o) vq rfl rfl rfl rfl ?_)
 rw [Q.o]
 refine (V.o _ Y.o).mono ?_
 rintro e w2 ⟨rfl,k2⟩
 have K2:=aa (Y.o.trans (k2.mono Y.o.size));clear k2
 go_wp2_with fail
 go_ret2
 exact ⟨rfl,K2.o⟩
end Go.Proofs.YtgmajkppbhiopaaGreat
