/- No condition. -/
import Derived.Test.YtgmajkppbhiopaaGreatE01
import Derived.WalkSpells
import Derived.BigQuiet
import Derived.Deep.QuietTactic
import Derived.RegionTactic
set_option linter.unusedSimpArgs false
set_option linter.unusedVariables false
set_option maxRecDepth 100000
set_option maxHeartbeats 4000000
namespace Go.Proofs.YtgmajkppbhiopaaGreat
open Go.RowKit
open Tryz
theorem iA:dt prog 22 3 (MO 0) 1 8:=⟨underlying22,info_parts (by kernel_rfl),rfl,by decide⟩
theorem lA (A:Option Addr) (zs:List Int) (c:Nat) (w:World) (hA:Rd w A (aA .i64 zs)) (hl:zs.length<=17592186043904):
  Calls prog 40 #[.slice A zs.length c] w fun e y=>∃v,e=.returned v/\y.ownsRow w.heap.size 3 1 v zs.length (aA .i64 zs)/\aq w y:=by
 have q:=fun (w:World)=>Lib.run_eql_slice_nil (P:=prog) w 22 3 A zs.length c 0 0 underlying22
 cases A with
 | none=>
  have B:zs=[]:=by
   cases zs with
   | nil=>rfl
   | cons z l=>obtain ⟨b,o,h,_⟩:=hA 0 _ rfl;cases h
  subst B
  clear q
  have q:=fun (w:World)=>Lib.run_eql_slice_nil (P:=prog) w 22 3 none 0 c 0 0 underlying22
  simp only [Option.isNone_none] at q
  rw [List.length_nil]
  go_enter func40,ntmps40
  go_wp2
  go_ret
  exact ⟨_,rfl,LZ _ _ _ _,LR _ _⟩
 | some a=>
  go_enter func40,ntmps40
  go_wp2_with (at_builtin;refine dy iA _ rfl (.tmp 5) (.tmp 6) rfl w.heap.size _ 0 [] rfl (ey w 3 1) _ zs.length c (aA .i64 zs) rfl (hA.alloc _) (by rw [bU];omega) (cG _ _) ap (by unfold maxLen;omega) (by simp) ?_)
  intro H D C i hb _ _
  have u:=((LR _ w).alloc (LO _) (.cells #[] 3)).trans hb
  obtain ⟨p,x⟩:=ae i u;clear i hb u
  go_wp2
  go_ret
  exact ⟨_,rfl,p.o,x.o⟩
theorem lU (b:Nat) (sz:List Int) (w:World) (h:cF 212 w b sz) (hl:sz.length<=17592186043904):
  Calls prog 240 #[(au b)] w fun e x=>∃A c,e=.returned (.slice A sz.length c)/\x.ownsRow w.heap.size 3 1 (.slice A sz.length c) sz.length (aA .i64 sz)/\aq w x:=by
 obtain ⟨A1,c1,V,c2,U,c3,y,h1,C,N⟩:=h
 obtain ⟨⟨I,D,O,B⟩,J⟩:=bx4 y
 have hc:=lA A1 sz c1 w h1 hl
 have H:=aa hc;clear hc y h1 C N
 go_enter func240,ntmps240
 go_wp2_with fail
 refine H.o.mono ?_
 rintro e Q ⟨v,rfl,i,hb⟩
 obtain ⟨T,R,rfl,u⟩:=aD i
 obtain ⟨p,L⟩:=ae i hb;clear i hb u;clear I D O B J
 go_wp2
 go_ret
 exact ⟨_,_,rfl,p.o,L.o⟩
theorem jT (b:Nat) (sz:List Int) (w:World) (h:cF 212 w b sz):
  Calls prog 241 #[(au b)] w fun e o=>e=.returned (MO ((sz.length-1:Nat):Int))/\w=o:=by
 obtain ⟨A1,c1,A,c2,x,c3,i,h1,p,u⟩:=h
 obtain ⟨⟨C,B,v,y⟩,D⟩:=bx4 i
 clear i h1 p u
 go_enter func241,ntmps241
 go_wp2
 go_ret
 exact ⟨rfl,rfl⟩
theorem jU (b:Nat) (sz:List Int) (w:World) (h:cF 212 w b sz):
  Calls prog 79 #[(au b)] w fun e o=>e=.returned (MO (bQ sz (sz.length-1):Int))/\w=o:=by
 obtain ⟨A1,c1,A,c2,x,c3,i,h1,p,u⟩:=h
 obtain ⟨⟨C,B,v,y⟩,D⟩:=bx4 i
 clear i h1 p u
 go_enter func79,ntmps79
 go_wp2
 go_ret
 exact ⟨rfl,rfl⟩
theorem m9 (b:Nat) (sz:List Int) (k:Nat) (w:World) (h:cF 212 w b sz) (hl:sz.length<=17592186043904) (hk:k<sz.length-1):
  Calls prog 242 #[(au b),MO k] w fun e p=>e=.returned (.agg #[MO (bQ sz k:Int),MO (dq sz k:Int)])/\aq w p:=by
 have i:=fun p (hb:aq w p)=>jT b sz p (h.below hb)
 have O:=h.lt
 obtain ⟨A1,c1,A2,c2,A3,c3,y,h1,u,D⟩:=h
 obtain ⟨n,hn⟩:∃n,sz.length-1=n:=⟨_,rfl⟩
 rw [hn] at y u D hk i
 obtain ⟨⟨Y,V,r2,U⟩,Z⟩:=bx4 y
 obtain ⟨H,C⟩:=D5 sz hk
 obtain ⟨b2,B,rfl,Q⟩:=u _ _ H
 obtain ⟨N,I,A,L⟩:=u _ _ C
 injection A with A;injection A with e3 e4 _
 subst e3;subst e4
 rw [show B+(k*2+1)=B+k*2+1 by omega] at L
 have T:=az Q
 have x:=aa i
 have R:n<=17592186043904:=ap
 clear i y h1 u D H C hn hl
 go_enter func242,ntmps242
 go_wp2_with fail
 refine (x.o _ ?_).mono ?_
 ·exact am
 rintro e p ⟨rfl,rfl⟩
 have J:(k:Int)<n:=ap
 go_wp2_with fail
 refine L7 (v:=.agg #[MO (bQ sz k:Int),MO (dq sz k:Int)]) (by simp [results,results242,go_sem]) rfl ⟨rfl,?_⟩
 exact am
theorem nY (b:Nat) (sz:List Int) (k:Nat) (w:World) (h:cF 212 w b sz) (hl:sz.length<=17592186043904) (hk:k<sz.length-1):
  Calls prog 243 #[(au b),MO k] w fun e p=>e=.returned (.agg #[MO (dq sz k:Int),MO (bQ sz (k+1):Int)])/\aq w p:=by
 have i:=fun p (hb:aq w p)=>jT b sz p (h.below hb)
 have O:=h.lt
 obtain ⟨A1,c1,A2,c2,A3,c3,y,h1,B,u⟩:=h
 obtain ⟨n,hn⟩:∃n,sz.length-1=n:=⟨_,rfl⟩
 rw [hn] at y B u hk i
 obtain ⟨⟨Y,V,r2,U⟩,Z⟩:=bx4 y
 obtain ⟨H,D⟩:=In sz hk
 obtain ⟨b2,C,rfl,Q⟩:=u _ _ H
 obtain ⟨N,I,A,L⟩:=u _ _ D
 injection A with A;injection A with e3 e4 _
 subst e3;subst e4
 rw [show C+(k*2+1)=C+k*2+1 by omega] at L
 have T:=az Q
 have x:=aa i
 have R:n<=17592186043904:=ap
 clear i y h1 B u H D hn hl
 go_enter func243,ntmps243
 go_wp2_with fail
 refine (x.o _ ?_).mono ?_
 ·exact am
 rintro e p ⟨rfl,rfl⟩
 have J:(k:Int)<n:=ap
 go_wp2_with fail
 refine L7 (v:=.agg #[MO (dq sz k:Int),MO (bQ sz (k+1):Int)]) (by simp [results,results243,go_sem]) rfl ⟨rfl,?_⟩
 exact am
theorem BP (n:Int) (w:World):Calls prog 112 #[MO n] w fun e h=>e=.returned (.bool (!decide (1<=n/\n<=1048576)))/\w=h:=by
 by_cases h1:n<1
 ·go_enter func112,ntmps112
  go_wp2
  go_ret
  exact ⟨dW (by first | (simp;omega) | (simp;done)),rfl⟩
 ·by_cases i:1048576<n
  ·go_enter func112,ntmps112
   go_wp2
   go_ret
   exact ⟨dW (by first | (simp;omega) | (simp;done)),rfl⟩
  ·go_enter func112,ntmps112
   go_wp2
   go_ret
   exact ⟨dW (by first | (simp;omega) | (simp;done)),rfl⟩
def JH (sz:List Int) (e:Ending):Prop:=∃d:Int,e=.returned (MO d)/\ -1<=d/\(d<0↔∀k,k<sz.length->1<=nth sz k/\nth sz k<=1048576)
theorem un (A:Option Addr) (sz:List Int) (c:Nat) (w:World) (hA:Rd w A (aA .i64 sz)) (hl:sz.length<=17592186043904):
  Calls prog 154 #[.slice A sz.length c,.func (.func 112) #[] #[]] w fun e C=>JH sz e/\w=C:=by
 obtain ⟨n,hn⟩:∃n,sz.length=n:=⟨_,rfl⟩
 have hw:=fun z=>BP z w
 rw [hn] at hl ⊢
 obtain ⟨HA,H,I⟩:=af hA hn hw;clear hA hn hw
 go_enter func154,ntmps154
 go_wp2_with fail
 go_loop [5,8] (fun _ i=>∃k:Nat,k<=n/\i=MO k/\an (∀j,j<k->1<=nth sz j/\nth sz j<=1048576)) (fun _ i=>n-(intOf i).toNat)
 case atStart=>exact ⟨0,LS _,rfl,aa fun j J=>ap⟩
 case round=>
  obtain ⟨k,hk,rfl,u⟩:=hrel
  by_cases B:k<n
  ·obtain ⟨b,o,rfl,p⟩:=HA.o.num (show k<sz.length by rw [H.o];exact B)
   by_cases x:1<=nth sz k/\nth sz k<=1048576
   ·have y:(!decide (1<=nth sz k/\nth sz k<=1048576))=false:=by simp [x.1,x.2]
    have hw:=I.o (nth sz k)
    rw [y] at hw
    obtain ⟨D,v⟩:=ae x hw;clear x hw y
    go_wp2_with fail
    refine v.o.mono ?_
    rintro e C ⟨rfl,rfl⟩
    go_wp2_with fail
    go_round
    case rel=>exact ⟨k+1,by omega,by go_num,aa (p:=∀j,j<k+1->1<=nth sz j/\nth sz j<=1048576) fun j J=>by
     rcases Ma j k with h | h
     ·exact u.out j h
     ·obtain rfl:j=k:=ap
      exact D.o⟩
    case measure=>simp [intOf];omega
   ·have y:(!decide (1<=nth sz k/\nth sz k<=1048576))=true:=by simp;omega
    have hw:=I.o (nth sz k)
    rw [y] at hw
    obtain ⟨D,v⟩:=ae x hw;clear x hw y
    go_wp2_with fail
    refine v.o.mono ?_
    rintro e C ⟨rfl,rfl⟩
    go_wp2_with fail
    go_ret
    exact ⟨⟨k,rfl,by omega,fun h=>ap,fun h=>absurd (h k (by rw [H.o];exact B)) D.o⟩,rfl⟩
  ·obtain rfl:k=n:=ap
   go_wp2_with fail
   go_ret
   exact ⟨⟨-1,rfl,by omega,fun _=>by rw [H.o];exact u.out,fun _=>ap⟩,rfl⟩
theorem vy (A:Option Addr) (sz:List Int) (c:Nat) (w:World) (hA:Rd w A (aA .i64 sz)) (hl:sz.length<=17592186043904) (h:¬∀k,k<sz.length->1<=nth sz k/\nth sz k<=1048576):
  Calls prog 113 #[.slice A sz.length c,.func (.func 112) #[] #[]] w fun e p=>e=.returned (.bool true)/\w=p:=by
 have u:=un A sz c w hA hl
 obtain ⟨x,H⟩:=ae u h;clear u hA h
 go_enter func113,ntmps113
 go_wp2_with fail
 refine x.o.mono ?_
 rintro e p ⟨⟨d,rfl,y,i⟩,rfl⟩
 have v:0<=d:=by
  rcases Int.lt_or_le d 0 with h | h
  ·exact absurd (i.1 h) H.o
  ·exact h
 clear i
 go_wp2
 go_ret
 exact ⟨dW (by simp [v]),rfl⟩
theorem xT (A:Option Addr) (sz:List Int) (c:Nat) (w:World) (hA:Rd w A (aA .i64 sz)) (hl:sz.length<=17592186043904) (h:∀k,k<sz.length->1<=nth sz k/\nth sz k<=1048576):
  Calls prog 113 #[.slice A sz.length c,.func (.func 112) #[] #[]] w fun e p=>e=.returned (.bool false)/\w=p:=by
 have u:=un A sz c w hA hl
 obtain ⟨v,H⟩:=ae u h;clear u hA h
 go_enter func113,ntmps113
 go_wp2_with fail
 refine v.o.mono ?_
 rintro e p ⟨⟨d,rfl,x,i⟩,rfl⟩
 have y:d<0:=i.2 H.o
 clear i
 go_wp2
 go_ret
 exact ⟨dW (by simp;omega),rfl⟩
theorem wV (m N:Nat) (P S:Nat) (v0 v1 v2:Value) (w:World) (hP:w.heap[P]?=some (.cells #[(au S)] 159 (0,0)))
  (h:w.heap[S]?=some (.cells #[v0,v1,v2,MO N] 212 (0,0))) (H:N<=17592202821632) (hm:m<=17592202821632):
  Calls prog 114 #[MO m,(au P)] w fun e p=>e=.returned (.agg #[MO N,MO ((N+m:Nat):Int)])/\p.heap[S]?=some (.cells #[v0,v1,v2,MO ((N+m:Nat):Int)] 212 (0,0))/\Keep (fun i=>i=S) w p:=by
 obtain ⟨B,D⟩:=bx1 hP
 obtain ⟨⟨s0,s1,s2,A⟩,C⟩:=bx4 h
 have x:=LN hP
 have u:=LN h
 have y:=aa h;clear h hP
 rw [Int.natCast_add]
 go_enter func114,ntmps114
 go_wp2_with fail
 go_region
 all_goals go_wp2_with fail
 refine L7 (v:=.agg #[MO N,MO ((N:Int)+(m:Int))]) (by simp [results,results114,go_sem]) rfl ⟨rfl,?_,?_⟩
 ·have h1:(w.setCell (ar S 3) (MO ((N:Int)+(m:Int)))).heap[S]?=some (.cells #[v0,v1,v2,MO ((N:Int)+(m:Int))] 212 (0,0)):=MM w S 3 _ _ _ y.o
  have l1:=LN h1
  exact (L0 _ _ S (by simp at l1 ⊢;omega)).trans ((L0 _ _ S l1).trans h1)
 ·exact (((Keep.setCell (S:=fun i=>i=S) (Keep.refl _ w) (ar S 3) (.inr rfl) _).alloc _).alloc _).drew
theorem mz {T:TypeId} {B:Nat} {u v:World} {b:Nat} {sz:List Int} (h:cF T (fL B u) b sz) (i:Agr B u v):cF T v b sz:=by
 obtain ⟨A1,c1,p,c2,o,c3,y,h1,x,A⟩:=h
 exact ⟨A1,c1,p,c2,o,c3,qS y i,kO h1 i,kO x i,kO A i⟩
theorem lF:dt prog 170 148 (.agg #[MO 0,MO 0]) 2 16:=⟨underlying170,info_parts (by kernel_rfl),rfl,by decide⟩
def LH (sz:List Int) (o:Value) (P S:Nat) (k:Nat) (p w:World):Prop:=
 ∃A1 c1 h c2,w.heap[P]?=some (.cells #[(au S)] 159 (0,0))/\w.heap[S]?=some (.cells #[o,.slice A1 k c1,.slice h k c2,MO (bQ sz k:Int)] 212 (0,0))/\
  w.ownsRow S 148 2 (.slice A1 k c1) k (nV sz k)/\w.ownsRow S 148 2 (.slice h k c2) k (pw sz k)/\(∀i,(Value.slice A1 k c1).ownBlock=some i->(Value.slice h k c2).ownBlock≠some i)/\Below S p w
theorem yz (A:Option Addr) (sz:List Int) (c:Nat) (w:World) (hc:sz.length<=c) (hm:c<=9223372036854775807) (h:¬(2<=sz.length/\sz.length<=16)):
  Calls prog 77 #[.slice A sz.length c] w fun e i=>e=.returned (.tuple #[.pointer none,MO 5])/\w=i:=by
 by_cases h1:sz.length<2
 ·go_enter func77,ntmps77
  go_wp2
  go_ret2
  exact ⟨rfl,rfl⟩
 ·have o:16<sz.length:=ap
  go_enter func77,ntmps77
  go_wp2
  go_ret2
  exact ⟨rfl,rfl⟩
theorem yy (A:Option Addr) (sz:List Int) (c:Nat) (w:World) (hA:Rd w A (aA .i64 sz)) (hc:sz.length<=c) (hm:c<=9223372036854775807) (h:2<=sz.length/\sz.length<=16) (hb:¬∀k,k<sz.length->1<=nth sz k/\nth sz k<=1048576):
  Calls prog 77 #[.slice A sz.length c] w fun e u=>e=.returned (.tuple #[.pointer none,MO 5])/\w=u:=by
 obtain ⟨h1,v⟩:=h
 have i:=vy A sz c w hA ap hb
 have p:=aa i;clear i hb hA
 go_enter func77,ntmps77
 go_wp2_with fail
 refine p.o.mono ?_
 rintro e u ⟨rfl,rfl⟩
 go_wp2
 go_ret2
 exact ⟨rfl,rfl⟩
theorem vQ (A:Option Addr) (sz:List Int) (c:Nat) (w:World) (hA:Rd w A (aA .i64 sz)) (hc:sz.length<=c) (hm:c<=9223372036854775807) (h:cS sz):
  Calls prog 77 #[.slice A sz.length c] w fun e D=>aq w D/\((1048576<bQ sz (sz.length-1)/\e=.returned (.tuple #[.pointer none,MO 4]))\/
   (bQ sz (sz.length-1)<=1048576/\∃b,e=.returned (.tuple #[(au b),MO 0])/\cF 212 (fL w.heap.size D) b sz/\w.heap.size<=b)):=by
 obtain ⟨b,o,rfl,_⟩:=hA.num (show 0<sz.length by have:=h.1.1;omega)
 have b7:=xT (some (ar b o)) sz c w hA (by have:=h.1.2;omega) h.2
 have bb:=lA (some (ar b o)) sz c w hA (by have:=h.1.2;omega)
 obtain ⟨n,hn⟩:∃n,sz.length=n:=⟨_,rfl⟩
 obtain ⟨h1,h2⟩:=h.1
 rw [hn] at h1 h2 b7 bb hc ⊢
 have e0:¬(c=1):=ap
 have dG:1<=c:=ap
 obtain ⟨d7,da,co,HR,Hn⟩:=ah b7 bb hA h hn;clear b7 bb hA h hn
 go_enter func77,ntmps77
 go_wp2_with fail
 refine d7.o.mono ?_
 rintro e D ⟨rfl,rfl⟩
 go_wp2_with fail
 refine da.o.mono ?_
 rintro e u ⟨v,rfl,U,hb⟩
 obtain ⟨Ac,cc,rfl,cj⟩:=aD U
 obtain ⟨cr,Hb,dT⟩:=af U hb cj;clear U hb cj
 go_wp2_with fail
 go_loopw [30] (fun i wr=>∃k:Nat,k<=n-1/\i=MO k/\LH sz (.slice Ac n cc) (u.heap.size+1) u.heap.size k u wr) (fun i _=>n-(intOf i).toNat)
 case atStart=>
  refine ⟨0,LS _,rfl,none,0,none,0,?_,?_,LZ _ _ _ _,LZ _ _ _ _,(fun i y=>by cases y),?_⟩
  ·have:=LP (u.alloc (.cells #[.slice Ac n cc,MP,MP,MO 0] 212)) (.cells #[(au u.heap.size)] 159)
   simpa using this
  ·exact (L0 _ _ _ (by simp)).trans (LP u _)
  ·exact am
 case round=>
  obtain ⟨k,hk,rfl,A1,c1,A2,c2,hP,hS,c8,bI,bd,hW⟩:=hrel
  have ab:k<sz.length:=by rw [Hn.o];omega
  have d4:=HR.o.bound ab
  obtain ⟨x0,xf⟩:=bx1 hP
  obtain ⟨⟨s0,s1,s2,s3⟩,sf⟩:=bx4 hS
  have cM:=LN hP
  have cP:=LN hS
  obtain ⟨HP,HS,ao,aG,HN,HW⟩:=ai hP hS c8 bI bd hW;clear hP hS c8 bI bd hW
  by_cases dv:k<n-1
  ·have C:k+1<sz.length:=by rw [Hn.o];omega
   have c6:=HR.o.mul C
   have z0:=HR.o.at ab
   have z1:=HR.o.at C
   obtain ⟨_,_,e',p0⟩:=co.o.num ab
   injection e' with e';injection e' with e1 e2 _;subst e1;subst e2
   obtain ⟨_,_,e',p1⟩:=co.o.num C
   injection e' with e';injection e' with e1 e2 _;subst e1;subst e2
   have bs:b<w.heap.size:=az p0
   have ci:b<u.heap.size:=by have:=Hb.o.size;omega
   have b5:=((Hb.o.trans (HW.o.mono Hb.o.size)).cell (p:=(ar b (o+k))) bs).trans p0
   have d0:=((Hb.o.trans (HW.o.mono Hb.o.size)).cell (p:=⟨b,o+(k+1),none⟩) bs).trans p1
   rw [z0.2.2] at b5
   rw [z1.2.2,show o+(k+1)=o+1+k by omega] at d0
   have J:dq sz k=bQ sz k+szN sz (k+1)*szN sz k:=rfl
   obtain ⟨p,hp⟩:∃p,szN sz (k+1)*szN sz k=p:=⟨_,rfl⟩
   rw [hp] at c6 J
   have I:=fun W (h1:W.heap[u.heap.size+1]?=_) (h2:W.heap[u.heap.size]?=_)=>wV p (bQ sz k) (u.heap.size+1) u.heap.size (.slice Ac n cc) (.slice A1 k c1) (.slice A2 k c2) W h1 h2 d4 ap
   rw [<-J] at I
   have d5:(szN sz (k+1):Int)*(szN sz k:Int)=(p:Int):=by rw [<-Int.natCast_mul,hp]
   have d3:IntKind.i64.wrap (p:Int)=(p:Int):=LT _ ap
   obtain ⟨cf,dp⟩:=ae I J;clear I p0 p1 z0 z1 J
   have dw:(k:Int)<n:=ap
   go_wp2_with fail
   have x:(fun D:World=>D.cell? (ar (u.heap.size+1) 0)=some ((au u.heap.size))/\D.cell? (ar u.heap.size 1)=some (.slice A1 k c1)/\D.cell? (ar b (o+k))=some (MO (szN sz k))) wr.drew:=⟨x0,s1,b5⟩
   refine XA.g 15 (fun D:World=>D.cell? (ar (u.heap.size+1) 0)=some ((au u.heap.size))/\D.cell? (ar u.heap.size 1)=some (.slice A1 k c1)/\D.cell? (ar b (o+k))=some (MO (szN sz k))) ?_
   refine XA.t ?_ [0,1,2,3,4,5,6,7,8,9,10,11] x ?_
   refine XA.o 12 (fun K H=>?_)
   go_simp
   refine (cf.o wr.drew HP.o HS.o).mono ?_
   rintro e w3 ⟨rfl,ad,a2⟩
   have g0:=a2.cell (p:=(ar (u.heap.size+1) 0)) x0 (by simp)
   have g1:=LQ w3 _ 1 _ _ _ ad
   have g2:=a2.cell (p:=(ar b (o+k))) b5 (by simp;omega)
   have l0:u.heap.size+1<w3.heap.size:=az g0
   have l1:u.heap.size<w3.heap.size:=az g1
   have l2:b<w3.heap.size:=az g2
   obtain ⟨bw,T⟩:=ae ad a2;clear ad a2
   dsimp only
   refine H.out _ _ ⟨g0,g1,g2⟩ (fun x=>?_)
   clear H K
   refine XA.o 13 (fun K H=>?_)
   go_simp
   refine H.out _ _ ⟨aH g0 _,aH g1 _,aH g2 _⟩ (fun x=>?_)
   clear H K
   have bO:=T.o.own (bT ao.o 1) (fun i y e=>ax HS.o (by decide) ao.o (by rw [y,e]))
   have bN:=(T.o.block _ (LN HP.o) ap).trans HP.o
   obtain ⟨Z,bn⟩:=ae bO bN;clear bO bN
   refine XA.o 14 (fun K H=>?_)
   refine bR lF (.tmp 39) (.tmp 48) rfl rfl u.heap.size (.slice A1 k c1) k (nV sz k) rfl (Z.o.alloc _) (some (ar w3.heap.size 0)) 1 1 [MO (bQ sz k:Int),MO (dq sz k:Int)] rfl (dD w3 _ _ _ rfl) rfl (by simp [Value.oneCell']) ap (by unfold maxLen;omega) (by simp;omega) ?_
   intro A4 c4 w4 cn cw Y bl
   have aR:=dM bn.o (by decide) Z.o Y
   have a5:=dM bw.o (by decide) Z.o Y
   have i0:=LQ w4 _ 0 _ _ _ aR
   have i1:=LQ w4 _ 1 _ _ _ a5
   have i2:=zZ g2 ci Z.o Y
   have i3:=LX w4 _ 1 _ _ a5
   obtain ⟨b0,bo,a1,bM,c9,bf⟩:=ai cn aR a5 Y bl cw;clear cn aR a5 Y bl cw
   dsimp only
   refine H.out _ _ ⟨i0,i1,i2⟩ (fun x=>?_)
   clear H K x
   refine XA.e ?_
   simp only [Mm,Mn]
   go_wp2_with fail
   obtain ⟨L,a4⟩:=tT (T.o.own (bT aG.o 1) (fun i y e=>ax HS.o (by decide) aG.o (by rw [y,e]))) HN.o bM.o c9.o
   have O:=(Below.heap_setCell w4 (ar u.heap.size 1) (.slice A4 (k+1) c4) (u.heap.size+1) (by simp)).trans bo.o
   have Q:=MM w4 u.heap.size 1 _ _ (.slice A4 (k+1) c4) a1.o
   have b2:Keep (fun i=>i=u.heap.size) w4 (w4.setCell (ar u.heap.size 1) (.slice A4 (k+1) c4)):=Keep.setCell (S:=fun i=>i=u.heap.size) (Keep.refl _ _) (ar u.heap.size 1) (.inr rfl) _
   have a0:=b2.own b0.o (fun i y e=>ax a1.o (by decide) b0.o (by rw [y,e]))
   have V:=b2.own L (fun i y e=>ax a1.o (by decide) L (by rw [y,e]))
   have b3:aq u (w4.setCell (ar u.heap.size 1) (.slice A4 (k+1) c4)):=
    ((HW.o.drew.trans ((T.o.toBelow (B:=u.heap.size) (by simp;omega) (fun i y=>ap)))).trans ((((LR _ w3).alloc ap _)).trans bf.o)).setCell (by simp) _
   rw [<-nl] at a0
   obtain ⟨w5,bG⟩:∃w5,w5=w4.setCell (ar u.heap.size 1) (.slice A4 (k+1) c4):=⟨_,rfl⟩
   rw [<-bG] at O Q a0 V b3 ⊢
   clear bG b2 L i0 i1 i2 i3 g0 g1 g2 l0 l1 l2 x0 xf s0 s1 s2 s3 sf
   obtain ⟨x0,xf⟩:=bx1 O
   have y2:=LQ w5 _ 2 _ _ _ Q
   have aM:=ft sz k
   have z1:=(HR.o.at C).2.1
   have dr:=HR.o.bound C
   have I:=fun W (h1:W.heap[u.heap.size+1]?=_) (h2:W.heap[u.heap.size]?=_)=>wV (szN sz (k+1)) (dq sz k) (u.heap.size+1) u.heap.size (.slice Ac n cc) (.slice A4 (k+1) c4) (.slice A2 k c2) W h1 h2 ap ap
   rw [aM] at I
   have cM:=LN O
   have cP:=LN Q
   obtain ⟨d9,b6,aP,bi,a8,cO,d8,ds⟩:=ak I O Q a0 V a4 b3 aM;clear I O Q a0 V a4 b3 aM cf T bw Z bn b0 bo a1 bM c9 bf d5 d3
   go_wp2_with fail
   have x:(fun D:World=>D.cell? (ar (u.heap.size+1) 0)=some ((au u.heap.size))/\D.cell? (ar u.heap.size 2)=some (.slice A2 k c2)) w5.drew:=⟨x0,y2⟩
   refine XA.g 10 (fun D:World=>D.cell? (ar (u.heap.size+1) 0)=some ((au u.heap.size))/\D.cell? (ar u.heap.size 2)=some (.slice A2 k c2)) ?_
   refine XA.t ?_ [0,1,2,3,4,5,6] x ?_
   refine XA.o 7 (fun K H=>?_)
   go_simp
   refine (d9.o w5.drew b6.o aP.o).mono ?_
   rintro e w6 ⟨rfl,b8,av⟩
   have g0:=av.cell (p:=(ar (u.heap.size+1) 0)) x0 (by simp)
   have g1:=LQ w6 _ 2 _ _ _ b8
   have l0:u.heap.size+1<w6.heap.size:=az g0
   obtain ⟨d2,a7⟩:=ae b8 av;clear b8 av
   dsimp only
   refine H.out _ _ ⟨g0,g1⟩ (fun x=>?_)
   clear H K
   refine XA.o 8 (fun K H=>?_)
   go_simp
   refine H.out _ _ ⟨aH g0 _,aH g1 _⟩ (fun x=>?_)
   clear H K
   have cl:=a7.o.own (bT a8.o 1) (fun i y e=>ax aP.o (by decide) a8.o (by rw [y,e]))
   have bV:=(a7.o.block _ (LN b6.o) ap).trans b6.o
   obtain ⟨b4,d1⟩:=ae cl bV;clear cl bV
   refine XA.o 9 (fun K H=>?_)
   refine bR lF (.tmp 56) (.tmp 60) rfl rfl u.heap.size (.slice A2 k c2) k (pw sz k) rfl (b4.o.alloc _) (some (ar w6.heap.size 0)) 1 1 [MO (dq sz k:Int),MO (bQ sz (k+1):Int)] rfl (dD w6 _ _ _ rfl) rfl (by simp [Value.oneCell']) ap (by unfold maxLen;omega) (by simp;omega) ?_
   intro A7 c7 w7 bv ct a3 cb
   have b1:=dM d1.o (by decide) b4.o a3
   have a6:=dM d2.o (by decide) b4.o a3
   have i0:=LQ w7 _ 0 _ _ _ b1
   have i1:=LQ w7 _ 2 _ _ _ a6
   have i3:=LX w7 _ 2 _ _ a6
   obtain ⟨bz,cA,b9,cy,dn,cY⟩:=ai bv b1 a6 a3 cb ct;clear bv b1 a6 a3 cb ct
   dsimp only
   refine H.out _ _ ⟨i0,i1⟩ (fun x=>?_)
   clear H K x
   refine XA.e ?_
   simp only [Mm,Mn]
   go_wp2_with fail
   obtain ⟨L,a4⟩:=tT (a7.o.own (bT bi.o 1) (fun i y e=>ax aP.o (by decide) bi.o (by rw [y,e]))) (fun i y e=>cO.o i e y) cy.o dn.o
   have dc:=(Below.heap_setCell w7 (ar u.heap.size 2) (.slice A7 (k+1) c7) (u.heap.size+1) (by simp)).trans cA.o
   have cx:=MM w7 u.heap.size 2 _ _ (.slice A7 (k+1) c7) b9.o
   have bX:Keep (fun i=>i=u.heap.size) w7 (w7.setCell (ar u.heap.size 2) (.slice A7 (k+1) c7)):=Keep.setCell (S:=fun i=>i=u.heap.size) (Keep.refl _ _) (ar u.heap.size 2) (.inr rfl) _
   have be:=bX.own bz.o (fun i y e=>ax b9.o (by decide) bz.o (by rw [y,e]))
   have cd:=bX.own L (fun i y e=>ax b9.o (by decide) L (by rw [y,e]))
   have d6:aq u (w7.setCell (ar u.heap.size 2) (.slice A7 (k+1) c7)):=
    ((d8.o.drew.trans ((a7.o.toBelow (B:=u.heap.size) (by simp;omega) (fun i y=>ap)))).trans ((((LR _ w6).alloc ap _)).trans cY.o)).setCell (by simp) _
   rw [<-nK] at be
   go_roundw
   case rel=>exact ⟨k+1,by omega,by go_num,A4,c4,A7,c7,dc,cx,cd,be,fun i y e=>a4 i e y,d6⟩
   case measure=>simp [intOf];omega
  ·obtain rfl:k=n-1:=ap
   have N:sz.length-1=n-1:=by rw [Hn.o]
   have cv:cF 212 (fL w.heap.size wr) u.heap.size sz:=by
    have dk:=Hb.o.size
    refine ⟨Ac,cc,A1,c1,A2,c2,?_,?_,?_,?_⟩
    ·rw [Hn.o,iq dk];exact HS.o
    ·exact Rd.own (fq (ay cr.o HW.o) (LO _))
    ·rw [N];exact Rd.own (fq ao.o ap)
    ·rw [N];exact Rd.own (fq aG.o ap)
   have a9:aq w wr:=Hb.o.trans (HW.o.mono Hb.o.size)
   obtain ⟨bA,R,bh⟩:=af cv a9 Hb.o.size;clear cv a9 N
   by_cases cs:1048576<bQ sz (n-1)
   ·have cL:(1048576:Int)<bQ sz (n-1):=ap
    go_wp2_with fail
    go_ret2
    exact ⟨R.o,.inl ⟨cs,rfl⟩⟩
   ·have cL:¬(1048576:Int)<bQ sz (n-1):=ap
    go_wp2_with fail
    go_ret2
    first | exact ⟨R.o,by omega,_,rfl,bA.o,bh.o⟩ | exact ⟨R.o,.inr ⟨by omega,_,rfl,bA.o,bh.o⟩⟩
theorem uv (n size:Nat) (w:World) (hn:n<=1048576) (hs:1<=size) (v:size<=1048576):
  Calls prog 123 #[MO n,MO size] w fun e u=>e=.returned (MO (du n size:Int))/\w=u:=by
 have B:¬((size:Int)<1):=ap
 by_cases p:n=0
 ·subst p
  go_enter func123,ntmps123
  go_wp2
  go_ret
  exact ⟨rfl,rfl⟩
 ·have x:¬((n:Int)<1):=ap
  have i:(0:Int)<=(n:Int)-1:=ap
  have he:=DJ n size ap
  have o:=Nat.div_le_self (n-1) size
  have hc:du n size=(n-1)/size+1:=by unfold du;rw [if_neg p]
  rw [hc]
  obtain ⟨y,h⟩:∃y,(n-1)/size=y:=⟨_,rfl⟩
  rw [h] at he o ⊢
  have A:((n:Int)-1).tdiv size=y:=by rw [Int.tdiv_eq_ediv_of_nonneg i,he]
  obtain ⟨D,C⟩:=ae h hc;clear h hc p
  go_enter func123,ntmps123
  go_wp2
  go_ret
  exact ⟨rfl,rfl⟩
theorem lH (n size:Nat) (w:World) (hn:n<=1048576) (hs:1<=size) (T:size<=1048576):
  Calls prog 119 #[MO n,MO size] w fun e Q=>∃v,e=.returned v/\Q.ownsRow w.heap.size 148 2 v (du n size) (fH n size (du n size))/\aq w Q:=by
 have D:=uv n size w hn hs T
 have Y:=fE n size
 have A:=fun k (h:k<du n size)=>iV h
 obtain ⟨m,hm⟩:∃m,du n size=m:=⟨_,rfl⟩
 rw [hm] at D Y A ⊢
 obtain ⟨R,U⟩:=ae D A;clear D hm A
 go_enter func119,ntmps119
 go_wp2_with fail
 refine R.o.mono ?_
 rintro e Q ⟨rfl,rfl⟩
 go_wp2_with fail
 go_loopw [5,11] (fun v x wr=>∃k:Nat,k<=m/\x=MO k/\wr.ownsRow w.heap.size 148 2 v k (fH n size k)/\aq w wr) (fun _ x _=>m-(intOf x).toNat)
 case atStart=>exact ⟨0,LS _,rfl,LZ _ _ _ _,LR _ _⟩
 case round=>
  obtain ⟨k,hk,rfl,i,hb⟩:=hrel
  by_cases O:k<m
  ·have V:=U.o k O
   obtain ⟨y,N⟩:∃y,k*size=y:=⟨_,rfl⟩
   rw [N] at V
   have a0:(k:Int)*(size:Int)=(y:Int):=by rw [<-N];push_cast;rfl
   obtain ⟨Z,cl,rfl,_⟩:=aD i
   obtain ⟨Hy,p,J⟩:=af N i hb;clear i hb N
   by_cases a1:(size:Int)<=(n:Int)-y
   ·have L:(y:Int)+size<=n:=ap
    go_wp2_with (at_builtin;refine aY lF _ rfl (.tmp 17) (.tmp 27) rfl w.heap.size (.slice Z k cl) k _ rfl p.o [MO (y:Int),MO ((y:Int)+size)] rfl rfl (cG .i64 [_,_]) ap (by unfold maxLen;omega) J.o.size ?_)
    intro g6 c6 w6 u B I
    obtain ⟨H,C⟩:=ae u (J.o.trans B);clear u B I
    go_wp2_with fail
    go_roundw
    case rel=>
     refine ⟨k+1,by omega,by go_num,?_,C.o⟩
     rw [iW,Hy.o,show ((min (y+size) n:Nat):Int)=(y:Int)+size by omega]
     exact H.o
    case measure=>simp [intOf];omega
   ·have L:(n:Int)-y<size:=ap
    go_wp2_with (at_builtin;refine aY lF _ rfl (.tmp 17) (.tmp 27) rfl w.heap.size (.slice Z k cl) k _ rfl p.o [MO (y:Int),MO ((y:Int)+((n:Int)-y))] rfl rfl (cG .i64 [_,_]) ap (by unfold maxLen;omega) J.o.size ?_)
    intro g6 c6 w6 u B I
    obtain ⟨H,C⟩:=ae u (J.o.trans B);clear u B I
    go_wp2_with fail
    go_roundw
    case rel=>
     refine ⟨k+1,by omega,by go_num,?_,C.o⟩
     rw [iW,Hy.o,show ((min (y+size) n:Nat):Int)=(y:Int)+((n:Int)-y) by omega]
     exact H.o
    case measure=>simp [intOf];omega
  ·obtain rfl:m=k:=ap
   obtain ⟨p,J⟩:=ae i hb;clear i hb
   go_wp2_with fail
   go_ret
   exact ⟨_,rfl,p.o,J.o⟩
theorem rr (a b:Nat) (w:World) (p:a<=1048576) (hb:b<=1048576):
  Calls prog 175 #[.agg #[MO a,MO b]] w fun e o=>e=.returned (MO ((b-a:Nat):Int))/\aq w o:=by
 have hB:aq w (w.alloc (.cells #[MO a,MO b] 148)):=(br w).alloc (LO _) _
 by_cases h:a<=b
 ·have h1:¬((b:Int)-a<0):=ap
  have i:((b-a:Nat):Int)=(b:Int)-a:=ap
  rw [i]
  clear i
  go_enter func175,ntmps175
  go_wp2
  go_ret
  exact ⟨bj (by first | rfl | omega | (simp;omega)),hB⟩
 ·have h1:(b:Int)-a<0:=ap
  have i:((b-a:Nat):Int)=0:=ap
  rw [i]
  clear i
  go_enter func175,ntmps175
  go_wp2
  go_ret
  exact ⟨bj (by first | rfl | omega | (simp;omega)),hB⟩
theorem DP (i n k V bk:Nat) (w:World) (hn:w.heap[V]?=some (.cells #[MO n] 3 (0,0))) (hk:w.heap[bk]?=some (.cells #[MO k] 3 (0,0))) (h1:1<=k) (h2:k<=1048576) (h3:n<=1048576) (hi:i<=k):
  Calls prog 187 #[MO i,(au V),(au bk)] w fun e u=>e=.returned (MO (bdN n k i:Int))/\aq w u:=by
 have tn:=fun u q=>bx1 (sb hn u q)
 have tk:=fun u q=>bx1 (sb hk u q)
 have J:=br w
 have a0:¬(k=0):=ap
 have x:(n:Int).tdiv (k:Int)=((n/k:Nat):Int):=rfl
 have I:(n:Int)/(k:Int)=((n/k:Nat):Int):=rfl
 have D:(n:Int).tmod (k:Int)=((n%k:Nat):Int):=rfl
 have y:(n:Int)%(k:Int)=((n%k:Nat):Int):=rfl
 have H:=fN n k i ap hi
 have h:bdN n k i=i*(n/k)+min i (n%k):=rfl
 have T:n/k<=n:=Nat.div_le_self _ _
 obtain ⟨q,Y⟩:∃q,n/k=q:=⟨_,rfl⟩
 obtain ⟨r,hr⟩:∃r,n%k=r:=⟨_,rfl⟩
 obtain ⟨p,Q⟩:∃p,i*q=p:=⟨_,rfl⟩
 have hm:(i:Int)*(q:Int)=(p:Int):=by rw [<-Q];push_cast;rfl
 rw [Y] at x I h T
 rw [hr] at D y h
 rw [Q] at h
 have Z:p<=1048576:=ap
 have R:IntKind.i64.wrap (p:Int)=p:=LT _ ap
 have O:IntKind.i64.wrap (q:Int)=q:=LT _ ap
 obtain ⟨d,U⟩:∃d,bdN n k i=d:=⟨_,rfl⟩
 rw [U] at H h ⊢
 have A:=aa h;clear hn hk Y hr Q U h H
 go_enter func187,ntmps187
 go_wp2_with fail
 refine HA.g (fun u:World=>aq w u) ?_
 refine HA.t ?_ [0,1,2,3,4,5,6,7,8] J.drew ?_
 obtain ⟨v,C⟩:∃v:Nat,min i r=v:=⟨_,rfl⟩
 have B:(if r<i then (r:Int) else (i:Int))=(v:Int):=by rw [<-C];split<;>omega
 have N:IntKind.i64.wrap ((p:Int)+(v:Int))=(p:Int)+v:=LT _ ap
 refine HA.t ?_ [9] J.drew ?_
 refine HA.t ?_ [10,11] J.drew ?_
 refine HA.d ?_
 have hB:=J.drew
 have L:=aa (show (p:Int)+v=(d:Int) by have:=A.o;omega);clear C B R O N x I D y hm
 go_wp2_with fail
 go_ret
 exact ⟨bj L.o,hB⟩
theorem xG (n k:Nat) (w:World) (h1:1<=k) (h2:k<=1048576) (h3:n<=1048576):
  Calls prog 174 #[MO n,MO k] w fun e u=>∃v,e=.returned v/\u.ownsRow w.heap.size 148 2 v k (aN (fK n k))/\aq w u:=by
 have a1:¬((n:Int)<0):=ap
 have a6:¬((k:Int)<1):=ap
 obtain ⟨p,h⟩:∃p,(w.alloc (.cells #[MO n] 3)).alloc (.cells #[MO k] 3)=p:=⟨_,rfl⟩
 have hn:p.heap[w.heap.size]?=some (.cells #[MO n] 3 (0,0)):=by
  rw [<-h,L0 _ _ _ (by simp)];exact LP w _
 have hk:p.heap[w.heap.size+1]?=some (.cells #[MO k] 3 (0,0)):=by
  rw [<-h];have:=LP (w.alloc (.cells #[MO n] 3)) (.cells #[MO k] 3);simpa using this
 have H:p.heap.size=w.heap.size+1+1:=by rw [<-h];simp
 have L:aq w p:=by rw [<-h];exact ((br w).alloc (LO _) _).alloc (by simp) _
 have tn:=fun u q=>bx1 (sb hn u q)
 have tk:=fun u q=>bx1 (sb hk u q)
 have O:=fun i u (q:aq p u) (hi:i<=k)=>DP i n k w.heap.size (w.heap.size+1) u (sb hn u q) (sb hk u q) h1 h2 h3 hi
 have N:=fun i (hi:i<=k)=>fN n k i ap hi
 obtain ⟨U,D,a3,T,C⟩:=ah h O N H L;clear h hn hk O N H L
 go_enter func174,ntmps174
 have q0:=br p
 go_wp2_with fail
 rw [U.o]
 go_loopw [6,16] (fun v x wr=>∃m:Nat,m<=k/\x=MO m/\wr.ownsRow p.heap.size 148 2 v m (aN ((List.range m).map fun i=>(bdN n k i,bdN n k (i+1))))/\aq p wr) (fun _ x _=>k-(intOf x).toNat)
 case atStart=>exact ⟨0,LS _,rfl,LZ _ _ _ _,q0⟩
 case round=>
  obtain ⟨m,hm,rfl,J,q⟩:=hrel
  by_cases a2:m<k
  ·have a4:(m:Int)<k:=ap
   obtain ⟨A,c,rfl,_⟩:=aD J
   have Q:=aa J;clear J
   go_wp2_with fail
   refine (D.o m wr q ap).mono ?_
   rintro e w1 ⟨rfl,R⟩
   have V:=bt q R
   have O1:=aa (ay Q.o R)
   have a5:IntKind.i64.wrap ((m:Int)+1)=((m+1:Nat):Int):=by rw [LT _ ap];push_cast;rfl
   clear R q
   go_wp2_with fail
   have y:=D.o (m+1) w1 V ap
   rw [show ((m+1:Nat):Int)=(m:Int)+1 from by omega] at y
   refine y.mono ?_
   rintro e w2 ⟨rfl,k2⟩
   have q2:=bt V k2
   have O2:=aa (ay O1.o k2)
   have Y:=q2.size
   clear y k2 V O1 Q
   go_wp2_with (at_builtin;refine aY lF _ rfl (.tmp 19) (.tmp 28) rfl p.heap.size (.slice A m c) m _ rfl O2.o [MO (bdN n k m:Nat),MO (bdN n k (m+1):Nat)] rfl rfl (cG .i64 [_,_]) ap (by unfold maxLen;omega) Y ?_)
   intro g6 c6 w6 B I a0
   have Z:=aa B
   have q6:=q2.trans I
   clear B I a0 q2
   go_wp2_with fail
   go_roundw
   case rel=>exact ⟨m+1,by omega,by go_num,by rw [su,ie];exact Z.o,q6⟩
   case measure=>simp [intOf];omega
  ·obtain rfl:k=m:=ap
   have Q:=aa (aE (base':=w.heap.size) J (by have:=T.o;omega))
   have hB:=C.o.trans (q.mono C.o.size)
   have HB:=aa hB;clear J hB
   go_wp2_with fail
   go_ret
   exact ⟨_,rfl,Q.o,HB.o⟩
theorem cN (l:List Rg) (j:Nat) (h:j<l.length):aL l j=l[j]:=by simp [aL,List.getD,h]
theorem dY {l:List Rg} {j:Nat} (h:j<l.length):(aN l)[j*2]?=some (MO ((aL l j).1:Int))/\(aN l)[j*2+1]?=some (MO ((aL l j).2:Int)):=mG (by rw [cN l j h];simp [h])
theorem rt:∀(l:List Rg) (j:Nat) (r:Rg),((aN l).set (j*2) (MO (r.1:Int))).set (j*2+1) (MO (r.2:Int))=aN (l.set j r)
 | [],_,_=>rfl
 | x::l,0,r=>rfl
 | x::l,j+1,r=>by
  have h:=rt l j r
  have e:∀y (m:List Rg),aN (y::m)=MO (y.1:Int)::MO (y.2:Int)::aN m:=fun y m=>by simp [aN]
  rw [e,Mh,e,<-h,show (j+1)*2=j*2+1+1 by omega,show j*2+1+1+1=(j*2+1)+1+1 by omega]
  simp only [Mh]
theorem EW {w:World} {base n g c:Nat} {l:List Rg} {e:TypeId} (h:w.ownsRow base e 2 (.slice (some (ar g 0)) n c) n (aN l)) (j:Nat) (r:Rg):
  ((w.setCell (ar g (j*2)) (MO (r.1:Int))).setCell (ar g (j*2+1)) (MO (r.2:Int))).ownsRow base e 2 (.slice (some (ar g 0)) n c) n (aN (l.set j r)):=by
 have:=((h.stored (j*2) (MO (r.1:Int))).1.stored (j*2+1) (MO (r.2:Int))).1
 rwa [rt] at this
theorem iw {w:World} {base n g c:Nat} {l:List Rg} {e:TypeId} (h:w.ownsRow base e 2 (.slice (some (ar g 0)) n c) n (aN l)) {j:Nat} (i:j<n):
  w.cell? (ar g (j*2))=some (MO ((aL l j).1:Int))/\w.cell? (ar g (j*2+1))=some (MO ((aL l j).2:Int)):=by
 have hl:=h.1
 rw [ns] at hl
 have:=dY (l:=l) (j:=j) ap
 exact ⟨by rw [h.cellAt _ ap];exact this.1,by rw [h.cellAt _ ap];exact this.2⟩
def oq (l:List Rg) (k:Nat):List Rg:=(List.range l.length).map fun t=>if t<k\/l.length-1-t<k then aL l (l.length-1-t) else aL l t
theorem gt (l:List Rg) (k:Nat):(oq l k).length=l.length:=by simp [oq]
theorem mH {l:List Rg} {k t:Nat} (h:t<l.length):aL (oq l k) t=if t<k\/l.length-1-t<k then aL l (l.length-1-t) else aL l t:=by
 rw [cN _ _ (by rw [gt];exact h)];simp [oq]
theorem yT {a b:List Rg} (h:a.length=b.length) (hn:∀k,k<a.length->aL a k=aL b k):a=b:=List.ext_getElem h fun k h1 i=>by
 have:=hn k h1;rwa [cN _ _ h1,cN _ _ i] at this
theorem CG (l:List Rg):oq l 0=l:=yT (gt l 0) fun k hk=>by
 rw [gt] at hk;rw [mH hk,if_neg ap]
theorem wl {l:List Rg} {i j:Nat} {r:Rg} (h:i<l.length):aL (l.set j r) i=if j=i then r else aL l i:=by
 rw [cN _ _ (by simpa using h),List.getElem_set,cN _ _ h]
theorem CH {l:List Rg} {k:Nat} (h:2*k+1<l.length):((oq l k).set k (aL (oq l k) (l.length-1-k))).set (l.length-1-k) (aL (oq l k) k)=oq l (k+1):=by
 refine yT (by simp [gt]) fun t u=>?_
 have i:t<l.length:=by simpa [gt] using u
 rw [wl (by simpa [gt] using i),wl (by rw [gt];exact i),mH i,mH ap,mH ap,mH i]
 by_cases h1:l.length-1-k=t
 ·subst h1
  rw [if_pos rfl,if_neg ap,if_pos ap,show l.length-1-(l.length-1-k)=k by omega]
 ·rw [if_neg h1]
  by_cases o:k=t
  ·subst o
   rw [if_pos rfl,if_neg ap,if_pos ap]
  ·rw [if_neg o]
   by_cases p:t<k\/l.length-1-t<k
   ·rw [if_pos p,if_pos ap]
   ·rw [if_neg p,if_neg ap]
theorem Fb {l:List Rg} {k:Nat} (h:l.length<=2*k+1):oq l k=l.reverse:=by
 refine yT (by simp [gt]) fun t o=>?_
 have i:t<l.length:=by simpa [gt] using o
 rw [mH i,cN l.reverse t (by simpa using i),List.getElem_reverse,<-cN l _ ap]
 by_cases h1:t<k\/l.length-1-t<k
 ·rw [if_pos h1]
 ·rw [if_neg h1,show l.length-1-t=t by omega]
theorem E0 (A:Option Addr) (l:List Rg) (n c base:Nat) (w:World) (ho:w.ownsRow base 148 2 (.slice A n c) n (aN l)) (hn:l.length=n) (hl:n<=1048576):
  Calls prog 159 #[.slice A n c] w fun e v=>e=.returned (.tuple #[])/\v.ownsRow base 148 2 (.slice A n c) n (aN l.reverse)/\Keep (fun j=>(Value.slice A n c).ownBlock=some j) w v:=by
 have h0:w.ownsRow base 148 2 (.slice A n c) n (aN (oq l 0)):=by rw [CG];exact ho
 have x:=fun k (h:2*k+1<n)=>CH (l:=l) (k:=k) ap
 have u:=fun k (h:n<=2*k+1)=>Fb (l:=l) (k:=k) ap
 rw [hn] at x
 obtain ⟨H0,Q,H,Hn⟩:=ag h0 x u hn;clear ho h0 x u hn
 go_enter func159,ntmps159
 go_wp2_with fail
 go_loopw [2,3] (fun i j wr=>∃k:Nat,2*k<=n+1/\i=MO k/\j=MO ((n:Int)-1-k)/\wr.ownsRow base 148 2 (.slice A n c) n (aN (oq l k))/\Keep (fun j=>(Value.slice A n c).ownBlock=some j) w wr) (fun i _ _=>n-(intOf i).toNat)
 case atStart=>exact ⟨0,by omega,rfl,by go_num,H0.o,Keep.refl _ _⟩
 case round=>
  obtain ⟨k,hk,rfl,rfl,hr,J⟩:=hrel
  by_cases O:2*k+1<n
  ·obtain ⟨g,rfl⟩:∃g,A=some (ar g 0):=by
    obtain ⟨g,e,hv,_⟩:=hr.form ap
    simp only [MC] at hv
    exact ⟨g,hv.1⟩
   have L:=iw hr (show k<n by omega)
   have C:=iw hr (show n-1-k<n by omega)
   have f1:=fun j=>hr.frozenAt j
   have D:(k:Int)<(n:Int)-1-k:=ap
   have N:(n:Int)-1-k=((n-1-k:Nat):Int):=ap
   have V:n-1-k<n:=ap
   have a0:k<n:=ap
   have T:n-1-k≠k:=ap
   have B:¬((n-1-k)*2=k*2)/\¬((n-1-k)*2=k*2+1)/\¬((n-1-k)*2+1=k*2)/\¬((n-1-k)*2+1=k*2+1):=ap
   obtain ⟨R,y⟩:∃r,aL (oq l k) k=r:=⟨_,rfl⟩
   obtain ⟨Z,p⟩:∃r,aL (oq l k) (n-1-k)=r:=⟨_,rfl⟩
   obtain ⟨j,I⟩:∃j,n-1-k=j:=⟨_,rfl⟩
   have hs:=Q.o k O
   rw [y,p] at hs
   rw [y] at L
   rw [p] at C
   rw [I] at C N V T B hs
   rw [N] at D ⊢
   obtain ⟨U,Y,Hj,Hs⟩:=ag hr J N hs;clear hr J N I hs y p
   go_wp2_with fail
   refine XA.g 13 (fun v:World=>(v.cell? (ar g (k*2))=some (MO (R.1:Int))/\v.cell? (ar g (k*2+1))=some (MO (R.2:Int)))/\(v.cell? (ar g (j*2))=some (MO (Z.1:Int))/\v.cell? (ar g (j*2+1))=some (MO (Z.2:Int)))) ?_
   refine XA.t0 ?_ [0,1,2,3,4,5,6,8,9,10] ⟨L,C⟩ ?_
   refine XA.t ?_ [7,11] ⟨L,C⟩ ?_
   refine XA.t0 ?_ [12] ⟨L,C⟩ ?_
   refine XA.e ?_
   simp only [Mm,Mn]
   go_wp2_with fail
   go_roundw
   case rel=>exact ⟨k+1,by omega,by go_num,by have:=Hj.o;go_num,by rw [<-Hs.o];exact EW (EW U.o k Z) j R,Keep.setCell (S:=fun j=>(Value.slice (some (ar g 0)) n c).ownBlock=some j) (Keep.setCell (S:=fun j=>(Value.slice (some (ar g 0)) n c).ownBlock=some j) (Keep.setCell (S:=fun j=>(Value.slice (some (ar g 0)) n c).ownBlock=some j) (Keep.setCell (S:=fun j=>(Value.slice (some (ar g 0)) n c).ownBlock=some j) Y.o.drew (ar g (k*2)) (.inr rfl) _) (ar g (k*2+1)) (.inr rfl) _) (ar g (j*2)) (.inr rfl) _) (ar g (j*2+1)) (.inr rfl) _⟩
   case measure=>simp [intOf];omega
  ·have D:¬((k:Int)<(n:Int)-1-k):=ap
   have p:=H.o k ap
   rw [p] at hr
   obtain ⟨U,Y⟩:=ae hr J;clear hr J p
   go_wp2_with fail
   go_end0
   exact ⟨rfl,U.o,Y.o⟩
theorem xZ (n s:Nat) (w:World) (hn:n<=1048576) (hs:1<=s) (B:s<=1048576):
  Calls prog 124 #[MO n,MO s] w fun e i=>∃v,e=.returned v/\i.ownsRow w.heap.size 148 2 v (nI n s).length (aN (nI n s))/\aq w i:=by
 have hb:=lH n s w hn hs B
 have hl:=fE n s
 rw [<-pU,<-eD] at hb
 have h:=kD n s
 rw [eD] at hb
 rw [h]
 have p:=fun (A:Option Addr) c base i (L:i.ownsRow base 148 2 (.slice A (du n s) c) (du n s) (aN (fp n s)))=>E0 A (fp n s) (du n s) c base i L (eD n s) ap
 obtain ⟨O,x⟩:=ae hb p;clear hb p h hl
 go_enter func124,ntmps124
 go_wp2_with fail
 refine O.o.mono ?_
 rintro e I ⟨v,rfl,C,u⟩
 obtain ⟨A,c,rfl,_⟩:=aD C
 have y:=aa C;clear C
 go_wp2_with fail
 refine (x.o A c _ I y.o).mono ?_
 rintro e Q ⟨rfl,H,D⟩
 have hB:=u.trans (D.toBelow u.size (fun j N=>(y.o.lt j N).1))
 have J:=aa H;clear H u D y
 go_wp2_with fail
 go_ret
 exact ⟨_,rfl,J.o,hB⟩
theorem zI (n s:Nat) (w:World) (hn:n<=1048576) (hs:1<=s) (h:s<=1048576):
  Calls prog 125 #[MO n,MO s] w fun e i=>∃v,e=.returned v/\i.ownsRow w.heap.size 148 2 v (fp n s).length (aN (fp n s))/\aq w i:=by
 have hb:=lH n s w hn hs h
 rw [<-pU,<-eD] at hb
 have y:=aa hb;clear hb
 go_enter func125,ntmps125
 go_wp2_with fail
 refine y.o.mono ?_
 rintro e A ⟨v,rfl,p,u⟩
 have x:=aa p;clear p
 go_wp2_with fail
 go_ret
 exact ⟨_,rfl,x.o,u⟩
end Go.Proofs.YtgmajkppbhiopaaGreat
namespace Go.Proofs.YtgmajkppbhiopaaGreat
open Go.RowKit Go.Shelf
open Tryz
attribute [local go_sem] Oper.semAt_some
theorem rj (P:Program) (w:World) (a:Addr) (i:Fn) (h ca:Array Value) (m:Mode):(store a (.func i h ca) m).run P w=stored P w a (.func i h ca) m:=run_store P w a _ m rfl
attribute [local go_sem] rj
structure j9 (w:World) (L S B:Nat) (A:Option Addr) (rs:List Rg) (c d:Nat) (tf:TypeId):Prop where
 l:w.heap[L]?=some (.cells #[.slice A rs.length c] 170 (0,0))
 s:w.heap[S]?=some (.cells #[.func (.func 185) #[] #[(au B)]] tf (0,0))
 b:w.heap[B]?=some (.cells #[MO d] 3 (0,0))
 r:Rd w A (aN rs)
theorem j9.below {w i:World} {L S B:Nat} {A:Option Addr} {rs:List Rg} {c d:Nat} {o:TypeId} (h:j9 w L S B A rs c d o) (hb:aq w i):j9 i L S B A rs c d o:=
 ⟨sb h.l _ hb,sb h.s _ hb,sb h.b _ hb,h.r.below hb⟩
theorem zD (lo h d B:Nat) (w:World) (hB:w.heap[B]?=some (.cells #[MO d] 3 (0,0))) (h1:lo<=1048576) (C:h<=1048576) (D:d<=1048576):
  Calls prog 185 #[.agg #[MO lo,MO h],(au B)] w fun e A=>e=.returned (.agg #[MO ((lo+d:Nat):Int),MO ((h+d:Nat):Int)])/\aq w A:=by
 have hb:=bx1 hB
 have hl:=LN hB
 have o:((lo+d:Nat):Int)=(lo:Int)+d:=ap
 have y:((h+d:Nat):Int)=(h:Int)+d:=ap
 rw [o,y]
 clear o y hB
 go_enter func185,ntmps185
 go_wp2_with fail
 have o:=LP (w.alloc (.cells #[MO lo,MO h] 148)) (.cells #[MO ((lo:Int)+d),MO ((h:Int)+d)] 148)
 obtain ⟨u,i⟩:∃u,u=(w.alloc (.cells #[MO lo,MO h] 148)).alloc (.cells #[MO ((lo:Int)+d),MO ((h:Int)+d)] 148):=⟨_,rfl⟩
 have p:aq w u:=by rw [i];exact ((LR _ w).alloc (LO _) _).alloc (by simp) _
 rw [<-i,Mb] at o
 rw [<-i]
 have x:=bx2 o
 exact L7 (v:=.agg #[MO ((lo:Int)+d),MO ((h:Int)+d)]) (by simp [results,results185,go_sem,x]) rfl ⟨rfl,p⟩
def AS (r:Rg):Array Value:=#[.agg #[MO (r.1:Int),MO (r.2:Int)]]
theorem BY {α:Type} {l:List α} {k:Nat} {x:α} (h:l[k]?=some x):l.take (k+1)=l.take k++[x]:=by
 rw [List.take_add_one,h];rfl
theorem ui (A:Option Addr) (rs:List Rg) (c d:Nat) (w:World) (hr:Rd w A (aN rs)):
  Calls prog 173 #[.slice A rs.length c,MO d] w fun e u=>∃L S B,e=.returned (.func (.func 186) #[] #[(au L),(au S)])/\j9 u L S B A rs c d 302/\(w.heap.size<=L/\w.heap.size<=S/\w.heap.size<=B)/\aq w u:=by
 obtain ⟨n,hn⟩:∃n,n=rs.length:=⟨_,rfl⟩
 rw [<-hn]
 obtain ⟨H,D⟩:=ae hn hr;clear hn hr
 go_enter func173,ntmps173
 go_wp2_with fail
 have a1:=LP w (.cells #[.slice A n c] 170)
 have p:aq w (w.alloc (.cells #[.slice A n c] 170)):=(LR _ w).alloc (LO _) _
 have s1:=Mb w (.cells #[.slice A n c] 170)
 generalize w.alloc (.cells #[.slice A n c] 170)=W1 at *
 have x:=LP W1 (.cells #[MO d] 3)
 have y:aq W1 (W1.alloc (.cells #[MO d] 3)):=(LR _ W1).alloc (LO _) _
 have s2:=Mb W1 (.cells #[MO d] 3)
 generalize W1.alloc (.cells #[MO d] 3)=W2 at *
 have C:=LP W2 (.cells #[.func (.func 185) #[] #[(au (w.heap.size+1))]] 302)
 have b3:aq W2 (W2.alloc (.cells #[.func (.func 185) #[] #[(au (w.heap.size+1))]] 302)):=(LR _ W2).alloc (LO _) _
 generalize W2.alloc (.cells #[.func (.func 185) #[] #[(au (w.heap.size+1))]] 302)=W3 at *
 have i:=y.trans (b3.mono y.size)
 have h:=p.trans (i.mono p.size)
 rw [s2,s1] at C
 rw [s1] at x
 exact L7 (v:=.func (.func 186) #[] #[(au w.heap.size),(au (w.heap.size+1+1))]) (by simp [results,results173,go_sem]) rfl
  ⟨w.heap.size,w.heap.size+1+1,w.heap.size+1,rfl,⟨by rw [<-H.o];exact sb a1 _ i,C,sb x _ b3,D.o.below h⟩,⟨LO _,by omega,by omega⟩,h⟩
theorem Dx (n l L S B:Nat) (A:Option Addr) (rs:List Rg) (c d:Nat) (Kp:World->World->Prop) (U:∀W C,j9 W L S B A rs c d 302->Kp W C->j9 C L S B A rs c d 302) (y:rs.length<=1048576) (hd:d<=1048576) (a5:∀r∈rs,r.1<=1048576/\r.2<=1048576)
  (J Jx:List Rg->World->Prop) (Bx:Nat) (hJ:AbidesFrom Bx J)
  (hY:∀p x W,J p W->x∈shR d rs->p.length<rs.length->YieldAt Fence.wide (n-1) prog l (AS x) W fun e C=>
   (e=.returned (.bool true)/\J (p++[x]) C/\Kp W C)\/(e=.returned (.bool false)/\Jx (p++[x]) C))
  (W:World) (hA:j9 W L S B A rs c d 302) (h0:J [] W):
  CallsIn Fence.wide n prog 186 #[.func (.yield l) #[] #[],(au L),(au S)] W fun e C=>(∃v,e=.returned v)/\
   ((∃ys,ys=shR d rs/\J ys C)\/(∃p,True/\Jx p C)):=by
 have xL:=bx1 hA.l
 obtain ⟨N,Q⟩:∃N,N=rs.length:=⟨_,rfl⟩
 rw [<-Q] at hY y xL
 obtain ⟨R,HA,HK⟩:=af Q hA U;clear Q hA U
 refine callsIn_of_wp func186 rfl trivial ?_ rfl
 simp only [ntmps186,List.size_toArray,List.length_cons,List.length_nil,Nat.reduceAdd,Nat.reduceSub,Array.replicate_succ,Array.replicate_zero,List.push_toArray,List.append_toArray,List.nil_append,List.cons_append]
 gi_wp2
 gi_loopw [8] (fun i wr=>∃k:Nat,k<=N/\i=MO k/\J ((shR d rs).take k) wr/\j9 wr L S B A rs c d 302) (fun i _=>N-(intOf i).toNat)
 case atStart=>exact ⟨0,LS _,rfl,h0,HA.o⟩
 case round=>
  obtain ⟨k,hk,rfl,u,hL⟩:=hrel
  clear xL h0 HA W
  by_cases a4:k<N
  ·obtain ⟨r,hr⟩:∃r,rs[k]?=some r:=⟨_,Mq (by rw [<-R.o];exact a4)⟩
   have T:=a5 r (List.mem_of_getElem? hr)
   have H:=mG hr
   obtain ⟨g,o,rfl,c0⟩:=hL.r _ _ H.1
   obtain ⟨g',o',e',c1⟩:=hL.r _ _ H.2
   obtain ⟨rfl,rfl⟩:g'=g/\o'=o:=by simpa using e'.symm
   rw [<-MG] at c1
   have xS:=bx1 hL.s
   have lS:=az xS.1
   obtain ⟨O,Hr,HL⟩:=af u hr hL;clear u hr H e' hL
   have y:((shR d rs).take k).length<N:=by rw [Mt,kT];omega
   have hx:(shR d rs)[k]?=some (r.1+d,r.2+d):=by simp [shR,Hr.o]
   have Hx:=aa hx
   have qa:aq wr (wr.alloc (.cells #[MO (r.1:Int),MO (r.2:Int)] 148)):=(LR _ wr).alloc (LO _) _
   clear hx
   gi_wp2_with fail
   refine ⟨trivial,(fun h=>by cases h),?_⟩
   refine (callsIn_wide.2 (zD r.1 r.2 d B _ (HL.o.below qa).b T.1 T.2 hd)).mono ?_
   rintro e w3 ⟨rfl,a1⟩
   have I:=qa.trans (a1.mono qa.size)
   have a0:=hJ _ _ _ none O.o (lB I) (fun _ h=>by cases h)
   obtain ⟨fn,tmps,a2,a8,hy,hR⟩:=hY _ (r.1+d,r.2+d) w3 a0 (List.mem_of_getElem? Hx.o) y
   unfold AS at hy
   dsimp only at hy
   rw [Int.natCast_add,Int.natCast_add] at hy
   have a3:=aa (HL.o.below I);clear a0 a1 I qa xS lS c0 c1
   gi_wp2
   refine ⟨(fun h=>by cases h),?_⟩
   refine hR.mono ?_
   rintro e w5 (⟨rfl,V,Z⟩ | ⟨rfl,Y⟩)
   ·obtain ⟨a7,a6⟩:=ae V Z;clear V Z
    gi_wp2
    go_roundw
    case rel=>exact ⟨k+1,by omega,by go_num,by rw [BY Hx.o];exact a7.o,HK.o _ _ a3.o a6.o⟩
    case measure=>simp [intOf];omega
   ·gi_wp2
    refine L7 (results_none rfl _ _ _) rfl ?_
    exact ⟨⟨_,rfl⟩,.inr ⟨_,trivial,Y⟩⟩
  ·obtain rfl:k=N:=ap
   have D:(shR d rs).take k=shR d rs:=List.take_of_length_le (by rw [kT,R.o];exact LO _)
   rw [D] at u
   have O:=aa u;clear u D
   gi_wp2
   go_end0
   exact ⟨⟨_,rfl⟩,.inl ⟨_,rfl,O.o⟩⟩
structure Kd (n₁ n₂:Nat) (W W':World):Prop where
 size:W.heap.size<=W'.heap.size
 block:∀k,n₁<=k->k<n₂->W'.heap[k]?=W.heap[k]?
theorem Kd.trans {i o:Nat} {A B C:World} (h:Kd i o A B) (k:Kd i o B C):Kd i o A C:=⟨LU h.size k.size,fun j h1 p=>(k.block j h1 p).trans (h.block j h1 p)⟩
theorem LC {v u:Nat} {w:World} (hn:u<=w.heap.size) (W:World) (l:Nat) (o i:Obj) (hl:w.heap.size<=l) (h:W.heap[l]?=some o) (h1:o.isCells=false) (p:o.isWalk=false):Kd v u W (W.putObj l i):=
 ⟨(belowK_b hn W l o i hl h h1 p).size,fun k _ hk=>(belowK_b hn W l o i hl h h1 p).block k hk⟩
theorem xx {p i:Nat} {W o:World} (h:Below i W o):Kd p i W o:=⟨h.size,fun k _ hk=>h.block k hk⟩
structure D0 (n₁ n₂ L S B:Nat) (A:Option Addr):Prop where
 l:n₁<=L/\L<n₂
 s:n₁<=S/\S<n₂
 b:n₁<=B/\B<n₂
 a:∀x,A=some x->n₁<=x.block/\x.block<n₂
theorem j9.kd {p i:Nat} {W v:World} {L S B:Nat} {A:Option Addr} {rs:List Rg} {c d:Nat} {u:TypeId} (h:j9 W L S B A rs c d u) (hb:D0 p i L S B A) (k:Kd p i W v):j9 v L S B A rs c d u:=
 ⟨(k.block _ hb.l.1 hb.l.2).trans h.l,(k.block _ hb.s.1 hb.s.2).trans h.s,(k.block _ hb.b.1 hb.b.2).trans h.b,fun j x y=>by
  obtain ⟨b,o,e,hc⟩:=h.r j x y
  refine ⟨b,o,e,?_⟩
  have:=hb.a _ e
  rw [World.cell?] at hc ⊢
  rw [k.block b this.1 this.2]
  exact hc⟩
theorem xt (n v u L S B:Nat) (A:Option Addr) (rs:List Rg) (c d:Nat) (w:World) (hA:j9 w L S B A rs c d 302) (hB:D0 v u L S B A) (i:rs.length<=1048576) (y:d<=1048576) (o:∀r∈rs,r.1<=1048576/\r.2<=1048576):
  SeqStopsK Fence.wide n prog 186 #[(au L),(au S)] AS (Kd v u) (fun ys=>ys=shR d rs) (fun _=>True) rs.length w:=fun l J I W C D _ N H=>
 Dx n l L S B A rs c d (Kd v u) (fun _ _ h k=>h.kd hB k) i y o J I _ D (fun p x W h _=>N p x W h) W (hA.below C) H
theorem jw {w:World} {base:Nat} {e:TypeId} {size n c:Nat} {A:Option Addr} {xs:List Value} (h:w.ownsRow base e size (.slice A n c) n xs):∀x,A=some x->base<=x.block/\x.block<w.heap.size:=fun x o=>by
 rcases h.2 with ⟨i,_⟩ | ⟨g,cap,p,i,hb,hg,_⟩
 ·simp only [MC] at i;rw [o] at i;cases i.1
 ·simp only [MC] at i;rw [o] at i;cases i.1;exact ⟨hb,LN hg⟩
end Go.Proofs.YtgmajkppbhiopaaGreat
namespace Go.Proofs.YtgmajkppbhiopaaGreat
open Go.RowKit Go.Shelf
open Tryz
attribute [local go_sem] Oper.semAt_some
theorem wh (l:List Rg) (x:Rg):aN (l++[x])=aN l++[MO (x.1:Int),MO (x.2:Int)]:=by simp [aN]
theorem Ip (L S B:Nat) (A:Option Addr) (rs:List Rg) (c d:Nat) (w:World) (hA:j9 w L S B A rs c d 302) (hB:D0 0 w.heap.size L S B A) (N:rs.length<=1048576) (hd:d<=1048576) (V:∀r∈rs,r.1<=1048576/\r.2<=1048576):
  Calls prog 198 #[MP,.func (.func 186) #[] #[(au L),(au S)]] w fun e w'=>∃v,e=.returned v/\w'.ownsRow w.heap.size 148 2 v rs.length (aN (shR d rs))/\aq w w':=by
 have I:=fun n=>xt n 0 w.heap.size L S B A rs c d w hA hB N hd V
 have U:=aa I;clear I
 refine (callsIn_wide (n:=3)).1 ?_
 refine callsIn_of_wp_marks func198 rfl trivial ?_ rfl
 simp only [ntmps198,List.size_toArray,List.length_cons,List.length_nil,Nat.reduceAdd,Nat.reduceSub,Array.replicate_succ,Array.replicate_zero,List.push_toArray,List.append_toArray,List.nil_append,List.cons_append]
 gi_wp2_with fail
 have y:aq w (w.alloc (.cells #[MP] 170)):=(LR _ w).alloc (LO _) _
 refine' wpIn_rangeFunc_ownH (F:=Fence.wide) (n:=3) rfl ap (gf:=186) (lb:=#[(au L),(au S)]) rfl trivial (enters_of func186 (by kernel_rfl) rfl)
  (U.o _) Kd.trans (LC y.size) y (fun _=>rfl)
  (fun (p:List Rg) W=>(∃v,Boxed W w.heap.size 170 v/\W.ownsRow w.heap.size 148 2 v p.length (aN p)/\True)/\aq w W)
  (fun _ _ _=>False)
  (OwnFrom.and (Own.from (holdsRow_own w.heap.size w.heap.size 170 148 2 (fun p:List Rg=>p.length) (fun p=>aN p) (fun _ _=>True)) _) (ownFrom_below (LO _) y.size))
  (fun _ _ _ _ _ hs _ _=>hs)
  ⟨⟨_,Boxed.new w 170 (MP),LZ _ _ _ _,trivial⟩,y⟩
  (fun (x:Rg) Y W=>∃b,Y={tmps:=#[MP,.func (.func 186) #[] #[(au L),(au S)],(au w.heap.size),undef,MP,(au b),.func (.func 186) #[] #[(au L),(au S)],.agg #[MO (x.1:Int),MO (x.2:Int)],undef,undef,undef,undef,undef],defers:=[]}/\W.heap[b]?=some (.cells #[MO (x.1:Int),MO (x.2:Int)] 148 (0,0)))
  (fun x Y _ W W' row h hg hr=>by obtain ⟨b,e,hb⟩:=h;exact ⟨b,e,fS _ b _ rfl () W W' row hb hg hr⟩)
  ?assign ?body ?done ?stop
 case assign=>
  rintro l p x W K ⟨⟨v,C,i,_⟩,u⟩ J
  unfold AS
  have R:aq W (W.alloc (.cells #[MO (x.1:Int),MO (x.2:Int)] 148)):=(LR _ W).alloc (LO _) _
  gi_wp2
  refine J _ _ ((KeepsOthers.of_grownBy (row:=none) (lB R) (fun _ _ h=>by cases h)).from _) (xx (R.mono u.size)) ⟨⟨v,C.alloc _,i.alloc _,trivial⟩,u.trans (R.mono u.size)⟩ ⟨_,rfl,LP _ _⟩
 case body=>
  rintro l p x Y W _ _ ⟨⟨v,C,i,_⟩,u⟩ ⟨b,rfl,hb⟩ H
  have hc:=C.cell
  have hW:=u.size
  have a0:=az hc
  have xb:=bx2 hb
  have lb:=LN hb
  have R:aq W (W.alloc (.cells #[MO (x.1:Int),MO (x.2:Int)] 148)):=(LR _ W).alloc (LO _) _
  obtain ⟨Hv,O,Z,Q,HW⟩:=ah C i u H hW;clear C i u H hW hb
  gi_wp2_with (gi_at_builtin;refine m7 lF W rfl (.tmp 8) (.tmp 10) rfl w.heap.size w.heap.size v p.length _ rfl Hv.o (by decide) O.o [MO (x.1:Int),MO (x.2:Int)] rfl rfl (by simp [Value.oneCell']) (by have:=Q.o;omega) (by have:=Q.o;unfold maxLen;omega) HW.o (LO _) ?_)
  intro g1 c1 w1 T k2 k3 k4 k5 k6
  have a2:=T.cell;have a1:=T.frozen
  obtain ⟨K2,K3,K4,K5⟩:=ag k2 k3 k4 k5;clear T k2 k3 k4 k5 k6 hc xb
  gi_wp2_with fail
  exact ⟨K4.o.from _,xx K5.o,⟨⟨_,K2.o,by rw [Mo,wh];exact K3.o,trivial⟩,Z.o.trans K5.o⟩⟩
 case done=>
  rintro D ys W hD rfl ⟨⟨v,C,i,_⟩,u⟩ J
  have hc:=C.cell
  gi_wp2
  refine ⟨by simp,.inl ⟨_,_,rfl,run_takeDeferred J,?_⟩⟩
  rw [kT] at i
  refine ⟨v,by simp [results,results198,go_sem],v,rfl,ownsRow_putObj i _ J rfl,u.trans (belowK_b (w:=w) (LO _) W D _ _ (by simp at hD;omega) J rfl rfl)⟩
 case stop=>
  rintro D c p W _ _ h _
  exact h.elim
theorem xU (L S B:Nat) (A:Option Addr) (rs:List Rg) (c d:Nat) (w:World) (hA:j9 w L S B A rs c d 302) (hB:D0 0 w.heap.size L S B A) (i:rs.length<=1048576) (u:d<=1048576) (p:∀r∈rs,r.1<=1048576/\r.2<=1048576):
  Calls prog 197 #[.func (.func 186) #[] #[(au L),(au S)]] w fun e x=>∃v,e=.returned v/\x.ownsRow w.heap.size 148 2 v rs.length (aN (shR d rs))/\aq w x:=by
 have h:=Ip L S B A rs c d w hA hB i u p
 have H:=aa h;clear h hA hB i u p
 go_enter func197,ntmps197
 go_wp2_with fail
 refine H.o.mono ?_
 rintro e I ⟨v,rfl,y,C⟩
 have D:=aa y;clear y
 go_wp2_with fail
 go_ret
 exact ⟨_,rfl,D.o,C⟩
end Go.Proofs.YtgmajkppbhiopaaGreat
namespace Go.Proofs.YtgmajkppbhiopaaGreat
open Go.RowKit
open Tryz
theorem xH {n k:Nat} (h1:1<=k) (hn:n<=1048576):∀r∈fK n k,r.1<=1048576/\r.2<=1048576:=by
 intro r hr
 simp only [fK,List.mem_map,List.mem_range] at hr
 obtain ⟨i,h,rfl⟩:=hr
 have a:=fN n k i h1 ap
 have b:=fN n k (i+1) h1 ap
 exact ⟨by simp only;omega,by simp only;omega⟩
theorem Bz {n s:Nat} (hn:n<=1048576):∀r∈fp n s,r.1<=1048576/\r.2<=1048576:=by
 intro r hr
 simp only [fp,List.mem_map,List.mem_range] at hr
 obtain ⟨i,h,rfl⟩:=hr
 have:=iV h
 exact ⟨by simp only;omega,by simp only;omega⟩
theorem EA (lo h k:Nat) (w:World) (h1:1<=k) (h2:k<=1048576) (h3:lo<=1048576) (h4:h<=1048576):
  Calls prog 189 #[.agg #[MO lo,MO h],MO k] w fun e y=>∃v,e=.returned v/\y.ownsRow w.heap.size 148 2 v k (aN (dU (lo,h) k))/\aq w y:=by
 obtain ⟨u,i⟩:∃u,w.alloc (.cells #[MO lo,MO h] 148)=u:=⟨_,rfl⟩
 have h0:u.heap[w.heap.size]?=some (.cells #[MO lo,MO h] 148 (0,0)):=by rw [<-i];exact LP w _
 have D:aq w u:=by rw [<-i];exact (br w).alloc (LO _) _
 have t0:=fun y q=>bx2 (sb h0 y q)
 obtain ⟨N,p⟩:=ae i D;clear i h0 D
 have R:an (dU (lo,h) k=shR lo (fK (h-lo) k)):=aa rfl
 go_enter func189,ntmps189
 have Z:=br u
 go_wp2_with fail
 rw [N.o]
 refine HA.g (fun y:World=>aq u y) ?_
 refine HA.t ?_ [0,2,4,5] Z.drew ?_
 refine HA.c 1 (rr lo h _ h3 h4) ?_
 rintro e w1 ⟨rfl,Y⟩
 have Q:=bt Z.drew Y
 refine ⟨_,rfl,Q,fun _=>?_⟩
 refine HA.c 3 (xG (h-lo) k _ h1 h2 ap) ?_
 rintro e w2 ⟨v2,rfl,I,k2⟩
 obtain ⟨A,c,rfl,_⟩:=aD I
 have U:=bt Q k2
 have hl:=ui A (fK (h-lo) k) c lo w2 (Rd.own I)
 rw [fD] at hl
 refine ⟨_,rfl,U,fun _=>?_⟩
 refine HA.c 6 hl ?_
 rintro e w3 ⟨L,S,B,rfl,hA,V,O⟩
 have C:D0 0 w3.heap.size L S B A:=⟨⟨LS _,LN hA.l⟩,⟨LS _,LN hA.s⟩,⟨LS _,LN hA.b⟩,fun x hx=>⟨LS _,LV (jw I x hx).2 O.size⟩⟩
 clear V
 have H:=bt U O
 refine ⟨_,rfl,H,fun _=>?_⟩
 refine HA.c 7 (xU L S B A _ c lo w3 hA C (by rw [fD];exact h2) h3 (xH h1 ap)) ?_
 rintro e w4 ⟨v4,rfl,T,k4⟩
 have J:=bt H k4
 refine ⟨_,rfl,J,fun _=>?_⟩
 refine HA.t ?_ [8] J ?_
 refine HA.d ?_
 have hB:=aa (p.o.trans (J.mono p.o.size))
 rw [fD,<-R.out] at T
 have O4:=aa (aE (base':=w.heap.size) T (LU p.o.size H.size));clear T I hl hA C Y k2 O k4 Q U H J t0
 go_wp2_with fail
 go_ret
 exact ⟨_,rfl,O4.o,hB.o⟩
theorem xW (lo h k:Nat) (w:World) (h1:1<=k) (h2:k<=1048576) (h3:lo<=1048576) (h4:h<=1048576):
  Calls prog 190 #[.agg #[MO lo,MO h],MO k] w fun e C=>∃v,e=.returned v/\C.ownsRow w.heap.size 148 2 v (chR (lo,h) k).length (aN (chR (lo,h) k))/\aq w C:=by
 obtain ⟨y,i⟩:∃y,w.alloc (.cells #[MO lo,MO h] 148)=y:=⟨_,rfl⟩
 have h0:y.heap[w.heap.size]?=some (.cells #[MO lo,MO h] 148 (0,0)):=by rw [<-i];exact LP w _
 have H:aq w y:=by rw [<-i];exact (br w).alloc (LO _) _
 have t0:=fun C q=>bx2 (sb h0 C q)
 obtain ⟨T,u⟩:=ae i H;clear i h0 H
 have I:an (chR (lo,h) k=shR lo (fp (h-lo) k)):=aa rfl
 go_enter func190,ntmps190
 have q0:=br y
 go_wp2_with fail
 rw [T.o]
 refine HA.g (fun C:World=>aq y C) ?_
 refine HA.t ?_ [0,2,4,5] q0.drew ?_
 refine HA.c 1 (rr lo h _ h3 h4) ?_
 rintro e w1 ⟨rfl,k1⟩
 have V:=bt q0.drew k1
 refine ⟨_,rfl,V,fun _=>?_⟩
 have p:=lH (h-lo) k w1 ap h1 h2
 have N:=fE (h-lo) k
 rw [<-pU,<-eD] at p
 rw [<-eD] at N
 refine HA.c 3 p ?_
 rintro e w2 ⟨v2,rfl,Q,k2⟩
 obtain ⟨A,c,rfl,_⟩:=aD Q
 have Z:=bt V k2
 have hl:=ui A (fp (h-lo) k) c lo w2 (Rd.own Q)
 refine ⟨_,rfl,Z,fun _=>?_⟩
 refine HA.c 6 hl ?_
 rintro e w3 ⟨L,S,B,rfl,hA,a0,U⟩
 have D:D0 0 w3.heap.size L S B A:=⟨⟨LS _,LN hA.l⟩,⟨LS _,LN hA.s⟩,⟨LS _,LN hA.b⟩,fun x hx=>⟨LS _,LV (jw Q x hx).2 U.size⟩⟩
 clear a0
 have O:=bt Z U
 refine ⟨_,rfl,O,fun _=>?_⟩
 refine HA.c 7 (xU L S B A _ c lo w3 hA D ap h3 (Bz ap)) ?_
 rintro e w4 ⟨v4,rfl,Y,k4⟩
 have R:=bt O k4
 refine ⟨_,rfl,R,fun _=>?_⟩
 refine HA.t ?_ [8] R ?_
 refine HA.d ?_
 have hB:=aa (u.o.trans (R.mono u.o.size))
 have J:(chR (lo,h) k).length=(fp (h-lo) k).length:=by rw [I.out,kT]
 rw [<-I.out,<-J] at Y
 have O4:=aa (aE (base':=w.heap.size) Y (LU u.o.size O.size));clear Y Q hl hA D p N J k1 k2 U k4 V Z O R t0
 go_wp2_with fail
 go_ret
 exact ⟨_,rfl,O4.o,hB.o⟩
end Go.Proofs.YtgmajkppbhiopaaGreat
namespace Go.Proofs.YtgmajkppbhiopaaGreat
open Go.RowKit Go.Shelf
open Tryz
theorem vb {l n:Nat} {P:Program} {row:String} {args:Array Value} {w:World} {R:Value->World->Prop} (h:Rows P row args w R):RowsIn (Fence.wide.inRound l) n P row args w R:=
 fun c i _=>let ⟨v,w',r,s⟩:=h c i;⟨v,w',r,(stepsIn_wide (P:=P)).2 s⟩
theorem vh {l n:Nat} {P:Program} {o:Oper} {a:Act} {w:World} {K:Act->World->Prop} {Q:Exit->Act->World->Prop} (i:∀c,o.op≠.defer c) (h:o.wp P a w K Q):o.wpIn (Fence.wide.inRound l) n P a w K Q:=by
 unfold Oper.wp at h
 unfold Oper.wpIn
 refine ⟨fun _ _=>trivial,?_⟩
 rw [Oper.semAt_plain _ _ _ i]
 generalize (execOp a.eval o).run P w=r at *
 cases r with
 | ok x w'=>
  cases x<;>simp only [Oper.upon,Oper.uponIn] at h ⊢<;>
   first
    | exact h
    | exact ⟨fun p=>(by cases p),CallsIn.inRound l (callsIn_wide.2 h)⟩
    | exact ⟨fun p=>(by cases p),vb h⟩
    | exact h.elim
 | halt x w'=>cases x<;>simp only [Oper.upon,Oper.uponIn] at h ⊢<;>exact h
theorem uK {l n:Nat} {P:Program} {ops:Array Oper} {Q:Exit->Act->World->Prop} (v:∀(i:Nat) (o:Oper),ops[i]?=some o->∀c,o.op≠.defer c) (u:¬LetsOut Q) {i:Nat} {K:Act->World->Prop} {a:Act} {w:World}
  (h:wpOp P ops Q i K a w):wpOpIn (Fence.wide.inRound l) n P ops Q i K a w:=by
 unfold wpOp at h
 unfold wpOpIn
 split at h
 ·rename_i p;simp only [p];exact h
 ·rename_i o p
  simp only [p]
  split at h
  ·rename_i hw
   rw [if_pos hw]
   rcases h with h | ⟨_,h⟩
   ·exact vh (v i o p) h
   ·exact absurd h u
  ·rename_i hw
   rw [if_neg hw]
   exact ⟨fun _ _=>trivial,h⟩
theorem m8 {l n:Nat} {P:Program} {y:Region.Mode} {ops:Array Oper} {Q:Exit->Act->World->Prop} (x:∀(i:Nat) (o:Oper),ops[i]?=some o->∀c,o.op≠.defer c) (v:¬LetsOut Q):∀(p:Nat) (u:Array Bool) (a:Act) (w:World),
  wpAny P y ops Q p u a w->wpAnyIn (Fence.wide.inRound l) n P y ops Q p u a w
 | 0,_,_,_,h=>h
 | p+1,_,_,_,h=>⟨h.1,fun i D=>wpOpIn_mono (fun C B A=>m8 x v p _ C B A) (uK x v (h.2 i D))⟩
def LM:Op->Bool
 | .defer _=>true
 | _=>false
theorem I9 {ops:Array Oper} (h:ops.all (fun o=> !LM o.op)=true):∀(i:Nat) (o:Oper),ops[i]?=some o->∀c,o.op≠.defer c:=fun i o p c e=>by
 have:=(Array.all_eq_true.1 h) i (Array.getElem?_eq_some_iff.1 p).1
 rw [(Array.getElem?_eq_some_iff.1 p).2,e] at this
 cases this
theorem lY {l n:Nat} {P:Program} {ops:Array Oper} {Q:Exit->Act->World->Prop} (S:World->Prop) {id:Nat} {a:Act} {w:World} (hm:P.follows .mixedOrders=true) (i:ops.all (fun o=> !LM o.op)=true) (p:¬LetsOut Q)
  (h:wpAnyH P .any ops Q S ops.size (Array.replicate ops.size false) a w.drew):(Code.region id ops true).wpIn (Fence.wide.inRound l) n P Q a w:=
 wpIn_region_any hm (m8 (I9 i) p _ _ _ _ (wpAny_of_held _ _ _ _ h))
end Go.Proofs.YtgmajkppbhiopaaGreat
namespace Go.Proofs.YtgmajkppbhiopaaGreat
open Go.RowKit Go.Shelf
open Tryz
attribute [local go_sem] Oper.semAt_some
theorem vz (s:Rg) (c:Nat):(chR s c).length=du (s.2-s.1) c:=by rw [chR,kT,eD]
theorem IP {b:Rg} {k:Nat} (h1:1<=k) (h:b.1<=1048576) (hb:b.2<=1048576):∀r∈dU b k,r.1<=1048576/\r.2<=1048576:=by
 intro r hr
 simp only [dU,shR,fK,List.map_map,List.mem_map,List.mem_range,Function.comp] at hr
 obtain ⟨i,o,rfl⟩:=hr
 have a:=fN (b.2-b.1) k i h1 ap
 have c:=fN (b.2-b.1) k (i+1) h1 ap
 exact ⟨by simp only;omega,by simp only;omega⟩
end Go.Proofs.YtgmajkppbhiopaaGreat
namespace Go.Proofs.YtgmajkppbhiopaaGreat
open Go.RowKit
open Tryz
theorem BV (n:Int) (W:Nat) (h:1<=W):n%(W:Int)=if n.tmod W<0 then n.tmod W+W else n.tmod W:=by
 rw [Int.tmod_eq_emod]
 have h1:=Int.emod_nonneg n (show (W:Int)≠0 by omega)
 have o:=Int.emod_lt_of_pos n (show (0:Int)<W by omega)
 have i:((W:Int).natAbs:Int)=W:=by simp
 split<;>split<;>omega
theorem IJ (n:Int) (W:Nat) (h:1<=W): -(W:Int)<n.tmod W/\n.tmod W<W:=by
 rw [Int.tmod_eq_emod]
 have h1:=Int.emod_nonneg n (show (W:Int)≠0 by omega)
 have p:=Int.emod_lt_of_pos n (show (0:Int)<W by omega)
 have i:((W:Int).natAbs:Int)=W:=by simp
 split
 ·omega
 ·rename_i o
  have:n%(W:Int)≠0:=fun e=>o (.inr (Int.dvd_of_emod_eq_zero e))
  omega
theorem nQ (st bk lo u W c:Nat) (n:Int) (w:World) (h1:1<=W) (v:W<=1048576) (hn: -(W:Int)<=n) (p:n<=2*W):
  Calls prog 196 #[.agg #[MO (st:Nat),MO (bk:Nat),MO (lo:Nat),MO (u:Nat),MO (W:Nat),MO (c:Nat)],MO n] w fun e i=>e=.returned (MO (n%(W:Int)))/\aq w i:=by
 have x:¬((W:Int)=0):=ap
 have hm:=IJ n W h1
 have he:=BV n W h1
 obtain ⟨r,hr⟩:∃r,n.tmod (W:Int)=r:=⟨_,rfl⟩
 rw [hr] at hm he
 by_cases h:r<0
 ·rw [if_pos h] at he
  rw [he]
  have o:=aa he;clear he
  go_enter func196,ntmps196
  go_wp2_with fail
  go_ret
  exact ⟨rfl,(br w).alloc (LO _) _⟩
 ·rw [if_neg h] at he
  rw [he]
  have o:=aa he;clear he
  go_enter func196,ntmps196
  go_wp2_with fail
  go_ret
  exact ⟨rfl,(br w).alloc (LO _) _⟩
theorem ql (st bk lo u W c x r:Nat) (w:World) (h1:1<=W) (A:W<=1048576) (B:x<W) (hr:r<W):
  Calls prog 194 #[.agg #[MO (st:Nat),MO (bk:Nat),MO (lo:Nat),MO (u:Nat),MO (W:Nat),MO (c:Nat)],MO x,MO r] w fun e h=>e=.returned (MO (((x:Int)-r)%(W:Int)))/\aq w h:=by
 have p:=fun h=>nQ st bk lo u W c ((x:Int)-r) h h1 A ap ap
 have y:=aa p;clear p
 go_enter func194,ntmps194
 go_wp2_with fail
 refine (y.o _).mono ?_
 rintro e v ⟨rfl,i⟩
 have hB:aq w v:=((br w).alloc (LO _) _).trans (i.mono (by simp))
 clear i
 go_wp2_with fail
 go_ret
 exact ⟨rfl,hB⟩
theorem rZ (st bk lo u W c x r:Nat) (w:World) (h1:1<=W) (A:W<=1048576) (B:x<W) (hr:r<W):
  Calls prog 195 #[.agg #[MO (st:Nat),MO (bk:Nat),MO (lo:Nat),MO (u:Nat),MO (W:Nat),MO (c:Nat)],MO x,MO r] w fun e h=>e=.returned (MO (((x:Int)+1-r)%(W:Int)))/\aq w h:=by
 have p:=fun h=>nQ st bk lo u W c ((x:Int)+1-r) h h1 A ap ap
 have y:=aa p;clear p
 go_enter func195,ntmps195
 go_wp2_with fail
 refine (y.o _).mono ?_
 rintro e v ⟨rfl,i⟩
 have hB:aq w v:=((br w).alloc (LO _) _).trans (i.mono (by simp))
 clear i
 go_wp2_with fail
 go_ret
 exact ⟨rfl,hB⟩
theorem yC {W x ph r:Nat} (hr:r<W) (n:Int) (hn:n=(x:Int)+ph-r):n%(W:Int)=((er W x ph r:Nat):Int):=by
 unfold er
 rw [Int.natCast_emod,show ((x+(2*W+ph-r):Nat):Int)=n+2*W by omega,Int.add_mul_emod_self_right]
theorem tx {W x ph r:Nat} (hr:r+1<=W) (n:Int) (hn:n=((x:Int)-1)%(W:Int)+ph-r):n%(W:Int)=((fI W x ph r:Nat):Int):=by
 unfold fI
 rw [Int.natCast_emod,show ((x+(2*W+ph-r-1):Nat):Int)=((x:Int)-1+ph-r)+2*W by omega,Int.add_mul_emod_self_right,hn,Int.add_sub_assoc,Int.emod_add_emod,Int.add_sub_assoc]
end Go.Proofs.YtgmajkppbhiopaaGreat
namespace Go.Proofs.YtgmajkppbhiopaaGreat
open Go.RowKit
open Tryz
theorem Gp (w:World) (f g:Fn):(Instr.index 309 (.agg #[.func f #[] #[],.func g #[] #[]]) (MO 0)).run prog w=.ok (.func f #[] #[]) w:=by
 simp [Instr.index,run_underlying underlying309,asIntOf,go_sem]
theorem Jm (w:World) (f g:Fn):(Instr.index 309 (.agg #[.func f #[] #[],.func g #[] #[]]) (MO 1)).run prog w=.ok (.func g #[] #[]) w:=by
 simp [Instr.index,run_underlying underlying309,asIntOf,go_sem]
attribute [local go_sem] Gp Jm
theorem ED (st bk lo y W c x ph r:Nat) (w:World) (h1:1<=W) (A:W<=1048576) (B:x<W) (C:ph<2) (hr:r+1<W):
  Calls prog 188 #[.agg #[MO (st:Nat),MO (bk:Nat),MO (lo:Nat),MO (y:Nat),MO (W:Nat),MO (c:Nat)],MO x,MO ph,MO r,.bool true] w fun e p=>e=.returned (.tuple #[MO (er W x ph r:Nat),.bool true])/\aq w p:=by
 have g1:(x:Int)<W:=ap
 have D:(r:Int)<(W:Int)-1:=ap
 have hs:=yC (W:=W) (x:=x) (ph:=ph) (r:=r) ap _ rfl
 obtain rfl | rfl:ph=0\/ph=1:=ap
 ·have h:=fun p=>ql st bk lo y W c x r p h1 A B ap
  rw [show ((x:Int)+(0:Nat)-r)=(x:Int)-r by omega] at hs
  rw [hs] at h
  have v:=aa h;clear h hs
  go_enter func188,ntmps188
  go_wp2_with fail
  refine (v.o _).mono ?_
  rintro e u ⟨rfl,i⟩
  have hB:aq w u:=((br w).alloc (LO _) _).trans (i.mono (by simp))
  clear i
  go_wp2_with fail
  go_ret2
  exact ⟨rfl,hB⟩
 ·have h:=fun p=>rZ st bk lo y W c x r p h1 A B ap
  rw [show ((x:Int)+(1:Nat)-r)=(x:Int)+1-r by omega] at hs
  rw [hs] at h
  have v:=aa h;clear h hs
  go_enter func188,ntmps188
  go_wp2_with fail
  refine (v.o _).mono ?_
  rintro e u ⟨rfl,i⟩
  have hB:aq w u:=((br w).alloc (LO _) _).trans (i.mono (by simp))
  clear i
  go_wp2_with fail
  go_ret2
  exact ⟨rfl,hB⟩
theorem EE (st bk lo I W c x ph r:Nat) (w:World) (h1:1<=W) (T:W<=1048576) (hx:x<W) (hp:ph<2) (hr:r+1<W):
  Calls prog 188 #[.agg #[MO (st:Nat),MO (bk:Nat),MO (lo:Nat),MO (I:Nat),MO (W:Nat),MO (c:Nat)],MO x,MO ph,MO r,.bool false] w fun e i=>e=.returned (.tuple #[MO (fI W x ph r:Nat),.bool true])/\aq w i:=by
 have g1:(x:Int)<W:=ap
 have g2:(r:Int)<(W:Int)-1:=ap
 obtain ⟨A,u⟩:∃A,w.alloc (.cells #[MO (st:Nat),MO (bk:Nat),MO (lo:Nat),MO (I:Nat),MO (W:Nat),MO (c:Nat)] 296)=A:=⟨_,rfl⟩
 have V:A.heap[w.heap.size]?=some (.cells #[MO (st:Nat),MO (bk:Nat),MO (lo:Nat),MO (I:Nat),MO (W:Nat),MO (c:Nat)] 296 (0,0)):=by rw [<-u];exact LP w _
 have Q:aq w A:=by rw [<-u];exact (br w).alloc (LO _) _
 have t0:=fun i q=>bx6 (sb V i q)
 have C:=fun i=>nQ st bk lo I W c ((x:Int)-1) i h1 T ap ap
 have Z:IntKind.i64.wrap ((x:Int)-1)=(x:Int)-1:=LT _ ap
 obtain ⟨y,U⟩:∃y:Nat,(y:Int)=((x:Int)-1)%(W:Int):=⟨(((x:Int)-1)%(W:Int)).toNat,Int.toNat_of_nonneg (Int.emod_nonneg _ ap)⟩
 have L:y<W:=by have:=Int.emod_lt_of_pos ((x:Int)-1) (show (0:Int)<W by omega);omega
 rw [<-U] at C
 obtain ⟨N,p,O⟩:=af u Q C;clear u V Q C
 obtain rfl | rfl:ph=0\/ph=1:=ap
 ·have hs:=tx (W:=W) (x:=x) (ph:=0) (r:=r) ap ((y:Int)-r) (by rw [U];omega)
  have h:=fun i=>ql st bk lo I W c y r i h1 T L ap
  rw [hs] at h
  have H:=aa h;clear h hs
  go_enter func188,ntmps188
  have B:=br A
  go_wp2_with fail
  rw [N.o]
  refine HA.g (fun i:World=>aq A i) ?_
  refine HA.t ?_ [0,1,2,3,4,6] B.drew ?_
  refine HA.c 5 (O.o _) ?_
  rintro e Y ⟨rfl,J⟩
  have D:=bt B.drew J
  refine ⟨_,rfl,D,fun _=>?_⟩
  refine HA.c 7 (H.o _) ?_
  rintro e w2 ⟨rfl,R⟩
  have v:=bt D R
  refine ⟨_,rfl,v,fun _=>?_⟩
  refine HA.t ?_ [8,9] v ?_
  refine HA.d ?_
  have hB:=p.o.trans (v.mono p.o.size)
  clear J R B D v t0
  go_wp2_with fail
  go_ret2
  exact ⟨rfl,hB⟩
 ·have hs:=tx (W:=W) (x:=x) (ph:=1) (r:=r) ap ((y:Int)+1-r) (by rw [U];omega)
  have h:=fun i=>rZ st bk lo I W c y r i h1 T L ap
  rw [hs] at h
  have H:=aa h;clear h hs
  go_enter func188,ntmps188
  have B:=br A
  go_wp2_with fail
  rw [N.o]
  refine HA.g (fun i:World=>aq A i) ?_
  refine HA.t ?_ [0,1,2,3,4,6] B.drew ?_
  refine HA.c 5 (O.o _) ?_
  rintro e Y ⟨rfl,J⟩
  have D:=bt B.drew J
  refine ⟨_,rfl,D,fun _=>?_⟩
  refine HA.c 7 (H.o _) ?_
  rintro e w2 ⟨rfl,R⟩
  have v:=bt D R
  refine ⟨_,rfl,v,fun _=>?_⟩
  refine HA.t ?_ [8,9] v ?_
  refine HA.d ?_
  have hB:=p.o.trans (v.mono p.o.size)
  clear J R B D v t0
  go_wp2_with fail
  go_ret2
  exact ⟨rfl,hB⟩
end Go.Proofs.YtgmajkppbhiopaaGreat
namespace Go.Proofs.YtgmajkppbhiopaaGreat
open Go.RowKit
open Tryz
theorem XA.v {P:Program} {ops:Array Oper} {Q:Exit->Act->World->Prop} {S:World->Prop} {n:Nat} {L:List Nat} {a:Act} {w:World} {o:Oper} (i:Nat) (h:World) (v:Value) (u:S h) (k:XA P ops Q S n (i::L) (a.put o.dst v) h) (p:ops[i]?=some o:=by (simp only [Mi,Mj,Mk];rfl))
  (hr:cZ ops L=[i]:=by decide +kernel) (hw:Region.wanted o (yielded ops a.tmps)=true:=by rfl) (he:(execOp a.eval o).run P w=.ok (.value v) h:=by go_simp):XA P ops Q S n L a w:=by
 refine XA.one i p hr fun y x=>?_
 rw [if_pos hw]
 unfold Oper.wp
 rw [he]
 exact x.out _ _ u fun _=>k
def aX (a:Acn):List Value:=[.bool a.send,.bool a.add,MO (a.st:Nat),MO (a.bk:Nat),MO (a.ph:Nat),MO (a.rd:Nat),MO (a.ch:Nat),MO (a.at'.1:Nat),MO (a.at'.2:Nat)]
def ep (l:List Acn):List Value:=l.flatMap aX
theorem pA (l:List Acn) (a:Acn):ep (l++[a])=ep l++aX a:=by simp [ep]
theorem Bt:dt prog 297 150 (.agg MU) 9 64:=⟨underlying297,info_parts (by kernel_rfl),rfl,by decide⟩
theorem DW (snd:Bool) (i:Nat) (A:Option Addr) (n c J u h N:Nat) (w:World) (v:n<=i):
  Calls prog 191 #[.bool snd,MO i,.slice A n c,(au J),(au u),(au h),(au N)] w fun e o=>e=.returned (.tuple #[])/\o=w:=by
 have p:¬((i:Int)<n):=ap
 go_enter func191,ntmps191
 go_wp2_with fail
 go_end0
 exact ⟨rfl,rfl⟩
theorem Iw (snd:Bool) (i:Nat) (A:Option Addr) (rs:List Rg) (n c J Pb Rb N base:Nat) (st bk lo hi W cc ph r:Nat) (x:Rg) (v:Value) (l:List Acn) (m:Nat) (w:World)
  (hJ:w.heap[J]?=some (.cells #[MO (st:Nat),MO (bk:Nat),MO (lo:Nat),MO (hi:Nat),MO (W:Nat),MO (cc:Nat)] 296 (0,0)))
  (hP:w.heap[Pb]?=some (.cells #[MO (ph:Nat)] 3 (0,0))) (hR:w.heap[Rb]?=some (.cells #[MO (r:Nat)] 3 (0,0)))
  (hN:w.heap[N]?=some (.cells #[v] 297 (0,0))) (ho:w.ownsRow base 150 9 v m (ep l)) (hb:base<=w.heap.size)
  (hA:Rd w A (aN rs)) (hn:rs.length=n) (hx:rs[i]?=some x) (hm:m<=8388608) (a9:n<=1048576) (a2:∀y,A=some y->y.block<base):
  Calls prog 191 #[.bool snd,MO i,.slice A n c,(au J),(au Pb),(au Rb),(au N)] w fun e p=>e=.returned (.tuple #[])/\
   ∃v',p.heap[N]?=some (.cells #[v'] 297 (0,0))/\p.ownsRow base 150 9 v' (m+1) (ep (l++[⟨snd, !snd&&ph==0,st,bk,ph,r,i,x⟩]))/\Keep (fun j=>j=N\/v.ownBlock=some j) w p:=by
 have a8:i<n:=by rw [<-hn];exact (Mp.1 hx).1
 have a7:(i:Int)<n:=ap
 have V:=mG hx
 obtain ⟨g,o,rfl,c0⟩:=hA _ _ V.1
 obtain ⟨g',o',e',c1⟩:=hA _ _ V.2
 obtain ⟨rfl,rfl⟩:g'=g/\o'=o:=by simpa using e'.symm
 rw [<-MG] at c1
 obtain ⟨h,Q⟩:∃h,w.alloc (.cells #[MO (st:Nat),MO (bk:Nat),MO (ph:Nat),MO (r:Nat),MO (i:Nat)] 77)=h:=⟨_,rfl⟩
 have h0:h.heap[w.heap.size]?=some (.cells #[MO (st:Nat),MO (bk:Nat),MO (ph:Nat),MO (r:Nat),MO (i:Nat)] 77 (0,0)):=by rw [<-Q];exact LP w _
 have D:aq w h:=by rw [<-Q];exact (br w).alloc (LO _) _
 have xJ:=bx6 hJ
 have xP:=bx1 hP
 have xR:=bx1 hR
 have U:=ay ho D
 have nt:=fun b cs t' sg (a6:h.heap[b]?=some (.cells cs t' sg)) (a4:t'≠150) (e:v.ownBlock=some b)=>ax a6 a4 U e.symm
 have R:=sb hP _ D
 have T:=sb hN _ D
 have kP:=fun p (q:Keep (fun j=>v.ownBlock=some j) h p)=>(q.block _ (LN R) (nt _ _ _ _ R (by decide))).trans R
 have kN:=fun p (q:Keep (fun j=>v.ownBlock=some j) h p)=>(q.block _ (LN T) (nt _ _ _ _ T (by decide))).trans T
 have tP:=fun p q=>bx1 (kP p q)
 have tN:=fun p q=>bx1 (kN p q)
 have t0:=fun p (q:Keep (fun j=>v.ownBlock=some j) h p)=>bx5 ((q.block _ (LN h0) (nt _ _ _ _ h0 (by decide))).trans h0)
 have a0:¬v.ownBlock=some g':=fun e=>by
  have h1:=(U.lt g' e).1
  have h2:=a2 _ rfl
  simp only at h2
  omega
 have d0:=fun p (q:Keep (fun j=>v.ownBlock=some j) h p)=>q.cell (aw D c0) a0
 have d1:=fun p (q:Keep (fun j=>v.ownBlock=some j) h p)=>q.cell (aw D c1) a0
 obtain ⟨HN,HO,O,a5⟩:=ag kN U D Q;clear hJ hP hR hN ho D Q V hA e' hx hn h0 R T kP kN U nt a0 c0 c1 a2
 go_enter func191,ntmps191
 have q0:Keep (fun j=>v.ownBlock=some j) h h.drew:=(Keep.refl _ _).drew
 go_wp2_with fail
 rw [a5.o]
 have a1:((ph:Int)==0)=(ph==0):=by rw [Bool.eq_iff_iff];simp
 cases snd
 ·refine XA.g 16 (fun p:World=>Keep (fun j=>v.ownBlock=some j) h p) ?_
  refine XA.t ?_ [0,1,2,3,4,5,6,7,8,9,10,11,12,13] q0 ?_
  obtain ⟨a,ha⟩:∃a:Acn,a=⟨false,(!false&&ph==0),st,bk,ph,r,i,x⟩:=⟨_,rfl⟩
  refine XA.v 14 (h.drew.alloc (.cells (aX a).toArray 150)) (.slice (some (ar h.heap.size 0)) 1 1) (q0.alloc _) ?_ rfl (by decide +kernel) rfl (by subst ha;go_simp;simp [aX,a1];try rfl)
  refine XA.o 15 (fun K' hK=>?_) rfl (by decide +kernel)
  have hO:=(HO.o.drew).alloc (.cells (aX a).toArray 150)
  have a3:=O.o.size
  refine bR Bt (.tmp 23) (.tmp 37) rfl rfl base v m _ rfl hO (some (ar h.heap.size 0)) 1 1 (aX a) rfl (fun k u hu=>⟨_,_,rfl,by rw [MH,LQ _ h.heap.size k (aX a).toArray 150 (0,0) (LP h.drew _)];simpa using hu⟩) rfl (by simp [aX,Value.oneCell']) ap (by unfold maxLen;omega) (by simp;omega) ?_
  intro Y c5 H B Z L _
  have I:Keep (fun j=>v.ownBlock=some j) h H:=(q0.alloc _).grown L (fun k hk=>.inr hk)
  refine hK.out _ _ I fun _=>?_
  refine XA.e ?_
  simp only [Mm,Mn]
  have C:=HN.o H I
  have e3:=MM H N 0 _ _ (.slice Y (m+1) c5) C
  have k1:Keep (fun j=>j=N) H (H.setCell (ar N 0) (.slice Y (m+1) c5)):=Keep.setCell (S:=fun j=>j=N) (Keep.refl _ _) (ar N 0) (.inr rfl) _
  have o6:=k1.own B (fun j hj e=>ax C (by decide) B (by rw [hj,e]))
  have k6:Keep (fun j=>j=N\/v.ownBlock=some j) w (H.setCell (ar N 0) (.slice Y (m+1) c5)):=Keep.setCell (S:=fun j=>j=N\/v.ownBlock=some j) ((Keep.below O.o).trans (I.mono fun k _ hk=>.inr hk)) (ar N 0) (.inr (.inl rfl)) _
  obtain ⟨E3,O6,K6,HA⟩:=ag e3 o6 k6 ha
  have xN:=tN H I
  clear B Z L C e3 k1 o6 k6 tN tP t0 d0 d1 hK K' ha I hO
  go_wp2_with fail
  go_end0
  refine ⟨rfl,_,by simpa using E3.o,?_,K6.o⟩
  rw [pA,<-HA.o]
  exact O6.o
 ·refine XA.g 16 (fun p:World=>Keep (fun j=>v.ownBlock=some j) h p) ?_
  refine XA.t ?_ [0,1,2,3,4,5,6,7,8,9,10,11,12,13] q0 ?_
  obtain ⟨a,ha⟩:∃a:Acn,a=⟨true,(!true&&ph==0),st,bk,ph,r,i,x⟩:=⟨_,rfl⟩
  refine XA.v 14 (h.drew.alloc (.cells (aX a).toArray 150)) (.slice (some (ar h.heap.size 0)) 1 1) (q0.alloc _) ?_ rfl (by decide +kernel) rfl (by subst ha;go_simp;simp [aX,a1];try rfl)
  refine XA.o 15 (fun K' hK=>?_) rfl (by decide +kernel)
  have hO:=(HO.o.drew).alloc (.cells (aX a).toArray 150)
  have a3:=O.o.size
  refine bR Bt (.tmp 23) (.tmp 37) rfl rfl base v m _ rfl hO (some (ar h.heap.size 0)) 1 1 (aX a) rfl (fun k u hu=>⟨_,_,rfl,by rw [MH,LQ _ h.heap.size k (aX a).toArray 150 (0,0) (LP h.drew _)];simpa using hu⟩) rfl (by simp [aX,Value.oneCell']) ap (by unfold maxLen;omega) (by simp;omega) ?_
  intro Y c5 H B Z L _
  have I:Keep (fun j=>v.ownBlock=some j) h H:=(q0.alloc _).grown L (fun k hk=>.inr hk)
  refine hK.out _ _ I fun _=>?_
  refine XA.e ?_
  simp only [Mm,Mn]
  have C:=HN.o H I
  have e3:=MM H N 0 _ _ (.slice Y (m+1) c5) C
  have k1:Keep (fun j=>j=N) H (H.setCell (ar N 0) (.slice Y (m+1) c5)):=Keep.setCell (S:=fun j=>j=N) (Keep.refl _ _) (ar N 0) (.inr rfl) _
  have o6:=k1.own B (fun j hj e=>ax C (by decide) B (by rw [hj,e]))
  have k6:Keep (fun j=>j=N\/v.ownBlock=some j) w (H.setCell (ar N 0) (.slice Y (m+1) c5)):=Keep.setCell (S:=fun j=>j=N\/v.ownBlock=some j) ((Keep.below O.o).trans (I.mono fun k _ hk=>.inr hk)) (ar N 0) (.inr (.inl rfl)) _
  obtain ⟨E3,O6,K6,HA⟩:=ag e3 o6 k6 ha
  have xN:=tN H I
  clear B Z L C e3 k1 o6 k6 tN tP t0 d0 d1 hK K' ha I hO
  go_wp2_with fail
  go_end0
  refine ⟨rfl,_,by simpa using E3.o,?_,K6.o⟩
  rw [pA,<-HA.o]
  exact O6.o
def iM (snd:Bool) (i:Nat) (rs:List Rg) (st bk ph r:Nat) (l:List Acn):List Acn:=if i<rs.length then l++[⟨snd, !snd&&ph==0,st,bk,ph,r,i,aL rs i⟩] else l
theorem uE (snd:Bool) (i:Nat) (A:Option Addr) (rs:List Rg) (c J u p N base:Nat) (st bk lo L W I ph r:Nat) (v:Value) (l:List Acn) (w:World)
  (V:w.heap[J]?=some (.cells #[MO (st:Nat),MO (bk:Nat),MO (lo:Nat),MO (L:Nat),MO (W:Nat),MO (I:Nat)] 296 (0,0)))
  (hP:w.heap[u]?=some (.cells #[MO (ph:Nat)] 3 (0,0))) (U:w.heap[p]?=some (.cells #[MO (r:Nat)] 3 (0,0)))
  (O:w.heap[N]?=some (.cells #[v] 297 (0,0))) (B:w.ownsRow base 150 9 v l.length (ep l)) (hb:base<=w.heap.size) (D:base<=N)
  (hA:Rd w A (aN rs)) (hm:l.length<=8388608) (x:rs.length<=1048576) (H:∀y,A=some y->y.block<base):
  Calls prog 191 #[.bool snd,MO i,.slice A rs.length c,(au J),(au u),(au p),(au N)] w fun e o=>e=.returned (.tuple #[])/\
   ∃v',o.heap[N]?=some (.cells #[v'] 297 (0,0))/\o.ownsRow base 150 9 v' (iM snd i rs st bk ph r l).length (ep (iM snd i rs st bk ph r l))/\Below base w o:=by
 by_cases h:i<rs.length
 ·refine (Iw snd i A rs rs.length c J u p N base st bk lo L W I ph r (aL rs i) v l l.length w V hP U O B hb hA rfl (by rw [cN rs i h];simp [h]) hm x H).mono ?_
  rintro e o ⟨rfl,v',T,Y,Q⟩
  have C:iM snd i rs st bk ph r l=l++[⟨snd, !snd&&ph==0,st,bk,ph,r,i,aL rs i⟩]:=if_pos h
  refine ⟨rfl,v',T,?_,Q.toBelow hb ?_⟩
  ·rw [C,Mo];exact Y
  ·rintro j (rfl | R)
   ·exact D
   ·exact (B.lt j R).1
 ·refine (DW snd i A rs.length c J u p N w ap).mono ?_
  rintro e o ⟨rfl,rfl⟩
  have C:iM snd i rs st bk ph r l=l:=if_neg h
  exact ⟨rfl,v,O,by rw [C];exact B,LR _ _⟩
theorem Kt:dt prog 93 110 .nilIface 1 16:=⟨underlying93,info_parts (by kernel_rfl),rfl,by decide⟩
theorem Ku:dt prog 94 100 (.pointer none) 1 8:=⟨underlying94,info_parts (by kernel_rfl),rfl,by decide⟩
theorem AO:cW prog 29 15:=⟨⟨_,underlying29,rfl⟩,by kernel_rfl⟩
theorem fA {w:World} {u B s1 s2 A C:Nat} {o p:TypeId} {v1 v2:Value} {xs ys:List Value} (h1:w.ownsRow u o s1 v1 A xs) (y:w.ownsRow B p s2 v2 C ys) (h:o≠p) (j:Nat) (e:v1.ownBlock=some j) (f:v2.ownBlock=some j):False:=by
 rcases h1.2 with ⟨i,_⟩ | ⟨x,_,_,i,_,hg,_⟩
 ·rw [i] at e;cases e
 ·rw [i] at e
  have v:x=j:=by simpa [Value.ownBlock] using e
  subst v
  exact ax hg h y f.symm
structure Ix (X cap:Nat) (rb rb':Nat->Prop) (l1:Nat) (w1 w':World):Prop where
 hk:Keep (fun j=>j=X\/rb j) w1 w'
 hty:∀j c,(j=X\/rb j)->w1.heap[j]?≠some (.cells c 2 (0,0))
 hrb:∀j,rb' j->rb j\/(w1.heap.size<=j/\j≠l1)
 hrl:∀j,rb' j->j<w'.heap.size
 hl:w1.heap.size<=l1/\l1<w'.heap.size
 hb:w'.heap[l1]?=some (.cells #[MP,MO (cap:Nat),MO 0,MO 0,MO 0] 182 (0,0))
def lR (a b:Value) (j:Nat):Prop:=a.ownBlock=some j\/b.ownBlock=some j
structure BJ (J:Nat->List Nat->List Nat->(Nat->Prop)->World->Prop) (W1:World) (X k:Nat) (w:World) (bs ls:List Nat) (AW AL:Option Addr) (cw cl:Nat):Prop where
 j:J X bs ls (lR (.slice AW k cw) (.slice AL k cl)) w
 hb:bs.length=k
 hl:ls.length=k
 box:w.heap[X]?=some (.cells #[.slice AW k cw,.slice AL k cl,MO 0] 96 (0,0))
 oW:w.ownsRow (X+1) 110 1 (.slice AW k cw) k (bs.map fun b=>.iface 97 ((au b)))
 oL:w.ownsRow (X+1) 100 1 (.slice AL k cl) k (ls.map fun b=>(au b))
 lo:W1.heap.size<=X
 q:aq W1 w
theorem Ep {J:Nat->List Nat->List Nat->(Nat->Prop)->World->Prop} {i0 i1 i2 i3 i5 i6 i7 i8 i9 C H B A:Value} {N cap:Nat} {w W1:World} (a8:w.alloc (.cells #[i0,i1,i2,i3,MO (N:Nat),i5,i6,i7,i8,i9,C,MO (cap:Nat),H,B,A] 29)=W1) (hN:N<=1000) (bf:1<=cap/\cap<=1048576)
  (b2:∀h,aq W1 h->Calls prog 43 #[.agg #[i0,i1,i2,i3,MO (N:Nat),i5,i6,i7,i8,i9,C,MO (cap:Nat),H,B,A]] h fun e a9=>e=.returned (MO 0)/\aq h a9)
  (hl:∀h:World,Calls prog 45 #[MO (cap:Nat)] h fun e a9=>e=.returned ((au h.heap.size))/\a9=h.alloc (.cells #[MP,MO (cap:Nat),MO 0,MO 0,MO 0] 182))
  (h0:∀X h,W1.heap.size<=X->X<h.heap.size->aq W1 h->J X [] [] (fun _=>False) h)
  (hm:∀X k bs I rb h,k<N->W1.heap.size<=X->X<h.heap.size->aq W1 h->bs.length=k->I.length=k->J X bs I rb h->Calls prog 44 #[.agg #[i0,i1,i2,i3,MO (N:Nat),i5,i6,i7,i8,i9,C,MO (cap:Nat),H,B,A],MO (k:Nat)] h fun e D=>
   ∃b,e=.returned (.tuple #[(au b),MO 0])/\aq h D/\∀l1 b0 w2,Ix X cap rb b0 l1 D w2->J X (bs++[b]) (I++[l1]) b0 w2):
  Calls prog 13 #[.agg #[i0,i1,i2,i3,MO (N:Nat),i5,i6,i7,i8,i9,C,MO (cap:Nat),H,B,A]] w fun e h=>
   ∃X bs I AW x cw y,e=.returned (.tuple #[(au X),MO 0])/\BJ J W1 X N h bs I AW x cw y:=by
 have g0:W1.heap[w.heap.size]?=some (.cells #[i0,i1,i2,i3,MO (N:Nat),i5,i6,i7,i8,i9,C,MO (cap:Nat),H,B,A] 29 (0,0)):=by rw [<-a8];exact LP w _
 have t4:∀h,aq W1 h->h.cell? (ar w.heap.size 4)=some (MO (N:Nat)):=fun h q=>LQ h w.heap.size 4 _ _ _ (sb g0 h q)
 have a5:∀h,aq W1 h->h.cell? (ar w.heap.size 11)=some (MO (cap:Nat)):=fun h q=>LQ h w.heap.size 11 _ _ _ (sb g0 h q)
 have tl:=sl g0
 have bh:w.heap.size<W1.heap.size:=LN g0
 obtain ⟨be,Hl,Hm,H0,aR,G0⟩:=ai b2 hl hm h0 a8 g0
 have q1:=br W1
 clear b2 hl hm h0 a8 g0
 go_enter func13,ntmps13
 go_wp2_with (refine aS #[i0,i1,i2,i3,MO (N:Nat),i5,i6,i7,i8,i9,C,MO (cap:Nat),H,B,A] (b:=w.heap.size) (by rw [aR.o];exact G0.o) AO rfl rfl rfl rfl ?_)
 rw [aR.o]
 refine (be.o _ q1).mono ?_
 rintro e w2 ⟨rfl,k2⟩
 have q2:=bt q1 k2
 clear k2
 go_wp2_with fail
 obtain ⟨X,hX⟩:∃X,w2.heap.size=X:=⟨_,rfl⟩
 obtain ⟨W3,a1⟩:∃W3,w2.alloc (.cells #[MP,MP,MO 0] 96)=W3:=⟨_,rfl⟩
 have g3:W3.heap[X]?=some (.cells #[MP,MP,MO 0] 96 (0,0)):=by rw [<-a1,<-hX];exact LP w2 _
 have q3:aq W1 W3:=by rw [<-a1];exact q2.alloc q2.size _
 have gX:W1.heap.size<=X:=by rw [<-hX];exact q2.size
 have m3:BJ J W1 X 0 W3 [] [] none none 0 0:=⟨(by
  have hrb:lR (MP) (MP)=fun _=>False:=by funext j;simp [lR,Value.ownBlock]
  rw [hrb];exact H0.o X W3 gX (LN g3) q3),rfl,rfl,g3,LZ ..,LZ ..,gX,q3⟩
 rw [hX,a1]
 have M3:=aa m3;clear m3 g3 a1 hX q2 q1
 go_loopw [19] (fun v wr=>∃k:Nat,k<=N/\v=MO k/\∃bs I AW x cw y,BJ J W1 X k wr bs I AW x cw y) (fun v _=>N-(intOf v).toNat)
 case atStart=>exact ⟨0,LS _,rfl,[],[],none,none,0,0,M3.o⟩
 case round=>
  obtain ⟨k,hk,rfl,bs,I,AW,x,cw,y,m⟩:=hrel
  have ad:=LN m.box
  have bn:=m.q.size
  have tb:=bx3 m.box
  have p:=aa m;clear m
  by_cases b7:k<N
  ·have bN:(k:Int)<N:=ap
   have c1:=Hm.o X k bs I _ wr b7 p.o.lo ad p.o.q p.o.hb p.o.hl p.o.j
   have C1:=aa c1;have q0:=p.o.q;clear c1
   go_wp2_with (refine aS #[i0,i1,i2,i3,MO (N:Nat),i5,i6,i7,i8,i9,C,MO (cap:Nat),H,B,A] (b:=w.heap.size) (sb G0.o _ q0) AO rfl rfl rfl rfl ?_)
   refine C1.o.mono ?_
   rintro e D ⟨b,rfl,k1,hJ⟩
   have HJ:=aa hJ
   have q1:=bt q0 k1
   have b1:=sb p.o.box D k1
   have oW:=ay p.o.oW k1
   have oL:=ay p.o.oL k1
   have bI:=k1.size
   have bd:=bx3 b1
   obtain ⟨B1,OW,OL,Q1,K1⟩:=ah b1 oW oL q1 k1;clear hJ b1 oW oL q1 k1 tb q0
   go_wp2_with (at_builtin;refine dy Kt _ rfl (.tmp 32) (.tmp 35) rfl (X+1) (.slice AW k cw) k _ rfl (OW.o.alloc _) (some (ar D.heap.size 0)) 1 1 [.iface 97 ((au b))] rfl (dD D _ _ D.heap.size rfl) (by simp) (by simp [Value.oneCell']) ap (by unfold maxLen;omega) (by simp;omega) ?_)
   intro A2 c2 w3 o3 b3 g3 n3
   have kA:aq D (D.alloc (.cells #[.iface 97 ((au b))] 110)):=(br D).alloc (LO _) _
   have a0:w3.heap[X]?=_:=(b3.block X ap).trans (sb B1.o _ kA)
   have kW:Keep (fun j=>(Value.slice AW k cw).ownBlock=some j) D w3:=((Keep.refl _ D).alloc _).grown g3 (fun k hk=>.inr hk)
   have ao:=kW.own OL.o (fun j h1 h2=>fA OL.o OW.o (by decide) j h1 h2)
   have b9:=bx3 a0
   have bi:=kW.size
   have bO:=LN a0
   obtain ⟨b5,aG,aM,O3,N3,HK⟩:=ai a0 kW ao o3 n3 hk;clear kA a0 kW ao o3 n3 b3 g3 bd ad
   go_wp2_with fail
   obtain ⟨i,Y⟩:∃i,w3.setCell (ar X 0) (.slice A2 (k+1) c2)=i:=⟨_,rfl⟩
   have kX:Keep (fun j=>j=X) w3 i:=by rw [<-Y];exact Keep.setCell (S:=fun j=>j=X) (Keep.refl _ _) _ (.inr rfl) _
   have T:i.heap[X]?=some (.cells #[.slice A2 (k+1) c2,.slice x k y,MO 0] 96 (0,0)):=by rw [<-Y];exact ss b5.o
   have bb:=fun (v:Value) (e:TypeId) (xs:List Value) (o:i.ownsRow (X+1) e 1 v xs.length xs)=>o
   have o4:=kX.own O3.o (fun j h1 h2=>by have:=(O3.o.lt j h1).1;omega)
   have a2:=kX.own aM.o (fun j h1 h2=>by have:=(aM.o.lt j h1).1;omega)
   rw [Y]
   have bG:=kX.size
   have aP:=LN T
   have tX:=fun h (q:Keep (fun j=>(Value.slice x k y).ownBlock=some j) i h)=>bx3 ((q.block X aP (fun e=>by have:=(a2.lt X e).1;omega)).trans T)
   have av:∀h,Keep (fun j=>(Value.slice x k y).ownBlock=some j) i h->h.cell? (ar w.heap.size 11)=some (MO (cap:Nat)):=fun h q=>by
    have hW:i.cell? (ar w.heap.size 11)=some (MO (cap:Nat)):=a5 i (Q1.o.trans ((aG.o.toBelow Q1.o.size (fun j e=>by have:=(OW.o.lt j e).1;have:=p.o.lo;omega)).trans (kX.toBelow (by have:=Q1.o.size;omega) (fun j e=>by have:=p.o.lo;omega))))
    exact (World.cell?_of_block (q.block w.heap.size ap (fun e=>by have:=(a2.lt _ e).1;have:=p.o.lo;omega))).trans hW
   have q4:Keep (fun j=>(Value.slice x k y).ownBlock=some j) i i.drew:=(Keep.refl _ _).drew
   obtain ⟨ab,O4,b8,KX⟩:=ag a2 o4 T kX;clear b9 Y T kX o4 a2 bb t4 a5
   refine XA.g 11 (fun h:World=>Keep (fun j=>(Value.slice x k y).ownBlock=some j) i h) ?_
   refine XA.t ?_ [0,1,2,3,4,5,6,7] q4 ?_
   refine XA.c 8 (Hl.o _) ?_
   rintro _ R ⟨rfl,h5⟩
   obtain ⟨u,V⟩:∃u,i.drew.heap.size=u:=⟨_,rfl⟩
   rw [V]
   have g5:R.heap[u]?=some (.cells #[MP,MO (cap:Nat),MO 0,MO 0,MO 0] 182 (0,0)):=by rw [h5,<-V];exact LP i.drew _
   have k5:aq i R:=by rw [h5];exact (br i).drew.alloc (LO _) _
   have q5:Keep (fun j=>(Value.slice x k y).ownBlock=some j) i R:=by rw [h5];exact q4.alloc _
   have bz:R.heap.size=u+1:=by rw [h5,<-V];simp
   have bl:u=i.heap.size:=by rw [<-V];rfl
   clear h5 q4
   refine ⟨_,rfl,q5,fun _=>?_⟩
   refine XA.v 9 (R.alloc (.cells #[(au u)] 100)) (.slice (some (ar R.heap.size 0)) 1 1) (q5.alloc _) ?_
   refine XA.o 10 (fun K' hK=>?_)
   have hO:=(ay ab.o k5).alloc (.cells #[(au u)] 100)
   refine bR Ku (.tmp 43) (.tmp 48) rfl rfl (X+1) (.slice x k y) k _ rfl hO (some (ar R.heap.size 0)) 1 1 [(au u)] rfl (dD R _ _ R.heap.size rfl) (by simp) (by simp [Value.oneCell']) ap (by unfold maxLen;omega) (by simp;omega) ?_
   intro A6 c6 U o6 b6 g6 n6
   have a4:Keep (fun j=>(Value.slice x k y).ownBlock=some j) R U:=((Keep.refl _ R).alloc (.cells #[(au u)] 100)).grown g6 (fun k hk=>.inr hk)
   have q6:=(q5.alloc (.cells #[(au u)] 100)).grown g6 (fun k hk=>.inr hk)
   refine hK.out _ _ q6 fun _=>?_
   refine XA.e ?_
   simp only [Mm,Mn]
   have Z:U.heap[X]?=_:=(q6.block X aP (fun e=>by have:=(ab.o.lt X e).1;omega)).trans b8.o
   have bA:=bx3 Z
   have bv:=LN Z
   have a3:∀j,(Value.slice x k y).ownBlock=some j->j<D.heap.size:=fun j e=>(OL.o.lt j e).2
   have a6:U.heap[u]?=_:=(a4.block u ap (fun e=>by have:=a3 u e;omega)).trans g5
   have k7:Keep (fun j=>j=X) U (U.setCell (ar X 1) (.slice A6 (k+1) c6)):=Keep.setCell (S:=fun j=>j=X) (Keep.refl _ _) _ (.inr rfl) _
   have h7:(U.setCell (ar X 1) (.slice A6 (k+1) c6)).heap[X]?=some (.cells #[.slice A2 (k+1) c2,.slice A6 (k+1) c6,MO 0] 96 (0,0)):=ss Z
   have bM:=k7.size
   have bo:=a4.size
   have b4:=LN a6
   have L:Keep (fun j=>j=X\/lR (.slice AW k cw) (.slice x k y) j) D (U.setCell (ar X 1) (.slice A6 (k+1) c6)):=(((aG.o.mono fun k _ e=>.inr (.inl e)).trans (KX.o.mono fun k _ e=>.inl e)).trans (q6.mono fun k _ e=>.inr (.inr e))).trans (k7.mono fun k _ e=>.inl e)
   have O:Ix X cap (lR (.slice AW k cw) (.slice x k y)) (lR (.slice A2 (k+1) c2) (.slice A6 (k+1) c6)) u D (U.setCell (ar X 1) (.slice A6 (k+1) c6)):=by
    refine ⟨L,?_,?_,?_,⟨by omega,by omega⟩,(k7.block u b4 (fun e=>ap)).trans a6⟩
    ·rintro j c (rfl | e | e) hj
     ·rw [B1.o] at hj;simp at hj
     ·exact ax hj (by decide) OW.o e.symm
     ·exact ax hj (by decide) OL.o e.symm
    ·rintro j (e | e)
     ·have:=(O3.o.lt j e).2
      rcases N3.o with h1 | h1
      ·rw [h1] at e;exact .inl (.inl e)
      ·rw [h1] at e;simp at e;exact .inr ⟨by omega,by omega⟩
     ·rcases n6 with h1 | h1
      ·rw [h1] at e;exact .inl (.inr e)
      ·rw [h1] at e;simp at e;exact .inr ⟨by omega,by omega⟩
    ·rintro j (e | e)
     ·have:=(O4.o.lt j e).2;have:=q6.size;omega
     ·have:=(o6.lt j e).2;omega
   have Q:BJ J W1 X (k+1) (U.setCell (ar X 1) (.slice A6 (k+1) c6)) (bs++[b]) (I++[u]) A2 A6 c2 c6:=by
    refine ⟨HJ.o _ _ _ O,by simp [p.o.hb],by simp [p.o.hl],h7,?_,?_,p.o.lo,Q1.o.trans (L.toBelow Q1.o.size (fun j e=>?_))⟩
    ·have:=k7.own (q6.own O4.o (fun j h1 h2=>fA ab.o O4.o (by decide) j h2 h1)) (fun j h1 h2=>by have:=(O4.o.lt j h1).1;omega)
     rw [List.map_append];exact this
    ·have:=k7.own o6 (fun j h1 h2=>by have:=(o6.lt j h1).1;omega)
     rw [List.map_append];exact this
    ·have bw:=p.o.lo
     rcases e with e | e | e
     ·omega
     ·have:=(OW.o.lt j e).1;omega
     ·have:=(OL.o.lt j e).1;omega
   have a7:=aa Q;clear Q O L k7 h7 a6 Z q6 a4 n6 g6 b6 o6 hO q5 k5 g5 tX av hK K' a3
   go_wp2_with fail
   go_roundw
   case rel=>exact ⟨k+1,by omega,by go_num,_,_,_,_,_,_,a7.o⟩
   case measure=>simp [intOf];omega
  ·obtain rfl:k=N:=ap
   clear tb t4 a5
   go_wp2_with fail
   go_ret2
   exact ⟨X,bs,I,AW,x,cw,y,rfl,p.o⟩
def Ext (u v:World):Prop:=∀k,k<u.heap.size->u.heap[k]?=some (.cells #[] 0 (0,0))\/v.heap[k]?=u.heap[k]?
theorem Gz {u v:World} {a:Addr} {x:Value} (h:u.cell? a=some x) (o:Ext u v):v.cell? a=some x:=by
 rcases o _ (az h) with i | i
 ·rw [World.cell?] at h
  simp only [i] at h
  simp at h
 ·exact (World.cell?_of_block (w:=u) i).trans h
theorem sq {u v:World} {b:Nat} {x:Value} {xs:List Value} {t:TypeId} {o:Nat×Nat} (h:u.heap[b]?=some (.cells (x::xs).toArray t o)) (p:Ext u v):v.heap[b]?=some (.cells (x::xs).toArray t o):=by
 rcases p _ (LN h) with i | i
 ·rw [i] at h;simp at h
 ·rw [i];exact h
theorem aV {u v:World} {A:Option Addr} {xs:List Value} (h:Rd u A xs) (i:Ext u v):Rd v A xs:=fun k x p=>by
 obtain ⟨b,o,e,hc⟩:=h k x p
 exact ⟨b,o,e,Gz hc i⟩
def Lt {α:Type} (R:eE α):Prop:=∀{u v:World} {cs:List Value} {x:α},R u cs x->Ext u v->R v cs x
theorem eA {α:Type} {R:eE α} {size:Nat} {u v:World} {A:Option Addr} {l:List α} (y:Lt R) (h:dA R size u A l) (i:Ext u v):dA R size v A l:=by
 obtain ⟨rows,h1,o,B,p⟩:=h
 exact ⟨rows,aV h1 i,o,B,fun j x C=>y (p j x C) i⟩
noncomputable def aF (S:Nat->Prop) (w:World):World:=by
 classical exact {w with heap:=w.heap.mapIdx fun k o=>if S k then .cells #[] 0 (0,0) else o}
theorem mR (S:Nat->Prop) (w:World):(aF S w).heap.size=w.heap.size:=by simp [aF]
theorem gD {S:Nat->Prop} {w:World} {k:Nat} (h:¬S k):(aF S w).heap[k]?=w.heap[k]?:=by
 simp only [aF,Array.getElem?_mapIdx]
 simp [h]
theorem vr {S:Nat->Prop} {w:World} {k:Nat} (h:S k) (hk:k<w.heap.size):(aF S w).heap[k]?=some (.cells #[] 0 (0,0)):=by
 simp only [aF,Array.getElem?_mapIdx]
 simp [h,hk]
theorem eC (S:Nat->Prop) (w:World):Ext (aF S w) w:=fun k hk=>by
 rw [mR] at hk
 by_cases h:S k
 ·exact .inl (vr h hk)
 ·exact .inr (gD h).symm
theorem bE {S S':Nat->Prop} {w i:World} (hk:Keep S w i) (hs:∀k,k<w.heap.size->S' k->S k):Ext (aF S w) (aF S' i):=fun k hl=>by
 rw [mR] at hl
 by_cases h:S k
 ·exact .inl (vr h hl)
 ·exact .inr (by rw [gD h,gD (fun e=>h (hs k hl e)),hk.block k hl h])
theorem ik {S:Nat->Prop} {w i:World} (hb:aq w i):Ext (aF S w) (aF S i):=bE (Keep.below hb) fun _ _ h=>h
theorem Gy {B:Nat} {S:Nat->Prop} {u w:World} (hb:∀k,B<=k->k<u.heap.size->w.heap[k]?=u.heap[k]?) (hs:∀k,B<=k->k<u.heap.size->¬S k):Ext (fL B u) (aF S w):=fun k hl=>by
 rw [jm] at hl
 rcases Ma k B with h | h
 ·exact .inl (nX h hl)
 ·exact .inr (by rw [gD (hs k h hl),hb k h hl,iq h])
theorem lh {S:Nat->Prop} {w:World} {A:Option Addr} {xs:List Value} (h:Rd w A xs) (hA:∀y,A=some y->¬S y.block):Rd (aF S w) A xs:=fun k x i=>by
 obtain ⟨b,o,e,hc⟩:=h k x i
 have hl:=az hc
 exact ⟨b,o,e,(World.cell?_of_block (w:=w) (a:=(ar b (o+k))) (gD (show ¬S b from hA _ e))).trans hc⟩
def jv (x y:List Rg) (f g:Nat->Rg->Acn) (k:Nat):List Acn:=
 (List.range k).flatMap fun i=>(if i<x.length then [f i (aL x i)] else [])++(if i<y.length then [g i (aL y i)] else [])
theorem rG (x y:List Rg) (f g:Nat->Rg->Acn) (k:Nat):jv x y f g (k+1)=jv x y f g k++((if k<x.length then [f k (aL x k)] else [])++(if k<y.length then [g k (aL y k)] else [])):=by
 simp [jv,ME,List.flatMap_append]
theorem wK (x y:List Rg) (f g:Nat->Rg->Acn) (k:Nat):(jv x y f g k).length<=2*k:=by
 induction k with
 | zero=>simp [jv]
 | succ k ih=>
  rw [rG,Mo,Mo]
  split<;>split<;>simp<;>omega
theorem mL (X Y:List Rg) (st bk ph r m:Nat):iM false m Y st bk ph r (iM true m X st bk ph r (jv X Y (fun i s=>(⟨true,false,st,bk,ph,r,i,s⟩:Acn)) (fun i s=>(⟨false,ph==0,st,bk,ph,r,i,s⟩:Acn)) m))=jv X Y (fun i s=>(⟨true,false,st,bk,ph,r,i,s⟩:Acn)) (fun i s=>(⟨false,ph==0,st,bk,ph,r,i,s⟩:Acn)) (m+1):=by
 rw [rG]
 by_cases h1:m<X.length<;>by_cases h:m<Y.length<;>simp [iM,h1,h]
theorem CB (st bk lo p W c x ph r:Nat) (w:World) (h1:1<=W) (h2:W<=1048576) (hx:x<W) (hp:ph<2) (hr:r+1<W) (h3:lo<=1048576) (h4:p<=1048576) (h5:1<=c) (h6:c<=1048576):
  Calls prog 179 #[.agg #[MO (st:Nat),MO (bk:Nat),MO (lo:Nat),MO (p:Nat),MO (W:Nat),MO (c:Nat)],MO x,MO ph,MO r] w fun e h=>∃v,e=.returned v/\h.ownsRow w.heap.size 150 9 v (df st bk (lo,p) W c x ph r).length (ep (df st bk (lo,p) W c x ph r))/\aq w h:=by
 obtain ⟨H,u⟩:∃H,((w.alloc (.cells #[MO (st:Nat),MO (bk:Nat),MO (lo:Nat),MO (p:Nat),MO (W:Nat),MO (c:Nat)] 296)).alloc (.cells #[MO ph] 3)).alloc (.cells #[MO r] 3)=H:=⟨_,rfl⟩
 have g0:H.heap[w.heap.size]?=some (.cells #[MO (st:Nat),MO (bk:Nat),MO (lo:Nat),MO (p:Nat),MO (W:Nat),MO (c:Nat)] 296 (0,0)):=by
  rw [<-u,L0 _ _ _ (by simp;omega),L0 _ _ _ (by simp)];exact LP w _
 have g1:H.heap[w.heap.size+1]?=some (.cells #[MO ph] 3 (0,0)):=by
  rw [<-u,L0 _ _ _ (by simp)];have:=LP (w.alloc (.cells #[MO (st:Nat),MO (bk:Nat),MO (lo:Nat),MO (p:Nat),MO (W:Nat),MO (c:Nat)] 296)) (.cells #[MO ph] 3);simpa using this
 have g2:H.heap[w.heap.size+1+1]?=some (.cells #[MO r] 3 (0,0)):=by
  rw [<-u];have:=LP ((w.alloc (.cells #[MO (st:Nat),MO (bk:Nat),MO (lo:Nat),MO (p:Nat),MO (W:Nat),MO (c:Nat)] 296)).alloc (.cells #[MO ph] 3)) (.cells #[MO r] 3);simpa using this
 have a5:aq w H:=by rw [<-u];exact (((br w).alloc (LO _) _).alloc (by simp) _).alloc (by simp;omega) _
 have a4:H.heap.size=w.heap.size+1+1+1:=by rw [<-u];simp
 have t0:=fun h q=>bx6 (sb g0 h q)
 have t1:=fun h q=>bx1 (sb g1 h q)
 have t2:=fun h q=>bx1 (sb g2 h q)
 obtain ⟨b3,V,b8,G0,G1,G2⟩:=ai u a5 a4 g0 g1 g2;clear u g0 g1 g2 a5 a4
 go_enter func179,ntmps179
 have q0:=br H
 go_wp2_with fail
 rw [b3.o]
 refine (ED st bk lo p W c x ph r H h1 h2 hx hp hr).mono ?_
 rintro e w1 ⟨rfl,k1⟩
 have q1:=bt q0 k1
 go_wp2_with fail
 refine (EE st bk lo p W c x ph r w1 h1 h2 hx hp hr).mono ?_
 rintro e w2 ⟨rfl,k2⟩
 have q2:=bt q1 k2
 go_wp2_with fail
 refine (EA lo p W w2 h1 h2 h3 h4).mono ?_
 rintro e T ⟨v3,rfl,o3,k3⟩
 have q3:=bt q2 k3
 have a0:er W x ph r<W:=Nat.mod_lt _ h1
 have O:fI W x ph r<W:=Nat.mod_lt _ h1
 obtain ⟨so,A⟩:∃so,er W x ph r=so:=⟨_,rfl⟩
 obtain ⟨si,B⟩:∃si,fI W x ph r=si:=⟨_,rfl⟩
 rw [A] at a0 ⊢
 rw [B] at O ⊢
 obtain ⟨g,c3,aR,ao,b2⟩:=o3.form ap
 subst aR
 have a1:=IP (b:=(lo,p)) h1 h3 h4
 obtain ⟨J,D⟩:∃J,aL (dU (lo,p) W) so=J:=⟨_,rfl⟩
 obtain ⟨I,C⟩:∃I,aL (dU (lo,p) W) si=I:=⟨_,rfl⟩
 have Z:=a1 J (by rw [<-D,cN _ _ (by rw [nZ];exact a0)];exact List.getElem_mem _)
 have Q:=a1 I (by rw [<-C,cN _ _ (by rw [nZ];exact O)];exact List.getElem_mem _)
 have po:=iw o3 a0
 have pi:=iw o3 O
 rw [D] at po
 rw [C] at pi
 have a2:=br T
 have aM:=fun h (q:aq T h)=>aw q po.1
 have aP:=fun h (q:aq T h)=>aw q po.2
 have ad:=fun h (q:aq T h)=>aw q pi.1
 have b4:=fun h (q:aq T h)=>aw q pi.2
 have u0:=fun h (q:aq T h)=>t0 h (bt q3 q)
 have b5:(so:Int)<W:=ap
 have b6:(si:Int)<W:=ap
 have HR:an (df st bk (lo,p) W c x ph r=ju (chR J c) (chR I c) (fun i s=>⟨true,false,st,bk,ph,r,i,s⟩) (fun i s=>⟨false,ph==0,st,bk,ph,r,i,s⟩)):=aa (by unfold df;rw [A,B,D,C])
 have R:=aa q3;clear t0 ao b2 a1 D C A B po pi q0 q1 q2 q3 k1 k2 k3 o3
 go_wp2_with fail
 refine HA.g (fun h:World=>aq T h) ?_
 refine HA.t ?_ [0,1,2,3,4,5,7,8,9,10,11,12] a2.drew ?_
 refine HA.c 6 (xW J.1 J.2 c _ h5 h6 Z.1 Z.2) ?_
 rintro e w4 ⟨v4,rfl,o4,k4⟩
 have q4:=bt a2.drew k4
 refine ⟨_,rfl,q4,fun _=>?_⟩
 refine HA.c 13 (xW I.1 I.2 c _ h5 h6 Q.1 Q.2) ?_
 rintro e N ⟨v5,rfl,o5,k5⟩
 have q5:=bt q4 k5
 refine ⟨_,rfl,q5,fun _=>?_⟩
 refine HA.t ?_ [14,15] q5 ?_
 refine HA.d ?_
 obtain ⟨A4,c4,rfl,_⟩:=aD o4
 obtain ⟨A5,c5,rfl,_⟩:=aD o5
 obtain ⟨X,hX⟩:∃X,chR J c=X:=⟨_,rfl⟩
 obtain ⟨Y,hY⟩:∃Y,chR I c=Y:=⟨_,rfl⟩
 have bd:X.length<=1048576:=by rw [<-hX,vz];have:=fE (J.2-J.1) c;omega
 have b7:Y.length<=1048576:=by rw [<-hY,vz];have:=fE (I.2-I.1) c;omega
 rw [hX] at o4 HR ⊢
 rw [hY] at o5 HR ⊢
 simp only [Exit.then]
 obtain ⟨L,O4,O5,B4,B5⟩:=ah ((R.o).trans (q5.mono R.o.size)) (ay o4 k5) o5 (jw (ay o4 k5)) (jw o5);clear o4 o5 k4 k5 q4 q5 a2 aM aP ad b4 u0 t1 t2 R hX hY Z Q
 obtain ⟨M,hM⟩:∃M:Nat,max X.length Y.length=M:=⟨_,rfl⟩
 have be:(if X.length<Y.length then (Y.length:Int) else (X.length:Int))=(M:Int):=by rw [<-hM];split<;>omega
 have aG:=aa hM;clear hM
 go_wp2_with fail
 go_loopw [62] (fun x wr=>∃m:Nat,m<=M/\x=MO m/\∃v,wr.heap[N.heap.size]?=some (.cells #[v] 297 (0,0))/\wr.ownsRow N.heap.size 150 9 v (jv X Y (fun i s=>(⟨true,false,st,bk,ph,r,i,s⟩:Acn)) (fun i s=>(⟨false,ph==0,st,bk,ph,r,i,s⟩:Acn)) m).length (ep (jv X Y (fun i s=>(⟨true,false,st,bk,ph,r,i,s⟩:Acn)) (fun i s=>(⟨false,ph==0,st,bk,ph,r,i,s⟩:Acn)) m))/\aq N wr) (fun x _=>M-(intOf x).toNat)
 case atStart=>exact ⟨0,LS _,rfl,_,LP _ _,LZ _ _ _ _,(br N).alloc (LO _) _⟩
 case round=>
  obtain ⟨m,hm,rfl,v,n0,o0,q⟩:=hrel
  by_cases bb:m<M
  ·have b0:(m:Int)<M:=ap
   have b9:IntKind.i64.wrap ((m:Int)+1)=((m+1:Nat):Int):=by rw [LT _ ap];push_cast;rfl
   have a3:=wK X Y (fun i s=>(⟨true,false,st,bk,ph,r,i,s⟩:Acn)) (fun i s=>(⟨false,ph==0,st,bk,ph,r,i,s⟩:Acn)) m
   have a7:=(Rd.own O4.o).below q
   have a9:=fun y e=>(B4.o y e).2
   have c1:=uE true m A4 X c4 w.heap.size (w.heap.size+1) (w.heap.size+1+1) N.heap.size N.heap.size st bk lo p W c ph r v _ wr (sb G0.o wr (bt L.o q)) (sb G1.o wr (bt L.o q)) (sb G2.o wr (bt L.o q)) n0 o0 q.size (LO _) a7 ap ap a9
   obtain ⟨C1,HQ,b1⟩:=af c1 q a3;clear c1 a7 a9 n0 o0 q a3
   go_wp2_with fail
   refine C1.o.mono ?_
   rintro e w6 ⟨rfl,v6,n6,o6,k6⟩
   have U:=HQ.o.trans k6
   have ab:(iM true m X st bk ph r (jv X Y (fun i s=>(⟨true,false,st,bk,ph,r,i,s⟩:Acn)) (fun i s=>(⟨false,ph==0,st,bk,ph,r,i,s⟩:Acn)) m)).length<=2*m+1:=by have:=b1.o;unfold iM;split<;>simp<;>omega
   have a6:=(Rd.own O5.o).below U
   have a8:=fun y e=>(B5.o y e).2
   have c2:=uE false m A5 Y c5 w.heap.size (w.heap.size+1) (w.heap.size+1+1) N.heap.size N.heap.size st bk lo p W c ph r v6 _ w6 (sb G0.o w6 (bt L.o U)) (sb G1.o w6 (bt L.o U)) (sb G2.o w6 (bt L.o U)) n6 o6 U.size (LO _) a6 ap ap a8
   obtain ⟨C2,av⟩:=ae c2 U;clear c2 a6 a8 n6 o6 U k6 ab
   go_wp2_with fail
   refine C2.o.mono ?_
   rintro e w7 ⟨rfl,v7,n7,o7,k7⟩
   have q7:=av.o.trans k7
   rw [mL] at o7
   obtain ⟨N7,O7,Q7⟩:=af n7 o7 q7;clear n7 o7 q7 k7
   go_wp2_with fail
   go_roundw
   case rel=>exact ⟨m+1,by omega,by go_num,v7,N7.o,O7.o,Q7.o⟩
   case measure=>simp [intOf];omega
  ·obtain rfl:M=m:=ap
   have b0:¬((M:Int)<M):=ap
   have tn:=fun h q=>bx1 (sb n0 h q)
   obtain ⟨O0,HQ,HN⟩:=af o0 q n0
   have q0:=br wr
   clear o0 q n0
   go_wp2_with fail
   go_ret
   refine ⟨_,rfl,?_,?_⟩
   ·rw [HR.out]
    have:=O0.o
    rw [<-aG.o] at this
    exact aE this (LU V.o.size L.o.size)
   ·exact V.o.trans ((bt L.o HQ.o).mono V.o.size)
def Iv:Option Acn->List Value
 | none=>[.bool false,.bool false,MO 0,MO 0,MO 0,MO 0,MO 0,MO 0,MO 0]
 | some a=>aX a
def bq (x:Itm):List Value:=MO (x.kind:Nat)::MO (x.st:Nat)::MO (x.n:Nat)::Iv x.a
def cu (l:List Itm):List Value:=l.flatMap bq
theorem zG (l m:List Itm):cu (l++m)=cu l++cu m:=by simp [cu]
theorem fy (l:List Itm) (a:Itm):cu (l++[a])=cu l++bq a:=by simp [cu]
theorem GL:dt prog 176 152 (.agg MT) 12 88:=⟨underlying176,info_parts (by kernel_rfl),rfl,by decide⟩
theorem Ji (L base kd st n m:Nat) (H C:Bool) (N U D O Q J T:Int) (v:Value) (xs:List Value) (w:World)
  (hL:w.heap[L]?=some (.cells #[MO (st:Nat),v] 276 (0,0))) (ho:w.ownsRow base 152 12 v m xs) (hb:base<=w.heap.size) (hm:m<=8388608):
  Calls prog 160 #[(au L),MO (kd:Nat),MO (n:Nat),.agg #[.bool H,.bool C,MO N,MO U,MO D,MO O,MO Q,MO J,MO T]] w fun e p=>e=.returned (.tuple #[])/\
   ∃v',p.heap[L]?=some (.cells #[MO (st:Nat),v'] 276 (0,0))/\p.ownsRow base 152 12 v' (m+1) (xs++[MO (kd:Nat),MO (st:Nat),MO (n:Nat),.bool H,.bool C,MO N,MO U,MO D,MO O,MO Q,MO J,MO T])/\Keep (fun j=>j=L\/v.ownBlock=some j) w p/\(v'.ownBlock=v.ownBlock\/∀k,v'.ownBlock=some k->w.heap.size<=k):=by
 obtain ⟨i,x⟩:∃i,w.alloc (.cells #[.bool H,.bool C,MO N,MO U,MO D,MO O,MO Q,MO J,MO T] 150)=i:=⟨_,rfl⟩
 have h0:i.heap[w.heap.size]?=some (.cells #[.bool H,.bool C,MO N,MO U,MO D,MO O,MO Q,MO J,MO T] 150 (0,0)):=by rw [<-x];exact LP w _
 have y:aq w i:=by rw [<-x];exact (br w).alloc (LO _) _
 have V:=ay ho y
 have nt:=fun b cs t' sg (a5:i.heap[b]?=some (.cells cs t' sg)) (a2:t'≠152) (e:v.ownBlock=some b)=>ax a5 a2 V e.symm
 have A:=sb hL _ y
 have kL:=fun p (q:Keep (fun j=>v.ownBlock=some j) i p)=>(q.block _ (LN A) (nt _ _ _ _ A (by decide))).trans A
 have tL:=fun p q=>bx2 (kL p q)
 have t0:=fun p (q:Keep (fun j=>v.ownBlock=some j) i p)=>bx9 ((q.block _ (LN h0) (nt _ _ _ _ h0 (by decide))).trans h0)
 obtain ⟨HL,HO,Z,a3⟩:=ag kL V y x;clear hL ho y x h0 A kL V nt
 go_enter func160,ntmps160
 have q0:Keep (fun j=>v.ownBlock=some j) i i.drew:=(Keep.refl _ _).drew
 go_wp2_with fail
 rw [a3.o]
 refine XA.g 15 (fun p:World=>Keep (fun j=>v.ownBlock=some j) i p) ?_
 refine XA.t ?_ [0,1,2,3,4,5,6,7,8,9,10,11,12] q0 ?_
 refine XA.v 13 (i.drew.alloc (.cells #[MO (kd:Nat),MO (st:Nat),MO (n:Nat),.bool H,.bool C,MO N,MO U,MO D,MO O,MO Q,MO J,MO T] 152)) (.slice (some (ar i.heap.size 0)) 1 1) (q0.alloc _) ?_
 refine XA.o 14 (fun K' hK=>?_)
 have hO:=(HO.o.drew).alloc (.cells #[MO (kd:Nat),MO (st:Nat),MO (n:Nat),.bool H,.bool C,MO N,MO U,MO D,MO O,MO Q,MO J,MO T] 152)
 have a6:=Z.o.size
 refine bR GL (.tmp 12) (.tmp 21) rfl rfl base v m _ rfl hO (some (ar i.heap.size 0)) 1 1 [MO (kd:Nat),MO (st:Nat),MO (n:Nat),.bool H,.bool C,MO N,MO U,MO D,MO O,MO Q,MO J,MO T] rfl (fun k u hu=>⟨_,_,rfl,by rw [MH,LQ _ i.heap.size k _ 152 (0,0) (LP i.drew _)];simpa using hu⟩) rfl (by simp [Value.oneCell']) ap (by unfold maxLen;omega) (by simp;omega) ?_
 intro A5 c5 Y I a4 a1 a0
 have B:(Value.slice A5 (m+1) c5).ownBlock=v.ownBlock\/∀k,(Value.slice A5 (m+1) c5).ownBlock=some k->w.heap.size<=k:=by
  rcases a0 with h | h
  ·exact .inl h
  ·exact .inr fun k hk=>by rw [h] at hk;simp at hk;omega
 have HN:=aa B;clear a0 B
 have q5:Keep (fun j=>v.ownBlock=some j) i Y:=(q0.alloc _).grown a1 (fun k hk=>.inr hk)
 refine hK.out _ _ q5 fun _=>?_
 refine XA.e ?_
 simp only [Mm,Mn]
 have R:=HL.o Y q5
 have e3:=MM Y L 1 _ _ (.slice A5 (m+1) c5) R
 have k1:Keep (fun j=>j=L) Y (Y.setCell (ar L 1) (.slice A5 (m+1) c5)):=Keep.setCell (S:=fun j=>j=L) (Keep.refl _ _) (ar L 1) (.inr rfl) _
 have o6:=k1.own I (fun j hj e=>ax R (by decide) I (by rw [hj,e]))
 have k6:Keep (fun j=>j=L\/v.ownBlock=some j) w (Y.setCell (ar L 1) (.slice A5 (m+1) c5)):=Keep.setCell (S:=fun j=>j=L\/v.ownBlock=some j) ((Keep.below Z.o).trans (q5.mono fun k _ hk=>.inr hk)) (ar L 1) (.inr (.inl rfl)) _
 obtain ⟨E3,O6,K6⟩:=af e3 o6 k6
 have xL:=tL Y q5
 clear I a4 a1 R e3 k1 o6 k6 tL t0 hK K' q5 hO
 go_wp2_with fail
 go_end0
 exact ⟨rfl,_,by simpa using E3.o,O6.o,K6.o,HN.o⟩
def fZ (w:World) (L base st:Nat) (v:Value) (l:List Itm):Prop:=w.heap[L]?=some (.cells #[MO (st:Nat),v] 276 (0,0))/\w.ownsRow base 152 12 v l.length (cu l)
def Apd (L:Nat) (w:World) (v:Value) (h:World) (v':Value):Prop:=Keep (fun j=>j=L\/v.ownBlock=some j) w h/\(v'.ownBlock=v.ownBlock\/∀k,v'.ownBlock=some k->w.heap.size<=k)
theorem Apd.trans {L:Nat} {a b c:World} {v v' i:Value} (h:Apd L a v b v') (k:Apd L b v' c i):Apd L a v c i:=by
 refine ⟨⟨k.1.os.trans h.1.os,k.1.tape.trans h.1.tape,k.1.output.trans h.1.output,LU h.1.size k.1.size,fun j o hn=>(k.1.block j (LV o h.1.size) fun p=>?_).trans (h.1.block j o hn)⟩,?_⟩
 ·rcases p with rfl | p
  ·exact hn (.inl rfl)
  ·rcases h.2 with x | x
   ·exact hn (.inr (x▸p))
   ·have:=x j p;omega
 ·rcases k.2 with u | u
  ·rw [u];exact h.2
  ·exact .inr fun j o=>LU h.1.size (u j o)
theorem Apd.below {L:Nat} {b c:World} {v:Value} (h:aq b c):Apd L b v c v:=⟨Keep.below h,.inl rfl⟩
theorem Apd.refl (L:Nat) (w:World) (v:Value):Apd L w v w v:=⟨Keep.refl _ _,.inl rfl⟩
theorem fZ.below {w i:World} {L base st:Nat} {v:Value} {l:List Itm} (h:fZ w L base st v l) (hb:aq w i):fZ i L base st v l:=⟨sb h.1 _ hb,ay h.2 hb⟩
theorem xu (L base o st n:Nat) (a:Option Acn) (v:Value) (l:List Itm) (w:World)
  (hl:fZ w L base st v l) (hb:base<=w.heap.size) (hm:l.length<=8388608):
  Calls prog 160 #[(au L),MO (o:Nat),MO (n:Nat),.agg (Iv a).toArray] w fun e h=>e=.returned (.tuple #[])/\
   ∃v',fZ h L base st v' (l++[(⟨o,st,n,a⟩:Itm)])/\Apd L w v h v':=by
 have i:∀y x p u D B C A H,Iv a=[.bool y,.bool x,MO p,MO u,MO D,MO B,MO C,MO A,MO H]->Calls prog 160 #[(au L),MO (o:Nat),MO (n:Nat),.agg (Iv a).toArray] w fun e h=>e=.returned (.tuple #[])/\
   ∃v',fZ h L base st v' (l++[(⟨o,st,n,a⟩:Itm)])/\Apd L w v h v':=by
  intro y x p u D B C A H e
  rw [e]
  refine (Ji L base o st n l.length y x p u D B C A H v _ w hl.1 hl.2 hb hm).mono ?_
  rintro J h ⟨rfl,v',h1,I,k,hn⟩
  refine ⟨rfl,v',⟨h1,?_⟩,k,hn⟩
  rw [fy,Mo,bq,e]
  exact I
 cases a with
 | none=>exact i _ _ _ _ _ _ _ _ _ rfl
 | some a=>exact i _ _ _ _ _ _ _ _ _ rfl
theorem mO (L base st n:Nat) (o:Int) (h:Nat) (hk:(h:Int)=o) (v:Value) (l:List Itm) (w:World) (hl:fZ w L base st v l) (hb:base<=w.heap.size) (hm:l.length<=8388608):
  Calls prog 160 #[(au L),MO o,MO (n:Nat),.agg MU] w fun e i=>e=.returned (.tuple #[])/\
   ∃v',fZ i L base st v' (l++[(⟨h,st,n,none⟩:Itm)])/\Apd L w v i v':=by
 subst hk
 exact xu L base h st n none v l w hl hb hm
theorem Dy (L base st:Nat) (o:Int) (h:Nat) (hk:(h:Int)=o) (a:Acn) (v:Value) (l:List Itm) (w:World) (hl:fZ w L base st v l) (hb:base<=w.heap.size) (hm:l.length<=8388608):
  Calls prog 160 #[(au L),MO o,MO 0,.agg #[.bool a.send,.bool a.add,MO (a.st:Nat),MO (a.bk:Nat),MO (a.ph:Nat),MO (a.rd:Nat),MO (a.ch:Nat),MO (a.at'.1:Nat),MO (a.at'.2:Nat)]] w fun e i=>e=.returned (.tuple #[])/\
   ∃v',fZ i L base st v' (l++[(⟨h,st,0,some a⟩:Itm)])/\Apd L w v i v':=by
 subst hk
 exact xu L base h st 0 (some a) v l w hl hb hm
theorem qH {α β:Type} {g:α->List β} {n:Nat} (hn:∀a,(g a).length=n):∀{l:List α} {i:Nat} {a:α},l[i]?=some a->∀f,f<n->(l.flatMap g)[i*n+f]?=(g a)[f]?
 | [],_,_,h,_,_=>by simp at h
 | x::l,0,a,h,f,hf=>by
  simp only [Mk,Option.some.injEq] at h
  subst h
  rw [List.flatMap_cons,Nat.zero_mul,MH,Mr (by rw [hn];exact hf)]
 | x::l,i+1,a,h,f,hf=>by
  simp only [Mj] at h
  rw [List.flatMap_cons,Ms (by rw [hn,MF];omega),hn,show (i+1)*n+f-n=i*n+f by rw [MF];omega]
  exact qH hn h f hf
theorem JD (a:Acn):(aX a).length=9:=rfl
theorem yg {w:World} {base n g c:Nat} {l:List Acn} {e:TypeId} (h:w.ownsRow base e 9 (.slice (some (ar g 0)) n c) n (ep l)) {i:Nat} {a:Acn} (o:l[i]?=some a) (hl:l.length=n):
  ∀f,f<9->w.cell? (ar g (i*9+f))=(aX a)[f]?:=fun f p=>by
 have h1:i<l.length:=(Mp.1 o).1
 have v:=h.1
 have u:=qH JD o f p
 rw [h.cellAt _ ap,ep,u]
theorem EC {b:Rg} {k:Nat} {M:Nat} (h1:1<=k) (h:b.1<=b.2) (hb:b.2<=M):∀r∈dU b k,r.2<=M:=by
 intro r hr
 simp only [dU,shR,fK,List.map_map,List.mem_map,List.mem_range,Function.comp] at hr
 obtain ⟨i,o,rfl⟩:=hr
 have c:=fN (b.2-b.1) k (i+1) h1 ap
 simp only
 omega
theorem sE (n c:Nat):du n c<=n:=by
 unfold du
 split
 ·omega
 ·have:=Nat.div_le_self (n-1) c
  omega
theorem sH {b:Rg} {W c s M:Nat} (h1:1<=W) (i:b.1<=b.2) (hb:b.2<=M):(chR (aL (dU b W) s) c).length<=M:=by
 rw [vz]
 have h:=sE ((aL (dU b W) s).2-(aL (dU b W) s).1) c
 rcases Ma s (dU b W).length with hs | hs
 ·have:=EC h1 i hb _ (List.getElem_mem hs)
  rw [<-cN _ _ hs] at this
  omega
 ·have:aL (dU b W) s=(0,0):=by simp [aL,List.getD,hs]
  rw [this] at h ⊢
  exact LU h (LS _)
theorem CC {st bk:Nat} {b:Rg} {W c w ph r M:Nat} (h1:1<=W) (h:b.1<=b.2) (hb:b.2<=M):(df st bk b W c w ph r).length<=2*M:=by
 rw [jq]
 have i:=sH (c:=c) (s:=er W w ph r) h1 h hb
 have o:=sH (c:=c) (s:=fI W w ph r) h1 h hb
 omega
def fW (p:Pln) (w st k lo:Nat) (n:Nat):List Itm:=(List.range' lo n).flatMap fun j=>bY p w st (k/(p.W-1)) (k%(p.W-1)) j
def cD (p:Pln) (w st:Nat) (g:Rg) (k:Nat):List Itm:=(List.range k).flatMap fun k=>fW p w st k g.1 (g.2-g.1)
theorem nF (p:Pln) (w st k lo n:Nat):fW p w st k lo (n+1)=fW p w st k lo n++bY p w st (k/(p.W-1)) (k%(p.W-1)) (lo+n):=by
 simp [fW,List.range'_concat]
theorem gr (p:Pln) (w st:Nat) (g:Rg) (k:Nat):cD p w st g (k+1)=cD p w st g k++fW p w st k g.1 (g.2-g.1):=by
 simp [cD,ME]
theorem rU {p:Pln} {w st k lo n M:Nat} (h:∀ph r j,(bY p w st ph r j).length<=M):(fW p w st k lo n).length<=n*M:=by
 induction n with
 | zero=>simp [fW]
 | succ n ih=>rw [nF,Mo,MF];have:=h (k/(p.W-1)) (k%(p.W-1)) (lo+n);omega
theorem jp {p:Pln} {w st k M:Nat} {g:Rg} (h:∀ph r j,(bY p w st ph r j).length<=M):(cD p w st g k).length<=k*((g.2-g.1)*M):=by
 induction k with
 | zero=>simp [cD]
 | succ k ih=>rw [gr,Mo,MF];have:=rU (w:=w) (st:=st) (k:=k) (lo:=g.1) (n:=g.2-g.1) h;omega
theorem rq {p:Pln} {w st k lo n m:Nat} (hm:p.W-1=m) {ph r:Nat} (h1:k/m=ph) (h:k%m=r):fW p w st k lo n=(List.range' lo n).flatMap fun j=>bY p w st ph r j:=by
 unfold fW
 rw [hm,h1,h]
theorem qo (p:Pln) (w st:Nat) (g:Rg):cD p w st g (2*(p.W-1))=(List.range 2).flatMap fun ph=>(List.range (p.W-1)).flatMap fun r=>(List.range' g.1 (g.2-g.1)).flatMap fun j=>bY p w st ph r j:=by
 obtain ⟨m,hm⟩:∃m,p.W-1=m:=⟨_,rfl⟩
 obtain ⟨F,u⟩:∃F:Nat->Nat->List Itm,(fun ph r=>(List.range' g.1 (g.2-g.1)).flatMap fun j=>bY p w st ph r j)=F:=⟨_,rfl⟩
 have h:∀ph r,((List.range' g.1 (g.2-g.1)).flatMap fun j=>bY p w st ph r j)=F ph r:=fun ph r=>by rw [<-u]
 have o:∀k,k<=m->cD p w st g k=(List.range k).flatMap (F 0):=by
  intro k
  induction k with
  | zero=>intro _;rfl
  | succ k ih=>
   intro hk
   have e:=rq (w:=w) (st:=st) (lo:=g.1) (n:=g.2-g.1) hm (Nat.div_eq_of_lt (show k<m by omega)) (Nat.mod_eq_of_lt (show k<m by omega))
   rw [gr,ih ap,e,h,ME,List.flatMap_append]
   simp only [List.flatMap_cons,List.flatMap_nil,List.append_nil]
 have h1:∀k,k<=m->cD p w st g (m+k)=cD p w st g m++(List.range k).flatMap (F 1):=by
  intro k
  induction k with
  | zero=>intro _;simp only [Nat.add_zero,List.range_zero,List.flatMap_nil,List.append_nil]
  | succ k ih=>
   intro hk
   have d:(m+k)/m=1:=by rw [Nat.add_div_left k ap,Nat.div_eq_of_lt ap]
   have i:(m+k)%m=k:=by rw [Nat.add_mod_left,Nat.mod_eq_of_lt ap]
   have e:=rq (w:=w) (st:=st) (lo:=g.1) (n:=g.2-g.1) hm d i
   rw [<-MG,gr,ih ap,e,h,ME,List.flatMap_append,Mu]
   simp only [List.flatMap_cons,List.flatMap_nil,List.append_nil]
 simp only [h]
 rw [hm,show 2*m=m+m by omega,h1 m (LO _),o m (LO _)]
 show _=List.flatMap (fun ph=>(List.range m).flatMap (F ph)) [0,1]
 simp only [List.flatMap_cons,List.flatMap_nil,List.append_nil]
end Go.Proofs.YtgmajkppbhiopaaGreat
