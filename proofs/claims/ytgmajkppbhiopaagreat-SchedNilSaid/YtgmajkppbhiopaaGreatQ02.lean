/- No condition. -/
import Derived.Test.YtgmajkppbhiopaaGreatQ01
import Derived.Test.YtgmajkppbhiopaaGreatProg
import Derived.WalkSpells
import Derived.BigQuiet
import Derived.Deep.QuietTactic
import Derived.RegionTactic
import Derived.RangeFuncNested
import Derived.RangeFuncBound
import Derived.RangeFuncCalls
import Derived.RangeFuncLeaves
import Derived.RangeFuncBox
import Derived.Shelf.Abstract
import Derived.OwnWalkIn
import Derived.TacticsInMore
import Derived.LoopNIn
import Derived.LoopIn
set_option linter.unusedSimpArgs false
set_option linter.unusedVariables false
set_option maxRecDepth 100000
set_option maxHeartbeats 4000000
namespace Go.Proofs.YtgmajkppbhiopaaGreat
open Go.RowKit
open Tryz
def szN (sz:Qa) (k:Nat):Nat:=(nth sz k).toNat
def bR (sz:Qa):Nat->Nat
 | 0=>0
 | k+1=>bR sz k+(szN sz k+1)*szN sz (k+1)
def dA (sz:Qa) (k:Nat):Nat:=bR sz k+szN sz (k+1)*szN sz k
def cU (sz:Qa):Prop:=(2<=sz.length/\sz.length<=16)/\∀k,k<sz.length->1<=nth sz k/\nth sz k<=1048576
def dO (sz:Qa):Prop:=cU sz/\bR sz (sz.length-1)<=1048576
theorem cU.at {sz:Qa} (h:cU sz) {k:Nat} (hk:k<sz.length):1<=szN sz k/\szN sz k<=1048576/\nth sz k=(szN sz k:Int):=by
 have:=h.2 k hk;unfold szN;omega
theorem fE (sz:Qa) (k:Nat):dA sz k+szN sz (k+1)=bR sz (k+1):=by
 unfold dA;rw [bR,Nat.add_mul,Nat.one_mul,Nat.mul_comm (szN sz k)];omega
theorem cU.mul {sz:Qa} (h:cU sz) {k:Nat} (hk:k+1<sz.length):szN sz (k+1)*szN sz k<=1099511627776:=by
 have h1:=h.at hk;have i:=h.at (k:=k) ap;exact Nat.mul_le_mul h1.2.1 i.2.1
theorem cU.cnt {sz:Qa} (h:cU sz):∀k,k<sz.length->bR sz k<=k*1099512676352:=by
 intro k
 induction k with
 | zero=>intro _;simp [bR]
 | succ k ih=>
  intro hk;have h1:=ih ap;have o:=h.mul hk;have p:=(h.at hk).2.1;have i:=fE sz k;unfold dA at i;omega
theorem fS (sz:Qa) {j k:Nat} (h:j<=k):bR sz j<=bR sz k:=by
 induction h with
 | refl=>exact NF _
 | step _ ih=>rw [bR];omega
theorem cU.bound {sz:Qa} (h:cU sz) {k:Nat} (hk:k<sz.length):bR sz k<=17592202821632:=by
 have h1:=h.cnt k hk;have i:=h.1.2;have:k*1099512676352<=16*1099512676352:=OF _ ap;omega
theorem dO.bound {sz:Qa} (h:dO sz) {k:Nat} (hk:k<sz.length):bR sz k<=1048576:=NN (fS sz ap) h.2
theorem dO.mul {sz:Qa} (h:dO sz) {k:Nat} (hk:k+1<sz.length):szN sz (k+1)*szN sz k<=1048576:=by
 have h1:=h.bound hk;have i:=fE sz k;unfold dA at i;omega
def pH (sz:Qa) (k:Nat):Qc:=(List.range k).flatMap fun j=>[OH (bR sz j:Int),OH (dA sz j:Int)]
def qo (sz:Qa) (k:Nat):Qc:=(List.range k).flatMap fun j=>[OH (dA sz j:Int),OH (bR sz (j+1):Int)]
theorem oE (sz:Qa) (k:Nat):pH sz (k+1)=pH sz k++[OH (bR sz k:Int),OH (dA sz k:Int)]:=by simp [pH,Ow,List.flatMap_append]
theorem pC (sz:Qa) (k:Nat):qo sz (k+1)=qo sz k++[OH (dA sz k:Int),OH (bR sz (k+1):Int)]:=by simp [qo,Ow,List.flatMap_append]
theorem lD (sz:Qa) (k:Nat):(pH sz k).length=k*2:=by
 induction k with
 | zero=>rfl
 | succ k ih=>rw [oE,Od,ih];simp;omega
theorem lU (sz:Qa) (k:Nat):(qo sz k).length=k*2:=by
 induction k with
 | zero=>rfl
 | succ k ih=>rw [pC,Od,ih];simp;omega
theorem FD (sz:Qa) {j n:Nat} (h:j<n):(pH sz n)[j*2]?=some (OH (bR sz j:Int))/\(pH sz n)[j*2+1]?=some (OH (dA sz j:Int)):=by
 induction n with
 | zero=>omega
 | succ n ih=>
  rw [oE];by_cases i:j<n
  ·have:=ih i;rw [Og (by rw [lD];omega),Og (by rw [lD];omega)];exact this
  ·obtain rfl:j=n:=ap;rw [Oh (by rw [lD];omega),Oh (by rw [lD];omega),lD];simp
theorem JL (sz:Qa) {j n:Nat} (h:j<n):(qo sz n)[j*2]?=some (OH (dA sz j:Int))/\(qo sz n)[j*2+1]?=some (OH (bR sz (j+1):Int)):=by
 induction n with
 | zero=>omega
 | succ n ih=>
  rw [pC];by_cases i:j<n
  ·have:=ih i;rw [Og (by rw [lU];omega),Og (by rw [lU];omega)];exact this
  ·obtain rfl:j=n:=ap;rw [Oh (by rw [lU];omega),Oh (by rw [lU];omega),lU];simp
def cI (T:Qf) (w:Qd) (b:Nat) (sz:Qa):Prop:=∃A1 c1 h c2 i c3,
 w.heap[b]?=some (.cells #[.slice A1 sz.length c1,.slice h (sz.length-1) c2,.slice i (sz.length-1) c3,OH (bR sz (sz.length-1):Int)] T (0,0))/\
 Rd w A1 (aA .i64 sz)/\Rd w h (pH sz (sz.length-1))/\Rd w i (qo sz (sz.length-1))
theorem cI.below {T:Qf} {w i:Qd} {b:Nat} {sz:Qa} (h:cI T w b sz) (hb:aq w i):cI T i b sz:=by
 obtain ⟨A1,c1,u,c2,p,c3,o,h1,v,x⟩:=h;exact ⟨A1,c1,u,c2,p,c3,(hb.block b (NE o)).trans o,h1.below hb,v.below hb,x.below hb⟩
theorem cI.lt {T:Qf} {w:Qd} {b:Nat} {sz:Qa} (h:cI T w b sz):b<w.heap.size:=by
 obtain ⟨A1,c1,p,c2,o,c3,i,_⟩:=h;exact NE i
theorem fQ:dB prog 22 3 (OH 0) 1 8:=⟨underlying22,info_parts (by kernel_rfl),rfl,by decide⟩
theorem mG (A:N_) (zs:Qa) (c:Nat) (w:Qd) (hA:Rd w A (aA .i64 zs)) (hl:zs.length<=17592186043904):Calls prog 40 #[.slice A zs.length c] w fun e y=>∃v,e=.returned v/\y.ownsRow w.heap.size 3 1 v zs.length (aA .i64 zs)/\aq w y:=by
 have q:=fun (w:Qd)=>Lib.run_eql_slice_nil (P:=prog) w 22 3 A zs.length c 0 0 underlying22
 cases A with
 | none=>
  have B:zs=[]:=by
   cases zs with
   | nil=>rfl
   | cons z l=>obtain ⟨b,o,h,_⟩:=hA 0 _ rfl;cases h
  subst B;clear q;have q:=fun (w:Qd)=>Lib.run_eql_slice_nil (P:=prog) w 22 3 none 0 c 0 0 underlying22;simp only [Option.isNone_none] at q;rw [List.length_nil];go_enter func40,ntmps40;go_wp2;go_ret;exact ⟨_,rfl,NV _ _ _ _,NI _ _⟩
 | some a=>
  go_enter func40,ntmps40;go_wp2_with (at_builtin;refine dJ fQ _ rfl (.tmp 5) (.tmp 6) rfl w.heap.size _ 0 [] rfl (eK w 3 1) _ zs.length c (aA .i64 zs) rfl (hA.alloc _) (by rw [bS];omega) (cJ _ _) ap (by unfold maxLen;omega) (by simp) ?_);intro H D C i hb _ _;have u:=((NI _ w).alloc (NF _) (.cells #[] 3)).trans hb;obtain ⟨p,x⟩:=ae i u;clear i hb u;go_wp2;go_ret;exact ⟨_,rfl,p.o,x.o⟩
theorem mZ (b:Nat) (sz:Qa) (w:Qd) (h:cI 212 w b sz) (hl:sz.length<=17592186043904):Calls prog 240 #[(au b)] w fun e x=>∃A c,e=.returned (.slice A sz.length c)/\x.ownsRow w.heap.size 3 1 (.slice A sz.length c) sz.length (aA .i64 sz)/\aq w x:=by
 obtain ⟨A1,c1,V,c2,U,c3,y,h1,C,N⟩:=h;obtain ⟨⟨I,D,O,B⟩,J⟩:=bx4 y;have hc:=mG A1 sz c1 w h1 hl;have H:=aa hc;clear hc y h1 C N;go_enter func240,ntmps240;go_wp2_with fail;refine H.o.mono ?_;rintro e Q ⟨v,rfl,i,hb⟩;obtain ⟨T,R,rfl,u⟩:=aC i;obtain ⟨p,L⟩:=ae i hb;clear i hb u;clear I D O B J;go_wp2;go_ret;exact ⟨_,_,rfl,p.o,L.o⟩
theorem kw (b:Nat) (sz:Qa) (w:Qd) (h:cI 212 w b sz):Calls prog 241 #[(au b)] w fun e o=>e=.returned (OH ((sz.length-1:Nat):Int))/\w=o:=by
 obtain ⟨A1,c1,A,c2,x,c3,i,h1,p,u⟩:=h;obtain ⟨⟨C,B,v,y⟩,D⟩:=bx4 i;clear i h1 p u;go_enter func241,ntmps241;go_wp2;go_ret;exact ⟨rfl,rfl⟩
theorem ky (b:Nat) (sz:Qa) (w:Qd) (h:cI 212 w b sz):Calls prog 79 #[(au b)] w fun e o=>e=.returned (OH (bR sz (sz.length-1):Int))/\w=o:=by
 obtain ⟨A1,c1,A,c2,x,c3,i,h1,p,u⟩:=h;obtain ⟨⟨C,B,v,y⟩,D⟩:=bx4 i;clear i h1 p u;go_enter func79,ntmps79;go_wp2;go_ret;exact ⟨rfl,rfl⟩
theorem nZ (b:Nat) (sz:Qa) (k:Nat) (w:Qd) (h:cI 212 w b sz) (hl:sz.length<=17592186043904) (hk:k<sz.length-1):Calls prog 242 #[(au b),OH k] w fun e p=>e=.returned (.agg #[OH (bR sz k:Int),OH (dA sz k:Int)])/\aq w p:=by
 have i:=fun p (hb:aq w p)=>kw b sz p (h.below hb);have O:=h.lt;obtain ⟨A1,c1,A2,c2,A3,c3,y,h1,u,D⟩:=h;obtain ⟨n,hn⟩:∃n,sz.length-1=n:=⟨_,rfl⟩;rw [hn] at y u D hk i;obtain ⟨⟨Y,V,r2,U⟩,Z⟩:=bx4 y;obtain ⟨H,C⟩:=FD sz hk;obtain ⟨b2,B,rfl,Q⟩:=u _ _ H;obtain ⟨N,I,A,L⟩:=u _ _ C;injection A with A;injection A with e3 e4 _
 subst e3;subst e4;rw [show B+(k*2+1)=B+k*2+1 by omega] at L;have T:=aB Q;have x:=aa i;have R:n<=17592186043904:=ap;clear i y h1 u D H C hn hl;go_enter func242,ntmps242;go_wp2_with fail;refine (x.o _ ?_).mono ?_
 ·exact am
 rintro e p ⟨rfl,rfl⟩;have J:(k:Int)<n:=ap;go_wp2_with fail;refine NX (v:=.agg #[OH (bR sz k:Int),OH (dA sz k:Int)]) (by simp [results,results242,go_sem]) rfl ⟨rfl,?_⟩;exact am
theorem pM (b:Nat) (sz:Qa) (k:Nat) (w:Qd) (h:cI 212 w b sz) (hl:sz.length<=17592186043904) (hk:k<sz.length-1):Calls prog 243 #[(au b),OH k] w fun e p=>e=.returned (.agg #[OH (dA sz k:Int),OH (bR sz (k+1):Int)])/\aq w p:=by
 have i:=fun p (hb:aq w p)=>kw b sz p (h.below hb);have O:=h.lt;obtain ⟨A1,c1,A2,c2,A3,c3,y,h1,B,u⟩:=h;obtain ⟨n,hn⟩:∃n,sz.length-1=n:=⟨_,rfl⟩;rw [hn] at y B u hk i;obtain ⟨⟨Y,V,r2,U⟩,Z⟩:=bx4 y;obtain ⟨H,D⟩:=JL sz hk;obtain ⟨b2,C,rfl,Q⟩:=u _ _ H;obtain ⟨N,I,A,L⟩:=u _ _ D;injection A with A;injection A with e3 e4 _
 subst e3;subst e4;rw [show C+(k*2+1)=C+k*2+1 by omega] at L;have T:=aB Q;have x:=aa i;have R:n<=17592186043904:=ap;clear i y h1 B u H D hn hl;go_enter func243,ntmps243;go_wp2_with fail;refine (x.o _ ?_).mono ?_
 ·exact am
 rintro e p ⟨rfl,rfl⟩;have J:(k:Int)<n:=ap;go_wp2_with fail;refine NX (v:=.agg #[OH (dA sz k:Int),OH (bR sz (k+1):Int)]) (by simp [results,results243,go_sem]) rfl ⟨rfl,?_⟩;exact am
theorem Dg (n:Int) (w:Qd):Calls prog 112 #[OH n] w fun e h=>e=.returned (.bool (!decide (1<=n/\n<=1048576)))/\w=h:=by
 by_cases h1:n<1
 ·go_enter func112,ntmps112;go_wp2;go_ret;exact ⟨df (by first | (simp;omega) | (simp;done)),rfl⟩
 ·by_cases i:1048576<n
  ·go_enter func112,ntmps112;go_wp2;go_ret;exact ⟨df (by first | (simp;omega) | (simp;done)),rfl⟩
  ·go_enter func112,ntmps112;go_wp2;go_ret;exact ⟨df (by first | (simp;omega) | (simp;done)),rfl⟩
def LD (sz:Qa) (e:Ending):Prop:=∃d:Int,e=.returned (OH d)/\ -1<=d/\(d<0↔∀k,k<sz.length->1<=nth sz k/\nth sz k<=1048576)
theorem vu (A:N_) (sz:Qa) (c:Nat) (w:Qd) (hA:Rd w A (aA .i64 sz)) (hl:sz.length<=17592186043904):Calls prog 154 #[.slice A sz.length c,.func (.func 112) #[] #[]] w fun e C=>LD sz e/\w=C:=by
 obtain ⟨n,hn⟩:∃n,sz.length=n:=⟨_,rfl⟩;have hw:=fun z=>Dg z w;rw [hn] at hl ⊢;obtain ⟨HA,H,I⟩:=af hA hn hw;clear hA hn hw;go_enter func154,ntmps154;go_wp2_with fail
 go_loop [5,8] (fun _ i=>∃k:Nat,k<=n/\i=OH k/\an (∀j,j<k->1<=nth sz j/\nth sz j<=1048576)) (fun _ i=>n-(intOf i).toNat)
 ·exact ⟨0,NJ _,rfl,aa fun j J=>ap⟩
 case round=>
  obtain ⟨k,hk,rfl,u⟩:=hrel;by_cases B:k<n
  ·obtain ⟨b,o,rfl,p⟩:=HA.o.num (show k<sz.length by rw [H.o];exact B);by_cases x:1<=nth sz k/\nth sz k<=1048576
   ·have y:(!decide (1<=nth sz k/\nth sz k<=1048576))=false:=by simp [x.1,x.2]
    have hw:=I.o (nth sz k);rw [y] at hw;obtain ⟨D,v⟩:=ae x hw;clear x hw y;go_wp2_with fail;refine v.o.mono ?_;rintro e C ⟨rfl,rfl⟩;go_wp2_with fail;go_round
    case rel=>exact ⟨k+1,by omega,by go_num,aa (p:=∀j,j<k+1->1<=nth sz j/\nth sz j<=1048576) fun j J=>by
     rcases NY j k with h | h
     ·exact u.out j h
     ·obtain rfl:j=k:=ap
      exact D.o⟩
    case measure=>simp [intOf];omega
   ·have y:(!decide (1<=nth sz k/\nth sz k<=1048576))=true:=by simp;omega
    have hw:=I.o (nth sz k);rw [y] at hw;obtain ⟨D,v⟩:=ae x hw;clear x hw y;go_wp2_with fail;refine v.o.mono ?_;rintro e C ⟨rfl,rfl⟩;go_wp2_with fail;go_ret;exact ⟨⟨k,rfl,by omega,fun h=>ap,fun h=>absurd (h k (by rw [H.o];exact B)) D.o⟩,rfl⟩
  ·obtain rfl:k=n:=ap;go_wp2_with fail;go_ret;exact ⟨⟨-1,rfl,by omega,fun _=>by rw [H.o];exact u.out,fun _=>ap⟩,rfl⟩
theorem xp (A:N_) (sz:Qa) (c:Nat) (w:Qd) (hA:Rd w A (aA .i64 sz)) (hl:sz.length<=17592186043904) (h:¬∀k,k<sz.length->1<=nth sz k/\nth sz k<=1048576):Calls prog 113 #[.slice A sz.length c,.func (.func 112) #[] #[]] w fun e p=>e=.returned (.bool true)/\w=p:=by
 have u:=vu A sz c w hA hl;obtain ⟨x,H⟩:=ae u h;clear u hA h;go_enter func113,ntmps113;go_wp2_with fail;refine x.o.mono ?_;rintro e p ⟨⟨d,rfl,y,i⟩,rfl⟩
 have v:0<=d:=by
  rcases Int.lt_or_le d 0 with h | h
  ·exact absurd (i.1 h) H.o
  ·exact h
 clear i;go_wp2;go_ret;exact ⟨df (by simp [v]),rfl⟩
theorem zt (A:N_) (sz:Qa) (c:Nat) (w:Qd) (hA:Rd w A (aA .i64 sz)) (hl:sz.length<=17592186043904) (h:∀k,k<sz.length->1<=nth sz k/\nth sz k<=1048576):Calls prog 113 #[.slice A sz.length c,.func (.func 112) #[] #[]] w fun e p=>e=.returned (.bool false)/\w=p:=by
 have u:=vu A sz c w hA hl;obtain ⟨v,H⟩:=ae u h;clear u hA h;go_enter func113,ntmps113;go_wp2_with fail;refine v.o.mono ?_;rintro e p ⟨⟨d,rfl,x,i⟩,rfl⟩;have y:d<0:=i.2 H.o;clear i;go_wp2;go_ret;exact ⟨df (by simp;omega),rfl⟩
theorem yC (m N:Nat) (P S:Nat) (v0 v1 v2:Value) (w:Qd) (hP:w.heap[P]?=some (.cells #[(au S)] 159 (0,0))) (h:w.heap[S]?=some (.cells #[v0,v1,v2,OH N] 212 (0,0))) (H:N<=17592202821632) (hm:m<=17592202821632):Calls prog 114 #[OH m,(au P)] w fun e p=>e=.returned (.agg #[OH N,OH ((N+m:Nat):Int)])/\p.heap[S]?=some (.cells #[v0,v1,v2,OH ((N+m:Nat):Int)] 212 (0,0))/\Keep (fun i=>i=S) w p:=by
 obtain ⟨B,D⟩:=bx1 hP;obtain ⟨⟨s0,s1,s2,A⟩,C⟩:=bx4 h;have x:=NE hP;have u:=NE h;have y:=aa h;clear h hP;rw [Int.natCast_add];go_enter func114,ntmps114;go_wp2_with fail
 go_region
 all_goals go_wp2_with fail
 refine NX (v:=.agg #[OH N,OH ((N:Int)+(m:Int))]) (by simp [results,results114,go_sem]) rfl ⟨rfl,?_,?_⟩
 ·have h1:(w.setCell (ar S 3) (OH ((N:Int)+(m:Int)))).heap[S]?=some (.cells #[v0,v1,v2,OH ((N:Int)+(m:Int))] 212 (0,0)):=OE w S 3 _ _ _ y.o;have l1:=NE h1;exact (NW _ _ S (by simp at l1 ⊢;omega)).trans ((NW _ _ S l1).trans h1)
 ·exact (((Keep.setCell (S:=fun i=>i=S) (Keep.refl _ w) (ar S 3) (.inr rfl) _).alloc _).alloc _).drew
theorem ns {T:Qf} {B:Nat} {u v:Qd} {b:Nat} {sz:Qa} (h:cI T (fZ B u) b sz) (i:Agr B u v):cI T v b sz:=by
 obtain ⟨A1,c1,p,c2,o,c3,y,h1,x,A⟩:=h;exact ⟨A1,c1,p,c2,o,c3,rW y i,lZ h1 i,lZ x i,lZ A i⟩
theorem mN:dB prog 170 148 (.agg #[OH 0,OH 0]) 2 16:=⟨underlying170,info_parts (by kernel_rfl),rfl,by decide⟩
def Nx (sz:Qa) (o:Value) (P S:Nat) (k:Nat) (p w:Qd):Prop:=
 ∃A1 c1 h c2,w.heap[P]?=some (.cells #[(au S)] 159 (0,0))/\w.heap[S]?=some (.cells #[o,.slice A1 k c1,.slice h k c2,OH (bR sz k:Int)] 212 (0,0))/\
  w.ownsRow S 148 2 (.slice A1 k c1) k (pH sz k)/\w.ownsRow S 148 2 (.slice h k c2) k (qo sz k)/\(∀i,(Value.slice A1 k c1).ownBlock=some i->(Value.slice h k c2).ownBlock≠some i)/\Below S p w
theorem Af (A:N_) (sz:Qa) (c:Nat) (w:Qd) (hc:sz.length<=c) (hm:c<=9223372036854775807) (h:¬(2<=sz.length/\sz.length<=16)):Calls prog 77 #[.slice A sz.length c] w fun e i=>e=.returned (.tuple #[.pointer none,OH 5])/\w=i:=by
 by_cases h1:sz.length<2
 ·go_enter func77,ntmps77;go_wp2;go_ret2;exact ⟨rfl,rfl⟩
 ·have o:16<sz.length:=ap;go_enter func77,ntmps77;go_wp2;go_ret2;exact ⟨rfl,rfl⟩
theorem Ae (A:N_) (sz:Qa) (c:Nat) (w:Qd) (hA:Rd w A (aA .i64 sz)) (hc:sz.length<=c) (hm:c<=9223372036854775807) (h:2<=sz.length/\sz.length<=16) (hb:¬∀k,k<sz.length->1<=nth sz k/\nth sz k<=1048576):Calls prog 77 #[.slice A sz.length c] w fun e u=>e=.returned (.tuple #[.pointer none,OH 5])/\w=u:=by
 obtain ⟨h1,v⟩:=h;have i:=xp A sz c w hA ap hb;have p:=aa i;clear i hb hA;go_enter func77,ntmps77;go_wp2_with fail;refine p.o.mono ?_;rintro e u ⟨rfl,rfl⟩;go_wp2;go_ret2;exact ⟨rfl,rfl⟩
theorem xI (A:N_) (sz:Qa) (c:Nat) (w:Qd) (hA:Rd w A (aA .i64 sz)) (hc:sz.length<=c) (hm:c<=9223372036854775807) (h:cU sz):Calls prog 77 #[.slice A sz.length c] w fun e D=>aq w D/\((1048576<bR sz (sz.length-1)/\e=.returned (.tuple #[.pointer none,OH 4]))\/
   (bR sz (sz.length-1)<=1048576/\∃b,e=.returned (.tuple #[(au b),OH 0])/\cI 212 (fZ w.heap.size D) b sz/\w.heap.size<=b)):=by
 obtain ⟨b,o,rfl,_⟩:=hA.num (show 0<sz.length by have:=h.1.1;omega);have b7:=zt (some (ar b o)) sz c w hA (by have:=h.1.2;omega) h.2;have bb:=mG (some (ar b o)) sz c w hA (by have:=h.1.2;omega);obtain ⟨n,hn⟩:∃n,sz.length=n:=⟨_,rfl⟩;obtain ⟨h1,h2⟩:=h.1;rw [hn] at h1 h2 b7 bb hc ⊢;have e3:¬(c=1):=ap;have dT:1<=c:=ap;obtain ⟨d8,dc,co,HR,Hn⟩:=ah b7 bb hA h hn;clear b7 bb hA h hn;go_enter func77,ntmps77;go_wp2_with fail;refine d8.o.mono ?_;rintro e D ⟨rfl,rfl⟩;go_wp2_with fail;refine dc.o.mono ?_;rintro e u ⟨v,rfl,U,hb⟩;obtain ⟨Ac,cc,rfl,cj⟩:=aC U;obtain ⟨cr,Hb,e0⟩:=af U hb cj;clear U hb cj;go_wp2_with fail
 go_loopw [30] (fun i wr=>∃k:Nat,k<=n-1/\i=OH k/\Nx sz (.slice Ac n cc) (u.heap.size+1) u.heap.size k u wr) (fun i _=>n-(intOf i).toNat)
 case atStart=>
  refine ⟨0,NJ _,rfl,none,0,none,0,?_,?_,NV _ _ _ _,NV _ _ _ _,(fun i y=>by cases y),?_⟩
  ·have:=NG (u.alloc (.cells #[.slice Ac n cc,OJ,OJ,OH 0] 212)) (.cells #[(au u.heap.size)] 159);simpa using this
  ·exact (NW _ _ _ (by simp)).trans (NG u _)
  ·exact am
 case round=>
  obtain ⟨k,hk,rfl,A1,c1,A2,c2,hP,hS,c8,bI,bd,hW⟩:=hrel;have ab:k<sz.length:=by rw [Hn.o];omega
  have d5:=HR.o.bound ab;obtain ⟨x0,xf⟩:=bx1 hP;obtain ⟨⟨s0,s1,s2,s3⟩,sf⟩:=bx4 hS;have cM:=NE hP;have cP:=NE hS;obtain ⟨HP,HS,ao,aG,HN,HW⟩:=ai hP hS c8 bI bd hW;clear hP hS c8 bI bd hW;by_cases dw:k<n-1
  ·have C:k+1<sz.length:=by rw [Hn.o];omega
   have c6:=HR.o.mul C;have z0:=HR.o.at ab;have z1:=HR.o.at C;obtain ⟨_,_,e',p0⟩:=co.o.num ab;injection e' with e';injection e' with e1 e2 _;subst e1;subst e2
   obtain ⟨_,_,e',p1⟩:=co.o.num C;injection e' with e';injection e' with e1 e2 _;subst e1;subst e2
   have bs:b<w.heap.size:=aB p0;have ci:b<u.heap.size:=by have:=Hb.o.size;omega
   have b5:=((Hb.o.trans (HW.o.mono Hb.o.size)).cell (p:=(ar b (o+k))) bs).trans p0;have d1:=((Hb.o.trans (HW.o.mono Hb.o.size)).cell (p:=⟨b,o+(k+1),none⟩) bs).trans p1;rw [z0.2.2] at b5;rw [z1.2.2,show o+(k+1)=o+1+k by omega] at d1;have J:dA sz k=bR sz k+szN sz (k+1)*szN sz k:=rfl;obtain ⟨p,hp⟩:∃p,szN sz (k+1)*szN sz k=p:=⟨_,rfl⟩;rw [hp] at c6 J;have I:=fun W (h1:W.heap[u.heap.size+1]?=_) (h2:W.heap[u.heap.size]?=_)=>yC p (bR sz k) (u.heap.size+1) u.heap.size (.slice Ac n cc) (.slice A1 k c1) (.slice A2 k c2) W h1 h2 d5 ap;rw [<-J] at I;have d6:(szN sz (k+1):Int)*(szN sz k:Int)=(p:Int):=by rw [<-Int.natCast_mul,hp]
   have d4:IntKind.i64.wrap (p:Int)=(p:Int):=NK _ ap;obtain ⟨cf,dr⟩:=ae I J;clear I p0 p1 z0 z1 J;have dG:(k:Int)<n:=ap;go_wp2_with fail;have x:(fun D:Qd=>D.cell? (ar (u.heap.size+1) 0)=some ((au u.heap.size))/\D.cell? (ar u.heap.size 1)=some (.slice A1 k c1)/\D.cell? (ar b (o+k))=some (OH (szN sz k))) wr.drew:=⟨x0,s1,b5⟩;refine XA.g 15 (fun D:Qd=>D.cell? (ar (u.heap.size+1) 0)=some ((au u.heap.size))/\D.cell? (ar u.heap.size 1)=some (.slice A1 k c1)/\D.cell? (ar b (o+k))=some (OH (szN sz k))) ?_;refine XA.t ?_ [0,1,2,3,4,5,6,7,8,9,10,11] x ?_;refine XA.o 12 (fun K H=>?_);go_simp;refine (cf.o wr.drew HP.o HS.o).mono ?_;rintro e w3 ⟨rfl,ad,a2⟩;have g0:=a2.cell (p:=(ar (u.heap.size+1) 0)) x0 (by simp);have g1:=NH w3 _ 1 _ _ _ ad;have g2:=a2.cell (p:=(ar b (o+k))) b5 (by simp;omega);have l0:u.heap.size+1<w3.heap.size:=aB g0;have l1:u.heap.size<w3.heap.size:=aB g1;have l2:b<w3.heap.size:=aB g2;obtain ⟨bw,T⟩:=ae ad a2;clear ad a2;dsimp only;refine H.out _ _ ⟨g0,g1,g2⟩ (fun x=>?_);clear H K;refine XA.o 13 (fun K H=>?_);go_simp;refine H.out _ _ ⟨aI g0 _,aI g1 _,aI g2 _⟩ (fun x=>?_);clear H K;have bO:=T.o.own (bW ao.o 1) (fun i y e=>ax HS.o (by decide) ao.o (by rw [y,e]));have bN:=(T.o.block _ (NE HP.o) ap).trans HP.o;obtain ⟨Z,bn⟩:=ae bO bN;clear bO bN;refine XA.o 14 (fun K H=>?_);refine bT mN (.tmp 39) (.tmp 48) rfl rfl u.heap.size (.slice A1 k c1) k (pH sz k) rfl (Z.o.alloc _) (some (ar w3.heap.size 0)) 1 1 [OH (bR sz k:Int),OH (dA sz k:Int)] rfl (dN w3 _ _ _ rfl) rfl (by simp [Value.oneCell']) ap (by unfold maxLen;omega) (by simp;omega) ?_;intro A4 c4 w4 cn cw Y bl;have aR:=dV bn.o (by decide) Z.o Y;have a5:=dV bw.o (by decide) Z.o Y;have i0:=NH w4 _ 0 _ _ _ aR;have i1:=NH w4 _ 1 _ _ _ a5;have i2:=BV g2 ci Z.o Y;have i3:=NS w4 _ 1 _ _ a5;obtain ⟨b0,bo,a1,bM,c9,bf⟩:=ai cn aR a5 Y bl cw;clear cn aR a5 Y bl cw;dsimp only;refine H.out _ _ ⟨i0,i1,i2⟩ (fun x=>?_);clear H K x;refine XA.e ?_;simp only [Ob,Oc];go_wp2_with fail;obtain ⟨L,a4⟩:=va (T.o.own (bW aG.o 1) (fun i y e=>ax HS.o (by decide) aG.o (by rw [y,e]))) HN.o bM.o c9.o;have O:=(Below.heap_setCell w4 (ar u.heap.size 1) (.slice A4 (k+1) c4) (u.heap.size+1) (by simp)).trans bo.o;have Q:=OE w4 u.heap.size 1 _ _ (.slice A4 (k+1) c4) a1.o;have b2:Keep (fun i=>i=u.heap.size) w4 (w4.setCell (ar u.heap.size 1) (.slice A4 (k+1) c4)):=Keep.setCell (S:=fun i=>i=u.heap.size) (Keep.refl _ _) (ar u.heap.size 1) (.inr rfl) _;have a0:=b2.own b0.o (fun i y e=>ax a1.o (by decide) b0.o (by rw [y,e]));have V:=b2.own L (fun i y e=>ax a1.o (by decide) L (by rw [y,e]))
   have b3:aq u (w4.setCell (ar u.heap.size 1) (.slice A4 (k+1) c4)):=
    ((HW.o.drew.trans ((T.o.toBelow (B:=u.heap.size) (by simp;omega) (fun i y=>ap)))).trans ((((NI _ w3).alloc ap _)).trans bf.o)).setCell (by simp) _
   rw [<-oE] at a0;obtain ⟨w5,bG⟩:∃w5,w5=w4.setCell (ar u.heap.size 1) (.slice A4 (k+1) c4):=⟨_,rfl⟩;rw [<-bG] at O Q a0 V b3 ⊢;clear bG b2 L i0 i1 i2 i3 g0 g1 g2 l0 l1 l2 x0 xf s0 s1 s2 s3 sf;obtain ⟨x0,xf⟩:=bx1 O;have y2:=NH w5 _ 2 _ _ _ Q;have aM:=fE sz k;have z1:=(HR.o.at C).2.1;have ds:=HR.o.bound C;have I:=fun W (h1:W.heap[u.heap.size+1]?=_) (h2:W.heap[u.heap.size]?=_)=>yC (szN sz (k+1)) (dA sz k) (u.heap.size+1) u.heap.size (.slice Ac n cc) (.slice A4 (k+1) c4) (.slice A2 k c2) W h1 h2 ap ap;rw [aM] at I;have cM:=NE O;have cP:=NE Q;obtain ⟨da,b6,aP,bi,a8,cO,d9,dv⟩:=ak I O Q a0 V a4 b3 aM;clear I O Q a0 V a4 b3 aM cf T bw Z bn b0 bo a1 bM c9 bf d6 d4;go_wp2_with fail;have x:(fun D:Qd=>D.cell? (ar (u.heap.size+1) 0)=some ((au u.heap.size))/\D.cell? (ar u.heap.size 2)=some (.slice A2 k c2)) w5.drew:=⟨x0,y2⟩;refine XA.g 10 (fun D:Qd=>D.cell? (ar (u.heap.size+1) 0)=some ((au u.heap.size))/\D.cell? (ar u.heap.size 2)=some (.slice A2 k c2)) ?_;refine XA.t ?_ [0,1,2,3,4,5,6] x ?_;refine XA.o 7 (fun K H=>?_);go_simp;refine (da.o w5.drew b6.o aP.o).mono ?_;rintro e w6 ⟨rfl,b8,av⟩;have g0:=av.cell (p:=(ar (u.heap.size+1) 0)) x0 (by simp);have g1:=NH w6 _ 2 _ _ _ b8;have l0:u.heap.size+1<w6.heap.size:=aB g0;obtain ⟨d3,a7⟩:=ae b8 av;clear b8 av;dsimp only;refine H.out _ _ ⟨g0,g1⟩ (fun x=>?_);clear H K;refine XA.o 8 (fun K H=>?_);go_simp;refine H.out _ _ ⟨aI g0 _,aI g1 _⟩ (fun x=>?_);clear H K;have cl:=a7.o.own (bW a8.o 1) (fun i y e=>ax aP.o (by decide) a8.o (by rw [y,e]));have bV:=(a7.o.block _ (NE b6.o) ap).trans b6.o;obtain ⟨b4,d2⟩:=ae cl bV;clear cl bV;refine XA.o 9 (fun K H=>?_);refine bT mN (.tmp 56) (.tmp 60) rfl rfl u.heap.size (.slice A2 k c2) k (qo sz k) rfl (b4.o.alloc _) (some (ar w6.heap.size 0)) 1 1 [OH (dA sz k:Int),OH (bR sz (k+1):Int)] rfl (dN w6 _ _ _ rfl) rfl (by simp [Value.oneCell']) ap (by unfold maxLen;omega) (by simp;omega) ?_;intro A7 c7 w7 bv ct a3 cb;have b1:=dV d2.o (by decide) b4.o a3;have a6:=dV d3.o (by decide) b4.o a3;have i0:=NH w7 _ 0 _ _ _ b1;have i1:=NH w7 _ 2 _ _ _ a6;have i3:=NS w7 _ 2 _ _ a6;obtain ⟨bz,cA,b9,cy,dp,d0⟩:=ai bv b1 a6 a3 cb ct;clear bv b1 a6 a3 cb ct;dsimp only;refine H.out _ _ ⟨i0,i1⟩ (fun x=>?_);clear H K x;refine XA.e ?_;simp only [Ob,Oc];go_wp2_with fail;obtain ⟨L,a4⟩:=va (a7.o.own (bW bi.o 1) (fun i y e=>ax aP.o (by decide) bi.o (by rw [y,e]))) (fun i y e=>cO.o i e y) cy.o dp.o;have dk:=(Below.heap_setCell w7 (ar u.heap.size 2) (.slice A7 (k+1) c7) (u.heap.size+1) (by simp)).trans cA.o;have cx:=OE w7 u.heap.size 2 _ _ (.slice A7 (k+1) c7) b9.o;have bX:Keep (fun i=>i=u.heap.size) w7 (w7.setCell (ar u.heap.size 2) (.slice A7 (k+1) c7)):=Keep.setCell (S:=fun i=>i=u.heap.size) (Keep.refl _ _) (ar u.heap.size 2) (.inr rfl) _;have be:=bX.own bz.o (fun i y e=>ax b9.o (by decide) bz.o (by rw [y,e]));have cd:=bX.own L (fun i y e=>ax b9.o (by decide) L (by rw [y,e]))
   have d7:aq u (w7.setCell (ar u.heap.size 2) (.slice A7 (k+1) c7)):=
    ((d9.o.drew.trans ((a7.o.toBelow (B:=u.heap.size) (by simp;omega) (fun i y=>ap)))).trans ((((NI _ w6).alloc ap _)).trans d0.o)).setCell (by simp) _
   rw [<-pC] at be;go_roundw
   ·exact ⟨k+1,by omega,by go_num,A4,c4,A7,c7,dk,cx,cd,be,fun i y e=>a4 i e y,d7⟩
   ·simp [intOf];omega
  ·obtain rfl:k=n-1:=ap;have N:sz.length-1=n-1:=by rw [Hn.o]
   have cv:cI 212 (fZ w.heap.size wr) u.heap.size sz:=by
    have dn:=Hb.o.size;refine ⟨Ac,cc,A1,c1,A2,c2,?_,?_,?_,?_⟩
    ·rw [Hn.o,iM dn];exact HS.o
    ·exact Rd.own (fD (ay cr.o HW.o) (NF _))
    ·rw [N];exact Rd.own (fD ao.o ap)
    ·rw [N];exact Rd.own (fD aG.o ap)
   have a9:aq w wr:=Hb.o.trans (HW.o.mono Hb.o.size);obtain ⟨bA,R,bh⟩:=af cv a9 Hb.o.size;clear cv a9 N;by_cases cs:1048576<bR sz (n-1)
   ·have cL:(1048576:Int)<bR sz (n-1):=ap;go_wp2_with fail;go_ret2;exact ⟨R.o,.inl ⟨cs,rfl⟩⟩
   ·have cL:¬(1048576:Int)<bR sz (n-1):=ap;go_wp2_with fail;go_ret2
    first | exact ⟨R.o,by omega,_,rfl,bA.o,bh.o⟩ | exact ⟨R.o,.inr ⟨by omega,_,rfl,bA.o,bh.o⟩⟩
theorem vC (n size:Nat) (w:Qd) (hn:n<=1048576) (hs:1<=size) (v:size<=1048576):Calls prog 123 #[OH n,OH size] w fun e u=>e=.returned (OH (dD n size:Int))/\w=u:=by
 have B:¬((size:Int)<1):=ap;by_cases p:n=0
 ·subst p;go_enter func123,ntmps123;go_wp2;go_ret;exact ⟨rfl,rfl⟩
 ·have x:¬((n:Int)<1):=ap;have i:(0:Int)<=(n:Int)-1:=ap;have he:=Fe n size ap;have o:=Nat.div_le_self (n-1) size;have hc:dD n size=(n-1)/size+1:=by unfold dD;rw [if_neg p]
  rw [hc];obtain ⟨y,h⟩:∃y,(n-1)/size=y:=⟨_,rfl⟩;rw [h] at he o ⊢;have A:((n:Int)-1).tdiv size=y:=by rw [Int.tdiv_eq_ediv_of_nonneg i,he]
  obtain ⟨D,C⟩:=ae h hc;clear h hc p;go_enter func123,ntmps123;go_wp2;go_ret;exact ⟨rfl,rfl⟩
theorem mO (n size:Nat) (w:Qd) (hn:n<=1048576) (hs:1<=size) (T:size<=1048576):Calls prog 119 #[OH n,OH size] w fun e Q=>∃v,e=.returned v/\Q.ownsRow w.heap.size 148 2 v (dD n size) (fU n size (dD n size))/\aq w Q:=by
 have D:=vC n size w hn hs T;have Y:=fR n size;have A:=fun k (h:k<dD n size)=>jt h;obtain ⟨m,hm⟩:∃m,dD n size=m:=⟨_,rfl⟩;rw [hm] at D Y A ⊢;obtain ⟨R,U⟩:=ae D A;clear D hm A;go_enter func119,ntmps119;go_wp2_with fail;refine R.o.mono ?_;rintro e Q ⟨rfl,rfl⟩;go_wp2_with fail
 go_loopw [5,11] (fun v x wr=>∃k:Nat,k<=m/\x=OH k/\wr.ownsRow w.heap.size 148 2 v k (fU n size k)/\aq w wr) (fun _ x _=>m-(intOf x).toNat)
 ·exact ⟨0,NJ _,rfl,NV _ _ _ _,NI _ _⟩
 case round=>
  obtain ⟨k,hk,rfl,i,hb⟩:=hrel;by_cases O:k<m
  ·have V:=U.o k O;obtain ⟨y,N⟩:∃y,k*size=y:=⟨_,rfl⟩;rw [N] at V;have a0:(k:Int)*(size:Int)=(y:Int):=by rw [<-N];push_cast;rfl
   obtain ⟨Z,cl,rfl,_⟩:=aC i;obtain ⟨Hy,p,J⟩:=af N i hb;clear i hb N;by_cases a1:(size:Int)<=(n:Int)-y
   ·have L:(y:Int)+size<=n:=ap;go_wp2_with (at_builtin;refine aW mN _ rfl (.tmp 17) (.tmp 27) rfl w.heap.size (.slice Z k cl) k _ rfl p.o [OH (y:Int),OH ((y:Int)+size)] rfl rfl (cJ .i64 [_,_]) ap (by unfold maxLen;omega) J.o.size ?_);intro g6 c6 w6 u B I;obtain ⟨H,C⟩:=ae u (J.o.trans B);clear u B I;go_wp2_with fail;go_roundw
    case rel=>
     refine ⟨k+1,by omega,by go_num,?_,C.o⟩;rw [ju,Hy.o,show ((min (y+size) n:Nat):Int)=(y:Int)+size by omega];exact H.o
    case measure=>simp [intOf];omega
   ·have L:(n:Int)-y<size:=ap;go_wp2_with (at_builtin;refine aW mN _ rfl (.tmp 17) (.tmp 27) rfl w.heap.size (.slice Z k cl) k _ rfl p.o [OH (y:Int),OH ((y:Int)+((n:Int)-y))] rfl rfl (cJ .i64 [_,_]) ap (by unfold maxLen;omega) J.o.size ?_);intro g6 c6 w6 u B I;obtain ⟨H,C⟩:=ae u (J.o.trans B);clear u B I;go_wp2_with fail;go_roundw
    case rel=>
     refine ⟨k+1,by omega,by go_num,?_,C.o⟩;rw [ju,Hy.o,show ((min (y+size) n:Nat):Int)=(y:Int)+((n:Int)-y) by omega];exact H.o
    case measure=>simp [intOf];omega
  ·obtain rfl:m=k:=ap;obtain ⟨p,J⟩:=ae i hb;clear i hb;go_wp2_with fail;go_ret;exact ⟨_,rfl,p.o,J.o⟩
theorem sE (a b:Nat) (w:Qd) (p:a<=1048576) (hb:b<=1048576):Calls prog 175 #[.agg #[OH a,OH b]] w fun e o=>e=.returned (OH ((b-a:Nat):Int))/\aq w o:=by
 have hB:aq w (w.alloc (.cells #[OH a,OH b] 148)):=(br w).alloc (NF _) _;by_cases h:a<=b
 ·have h1:¬((b:Int)-a<0):=ap;have i:((b-a:Nat):Int)=(b:Int)-a:=ap;rw [i];clear i;go_enter func175,ntmps175;go_wp2;go_ret;exact ⟨bD (by first | rfl | omega | (simp;omega)),hB⟩
 ·have h1:(b:Int)-a<0:=ap;have i:((b-a:Nat):Int)=0:=ap;rw [i];clear i;go_enter func175,ntmps175;go_wp2;go_ret;exact ⟨bD (by first | rfl | omega | (simp;omega)),hB⟩
theorem Fk (i n k V bk:Nat) (w:Qd) (hn:w.heap[V]?=some (.cells #[OH n] 3 (0,0))) (hk:w.heap[bk]?=some (.cells #[OH k] 3 (0,0))) (h1:1<=k) (h2:k<=1048576) (h3:n<=1048576) (hi:i<=k):Calls prog 187 #[OH i,(au V),(au bk)] w fun e u=>e=.returned (OH (bdN n k i:Int))/\aq w u:=by
 have tn:=fun u q=>bx1 (sb hn u q);have tk:=fun u q=>bx1 (sb hk u q);have J:=br w;have a0:¬(k=0):=ap;have x:(n:Int).tdiv (k:Int)=((n/k:Nat):Int):=rfl;have I:(n:Int)/(k:Int)=((n/k:Nat):Int):=rfl;have D:(n:Int).tmod (k:Int)=((n%k:Nat):Int):=rfl;have y:(n:Int)%(k:Int)=((n%k:Nat):Int):=rfl;have H:=gh n k i ap hi;have h:bdN n k i=i*(n/k)+min i (n%k):=rfl;have T:n/k<=n:=Nat.div_le_self _ _;obtain ⟨q,Y⟩:∃q,n/k=q:=⟨_,rfl⟩;obtain ⟨r,hr⟩:∃r,n%k=r:=⟨_,rfl⟩;obtain ⟨p,Q⟩:∃p,i*q=p:=⟨_,rfl⟩;have hm:(i:Int)*(q:Int)=(p:Int):=by rw [<-Q];push_cast;rfl
 rw [Y] at x I h T;rw [hr] at D y h;rw [Q] at h;have Z:p<=1048576:=ap;have R:IntKind.i64.wrap (p:Int)=p:=NK _ ap;have O:IntKind.i64.wrap (q:Int)=q:=NK _ ap;obtain ⟨d,U⟩:∃d,bdN n k i=d:=⟨_,rfl⟩;rw [U] at H h ⊢;have A:=aa h;clear hn hk Y hr Q U h H;go_enter func187,ntmps187;go_wp2_with fail;refine HA.g (fun u:Qd=>aq w u) ?_;refine HA.t ?_ [0,1,2,3,4,5,6,7,8] J.drew ?_;obtain ⟨v,C⟩:∃v:Nat,min i r=v:=⟨_,rfl⟩;have B:(if r<i then (r:Int) else (i:Int))=(v:Int):=by rw [<-C];split<;>omega
 have N:IntKind.i64.wrap ((p:Int)+(v:Int))=(p:Int)+v:=NK _ ap;refine HA.t ?_ [9] J.drew ?_;refine HA.t ?_ [10,11] J.drew ?_;refine HA.d ?_;have hB:=J.drew;have L:=aa (show (p:Int)+v=(d:Int) by have:=A.o;omega);clear C B R O N x I D y hm;go_wp2_with fail;go_ret;exact ⟨bD L.o,hB⟩
theorem zk (n k:Nat) (w:Qd) (h1:1<=k) (h2:k<=1048576) (h3:n<=1048576):Calls prog 174 #[OH n,OH k] w fun e u=>∃v,e=.returned v/\u.ownsRow w.heap.size 148 2 v k (aT (fX n k))/\aq w u:=by
 have a1:¬((n:Int)<0):=ap;have a6:¬((k:Int)<1):=ap;obtain ⟨p,h⟩:∃p,(w.alloc (.cells #[OH n] 3)).alloc (.cells #[OH k] 3)=p:=⟨_,rfl⟩
 have hn:p.heap[w.heap.size]?=some (.cells #[OH n] 3 (0,0)):=by
  rw [<-h,NW _ _ _ (by simp)];exact NG w _
 have hk:p.heap[w.heap.size+1]?=some (.cells #[OH k] 3 (0,0)):=by
  rw [<-h];have:=NG (w.alloc (.cells #[OH n] 3)) (.cells #[OH k] 3);simpa using this
 have H:p.heap.size=w.heap.size+1+1:=by rw [<-h];simp
 have L:aq w p:=by rw [<-h];exact ((br w).alloc (NF _) _).alloc (by simp) _
 have tn:=fun u q=>bx1 (sb hn u q);have tk:=fun u q=>bx1 (sb hk u q);have O:=fun i u (q:aq p u) (hi:i<=k)=>Fk i n k w.heap.size (w.heap.size+1) u (sb hn u q) (sb hk u q) h1 h2 h3 hi;have N:=fun i (hi:i<=k)=>gh n k i ap hi;obtain ⟨U,D,a3,T,C⟩:=ah h O N H L;clear h hn hk O N H L;go_enter func174,ntmps174;have q0:=br p;go_wp2_with fail;rw [U.o]
 go_loopw [6,16] (fun v x wr=>∃m:Nat,m<=k/\x=OH m/\wr.ownsRow p.heap.size 148 2 v m (aT ((List.range m).map fun i=>(bdN n k i,bdN n k (i+1))))/\aq p wr) (fun _ x _=>k-(intOf x).toNat)
 ·exact ⟨0,NJ _,rfl,NV _ _ _ _,q0⟩
 case round=>
  obtain ⟨m,hm,rfl,J,q⟩:=hrel;by_cases a2:m<k
  ·have a4:(m:Int)<k:=ap;obtain ⟨A,c,rfl,_⟩:=aC J;have Q:=aa J;clear J;go_wp2_with fail;refine (D.o m wr q ap).mono ?_;rintro e w1 ⟨rfl,R⟩;have V:=bt q R;have O1:=aa (ay Q.o R);have a5:IntKind.i64.wrap ((m:Int)+1)=((m+1:Nat):Int):=by rw [NK _ ap];push_cast;rfl
   clear R q;go_wp2_with fail;have y:=D.o (m+1) w1 V ap;rw [show ((m+1:Nat):Int)=(m:Int)+1 from by omega] at y;refine y.mono ?_;rintro e w2 ⟨rfl,k2⟩;have q2:=bt V k2;have O2:=aa (ay O1.o k2);have Y:=q2.size;clear y k2 V O1 Q;go_wp2_with (at_builtin;refine aW mN _ rfl (.tmp 19) (.tmp 28) rfl p.heap.size (.slice A m c) m _ rfl O2.o [OH (bdN n k m:Nat),OH (bdN n k (m+1):Nat)] rfl rfl (cJ .i64 [_,_]) ap (by unfold maxLen;omega) Y ?_);intro g6 c6 w6 B I a0;have Z:=aa B;have q6:=q2.trans I;clear B I a0 q2;go_wp2_with fail;go_roundw
   ·exact ⟨m+1,by omega,by go_num,by rw [tz,iF];exact Z.o,q6⟩
   ·simp [intOf];omega
  ·obtain rfl:k=m:=ap;have Q:=aa (aE (base':=w.heap.size) J (by have:=T.o;omega));have hB:=C.o.trans (q.mono C.o.size);have HB:=aa hB;clear J hB;go_wp2_with fail;go_ret;exact ⟨_,rfl,Q.o,HB.o⟩
theorem cS (l:List Rg) (j:Nat) (h:j<l.length):aS l j=l[j]:=by simp [aS,List.getD,h]
theorem ez {l:List Rg} {j:Nat} (h:j<l.length):(aT l)[j*2]?=some (OH ((aS l j).1:Int))/\(aT l)[j*2+1]?=some (OH ((aS l j).2:Int)):=nz (by rw [cS l j h];simp [h])
theorem sF:∀(l:List Rg) (j:Nat) (r:Rg),((aT l).set (j*2) (OH (r.1:Int))).set (j*2+1) (OH (r.2:Int))=aT (l.set j r)
 | [],_,_=>rfl
 | x::l,0,r=>rfl
 | x::l,j+1,r=>by
  have h:=sF l j r;have e:∀y (m:List Rg),aT (y::m)=OH (y.1:Int)::OH (y.2:Int)::aT m:=fun y m=>by simp [aT]
  rw [e,N6,e,<-h,show (j+1)*2=j*2+1+1 by omega,show j*2+1+1+1=(j*2+1)+1+1 by omega];simp only [N6]
theorem GK {w:Qd} {base n g c:Nat} {l:List Rg} {e:Qf} (h:w.ownsRow base e 2 (.slice (some (ar g 0)) n c) n (aT l)) (j:Nat) (r:Rg): ((w.setCell (ar g (j*2)) (OH (r.1:Int))).setCell (ar g (j*2+1)) (OH (r.2:Int))).ownsRow base e 2 (.slice (some (ar g 0)) n c) n (aT (l.set j r)):=by
 have:=((h.stored (j*2) (OH (r.1:Int))).1.stored (j*2+1) (OH (r.2:Int))).1
 rwa [sF] at this
theorem iP {w:Qd} {base n g c:Nat} {l:List Rg} {e:Qf} (h:w.ownsRow base e 2 (.slice (some (ar g 0)) n c) n (aT l)) {j:Nat} (i:j<n):
  w.cell? (ar g (j*2))=some (OH ((aS l j).1:Int))/\w.cell? (ar g (j*2+1))=some (OH ((aS l j).2:Int)):=by
 have hl:=h.1;rw [oN] at hl;have:=ez (l:=l) (j:=j) ap;exact ⟨by rw [h.cellAt _ ap];exact this.1,by rw [h.cellAt _ ap];exact this.2⟩
def pQ (l:List Rg) (k:Nat):List Rg:=(List.range l.length).map fun t=>if t<k\/l.length-1-t<k then aS l (l.length-1-t) else aS l t
theorem ij (l:List Rg) (k:Nat):(pQ l k).length=l.length:=by simp [pQ]
theorem nC {l:List Rg} {k t:Nat} (h:t<l.length):aS (pQ l k) t=if t<k\/l.length-1-t<k then aS l (l.length-1-t) else aS l t:=by
 rw [cS _ _ (by rw [ij];exact h)];simp [pQ]
theorem AN {a b:List Rg} (h:a.length=b.length) (hn:∀k,k<a.length->aS a k=aS b k):a=b:=List.ext_getElem h fun k h1 i=>by
 have:=hn k h1;rwa [cS _ _ h1,cS _ _ i] at this
theorem DW (l:List Rg):pQ l 0=l:=AN (ij l 0) fun k hk=>by
 rw [ij] at hk;rw [nC hk,if_neg ap]
theorem yb {l:List Rg} {i j:Nat} {r:Rg} (h:i<l.length):aS (l.set j r) i=if j=i then r else aS l i:=by
 rw [cS _ _ (by simpa using h),List.getElem_set,cS _ _ h]
theorem DX {l:List Rg} {k:Nat} (h:2*k+1<l.length):((pQ l k).set k (aS (pQ l k) (l.length-1-k))).set (l.length-1-k) (aS (pQ l k) k)=pQ l (k+1):=by
 refine AN (by simp [ij]) fun t u=>?_;have i:t<l.length:=by simpa [ij] using u
 rw [yb (by simpa [ij] using i),yb (by rw [ij];exact i),nC i,nC ap,nC ap,nC i];by_cases h1:l.length-1-k=t
 ·subst h1;rw [if_pos rfl,if_neg ap,if_pos ap,show l.length-1-(l.length-1-k)=k by omega]
 ·rw [if_neg h1];by_cases o:k=t
  ·subst o;rw [if_pos rfl,if_neg ap,if_pos ap]
  ·rw [if_neg o];by_cases p:t<k\/l.length-1-t<k
   ·rw [if_pos p,if_pos ap]
   ·rw [if_neg p,if_neg ap]
theorem GP {l:List Rg} {k:Nat} (h:l.length<=2*k+1):pQ l k=l.reverse:=by
 refine AN (by simp [ij]) fun t o=>?_;have i:t<l.length:=by simpa [ij] using o
 rw [nC i,cS l.reverse t (by simpa using i),List.getElem_reverse,<-cS l _ ap];by_cases h1:t<k\/l.length-1-t<k
 ·rw [if_pos h1]
 ·rw [if_neg h1,show l.length-1-t=t by omega]
theorem GM (A:N_) (l:List Rg) (n c base:Nat) (w:Qd) (ho:w.ownsRow base 148 2 (.slice A n c) n (aT l)) (hn:l.length=n) (hl:n<=1048576):Calls prog 159 #[.slice A n c] w fun e v=>e=.returned (.tuple #[])/\v.ownsRow base 148 2 (.slice A n c) n (aT l.reverse)/\Keep (fun j=>(Value.slice A n c).ownBlock=some j) w v:=by
 have h0:w.ownsRow base 148 2 (.slice A n c) n (aT (pQ l 0)):=by rw [DW];exact ho
 have x:=fun k (h:2*k+1<n)=>DX (l:=l) (k:=k) ap;have u:=fun k (h:n<=2*k+1)=>GP (l:=l) (k:=k) ap;rw [hn] at x;obtain ⟨H0,Q,H,Hn⟩:=ag h0 x u hn;clear ho h0 x u hn;go_enter func159,ntmps159;go_wp2_with fail
 go_loopw [2,3] (fun i j wr=>∃k:Nat,2*k<=n+1/\i=OH k/\j=OH ((n:Int)-1-k)/\wr.ownsRow base 148 2 (.slice A n c) n (aT (pQ l k))/\Keep (fun j=>(Value.slice A n c).ownBlock=some j) w wr) (fun i _ _=>n-(intOf i).toNat)
 ·exact ⟨0,by omega,rfl,by go_num,H0.o,Keep.refl _ _⟩
 case round=>
  obtain ⟨k,hk,rfl,rfl,hr,J⟩:=hrel;by_cases O:2*k+1<n
  ·obtain ⟨g,rfl⟩:∃g,A=some (ar g 0):=by
    obtain ⟨g,e,hv,_⟩:=hr.form ap;simp only [Ou] at hv;exact ⟨g,hv.1⟩
   have L:=iP hr (show k<n by omega);have C:=iP hr (show n-1-k<n by omega);have f1:=fun j=>hr.frozenAt j;have D:(k:Int)<(n:Int)-1-k:=ap;have N:(n:Int)-1-k=((n-1-k:Nat):Int):=ap;have V:n-1-k<n:=ap;have a0:k<n:=ap;have T:n-1-k≠k:=ap;have B:¬((n-1-k)*2=k*2)/\¬((n-1-k)*2=k*2+1)/\¬((n-1-k)*2+1=k*2)/\¬((n-1-k)*2+1=k*2+1):=ap;obtain ⟨R,y⟩:∃r,aS (pQ l k) k=r:=⟨_,rfl⟩;obtain ⟨Z,p⟩:∃r,aS (pQ l k) (n-1-k)=r:=⟨_,rfl⟩;obtain ⟨j,I⟩:∃j,n-1-k=j:=⟨_,rfl⟩;have hs:=Q.o k O;rw [y,p] at hs;rw [y] at L;rw [p] at C;rw [I] at C N V T B hs;rw [N] at D ⊢;obtain ⟨U,Y,Hj,Hs⟩:=ag hr J N hs;clear hr J N I hs y p;go_wp2_with fail;refine XA.g 13 (fun v:Qd=>(v.cell? (ar g (k*2))=some (OH (R.1:Int))/\v.cell? (ar g (k*2+1))=some (OH (R.2:Int)))/\(v.cell? (ar g (j*2))=some (OH (Z.1:Int))/\v.cell? (ar g (j*2+1))=some (OH (Z.2:Int)))) ?_;refine XA.t0 ?_ [0,1,2,3,4,5,6,8,9,10] ⟨L,C⟩ ?_;refine XA.t ?_ [7,11] ⟨L,C⟩ ?_;refine XA.t0 ?_ [12] ⟨L,C⟩ ?_;refine XA.e ?_;simp only [Ob,Oc];go_wp2_with fail;go_roundw
   ·exact ⟨k+1,by omega,by go_num,by have:=Hj.o;go_num,by rw [<-Hs.o];exact GK (GK U.o k Z) j R,Keep.setCell (S:=fun j=>(Value.slice (some (ar g 0)) n c).ownBlock=some j) (Keep.setCell (S:=fun j=>(Value.slice (some (ar g 0)) n c).ownBlock=some j) (Keep.setCell (S:=fun j=>(Value.slice (some (ar g 0)) n c).ownBlock=some j) (Keep.setCell (S:=fun j=>(Value.slice (some (ar g 0)) n c).ownBlock=some j) Y.o.drew (ar g (k*2)) (.inr rfl) _) (ar g (k*2+1)) (.inr rfl) _) (ar g (j*2)) (.inr rfl) _) (ar g (j*2+1)) (.inr rfl) _⟩
   ·simp [intOf];omega
  ·have D:¬((k:Int)<(n:Int)-1-k):=ap;have p:=H.o k ap;rw [p] at hr;obtain ⟨U,Y⟩:=ae hr J;clear hr J p;go_wp2_with fail
   go_end0
   exact ⟨rfl,U.o,Y.o⟩
theorem zB (n s:Nat) (w:Qd) (hn:n<=1048576) (hs:1<=s) (B:s<=1048576):Calls prog 124 #[OH n,OH s] w fun e i=>∃v,e=.returned v/\i.ownsRow w.heap.size 148 2 v (pB n s).length (aT (pB n s))/\aq w i:=by
 have hb:=mO n s w hn hs B;have hl:=fR n s;rw [<-qO,<-eP] at hb;have h:=lT n s;rw [eP] at hb;rw [h];have p:=fun (A:N_) c base i (L:i.ownsRow base 148 2 (.slice A (dD n s) c) (dD n s) (aT (fC n s)))=>GM A (fC n s) (dD n s) c base i L (eP n s) ap;obtain ⟨O,x⟩:=ae hb p;clear hb p h hl;go_enter func124,ntmps124;go_wp2_with fail;refine O.o.mono ?_;rintro e I ⟨v,rfl,C,u⟩;obtain ⟨A,c,rfl,_⟩:=aC C;have y:=aa C;clear C;go_wp2_with fail;refine (x.o A c _ I y.o).mono ?_;rintro e Q ⟨rfl,H,D⟩;have hB:=u.trans (D.toBelow u.size (fun j N=>(y.o.lt j N).1));have J:=aa H;clear H u D y;go_wp2_with fail;go_ret;exact ⟨_,rfl,J.o,hB⟩
theorem BC (n s:Nat) (w:Qd) (hn:n<=1048576) (hs:1<=s) (h:s<=1048576):Calls prog 125 #[OH n,OH s] w fun e i=>∃v,e=.returned v/\i.ownsRow w.heap.size 148 2 v (fC n s).length (aT (fC n s))/\aq w i:=by
 have hb:=mO n s w hn hs h;rw [<-qO,<-eP] at hb;have y:=aa hb;clear hb;go_enter func125,ntmps125;go_wp2_with fail;refine y.o.mono ?_;rintro e A ⟨v,rfl,p,u⟩;have x:=aa p;clear p;go_wp2_with fail;go_ret;exact ⟨_,rfl,x.o,u⟩
end Go.Proofs.YtgmajkppbhiopaaGreat
namespace Go.Proofs.YtgmajkppbhiopaaGreat
open Go.RowKit Go.Shelf
open Tryz
theorem mH {w i:Qd} (h:aq w i):w.grownBy i none:=⟨h.os,h.tape,h.output,h.size,fun k hk _=>h.block k hk⟩
theorem gr {β:Type} (B b:Nat) (o:Obj) (i:o.isCells=true):OwnFrom B (fun (_:β) W=>W.heap[b]?=some o):=fun _ W p row hs hg hr=> (hg.block b (NE hs) fun e=>by
  obtain ⟨u,h,hc⟩:=(hr b e.symm).2;rw [hs] at h
  cases h
  rw [i] at hc
  cases hc).trans hs
theorem nX {F:Fence} {m:Nat} {P:Program} {t e:Qf} {z:Value} {size p:Nat} (T:dB P t e z size p) (W:Qd) {ops:Qh} {rest:List Oper} {o:Oper} {a:Qi} {Q:Exit->Qi->Qd->Prop} (L:o.guard=none) (s x:Operand) (ho:o.op=.call {callee:=.builtin .append,args:=#[s,x],argTypes:=#[t,t]}) (n₀ B:Nat) (v:Value) (n:Nat) (xs:Qc) (hs:a.eval s=v) (hbx:Boxed W B t v) (hte:t≠e) (hown:W.ownsRow n₀ e size v n xs) (us:Qc) (hx:a.eval x=.slice (some (ar W.heap.size 0)) 1 1) (hus:us.length=size) (h1:∀u∈us,u.oneCell'=true) (hb:(n+1)*p<=140737488355328) (h63:n+1<=maxLen) (hbase:n₀<=W.heap.size) (hB:n₀<=B) (h:∀g c y,Boxed y B t v->Boxed (y.setCell (ar B 0) (.slice (some (ar g 0)) (n+1) c)) B t (.slice (some (ar g 0)) (n+1) c)-> (y.setCell (ar B 0) (.slice (some (ar g 0)) (n+1) c)).ownsRow n₀ e size (.slice (some (ar g 0)) (n+1) c) (n+1) (xs++us)->
   KeepsOthers W (y.setCell (ar B 0) (.slice (some (ar g 0)) (n+1) c))->Below n₀ W (y.setCell (ar B 0) (.slice (some (ar g 0)) (n+1) c))->
   (∀b H C I,b≠B->C≠e->W.heap[b]?=some (.cells H C I)->(y.setCell (ar B 0) (.slice (some (ar g 0)) (n+1) c)).heap[b]?=some (.cells H C I))->
   wpListIn F m P ops Q rest (a.put o.dst (.slice (some (ar g 0)) (n+1) c)) y):wpListIn F m P ops Q (o::rest) a (W.alloc (.cells us.toArray e)):=by
 obtain ⟨i,hi,N,R,U⟩:=T.info
 refine wpListIn_append_own (W.alloc (.cells us.toArray e)) L s x t ho n₀ e i z size p T.und hi N R U T.zs T.pos v n xs hs (hown.alloc _) (ar W.heap.size 0) 1 1 us hx (by simpa using hus) ?_ h1 h63 hb
  (by simp;omega) ?_
 ·intro j u hu;rw [Addr.add_lit,Oz,NH _ W.heap.size j us.toArray e (0,0) (NG W _)];simpa using hu
 ·intro v' y A hg _;obtain ⟨g,c,rfl⟩:=ownsRow_succ A;obtain ⟨Y,k2,Z,k4,k5⟩:=hbx.appended hte hown hbase hB A hg;refine h g c y Y k2 Z k4 k5 fun b H C I V D J=>?_;have O:(W.alloc (.cells us.toArray e)).heap[b]?=some (.cells H C I):=(NW W _ b (NE J)).trans J;have h1:y.heap[b]?=some (.cells H C I):=(hg.block b (NE O) (ax O D (hown.alloc _))).trans O;exact (Below.heap_setCell y _ _ b (fun e=>V e)).trans h1
theorem yv {W u:Qd} {B base:Nat} {e:Qf} {size n:Nat} {v:Value} {xs:Qc} {row:Option Nat} (h:W.ownsRow base e size v n xs) (hg:W.grownBy u row) (hr:∀r,row=some r->B<=r/\∃o:Obj,W.heap[r]?=some o/\o.isCells=false):u.ownsRow base e size v n xs:=by
 refine h.kept hg ?_;rcases h.2 with ⟨rfl,_⟩ | ⟨g,cap,x,rfl,_,i,_⟩
 ·exact .inl rfl
 ·refine .inr fun y=>?_;obtain ⟨o,p,hc⟩:=(hr g (by simpa [Value.ownBlock] using y.symm)).2;rw [i] at p;cases p;cases hc
theorem eC {W p:Qd} {B b:Nat} {o:Obj} (u:o.isCells=true) {row:Option Nat} (h:W.heap[b]?=some o) (hg:W.grownBy p row) (hr:∀r,row=some r->B<=r/\∃o:Obj,W.heap[r]?=some o/\o.isCells=false):p.heap[b]?=some o:= (hg.block b (NE h) fun e=>by
  obtain ⟨v,i,hc⟩:=(hr b e.symm).2;rw [h] at i
  cases i
  rw [u] at hc
  cases hc).trans h
theorem m8 {S:Nat->Prop} {W i:Qd} (h:Keep S W i) (u:∀k o,S k->W.heap[k]?=some o->o.isCells=true):KeepsOthers W i:=
 ⟨h.size,fun k o hk p=>(h.block k (NE hk) fun hs=>by rw [u k o hs hk] at p;cases p).trans hk⟩
theorem xB {F:Fence} {m:Nat} {P:Program} {t e:Qf} {z:Value} {h:Nat} (T:dB P t e z 1 h) (w:Qd) {ops:Qh} {rest:List Oper} {o:Oper} {a:Qi} {Q:Exit->Qi->Qd->Prop} (hg:o.guard=none) (l c:Operand) (p:o.op=Op.makeSlice t l c) (D:z.cells=#[z]) (n:Nat) (hl:a.eval l=OH (n:Int)) (hc:a.eval c=OH (n:Int)) (L:h*n<=281474976710656) (b3:n<=maxLen) (J:∀x,x.ownsRow w.heap.size e 1 (.slice (some (ar w.heap.size 0)) n n) n (List.replicate n z)->Below (w.heap.size) w x->
   wpListIn F m P ops Q rest (a.put o.dst (.slice (some (ar w.heap.size 0)) n n)) x):wpListIn F m P ops Q (o::rest) a w:=by
 obtain ⟨i,N,B,C,y⟩:=T.info;refine wpListIn_plain hg fun K H=>?_;obtain ⟨x,v,I,u⟩:=run_make_full (P:=P) w w.heap.size t e i z 1 T.und N B C .i64 .i64 n (by rw [y];exact L) b3 (NF _);rw [D,Nat.mul_one,toList_madeCells_one] at I;unfold Oper.wpIn;refine ⟨by simp [Oper.about,p],?_⟩;rw [Oper.semAt_plain F _ _ (by rw [p];intro c A;cases A)];simp [execOp,p,hl,hc,v,Result.andThen];exact H _ _ (J x I ⟨u.os,u.tape,u.output,u.size,fun k hk=>u.block k hk (by simp)⟩)
attribute [local go_sem] Oper.semAt_some
theorem sw (P:Program) (w:Qd) (a:Addr) (i:Fn) (h ca:Qb) (m:Mode):(store a (.func i h ca) m).run P w=stored P w a (.func i h ca) m:=run_store P w a _ m rfl
attribute [local go_sem] sw
structure lh (w:Qd) (L S B:Nat) (A:N_) (rs:List Rg) (c d:Nat) (tf:Qf):Prop where
 l:w.heap[L]?=some (.cells #[.slice A rs.length c] 170 (0,0))
 s:w.heap[S]?=some (.cells #[.func (.func 185) #[] #[(au B)]] tf (0,0))
 b:w.heap[B]?=some (.cells #[OH d] 3 (0,0))
 r:Rd w A (aT rs)
theorem lh.below {w i:Qd} {L S B:Nat} {A:N_} {rs:List Rg} {c d:Nat} {o:Qf} (h:lh w L S B A rs c d o) (hb:aq w i):lh i L S B A rs c d o:=
 ⟨sb h.l _ hb,sb h.s _ hb,sb h.b _ hb,h.r.below hb⟩
theorem Bv (lo h d B:Nat) (w:Qd) (hB:w.heap[B]?=some (.cells #[OH d] 3 (0,0))) (h1:lo<=1048576) (C:h<=1048576) (D:d<=1048576):Calls prog 185 #[.agg #[OH lo,OH h],(au B)] w fun e A=>e=.returned (.agg #[OH ((lo+d:Nat):Int),OH ((h+d:Nat):Int)])/\aq w A:=by
 have hb:=bx1 hB;have hl:=NE hB;have o:((lo+d:Nat):Int)=(lo:Int)+d:=ap;have y:((h+d:Nat):Int)=(h:Int)+d:=ap;rw [o,y];clear o y hB;go_enter func185,ntmps185;go_wp2_with fail;have o:=NG (w.alloc (.cells #[OH lo,OH h] 148)) (.cells #[OH ((lo:Int)+d),OH ((h:Int)+d)] 148);obtain ⟨u,i⟩:∃u,u=(w.alloc (.cells #[OH lo,OH h] 148)).alloc (.cells #[OH ((lo:Int)+d),OH ((h:Int)+d)] 148):=⟨_,rfl⟩;have p:aq w u:=by rw [i];exact ((NI _ w).alloc (NF _) _).alloc (by simp) _
 rw [<-i,NZ] at o;rw [<-i];have x:=bx2 o;exact NX (v:=.agg #[OH ((lo:Int)+d),OH ((h:Int)+d)]) (by simp [results,results185,go_sem,x]) rfl ⟨rfl,p⟩
def Cz (r:Rg):Qb:=#[.agg #[OH (r.1:Int),OH (r.2:Int)]]
theorem Dm {α:Type} {l:List α} {k:Nat} {x:α} (h:l[k]?=some x):l.take (k+1)=l.take k++[x]:=by
 rw [List.take_add_one,h];rfl
theorem vo (A:N_) (rs:List Rg) (c d:Nat) (w:Qd) (hr:Rd w A (aT rs)):Calls prog 173 #[.slice A rs.length c,OH d] w fun e u=>∃L S B,e=.returned (.func (.func 186) #[] #[(au L),(au S)])/\lh u L S B A rs c d 302/\(w.heap.size<=L/\w.heap.size<=S/\w.heap.size<=B)/\aq w u:=by
 obtain ⟨n,hn⟩:∃n,n=rs.length:=⟨_,rfl⟩;rw [<-hn];obtain ⟨H,D⟩:=ae hn hr;clear hn hr;go_enter func173,ntmps173;go_wp2_with fail;have a1:=NG w (.cells #[.slice A n c] 170);have p:aq w (w.alloc (.cells #[.slice A n c] 170)):=(NI _ w).alloc (NF _) _;have s1:=NZ w (.cells #[.slice A n c] 170);generalize w.alloc (.cells #[.slice A n c] 170)=W1 at *;have x:=NG W1 (.cells #[OH d] 3);have y:aq W1 (W1.alloc (.cells #[OH d] 3)):=(NI _ W1).alloc (NF _) _;have s2:=NZ W1 (.cells #[OH d] 3);generalize W1.alloc (.cells #[OH d] 3)=W2 at *;have C:=NG W2 (.cells #[.func (.func 185) #[] #[(au (w.heap.size+1))]] 302);have b3:aq W2 (W2.alloc (.cells #[.func (.func 185) #[] #[(au (w.heap.size+1))]] 302)):=(NI _ W2).alloc (NF _) _;generalize W2.alloc (.cells #[.func (.func 185) #[] #[(au (w.heap.size+1))]] 302)=W3 at *;have i:=y.trans (b3.mono y.size);have h:=p.trans (i.mono p.size);rw [s2,s1] at C;rw [s1] at x
 exact NX (v:=.func (.func 186) #[] #[(au w.heap.size),(au (w.heap.size+1+1))]) (by simp [results,results173,go_sem]) rfl
  ⟨w.heap.size,w.heap.size+1+1,w.heap.size+1,rfl,⟨by rw [<-H.o];exact sb a1 _ i,C,sb x _ b3,D.o.below h⟩,⟨NF _,by omega,by omega⟩,h⟩
theorem EN (n l L S B:Nat) (A:N_) (rs:List Rg) (c d:Nat) (Kp:Qd->Qd->Prop) (U:∀W C,lh W L S B A rs c d 302->Kp W C->lh C L S B A rs c d 302) (y:rs.length<=1048576) (hd:d<=1048576) (a5:∀r∈rs,r.1<=1048576/\r.2<=1048576) (J Jx:List Rg->Qd->Prop) (Bx:Nat) (hJ:AbidesFrom Bx J) (hY:∀p x W,J p W->x∈shR d rs->p.length<rs.length->YieldAt Fence.wide (n-1) prog l (Cz x) W fun e C=> (e=.returned (.bool true)/\J (p++[x]) C/\Kp W C)\/(e=.returned (.bool false)/\Jx (p++[x]) C)) (W:Qd) (hA:lh W L S B A rs c d 302) (h0:J [] W):
  CallsIn Fence.wide n prog 186 #[.func (.yield l) #[] #[],(au L),(au S)] W fun e C=>(∃v,e=.returned v)/\
   ((∃ys,ys=shR d rs/\J ys C)\/(∃p,True/\Jx p C)):=by
 have xL:=bx1 hA.l;obtain ⟨N,Q⟩:∃N,N=rs.length:=⟨_,rfl⟩;rw [<-Q] at hY y xL;obtain ⟨R,HA,HK⟩:=af Q hA U;clear Q hA U;refine callsIn_of_wp func186 rfl trivial ?_ rfl;simp only [ntmps186,List.size_toArray,List.length_cons,List.length_nil,Nat.reduceAdd,Nat.reduceSub,Array.replicate_succ,Array.replicate_zero,List.push_toArray,List.append_toArray,List.nil_append,List.cons_append]
 gi_wp2
 gi_loopw [8] (fun i wr=>∃k:Nat,k<=N/\i=OH k/\J ((shR d rs).take k) wr/\lh wr L S B A rs c d 302) (fun i _=>N-(intOf i).toNat)
 ·exact ⟨0,NJ _,rfl,h0,HA.o⟩
 case round=>
  obtain ⟨k,hk,rfl,u,hL⟩:=hrel;clear xL h0 HA W;by_cases a4:k<N
  ·obtain ⟨r,hr⟩:∃r,rs[k]?=some r:=⟨_,Of (by rw [<-R.o];exact a4)⟩;have T:=a5 r (List.mem_of_getElem? hr);have H:=nz hr;obtain ⟨g,o,rfl,c0⟩:=hL.r _ _ H.1;obtain ⟨g',o',e',c1⟩:=hL.r _ _ H.2;obtain ⟨rfl,rfl⟩:g'=g/\o'=o:=by simpa using e'.symm
   rw [<-Oy] at c1;have xS:=bx1 hL.s;have lS:=aB xS.1;obtain ⟨O,Hr,HL⟩:=af u hr hL;clear u hr H e' hL;have y:((shR d rs).take k).length<N:=by rw [Oi,me];omega
   have hx:(shR d rs)[k]?=some (r.1+d,r.2+d):=by simp [shR,Hr.o]
   have Hx:=aa hx;have qa:aq wr (wr.alloc (.cells #[OH (r.1:Int),OH (r.2:Int)] 148)):=(NI _ wr).alloc (NF _) _;clear hx
   gi_wp2_with fail
   refine ⟨trivial,(fun h=>by cases h),?_⟩;refine (callsIn_wide.2 (Bv r.1 r.2 d B _ (HL.o.below qa).b T.1 T.2 hd)).mono ?_;rintro e w3 ⟨rfl,a1⟩;have I:=qa.trans (a1.mono qa.size);have a0:=hJ _ _ _ none O.o (mH I) (fun _ h=>by cases h);obtain ⟨fn,tmps,a2,a8,hy,hR⟩:=hY _ (r.1+d,r.2+d) w3 a0 (List.mem_of_getElem? Hx.o) y;unfold Cz at hy;dsimp only at hy;rw [Int.natCast_add,Int.natCast_add] at hy;have a3:=aa (HL.o.below I);clear a0 a1 I qa xS lS c0 c1
   gi_wp2
   refine ⟨(fun h=>by cases h),?_⟩;refine hR.mono ?_;rintro e w5 (⟨rfl,V,Z⟩ | ⟨rfl,Y⟩)
   ·obtain ⟨a7,a6⟩:=ae V Z;clear V Z
    gi_wp2
    go_roundw
    ·exact ⟨k+1,by omega,by go_num,by rw [Dm Hx.o];exact a7.o,HK.o _ _ a3.o a6.o⟩
    ·simp [intOf];omega
   ·gi_wp2
    refine NX (results_none rfl _ _ _) rfl ?_;exact ⟨⟨_,rfl⟩,.inr ⟨_,trivial,Y⟩⟩
  ·obtain rfl:k=N:=ap;have D:(shR d rs).take k=shR d rs:=List.take_of_length_le (by rw [me,R.o];exact NF _);rw [D] at u;have O:=aa u;clear u D
   gi_wp2
   go_end0
   exact ⟨⟨_,rfl⟩,.inl ⟨_,rfl,O.o⟩⟩
structure Kd (n₁ n₂:Nat) (W W':Qd):Prop where
 size:W.heap.size<=W'.heap.size
 block:∀k,n₁<=k->k<n₂->W'.heap[k]?=W.heap[k]?
theorem Kd.trans {i o:Nat} {A B C:Qd} (h:Kd i o A B) (k:Kd i o B C):Kd i o A C:=⟨NN h.size k.size,fun j h1 p=>(k.block j h1 p).trans (h.block j h1 p)⟩
theorem Ns {v u:Nat} {w:Qd} (hn:u<=w.heap.size) (W:Qd) (l:Nat) (o i:Obj) (hl:w.heap.size<=l) (h:W.heap[l]?=some o) (h1:o.isCells=false) (p:o.isWalk=false):Kd v u W (W.putObj l i):=
 ⟨(belowK_b hn W l o i hl h h1 p).size,fun k _ hk=>(belowK_b hn W l o i hl h h1 p).block k hk⟩
theorem yY {p i:Nat} {W o:Qd} (h:Below i W o):Kd p i W o:=⟨h.size,fun k _ hk=>h.block k hk⟩
structure Fy (n₁ n₂ L S B:Nat) (A:N_):Prop where
 l:n₁<=L/\L<n₂
 s:n₁<=S/\S<n₂
 b:n₁<=B/\B<n₂
 a:∀x,A=some x->n₁<=x.block/\x.block<n₂
theorem lh.kd {p i:Nat} {W v:Qd} {L S B:Nat} {A:N_} {rs:List Rg} {c d:Nat} {u:Qf} (h:lh W L S B A rs c d u) (hb:Fy p i L S B A) (k:Kd p i W v):lh v L S B A rs c d u:=
 ⟨(k.block _ hb.l.1 hb.l.2).trans h.l,(k.block _ hb.s.1 hb.s.2).trans h.s,(k.block _ hb.b.1 hb.b.2).trans h.b,fun j x y=>by
  obtain ⟨b,o,e,hc⟩:=h.r j x y;refine ⟨b,o,e,?_⟩;have:=hb.a _ e;rw [World.cell?] at hc ⊢;rw [k.block b this.1 this.2]
  exact hc⟩
theorem yW (n v u L S B:Nat) (A:N_) (rs:List Rg) (c d:Nat) (w:Qd) (hA:lh w L S B A rs c d 302) (hB:Fy v u L S B A) (i:rs.length<=1048576) (y:d<=1048576) (o:∀r∈rs,r.1<=1048576/\r.2<=1048576):
  SeqStopsK Fence.wide n prog 186 #[(au L),(au S)] Cz (Kd v u) (fun ys=>ys=shR d rs) (fun _=>True) rs.length w:=fun l J I W C D _ N H=>
 EN n l L S B A rs c d (Kd v u) (fun _ _ h k=>h.kd hB k) i y o J I _ D (fun p x W h _=>N p x W h) W (hA.below C) H
theorem jV {w:Qd} {base:Nat} {e:Qf} {size n c:Nat} {A:N_} {xs:Qc} (h:w.ownsRow base e size (.slice A n c) n xs):∀x,A=some x->base<=x.block/\x.block<w.heap.size:=fun x o=>by
 rcases h.2 with ⟨i,_⟩ | ⟨g,cap,p,i,hb,hg,_⟩
 ·simp only [Ou] at i;rw [o] at i;cases i.1
 ·simp only [Ou] at i;rw [o] at i;cases i.1;exact ⟨hb,NE hg⟩
attribute [local go_sem] Oper.semAt_some
theorem ya (l:List Rg) (x:Rg):aT (l++[x])=aT l++[OH (x.1:Int),OH (x.2:Int)]:=by simp [aT]
theorem JN (L S B:Nat) (A:N_) (rs:List Rg) (c d:Nat) (w:Qd) (hA:lh w L S B A rs c d 302) (hB:Fy 0 w.heap.size L S B A) (N:rs.length<=1048576) (hd:d<=1048576) (V:∀r∈rs,r.1<=1048576/\r.2<=1048576):Calls prog 198 #[OJ,.func (.func 186) #[] #[(au L),(au S)]] w fun e w'=>∃v,e=.returned v/\w'.ownsRow w.heap.size 148 2 v rs.length (aT (shR d rs))/\aq w w':=by
 have I:=fun n=>yW n 0 w.heap.size L S B A rs c d w hA hB N hd V;have U:=aa I;clear I;refine (callsIn_wide (n:=3)).1 ?_;refine callsIn_of_wp_marks func198 rfl trivial ?_ rfl;simp only [ntmps198,List.size_toArray,List.length_cons,List.length_nil,Nat.reduceAdd,Nat.reduceSub,Array.replicate_succ,Array.replicate_zero,List.push_toArray,List.append_toArray,List.nil_append,List.cons_append]
 gi_wp2_with fail
 have y:aq w (w.alloc (.cells #[OJ] 170)):=(NI _ w).alloc (NF _) _
 refine' wpIn_rangeFunc_ownH (F:=Fence.wide) (n:=3) rfl ap (gf:=186) (lb:=#[(au L),(au S)]) rfl trivial (enters_of func186 (by kernel_rfl) rfl)
  (U.o _) Kd.trans (Ns y.size) y (fun _=>rfl)
  (fun (p:List Rg) W=>(∃v,Boxed W w.heap.size 170 v/\W.ownsRow w.heap.size 148 2 v p.length (aT p)/\True)/\aq w W)
  (fun _ _ _=>False)
  (OwnFrom.and (Own.from (holdsRow_own w.heap.size w.heap.size 170 148 2 (fun p:List Rg=>p.length) (fun p=>aT p) (fun _ _=>True)) _) (ownFrom_below (NF _) y.size))
  (fun _ _ _ _ _ hs _ _=>hs)
  ⟨⟨_,Boxed.new w 170 (OJ),NV _ _ _ _,trivial⟩,y⟩
  (fun (x:Rg) Y W=>∃b,Y={tmps:=#[OJ,.func (.func 186) #[] #[(au L),(au S)],(au w.heap.size),undef,OJ,(au b),.func (.func 186) #[] #[(au L),(au S)],.agg #[OH (x.1:Int),OH (x.2:Int)],undef,undef,undef,undef,undef],defers:=[]}/\W.heap[b]?=some (.cells #[OH (x.1:Int),OH (x.2:Int)] 148 (0,0)))
  (fun x Y _ W W' row h hg hr=>by obtain ⟨b,e,hb⟩:=h;exact ⟨b,e,gr _ b _ rfl () W W' row hb hg hr⟩)
  ?assign ?body ?done ?stop
 case assign=>
  rintro l p x W K ⟨⟨v,C,i,_⟩,u⟩ J;unfold Cz;have R:aq W (W.alloc (.cells #[OH (x.1:Int),OH (x.2:Int)] 148)):=(NI _ W).alloc (NF _) _
  gi_wp2
  refine J _ _ ((KeepsOthers.of_grownBy (row:=none) (mH R) (fun _ _ h=>by cases h)).from _) (yY (R.mono u.size)) ⟨⟨v,C.alloc _,i.alloc _,trivial⟩,u.trans (R.mono u.size)⟩ ⟨_,rfl,NG _ _⟩
 case body=>
  rintro l p x Y W _ _ ⟨⟨v,C,i,_⟩,u⟩ ⟨b,rfl,hb⟩ H;have hc:=C.cell;have hW:=u.size;have a0:=aB hc;have xb:=bx2 hb;have lb:=NE hb;have R:aq W (W.alloc (.cells #[OH (x.1:Int),OH (x.2:Int)] 148)):=(NI _ W).alloc (NF _) _;obtain ⟨Hv,O,Z,Q,HW⟩:=ah C i u H hW;clear C i u H hW hb
  gi_wp2_with (gi_at_builtin;refine nX mN W rfl (.tmp 8) (.tmp 10) rfl w.heap.size w.heap.size v p.length _ rfl Hv.o (by decide) O.o [OH (x.1:Int),OH (x.2:Int)] rfl rfl (by simp [Value.oneCell']) (by have:=Q.o;omega) (by have:=Q.o;unfold maxLen;omega) HW.o (NF _) ?_)
  intro g1 c1 w1 T k2 k3 k4 k5 k6;have a2:=T.cell;have a1:=T.frozen;obtain ⟨K2,K3,K4,K5⟩:=ag k2 k3 k4 k5;clear T k2 k3 k4 k5 k6 hc xb
  gi_wp2_with fail
  exact ⟨K4.o.from _,yY K5.o,⟨⟨_,K2.o,by rw [Od,ya];exact K3.o,trivial⟩,Z.o.trans K5.o⟩⟩
 case done=>
  rintro D ys W hD rfl ⟨⟨v,C,i,_⟩,u⟩ J;have hc:=C.cell
  gi_wp2
  refine ⟨by simp,.inl ⟨_,_,rfl,run_takeDeferred J,?_⟩⟩;rw [me] at i;refine ⟨v,by simp [results,results198,go_sem],v,rfl,ownsRow_putObj i _ J rfl,u.trans (belowK_b (w:=w) (NF _) W D _ _ (by simp at hD;omega) J rfl rfl)⟩
 case stop=>
  rintro D c p W _ _ h _;exact h.elim
theorem zu (L S B:Nat) (A:N_) (rs:List Rg) (c d:Nat) (w:Qd) (hA:lh w L S B A rs c d 302) (hB:Fy 0 w.heap.size L S B A) (i:rs.length<=1048576) (u:d<=1048576) (p:∀r∈rs,r.1<=1048576/\r.2<=1048576):Calls prog 197 #[.func (.func 186) #[] #[(au L),(au S)]] w fun e x=>∃v,e=.returned v/\x.ownsRow w.heap.size 148 2 v rs.length (aT (shR d rs))/\aq w x:=by
 have h:=JN L S B A rs c d w hA hB i u p;have H:=aa h;clear h hA hB i u p;go_enter func197,ntmps197;go_wp2_with fail;refine H.o.mono ?_;rintro e I ⟨v,rfl,y,C⟩;have D:=aa y;clear y;go_wp2_with fail;go_ret;exact ⟨_,rfl,D.o,C⟩
end Go.Proofs.YtgmajkppbhiopaaGreat
namespace Go.Proofs.YtgmajkppbhiopaaGreat
open Go.RowKit
open Tryz
theorem zl {n k:Nat} (h1:1<=k) (hn:n<=1048576):∀r∈fX n k,r.1<=1048576/\r.2<=1048576:=by
 intro r hr;simp only [fX,List.mem_map,List.mem_range] at hr;obtain ⟨i,h,rfl⟩:=hr;have a:=gh n k i h1 ap;have b:=gh n k (i+1) h1 ap;exact ⟨by simp only;omega,by simp only;omega⟩
theorem C6 {n s:Nat} (hn:n<=1048576):∀r∈fC n s,r.1<=1048576/\r.2<=1048576:=by
 intro r hr;simp only [fC,List.mem_map,List.mem_range] at hr;obtain ⟨i,h,rfl⟩:=hr;have:=jt h;exact ⟨by simp only;omega,by simp only;omega⟩
theorem Gj (lo h k:Nat) (w:Qd) (h1:1<=k) (h2:k<=1048576) (h3:lo<=1048576) (h4:h<=1048576):Calls prog 189 #[.agg #[OH lo,OH h],OH k] w fun e y=>∃v,e=.returned v/\y.ownsRow w.heap.size 148 2 v k (aT (eh (lo,h) k))/\aq w y:=by
 obtain ⟨u,i⟩:∃u,w.alloc (.cells #[OH lo,OH h] 148)=u:=⟨_,rfl⟩;have h0:u.heap[w.heap.size]?=some (.cells #[OH lo,OH h] 148 (0,0)):=by rw [<-i];exact NG w _
 have D:aq w u:=by rw [<-i];exact (br w).alloc (NF _) _
 have t0:=fun y q=>bx2 (sb h0 y q);obtain ⟨N,p⟩:=ae i D;clear i h0 D;have R:an (eh (lo,h) k=shR lo (fX (h-lo) k)):=aa rfl;go_enter func189,ntmps189;have Z:=br u;go_wp2_with fail;rw [N.o];refine HA.g (fun y:Qd=>aq u y) ?_;refine HA.t ?_ [0,2,4,5] Z.drew ?_;refine HA.c 1 (sE lo h _ h3 h4) ?_;rintro e w1 ⟨rfl,Y⟩;have Q:=bt Z.drew Y;refine ⟨_,rfl,Q,fun _=>?_⟩;refine HA.c 3 (zk (h-lo) k _ h1 h2 ap) ?_;rintro e w2 ⟨v2,rfl,I,k2⟩;obtain ⟨A,c,rfl,_⟩:=aC I;have U:=bt Q k2;have hl:=vo A (fX (h-lo) k) c lo w2 (Rd.own I);rw [fP] at hl;refine ⟨_,rfl,U,fun _=>?_⟩;refine HA.c 6 hl ?_;rintro e w3 ⟨L,S,B,rfl,hA,V,O⟩;have C:Fy 0 w3.heap.size L S B A:=⟨⟨NJ _,NE hA.l⟩,⟨NJ _,NE hA.s⟩,⟨NJ _,NE hA.b⟩,fun x hx=>⟨NJ _,NQ (jV I x hx).2 O.size⟩⟩;clear V;have H:=bt U O;refine ⟨_,rfl,H,fun _=>?_⟩;refine HA.c 7 (zu L S B A _ c lo w3 hA C (by rw [fP];exact h2) h3 (zl h1 ap)) ?_;rintro e w4 ⟨v4,rfl,T,k4⟩;have J:=bt H k4;refine ⟨_,rfl,J,fun _=>?_⟩;refine HA.t ?_ [8] J ?_;refine HA.d ?_;have hB:=aa (p.o.trans (J.mono p.o.size));rw [fP,<-R.out] at T;have O4:=aa (aE (base':=w.heap.size) T (NN p.o.size H.size));clear T I hl hA C Y k2 O k4 Q U H J t0;go_wp2_with fail;go_ret;exact ⟨_,rfl,O4.o,hB.o⟩
theorem zx (lo h k:Nat) (w:Qd) (h1:1<=k) (h2:k<=1048576) (h3:lo<=1048576) (h4:h<=1048576):Calls prog 190 #[.agg #[OH lo,OH h],OH k] w fun e C=>∃v,e=.returned v/\C.ownsRow w.heap.size 148 2 v (chR (lo,h) k).length (aT (chR (lo,h) k))/\aq w C:=by
 obtain ⟨y,i⟩:∃y,w.alloc (.cells #[OH lo,OH h] 148)=y:=⟨_,rfl⟩;have h0:y.heap[w.heap.size]?=some (.cells #[OH lo,OH h] 148 (0,0)):=by rw [<-i];exact NG w _
 have H:aq w y:=by rw [<-i];exact (br w).alloc (NF _) _
 have t0:=fun C q=>bx2 (sb h0 C q);obtain ⟨T,u⟩:=ae i H;clear i h0 H;have I:an (chR (lo,h) k=shR lo (fC (h-lo) k)):=aa rfl;go_enter func190,ntmps190;have q0:=br y;go_wp2_with fail;rw [T.o];refine HA.g (fun C:Qd=>aq y C) ?_;refine HA.t ?_ [0,2,4,5] q0.drew ?_;refine HA.c 1 (sE lo h _ h3 h4) ?_;rintro e w1 ⟨rfl,k1⟩;have V:=bt q0.drew k1;refine ⟨_,rfl,V,fun _=>?_⟩;have p:=mO (h-lo) k w1 ap h1 h2;have N:=fR (h-lo) k;rw [<-qO,<-eP] at p;rw [<-eP] at N;refine HA.c 3 p ?_;rintro e w2 ⟨v2,rfl,Q,k2⟩;obtain ⟨A,c,rfl,_⟩:=aC Q;have Z:=bt V k2;have hl:=vo A (fC (h-lo) k) c lo w2 (Rd.own Q);refine ⟨_,rfl,Z,fun _=>?_⟩;refine HA.c 6 hl ?_;rintro e w3 ⟨L,S,B,rfl,hA,a0,U⟩;have D:Fy 0 w3.heap.size L S B A:=⟨⟨NJ _,NE hA.l⟩,⟨NJ _,NE hA.s⟩,⟨NJ _,NE hA.b⟩,fun x hx=>⟨NJ _,NQ (jV Q x hx).2 U.size⟩⟩;clear a0;have O:=bt Z U;refine ⟨_,rfl,O,fun _=>?_⟩;refine HA.c 7 (zu L S B A _ c lo w3 hA D ap h3 (C6 ap)) ?_;rintro e w4 ⟨v4,rfl,Y,k4⟩;have R:=bt O k4;refine ⟨_,rfl,R,fun _=>?_⟩;refine HA.t ?_ [8] R ?_;refine HA.d ?_;have hB:=aa (u.o.trans (R.mono u.o.size));have J:(chR (lo,h) k).length=(fC (h-lo) k).length:=by rw [I.out,me]
 rw [<-I.out,<-J] at Y;have O4:=aa (aE (base':=w.heap.size) Y (NN u.o.size O.size));clear Y Q hl hA D p N J k1 k2 U k4 V Z O R t0;go_wp2_with fail;go_ret;exact ⟨_,rfl,O4.o,hB.o⟩
end Go.Proofs.YtgmajkppbhiopaaGreat
namespace Go.Proofs.YtgmajkppbhiopaaGreat
open Go.RowKit Go.Shelf
open Tryz
theorem wz {l n:Nat} {P:Program} {row:String} {args:Qb} {w:Qd} {R:Value->Qd->Prop} (h:Rows P row args w R):RowsIn (Fence.wide.inRound l) n P row args w R:=
 fun c i _=>let ⟨v,w',r,s⟩:=h c i;⟨v,w',r,(stepsIn_wide (P:=P)).2 s⟩
theorem wS {l n:Nat} {P:Program} {o:Oper} {a:Qi} {w:Qd} {K:Qi->Qd->Prop} {Q:Exit->Qi->Qd->Prop} (i:∀c,o.op≠.defer c) (h:o.wp P a w K Q):o.wpIn (Fence.wide.inRound l) n P a w K Q:=by
 unfold Oper.wp at h;unfold Oper.wpIn;refine ⟨fun _ _=>trivial,?_⟩;rw [Oper.semAt_plain _ _ _ i];generalize (execOp a.eval o).run P w=r at *
 cases r with
 | ok x w'=>
  cases x<;>simp only [Oper.upon,Oper.uponIn] at h ⊢<;>
   first
    | exact h
    | exact ⟨fun p=>(by cases p),CallsIn.inRound l (callsIn_wide.2 h)⟩
    | exact ⟨fun p=>(by cases p),wz h⟩
    | exact h.elim
 | halt x w'=>cases x<;>simp only [Oper.upon,Oper.uponIn] at h ⊢<;>exact h
theorem vR {l n:Nat} {P:Program} {ops:Qh} {Q:Exit->Qi->Qd->Prop} (v:∀(i:Nat) (o:Oper),ops[i]?=some o->∀c,o.op≠.defer c) (u:¬LetsOut Q) {i:Nat} {K:Qi->Qd->Prop} {a:Qi} {w:Qd} (h:wpOp P ops Q i K a w):wpOpIn (Fence.wide.inRound l) n P ops Q i K a w:=by
 unfold wpOp at h;unfold wpOpIn
 split at h
 ·rename_i p;simp only [p];exact h
 ·rename_i o p
  simp only [p]
  split at h
  ·rename_i hw
   rw [if_pos hw];rcases h with h | ⟨_,h⟩
   ·exact wS (v i o p) h
   ·exact absurd h u
  ·rename_i hw
   rw [if_neg hw];exact ⟨fun _ _=>trivial,h⟩
theorem nY {l n:Nat} {P:Program} {y:Region.Mode} {ops:Qh} {Q:Exit->Qi->Qd->Prop} (x:∀(i:Nat) (o:Oper),ops[i]?=some o->∀c,o.op≠.defer c) (v:¬LetsOut Q):∀(p:Nat) (u:Array Bool) (a:Qi) (w:Qd),
  wpAny P y ops Q p u a w->wpAnyIn (Fence.wide.inRound l) n P y ops Q p u a w
 | 0,_,_,_,h=>h
 | p+1,_,_,_,h=>⟨h.1,fun i D=>wpOpIn_mono (fun C B A=>nY x v p _ C B A) (vR x v (h.2 i D))⟩
def NC:Op->Bool
 | .defer _=>true
 | _=>false
theorem KR {ops:Qh} (h:ops.all (fun o=> !NC o.op)=true):∀(i:Nat) (o:Oper),ops[i]?=some o->∀c,o.op≠.defer c:=fun i o p c e=>by
 have:=(Array.all_eq_true.1 h) i (Array.getElem?_eq_some_iff.1 p).1;rw [(Array.getElem?_eq_some_iff.1 p).2,e] at this
 cases this
theorem m7 {l n:Nat} {P:Program} {ops:Qh} {Q:Exit->Qi->Qd->Prop} (S:Qd->Prop) {id:Nat} {a:Qi} {w:Qd} (hm:P.follows .mixedOrders=true) (i:ops.all (fun o=> !NC o.op)=true) (p:¬LetsOut Q) (h:wpAnyH P .any ops Q S ops.size (Array.replicate ops.size false) a w.drew):(Code.region id ops true).wpIn (Fence.wide.inRound l) n P Q a w:=
 wpIn_region_any hm (nY (KR i) p _ _ _ _ (wpAny_of_held _ _ _ _ h))
attribute [local go_sem] Oper.semAt_some
theorem xq (s:Rg) (c:Nat):(chR s c).length=dD (s.2-s.1) c:=by rw [chR,me,eP]
theorem Ko {b:Rg} {k:Nat} (h1:1<=k) (h:b.1<=1048576) (hb:b.2<=1048576):∀r∈eh b k,r.1<=1048576/\r.2<=1048576:=by
 intro r hr;simp only [eh,shR,fX,List.map_map,List.mem_map,List.mem_range,Function.comp] at hr;obtain ⟨i,o,rfl⟩:=hr;have a:=gh (b.2-b.1) k i h1 ap;have c:=gh (b.2-b.1) k (i+1) h1 ap;exact ⟨by simp only;omega,by simp only;omega⟩
end Go.Proofs.YtgmajkppbhiopaaGreat
namespace Go.Proofs.YtgmajkppbhiopaaGreat
open Go.RowKit
open Tryz
theorem Dl (n:Int) (W:Nat) (h:1<=W):n%(W:Int)=if n.tmod W<0 then n.tmod W+W else n.tmod W:=by
 rw [Int.tmod_eq_emod];have h1:=Int.emod_nonneg n (show (W:Int)≠0 by omega);have o:=Int.emod_lt_of_pos n (show (0:Int)<W by omega);have i:((W:Int).natAbs:Int)=W:=by simp
 split<;>split<;>omega
theorem Kh (n:Int) (W:Nat) (h:1<=W): -(W:Int)<n.tmod W/\n.tmod W<W:=by
 rw [Int.tmod_eq_emod];have h1:=Int.emod_nonneg n (show (W:Int)≠0 by omega);have p:=Int.emod_lt_of_pos n (show (0:Int)<W by omega);have i:((W:Int).natAbs:Int)=W:=by simp
 split
 ·omega
 ·rename_i o
  have:n%(W:Int)≠0:=fun e=>o (.inr (Int.dvd_of_emod_eq_zero e));omega
theorem pD (st bk lo u W c:Nat) (n:Int) (w:Qd) (h1:1<=W) (v:W<=1048576) (hn: -(W:Int)<=n) (p:n<=2*W):Calls prog 196 #[.agg #[OH (st:Nat),OH (bk:Nat),OH (lo:Nat),OH (u:Nat),OH (W:Nat),OH (c:Nat)],OH n] w fun e i=>e=.returned (OH (n%(W:Int)))/\aq w i:=by
 have x:¬((W:Int)=0):=ap;have hm:=Kh n W h1;have he:=Dl n W h1;obtain ⟨r,hr⟩:∃r,n.tmod (W:Int)=r:=⟨_,rfl⟩;rw [hr] at hm he;by_cases h:r<0
 ·rw [if_pos h] at he;rw [he];have o:=aa he;clear he;go_enter func196,ntmps196;go_wp2_with fail;go_ret;exact ⟨rfl,(br w).alloc (NF _) _⟩
 ·rw [if_neg h] at he;rw [he];have o:=aa he;clear he;go_enter func196,ntmps196;go_wp2_with fail;go_ret;exact ⟨rfl,(br w).alloc (NF _) _⟩
theorem rj (st bk lo u W c x r:Nat) (w:Qd) (h1:1<=W) (A:W<=1048576) (B:x<W) (hr:r<W):Calls prog 194 #[.agg #[OH (st:Nat),OH (bk:Nat),OH (lo:Nat),OH (u:Nat),OH (W:Nat),OH (c:Nat)],OH x,OH r] w fun e h=>e=.returned (OH (((x:Int)-r)%(W:Int)))/\aq w h:=by
 have p:=fun h=>pD st bk lo u W c ((x:Int)-r) h h1 A ap ap;have y:=aa p;clear p;go_enter func194,ntmps194;go_wp2_with fail;refine (y.o _).mono ?_;rintro e v ⟨rfl,i⟩;have hB:aq w v:=((br w).alloc (NF _) _).trans (i.mono (by simp));clear i;go_wp2_with fail;go_ret;exact ⟨rfl,hB⟩
theorem tt (st bk lo u W c x r:Nat) (w:Qd) (h1:1<=W) (A:W<=1048576) (B:x<W) (hr:r<W):Calls prog 195 #[.agg #[OH (st:Nat),OH (bk:Nat),OH (lo:Nat),OH (u:Nat),OH (W:Nat),OH (c:Nat)],OH x,OH r] w fun e h=>e=.returned (OH (((x:Int)+1-r)%(W:Int)))/\aq w h:=by
 have p:=fun h=>pD st bk lo u W c ((x:Int)+1-r) h h1 A ap ap;have y:=aa p;clear p;go_enter func195,ntmps195;go_wp2_with fail;refine (y.o _).mono ?_;rintro e v ⟨rfl,i⟩;have hB:aq w v:=((br w).alloc (NF _) _).trans (i.mono (by simp));clear i;go_wp2_with fail;go_ret;exact ⟨rfl,hB⟩
theorem Ai {W x ph r:Nat} (hr:r<W) (n:Int) (hn:n=(x:Int)+ph-r):n%(W:Int)=((eI W x ph r:Nat):Int):=by
 unfold eI;rw [Int.natCast_emod,show ((x+(2*W+ph-r):Nat):Int)=n+2*W by omega,Int.add_mul_emod_self_right]
theorem uF {W x ph r:Nat} (hr:r+1<=W) (n:Int) (hn:n=((x:Int)-1)%(W:Int)+ph-r):n%(W:Int)=((fV W x ph r:Nat):Int):=by
 unfold fV;rw [Int.natCast_emod,show ((x+(2*W+ph-r-1):Nat):Int)=((x:Int)-1+ph-r)+2*W by omega,Int.add_mul_emod_self_right,hn,Int.add_sub_assoc,Int.emod_add_emod,Int.add_sub_assoc]
theorem IV (w:Qd) (f g:Fn):(Instr.index 309 (.agg #[.func f #[] #[],.func g #[] #[]]) (OH 0)).run prog w=.ok (.func f #[] #[]) w:=by
 simp [Instr.index,run_underlying underlying309,asIntOf,go_sem]
theorem Li (w:Qd) (f g:Fn):(Instr.index 309 (.agg #[.func f #[] #[],.func g #[] #[]]) (OH 1)).run prog w=.ok (.func g #[] #[]) w:=by
 simp [Instr.index,run_underlying underlying309,asIntOf,go_sem]
attribute [local go_sem] IV Li
theorem Gn (st bk lo y W c x ph r:Nat) (w:Qd) (h1:1<=W) (A:W<=1048576) (B:x<W) (C:ph<2) (hr:r+1<W):Calls prog 188 #[.agg #[OH (st:Nat),OH (bk:Nat),OH (lo:Nat),OH (y:Nat),OH (W:Nat),OH (c:Nat)],OH x,OH ph,OH r,.bool true] w fun e p=>e=.returned (.tuple #[OH (eI W x ph r:Nat),.bool true])/\aq w p:=by
 have g1:(x:Int)<W:=ap;have D:(r:Int)<(W:Int)-1:=ap;have hs:=Ai (W:=W) (x:=x) (ph:=ph) (r:=r) ap _ rfl;obtain rfl | rfl:ph=0\/ph=1:=ap
 ·have h:=fun p=>rj st bk lo y W c x r p h1 A B ap;rw [show ((x:Int)+(0:Nat)-r)=(x:Int)-r by omega] at hs;rw [hs] at h;have v:=aa h;clear h hs;go_enter func188,ntmps188;go_wp2_with fail;refine (v.o _).mono ?_;rintro e u ⟨rfl,i⟩;have hB:aq w u:=((br w).alloc (NF _) _).trans (i.mono (by simp));clear i;go_wp2_with fail;go_ret2;exact ⟨rfl,hB⟩
 ·have h:=fun p=>tt st bk lo y W c x r p h1 A B ap;rw [show ((x:Int)+(1:Nat)-r)=(x:Int)+1-r by omega] at hs;rw [hs] at h;have v:=aa h;clear h hs;go_enter func188,ntmps188;go_wp2_with fail;refine (v.o _).mono ?_;rintro e u ⟨rfl,i⟩;have hB:aq w u:=((br w).alloc (NF _) _).trans (i.mono (by simp));clear i;go_wp2_with fail;go_ret2;exact ⟨rfl,hB⟩
theorem Gp (st bk lo I W c x ph r:Nat) (w:Qd) (h1:1<=W) (T:W<=1048576) (hx:x<W) (hp:ph<2) (hr:r+1<W):Calls prog 188 #[.agg #[OH (st:Nat),OH (bk:Nat),OH (lo:Nat),OH (I:Nat),OH (W:Nat),OH (c:Nat)],OH x,OH ph,OH r,.bool false] w fun e i=>e=.returned (.tuple #[OH (fV W x ph r:Nat),.bool true])/\aq w i:=by
 have g1:(x:Int)<W:=ap;have g2:(r:Int)<(W:Int)-1:=ap;obtain ⟨A,u⟩:∃A,w.alloc (.cells #[OH (st:Nat),OH (bk:Nat),OH (lo:Nat),OH (I:Nat),OH (W:Nat),OH (c:Nat)] 296)=A:=⟨_,rfl⟩;have V:A.heap[w.heap.size]?=some (.cells #[OH (st:Nat),OH (bk:Nat),OH (lo:Nat),OH (I:Nat),OH (W:Nat),OH (c:Nat)] 296 (0,0)):=by rw [<-u];exact NG w _
 have Q:aq w A:=by rw [<-u];exact (br w).alloc (NF _) _
 have t0:=fun i q=>bx6 (sb V i q);have C:=fun i=>pD st bk lo I W c ((x:Int)-1) i h1 T ap ap;have Z:IntKind.i64.wrap ((x:Int)-1)=(x:Int)-1:=NK _ ap;obtain ⟨y,U⟩:∃y:Nat,(y:Int)=((x:Int)-1)%(W:Int):=⟨(((x:Int)-1)%(W:Int)).toNat,Int.toNat_of_nonneg (Int.emod_nonneg _ ap)⟩;have L:y<W:=by have:=Int.emod_lt_of_pos ((x:Int)-1) (show (0:Int)<W by omega);omega
 rw [<-U] at C;obtain ⟨N,p,O⟩:=af u Q C;clear u V Q C;obtain rfl | rfl:ph=0\/ph=1:=ap
 ·have hs:=uF (W:=W) (x:=x) (ph:=0) (r:=r) ap ((y:Int)-r) (by rw [U];omega);have h:=fun i=>rj st bk lo I W c y r i h1 T L ap;rw [hs] at h;have H:=aa h;clear h hs;go_enter func188,ntmps188;have B:=br A;go_wp2_with fail;rw [N.o];refine HA.g (fun i:Qd=>aq A i) ?_;refine HA.t ?_ [0,1,2,3,4,6] B.drew ?_;refine HA.c 5 (O.o _) ?_;rintro e Y ⟨rfl,J⟩;have D:=bt B.drew J;refine ⟨_,rfl,D,fun _=>?_⟩;refine HA.c 7 (H.o _) ?_;rintro e w2 ⟨rfl,R⟩;have v:=bt D R;refine ⟨_,rfl,v,fun _=>?_⟩;refine HA.t ?_ [8,9] v ?_;refine HA.d ?_;have hB:=p.o.trans (v.mono p.o.size);clear J R B D v t0;go_wp2_with fail;go_ret2;exact ⟨rfl,hB⟩
 ·have hs:=uF (W:=W) (x:=x) (ph:=1) (r:=r) ap ((y:Int)+1-r) (by rw [U];omega);have h:=fun i=>tt st bk lo I W c y r i h1 T L ap;rw [hs] at h;have H:=aa h;clear h hs;go_enter func188,ntmps188;have B:=br A;go_wp2_with fail;rw [N.o];refine HA.g (fun i:Qd=>aq A i) ?_;refine HA.t ?_ [0,1,2,3,4,6] B.drew ?_;refine HA.c 5 (O.o _) ?_;rintro e Y ⟨rfl,J⟩;have D:=bt B.drew J;refine ⟨_,rfl,D,fun _=>?_⟩;refine HA.c 7 (H.o _) ?_;rintro e w2 ⟨rfl,R⟩;have v:=bt D R;refine ⟨_,rfl,v,fun _=>?_⟩;refine HA.t ?_ [8,9] v ?_;refine HA.d ?_;have hB:=p.o.trans (v.mono p.o.size);clear J R B D v t0;go_wp2_with fail;go_ret2;exact ⟨rfl,hB⟩
theorem XA.v {P:Program} {ops:Qh} {Q:Exit->Qi->Qd->Prop} {S:Qd->Prop} {n:Nat} {L:List Nat} {a:Qi} {w:Qd} {o:Oper} (i:Nat) (h:Qd) (v:Value) (u:S h) (k:XA P ops Q S n (i::L) (a.put o.dst v) h) (p:ops[i]?=some o:=by (simp only [N8,N9,Oa];rfl)) (hr:db ops L=[i]:=by decide +kernel) (hw:Region.wanted o (yielded ops a.tmps)=true:=by rfl) (he:(execOp a.eval o).run P w=.ok (.value v) h:=by go_simp):XA P ops Q S n L a w:=by
 refine XA.one i p hr fun y x=>?_;rw [if_pos hw];unfold Oper.wp;rw [he];exact x.out _ _ u fun _=>k
def aZ (a:Acn):Qc:=[.bool a.send,.bool a.add,OH (a.st:Nat),OH (a.bk:Nat),OH (a.ph:Nat),OH (a.rd:Nat),OH (a.ch:Nat),OH (a.at'.1:Nat),OH (a.at'.2:Nat)]
def eF (l:List Acn):Qc:=l.flatMap aZ
theorem qp (l:List Acn) (a:Acn):eF (l++[a])=eF l++aZ a:=by simp [eF]
theorem CZ:dB prog 297 150 (.agg OT) 9 64:=⟨underlying297,info_parts (by kernel_rfl),rfl,by decide⟩
theorem Fu (snd:Bool) (i:Nat) (A:N_) (n c J u h N:Nat) (w:Qd) (v:n<=i):Calls prog 191 #[.bool snd,OH i,.slice A n c,(au J),(au u),(au h),(au N)] w fun e o=>e=.returned (.tuple #[])/\o=w:=by
 have p:¬((i:Int)<n):=ap;go_enter func191,ntmps191;go_wp2_with fail
 go_end0
 exact ⟨rfl,rfl⟩
theorem JU (snd:Bool) (i:Nat) (A:N_) (rs:List Rg) (n c J Pb Rb N base:Nat) (st bk lo hi W cc ph r:Nat) (x:Rg) (v:Value) (l:List Acn) (m:Nat) (w:Qd) (hJ:w.heap[J]?=some (.cells #[OH (st:Nat),OH (bk:Nat),OH (lo:Nat),OH (hi:Nat),OH (W:Nat),OH (cc:Nat)] 296 (0,0))) (hP:w.heap[Pb]?=some (.cells #[OH (ph:Nat)] 3 (0,0))) (hR:w.heap[Rb]?=some (.cells #[OH (r:Nat)] 3 (0,0))) (hN:w.heap[N]?=some (.cells #[v] 297 (0,0))) (ho:w.ownsRow base 150 9 v m (eF l)) (hb:base<=w.heap.size) (hA:Rd w A (aT rs)) (hn:rs.length=n) (hx:rs[i]?=some x) (hm:m<=8388608) (a9:n<=1048576) (a2:∀y,A=some y->y.block<base):Calls prog 191 #[.bool snd,OH i,.slice A n c,(au J),(au Pb),(au Rb),(au N)] w fun e p=>e=.returned (.tuple #[])/\
   ∃v',p.heap[N]?=some (.cells #[v'] 297 (0,0))/\p.ownsRow base 150 9 v' (m+1) (eF (l++[⟨snd, !snd&&ph==0,st,bk,ph,r,i,x⟩]))/\Keep (fun j=>j=N\/v.ownBlock=some j) w p:=by
 have a8:i<n:=by rw [<-hn];exact (Oe.1 hx).1
 have a7:(i:Int)<n:=ap;have V:=nz hx;obtain ⟨g,o,rfl,c0⟩:=hA _ _ V.1;obtain ⟨g',o',e',c1⟩:=hA _ _ V.2;obtain ⟨rfl,rfl⟩:g'=g/\o'=o:=by simpa using e'.symm
 rw [<-Oy] at c1;obtain ⟨h,Q⟩:∃h,w.alloc (.cells #[OH (st:Nat),OH (bk:Nat),OH (ph:Nat),OH (r:Nat),OH (i:Nat)] 77)=h:=⟨_,rfl⟩;have h0:h.heap[w.heap.size]?=some (.cells #[OH (st:Nat),OH (bk:Nat),OH (ph:Nat),OH (r:Nat),OH (i:Nat)] 77 (0,0)):=by rw [<-Q];exact NG w _
 have D:aq w h:=by rw [<-Q];exact (br w).alloc (NF _) _
 have xJ:=bx6 hJ;have xP:=bx1 hP;have xR:=bx1 hR;have U:=ay ho D;have nt:=fun b cs t' sg (a6:h.heap[b]?=some (.cells cs t' sg)) (a4:t'≠150) (e:v.ownBlock=some b)=>ax a6 a4 U e.symm;have R:=sb hP _ D;have T:=sb hN _ D;have kP:=fun p (q:Keep (fun j=>v.ownBlock=some j) h p)=>(q.block _ (NE R) (nt _ _ _ _ R (by decide))).trans R;have kN:=fun p (q:Keep (fun j=>v.ownBlock=some j) h p)=>(q.block _ (NE T) (nt _ _ _ _ T (by decide))).trans T;have tP:=fun p q=>bx1 (kP p q);have tN:=fun p q=>bx1 (kN p q);have t0:=fun p (q:Keep (fun j=>v.ownBlock=some j) h p)=>bx5 ((q.block _ (NE h0) (nt _ _ _ _ h0 (by decide))).trans h0)
 have a0:¬v.ownBlock=some g':=fun e=>by
  have h1:=(U.lt g' e).1;have h2:=a2 _ rfl;simp only at h2;omega
 have d0:=fun p (q:Keep (fun j=>v.ownBlock=some j) h p)=>q.cell (aw D c0) a0;have d1:=fun p (q:Keep (fun j=>v.ownBlock=some j) h p)=>q.cell (aw D c1) a0;obtain ⟨HN,HO,O,a5⟩:=ag kN U D Q;clear hJ hP hR hN ho D Q V hA e' hx hn h0 R T kP kN U nt a0 c0 c1 a2;go_enter func191,ntmps191;have q0:Keep (fun j=>v.ownBlock=some j) h h.drew:=(Keep.refl _ _).drew;go_wp2_with fail;rw [a5.o];have a1:((ph:Int)==0)=(ph==0):=by rw [Bool.eq_iff_iff];simp
 cases snd
 ·refine XA.g 16 (fun p:Qd=>Keep (fun j=>v.ownBlock=some j) h p) ?_;refine XA.t ?_ [0,1,2,3,4,5,6,7,8,9,10,11,12,13] q0 ?_;obtain ⟨a,ha⟩:∃a:Acn,a=⟨false,(!false&&ph==0),st,bk,ph,r,i,x⟩:=⟨_,rfl⟩;refine XA.v 14 (h.drew.alloc (.cells (aZ a).toArray 150)) (.slice (some (ar h.heap.size 0)) 1 1) (q0.alloc _) ?_ rfl (by decide +kernel) rfl (by subst ha;go_simp;simp [aZ,a1];try rfl);refine XA.o 15 (fun K' hK=>?_) rfl (by decide +kernel);have hO:=(HO.o.drew).alloc (.cells (aZ a).toArray 150);have a3:=O.o.size;refine bT CZ (.tmp 23) (.tmp 37) rfl rfl base v m _ rfl hO (some (ar h.heap.size 0)) 1 1 (aZ a) rfl (fun k u hu=>⟨_,_,rfl,by rw [Oz,NH _ h.heap.size k (aZ a).toArray 150 (0,0) (NG h.drew _)];simpa using hu⟩) rfl (by simp [aZ,Value.oneCell']) ap (by unfold maxLen;omega) (by simp;omega) ?_;intro Y c5 H B Z L _;have I:Keep (fun j=>v.ownBlock=some j) h H:=(q0.alloc _).grown L (fun k hk=>.inr hk);refine hK.out _ _ I fun _=>?_;refine XA.e ?_;simp only [Ob,Oc];have C:=HN.o H I;have e3:=OE H N 0 _ _ (.slice Y (m+1) c5) C;have k1:Keep (fun j=>j=N) H (H.setCell (ar N 0) (.slice Y (m+1) c5)):=Keep.setCell (S:=fun j=>j=N) (Keep.refl _ _) (ar N 0) (.inr rfl) _;have o6:=k1.own B (fun j hj e=>ax C (by decide) B (by rw [hj,e]));have k6:Keep (fun j=>j=N\/v.ownBlock=some j) w (H.setCell (ar N 0) (.slice Y (m+1) c5)):=Keep.setCell (S:=fun j=>j=N\/v.ownBlock=some j) ((Keep.below O.o).trans (I.mono fun k _ hk=>.inr hk)) (ar N 0) (.inr (.inl rfl)) _;obtain ⟨E3,O6,K6,HA⟩:=ag e3 o6 k6 ha;have xN:=tN H I;clear B Z L C e3 k1 o6 k6 tN tP t0 d0 d1 hK K' ha I hO;go_wp2_with fail
  go_end0
  refine ⟨rfl,_,by simpa using E3.o,?_,K6.o⟩;rw [qp,<-HA.o];exact O6.o
 ·refine XA.g 16 (fun p:Qd=>Keep (fun j=>v.ownBlock=some j) h p) ?_;refine XA.t ?_ [0,1,2,3,4,5,6,7,8,9,10,11,12,13] q0 ?_;obtain ⟨a,ha⟩:∃a:Acn,a=⟨true,(!true&&ph==0),st,bk,ph,r,i,x⟩:=⟨_,rfl⟩;refine XA.v 14 (h.drew.alloc (.cells (aZ a).toArray 150)) (.slice (some (ar h.heap.size 0)) 1 1) (q0.alloc _) ?_ rfl (by decide +kernel) rfl (by subst ha;go_simp;simp [aZ,a1];try rfl);refine XA.o 15 (fun K' hK=>?_) rfl (by decide +kernel);have hO:=(HO.o.drew).alloc (.cells (aZ a).toArray 150);have a3:=O.o.size;refine bT CZ (.tmp 23) (.tmp 37) rfl rfl base v m _ rfl hO (some (ar h.heap.size 0)) 1 1 (aZ a) rfl (fun k u hu=>⟨_,_,rfl,by rw [Oz,NH _ h.heap.size k (aZ a).toArray 150 (0,0) (NG h.drew _)];simpa using hu⟩) rfl (by simp [aZ,Value.oneCell']) ap (by unfold maxLen;omega) (by simp;omega) ?_;intro Y c5 H B Z L _;have I:Keep (fun j=>v.ownBlock=some j) h H:=(q0.alloc _).grown L (fun k hk=>.inr hk);refine hK.out _ _ I fun _=>?_;refine XA.e ?_;simp only [Ob,Oc];have C:=HN.o H I;have e3:=OE H N 0 _ _ (.slice Y (m+1) c5) C;have k1:Keep (fun j=>j=N) H (H.setCell (ar N 0) (.slice Y (m+1) c5)):=Keep.setCell (S:=fun j=>j=N) (Keep.refl _ _) (ar N 0) (.inr rfl) _;have o6:=k1.own B (fun j hj e=>ax C (by decide) B (by rw [hj,e]));have k6:Keep (fun j=>j=N\/v.ownBlock=some j) w (H.setCell (ar N 0) (.slice Y (m+1) c5)):=Keep.setCell (S:=fun j=>j=N\/v.ownBlock=some j) ((Keep.below O.o).trans (I.mono fun k _ hk=>.inr hk)) (ar N 0) (.inr (.inl rfl)) _;obtain ⟨E3,O6,K6,HA⟩:=ag e3 o6 k6 ha;have xN:=tN H I;clear B Z L C e3 k1 o6 k6 tN tP t0 d0 d1 hK K' ha I hO;go_wp2_with fail
  go_end0
  refine ⟨rfl,_,by simpa using E3.o,?_,K6.o⟩;rw [qp,<-HA.o];exact O6.o
def jg (snd:Bool) (i:Nat) (rs:List Rg) (st bk ph r:Nat) (l:List Acn):List Acn:=if i<rs.length then l++[⟨snd, !snd&&ph==0,st,bk,ph,r,i,aS rs i⟩] else l
theorem vL (snd:Bool) (i:Nat) (A:N_) (rs:List Rg) (c J u p N base:Nat) (st bk lo L W I ph r:Nat) (v:Value) (l:List Acn) (w:Qd) (V:w.heap[J]?=some (.cells #[OH (st:Nat),OH (bk:Nat),OH (lo:Nat),OH (L:Nat),OH (W:Nat),OH (I:Nat)] 296 (0,0))) (hP:w.heap[u]?=some (.cells #[OH (ph:Nat)] 3 (0,0))) (U:w.heap[p]?=some (.cells #[OH (r:Nat)] 3 (0,0))) (O:w.heap[N]?=some (.cells #[v] 297 (0,0))) (B:w.ownsRow base 150 9 v l.length (eF l)) (hb:base<=w.heap.size) (D:base<=N) (hA:Rd w A (aT rs)) (hm:l.length<=8388608) (x:rs.length<=1048576) (H:∀y,A=some y->y.block<base):Calls prog 191 #[.bool snd,OH i,.slice A rs.length c,(au J),(au u),(au p),(au N)] w fun e o=>e=.returned (.tuple #[])/\
   ∃v',o.heap[N]?=some (.cells #[v'] 297 (0,0))/\o.ownsRow base 150 9 v' (jg snd i rs st bk ph r l).length (eF (jg snd i rs st bk ph r l))/\Below base w o:=by
 by_cases h:i<rs.length
 ·refine (JU snd i A rs rs.length c J u p N base st bk lo L W I ph r (aS rs i) v l l.length w V hP U O B hb hA rfl (by rw [cS rs i h];simp [h]) hm x H).mono ?_;rintro e o ⟨rfl,v',T,Y,Q⟩;have C:jg snd i rs st bk ph r l=l++[⟨snd, !snd&&ph==0,st,bk,ph,r,i,aS rs i⟩]:=if_pos h;refine ⟨rfl,v',T,?_,Q.toBelow hb ?_⟩
  ·rw [C,Od];exact Y
  ·rintro j (rfl | R)
   ·exact D
   ·exact (B.lt j R).1
 ·refine (Fu snd i A rs.length c J u p N w ap).mono ?_;rintro e o ⟨rfl,rfl⟩;have C:jg snd i rs st bk ph r l=l:=if_neg h;exact ⟨rfl,v,O,by rw [C];exact B,NI _ _⟩
def jU (x y:List Rg) (f g:Nat->Rg->Acn) (k:Nat):List Acn:= (List.range k).flatMap fun i=>(if i<x.length then [f i (aS x i)] else [])++(if i<y.length then [g i (aS y i)] else [])
theorem sO (x y:List Rg) (f g:Nat->Rg->Acn) (k:Nat):jU x y f g (k+1)=jU x y f g k++((if k<x.length then [f k (aS x k)] else [])++(if k<y.length then [g k (aS y k)] else [])):=by
 simp [jU,Ow,List.flatMap_append]
theorem yu (x y:List Rg) (f g:Nat->Rg->Acn) (k:Nat):(jU x y f g k).length<=2*k:=by
 induction k with
 | zero=>simp [jU]
 | succ k ih=>
  rw [sO,Od,Od]
  split<;>split<;>simp<;>omega
theorem nF (X Y:List Rg) (st bk ph r m:Nat):jg false m Y st bk ph r (jg true m X st bk ph r (jU X Y (fun i s=>(⟨true,false,st,bk,ph,r,i,s⟩:Acn)) (fun i s=>(⟨false,ph==0,st,bk,ph,r,i,s⟩:Acn)) m))=jU X Y (fun i s=>(⟨true,false,st,bk,ph,r,i,s⟩:Acn)) (fun i s=>(⟨false,ph==0,st,bk,ph,r,i,s⟩:Acn)) (m+1):=by
 rw [sO];by_cases h1:m<X.length<;>by_cases h:m<Y.length<;>simp [jg,h1,h]
theorem DQ (st bk lo p W c x ph r:Nat) (w:Qd) (h1:1<=W) (h2:W<=1048576) (hx:x<W) (hp:ph<2) (hr:r+1<W) (h3:lo<=1048576) (h4:p<=1048576) (h5:1<=c) (h6:c<=1048576):Calls prog 179 #[.agg #[OH (st:Nat),OH (bk:Nat),OH (lo:Nat),OH (p:Nat),OH (W:Nat),OH (c:Nat)],OH x,OH ph,OH r] w fun e h=>∃v,e=.returned v/\h.ownsRow w.heap.size 150 9 v (dt st bk (lo,p) W c x ph r).length (eF (dt st bk (lo,p) W c x ph r))/\aq w h:=by
 obtain ⟨H,u⟩:∃H,((w.alloc (.cells #[OH (st:Nat),OH (bk:Nat),OH (lo:Nat),OH (p:Nat),OH (W:Nat),OH (c:Nat)] 296)).alloc (.cells #[OH ph] 3)).alloc (.cells #[OH r] 3)=H:=⟨_,rfl⟩
 have g0:H.heap[w.heap.size]?=some (.cells #[OH (st:Nat),OH (bk:Nat),OH (lo:Nat),OH (p:Nat),OH (W:Nat),OH (c:Nat)] 296 (0,0)):=by
  rw [<-u,NW _ _ _ (by simp;omega),NW _ _ _ (by simp)];exact NG w _
 have g1:H.heap[w.heap.size+1]?=some (.cells #[OH ph] 3 (0,0)):=by
  rw [<-u,NW _ _ _ (by simp)];have:=NG (w.alloc (.cells #[OH (st:Nat),OH (bk:Nat),OH (lo:Nat),OH (p:Nat),OH (W:Nat),OH (c:Nat)] 296)) (.cells #[OH ph] 3);simpa using this
 have g2:H.heap[w.heap.size+1+1]?=some (.cells #[OH r] 3 (0,0)):=by
  rw [<-u];have:=NG ((w.alloc (.cells #[OH (st:Nat),OH (bk:Nat),OH (lo:Nat),OH (p:Nat),OH (W:Nat),OH (c:Nat)] 296)).alloc (.cells #[OH ph] 3)) (.cells #[OH r] 3);simpa using this
 have a5:aq w H:=by rw [<-u];exact (((br w).alloc (NF _) _).alloc (by simp) _).alloc (by simp;omega) _
 have a4:H.heap.size=w.heap.size+1+1+1:=by rw [<-u];simp
 have t0:=fun h q=>bx6 (sb g0 h q);have t1:=fun h q=>bx1 (sb g1 h q);have t2:=fun h q=>bx1 (sb g2 h q);obtain ⟨b3,V,b8,G0,G1,G2⟩:=ai u a5 a4 g0 g1 g2;clear u g0 g1 g2 a5 a4;go_enter func179,ntmps179;have q0:=br H;go_wp2_with fail;rw [b3.o];refine (Gn st bk lo p W c x ph r H h1 h2 hx hp hr).mono ?_;rintro e w1 ⟨rfl,k1⟩;have q1:=bt q0 k1;go_wp2_with fail;refine (Gp st bk lo p W c x ph r w1 h1 h2 hx hp hr).mono ?_;rintro e w2 ⟨rfl,k2⟩;have q2:=bt q1 k2;go_wp2_with fail;refine (Gj lo p W w2 h1 h2 h3 h4).mono ?_;rintro e T ⟨v3,rfl,o3,k3⟩;have q3:=bt q2 k3;have a0:eI W x ph r<W:=Nat.mod_lt _ h1;have O:fV W x ph r<W:=Nat.mod_lt _ h1;obtain ⟨so,A⟩:∃so,eI W x ph r=so:=⟨_,rfl⟩;obtain ⟨si,B⟩:∃si,fV W x ph r=si:=⟨_,rfl⟩;rw [A] at a0 ⊢;rw [B] at O ⊢;obtain ⟨g,c3,aR,ao,b2⟩:=o3.form ap;subst aR;have a1:=Ko (b:=(lo,p)) h1 h3 h4;obtain ⟨J,D⟩:∃J,aS (eh (lo,p) W) so=J:=⟨_,rfl⟩;obtain ⟨I,C⟩:∃I,aS (eh (lo,p) W) si=I:=⟨_,rfl⟩;have Z:=a1 J (by rw [<-D,cS _ _ (by rw [pN];exact a0)];exact List.getElem_mem _);have Q:=a1 I (by rw [<-C,cS _ _ (by rw [pN];exact O)];exact List.getElem_mem _);have po:=iP o3 a0;have pi:=iP o3 O;rw [D] at po;rw [C] at pi;have a2:=br T;have aM:=fun h (q:aq T h)=>aw q po.1;have aP:=fun h (q:aq T h)=>aw q po.2;have ad:=fun h (q:aq T h)=>aw q pi.1;have b4:=fun h (q:aq T h)=>aw q pi.2;have u0:=fun h (q:aq T h)=>t0 h (bt q3 q);have b5:(so:Int)<W:=ap;have b6:(si:Int)<W:=ap;have HR:an (dt st bk (lo,p) W c x ph r=jT (chR J c) (chR I c) (fun i s=>⟨true,false,st,bk,ph,r,i,s⟩) (fun i s=>⟨false,ph==0,st,bk,ph,r,i,s⟩)):=aa (by unfold dt;rw [A,B,D,C]);have R:=aa q3;clear t0 ao b2 a1 D C A B po pi q0 q1 q2 q3 k1 k2 k3 o3;go_wp2_with fail;refine HA.g (fun h:Qd=>aq T h) ?_;refine HA.t ?_ [0,1,2,3,4,5,7,8,9,10,11,12] a2.drew ?_;refine HA.c 6 (zx J.1 J.2 c _ h5 h6 Z.1 Z.2) ?_;rintro e w4 ⟨v4,rfl,o4,k4⟩;have q4:=bt a2.drew k4;refine ⟨_,rfl,q4,fun _=>?_⟩;refine HA.c 13 (zx I.1 I.2 c _ h5 h6 Q.1 Q.2) ?_;rintro e N ⟨v5,rfl,o5,k5⟩;have q5:=bt q4 k5;refine ⟨_,rfl,q5,fun _=>?_⟩;refine HA.t ?_ [14,15] q5 ?_;refine HA.d ?_;obtain ⟨A4,c4,rfl,_⟩:=aC o4;obtain ⟨A5,c5,rfl,_⟩:=aC o5;obtain ⟨X,hX⟩:∃X,chR J c=X:=⟨_,rfl⟩;obtain ⟨Y,hY⟩:∃Y,chR I c=Y:=⟨_,rfl⟩;have bd:X.length<=1048576:=by rw [<-hX,xq];have:=fR (J.2-J.1) c;omega
 have b7:Y.length<=1048576:=by rw [<-hY,xq];have:=fR (I.2-I.1) c;omega
 rw [hX] at o4 HR ⊢;rw [hY] at o5 HR ⊢;simp only [Exit.then];obtain ⟨L,O4,O5,B4,B5⟩:=ah ((R.o).trans (q5.mono R.o.size)) (ay o4 k5) o5 (jV (ay o4 k5)) (jV o5);clear o4 o5 k4 k5 q4 q5 a2 aM aP ad b4 u0 t1 t2 R hX hY Z Q;obtain ⟨M,hM⟩:∃M:Nat,max X.length Y.length=M:=⟨_,rfl⟩;have be:(if X.length<Y.length then (Y.length:Int) else (X.length:Int))=(M:Int):=by rw [<-hM];split<;>omega
 have aG:=aa hM;clear hM;go_wp2_with fail
 go_loopw [62] (fun x wr=>∃m:Nat,m<=M/\x=OH m/\∃v,wr.heap[N.heap.size]?=some (.cells #[v] 297 (0,0))/\wr.ownsRow N.heap.size 150 9 v (jU X Y (fun i s=>(⟨true,false,st,bk,ph,r,i,s⟩:Acn)) (fun i s=>(⟨false,ph==0,st,bk,ph,r,i,s⟩:Acn)) m).length (eF (jU X Y (fun i s=>(⟨true,false,st,bk,ph,r,i,s⟩:Acn)) (fun i s=>(⟨false,ph==0,st,bk,ph,r,i,s⟩:Acn)) m))/\aq N wr) (fun x _=>M-(intOf x).toNat)
 ·exact ⟨0,NJ _,rfl,_,NG _ _,NV _ _ _ _,(br N).alloc (NF _) _⟩
 case round=>
  obtain ⟨m,hm,rfl,v,n0,o0,q⟩:=hrel;by_cases bb:m<M
  ·have b0:(m:Int)<M:=ap;have b9:IntKind.i64.wrap ((m:Int)+1)=((m+1:Nat):Int):=by rw [NK _ ap];push_cast;rfl
   have a3:=yu X Y (fun i s=>(⟨true,false,st,bk,ph,r,i,s⟩:Acn)) (fun i s=>(⟨false,ph==0,st,bk,ph,r,i,s⟩:Acn)) m;have a7:=(Rd.own O4.o).below q;have a9:=fun y e=>(B4.o y e).2;have c1:=vL true m A4 X c4 w.heap.size (w.heap.size+1) (w.heap.size+1+1) N.heap.size N.heap.size st bk lo p W c ph r v _ wr (sb G0.o wr (bt L.o q)) (sb G1.o wr (bt L.o q)) (sb G2.o wr (bt L.o q)) n0 o0 q.size (NF _) a7 ap ap a9;obtain ⟨C1,HQ,b1⟩:=af c1 q a3;clear c1 a7 a9 n0 o0 q a3;go_wp2_with fail;refine C1.o.mono ?_;rintro e w6 ⟨rfl,v6,n6,o6,k6⟩;have U:=HQ.o.trans k6;have ab:(jg true m X st bk ph r (jU X Y (fun i s=>(⟨true,false,st,bk,ph,r,i,s⟩:Acn)) (fun i s=>(⟨false,ph==0,st,bk,ph,r,i,s⟩:Acn)) m)).length<=2*m+1:=by have:=b1.o;unfold jg;split<;>simp<;>omega
   have a6:=(Rd.own O5.o).below U;have a8:=fun y e=>(B5.o y e).2;have c2:=vL false m A5 Y c5 w.heap.size (w.heap.size+1) (w.heap.size+1+1) N.heap.size N.heap.size st bk lo p W c ph r v6 _ w6 (sb G0.o w6 (bt L.o U)) (sb G1.o w6 (bt L.o U)) (sb G2.o w6 (bt L.o U)) n6 o6 U.size (NF _) a6 ap ap a8;obtain ⟨C2,av⟩:=ae c2 U;clear c2 a6 a8 n6 o6 U k6 ab;go_wp2_with fail;refine C2.o.mono ?_;rintro e w7 ⟨rfl,v7,n7,o7,k7⟩;have q7:=av.o.trans k7;rw [nF] at o7;obtain ⟨N7,O7,Q7⟩:=af n7 o7 q7;clear n7 o7 q7 k7;go_wp2_with fail;go_roundw
   ·exact ⟨m+1,by omega,by go_num,v7,N7.o,O7.o,Q7.o⟩
   ·simp [intOf];omega
  ·obtain rfl:M=m:=ap;have b0:¬((M:Int)<M):=ap;have tn:=fun h q=>bx1 (sb n0 h q);obtain ⟨O0,HQ,HN⟩:=af o0 q n0;have q0:=br wr;clear o0 q n0;go_wp2_with fail;go_ret;refine ⟨_,rfl,?_,?_⟩
   ·rw [HR.out];have:=O0.o;rw [<-aG.o] at this;exact aE this (NN V.o.size L.o.size)
   ·exact V.o.trans ((bt L.o HQ.o).mono V.o.size)
def JT:Option Acn->Qc
 | none=>[.bool false,.bool false,OH 0,OH 0,OH 0,OH 0,OH 0,OH 0,OH 0]
 | some a=>aZ a
def bj (x:Itm):Qc:=OH (x.kind:Nat)::OH (x.st:Nat)::OH (x.n:Nat)::JT x.a
def cC (l:List Itm):Qc:=l.flatMap bj
theorem By (l m:List Itm):cC (l++m)=cC l++cC m:=by simp [cC]
theorem fK (l:List Itm) (a:Itm):cC (l++[a])=cC l++bj a:=by simp [cC]
theorem Jg:dB prog 176 152 (.agg OS) 12 88:=⟨underlying176,info_parts (by kernel_rfl),rfl,by decide⟩
theorem Le (L base kd st n m:Nat) (H C:Bool) (N U D O Q J T:Int) (v:Value) (xs:Qc) (w:Qd) (hL:w.heap[L]?=some (.cells #[OH (st:Nat),v] 276 (0,0))) (ho:w.ownsRow base 152 12 v m xs) (hb:base<=w.heap.size) (hm:m<=8388608):Calls prog 160 #[(au L),OH (kd:Nat),OH (n:Nat),.agg #[.bool H,.bool C,OH N,OH U,OH D,OH O,OH Q,OH J,OH T]] w fun e p=>e=.returned (.tuple #[])/\
   ∃v',p.heap[L]?=some (.cells #[OH (st:Nat),v'] 276 (0,0))/\p.ownsRow base 152 12 v' (m+1) (xs++[OH (kd:Nat),OH (st:Nat),OH (n:Nat),.bool H,.bool C,OH N,OH U,OH D,OH O,OH Q,OH J,OH T])/\Keep (fun j=>j=L\/v.ownBlock=some j) w p/\(v'.ownBlock=v.ownBlock\/∀k,v'.ownBlock=some k->w.heap.size<=k):=by
 obtain ⟨i,x⟩:∃i,w.alloc (.cells #[.bool H,.bool C,OH N,OH U,OH D,OH O,OH Q,OH J,OH T] 150)=i:=⟨_,rfl⟩;have h0:i.heap[w.heap.size]?=some (.cells #[.bool H,.bool C,OH N,OH U,OH D,OH O,OH Q,OH J,OH T] 150 (0,0)):=by rw [<-x];exact NG w _
 have y:aq w i:=by rw [<-x];exact (br w).alloc (NF _) _
 have V:=ay ho y;have nt:=fun b cs t' sg (a5:i.heap[b]?=some (.cells cs t' sg)) (a2:t'≠152) (e:v.ownBlock=some b)=>ax a5 a2 V e.symm;have A:=sb hL _ y;have kL:=fun p (q:Keep (fun j=>v.ownBlock=some j) i p)=>(q.block _ (NE A) (nt _ _ _ _ A (by decide))).trans A;have tL:=fun p q=>bx2 (kL p q);have t0:=fun p (q:Keep (fun j=>v.ownBlock=some j) i p)=>bx9 ((q.block _ (NE h0) (nt _ _ _ _ h0 (by decide))).trans h0);obtain ⟨HL,HO,Z,a3⟩:=ag kL V y x;clear hL ho y x h0 A kL V nt;go_enter func160,ntmps160;have q0:Keep (fun j=>v.ownBlock=some j) i i.drew:=(Keep.refl _ _).drew;go_wp2_with fail;rw [a3.o];refine XA.g 15 (fun p:Qd=>Keep (fun j=>v.ownBlock=some j) i p) ?_;refine XA.t ?_ [0,1,2,3,4,5,6,7,8,9,10,11,12] q0 ?_;refine XA.v 13 (i.drew.alloc (.cells #[OH (kd:Nat),OH (st:Nat),OH (n:Nat),.bool H,.bool C,OH N,OH U,OH D,OH O,OH Q,OH J,OH T] 152)) (.slice (some (ar i.heap.size 0)) 1 1) (q0.alloc _) ?_;refine XA.o 14 (fun K' hK=>?_);have hO:=(HO.o.drew).alloc (.cells #[OH (kd:Nat),OH (st:Nat),OH (n:Nat),.bool H,.bool C,OH N,OH U,OH D,OH O,OH Q,OH J,OH T] 152);have a6:=Z.o.size;refine bT Jg (.tmp 12) (.tmp 21) rfl rfl base v m _ rfl hO (some (ar i.heap.size 0)) 1 1 [OH (kd:Nat),OH (st:Nat),OH (n:Nat),.bool H,.bool C,OH N,OH U,OH D,OH O,OH Q,OH J,OH T] rfl (fun k u hu=>⟨_,_,rfl,by rw [Oz,NH _ i.heap.size k _ 152 (0,0) (NG i.drew _)];simpa using hu⟩) rfl (by simp [Value.oneCell']) ap (by unfold maxLen;omega) (by simp;omega) ?_;intro A5 c5 Y I a4 a1 a0
 have B:(Value.slice A5 (m+1) c5).ownBlock=v.ownBlock\/∀k,(Value.slice A5 (m+1) c5).ownBlock=some k->w.heap.size<=k:=by
  rcases a0 with h | h
  ·exact .inl h
  ·exact .inr fun k hk=>by rw [h] at hk;simp at hk;omega
 have HN:=aa B;clear a0 B;have q5:Keep (fun j=>v.ownBlock=some j) i Y:=(q0.alloc _).grown a1 (fun k hk=>.inr hk);refine hK.out _ _ q5 fun _=>?_;refine XA.e ?_;simp only [Ob,Oc];have R:=HL.o Y q5;have e3:=OE Y L 1 _ _ (.slice A5 (m+1) c5) R;have k1:Keep (fun j=>j=L) Y (Y.setCell (ar L 1) (.slice A5 (m+1) c5)):=Keep.setCell (S:=fun j=>j=L) (Keep.refl _ _) (ar L 1) (.inr rfl) _;have o6:=k1.own I (fun j hj e=>ax R (by decide) I (by rw [hj,e]));have k6:Keep (fun j=>j=L\/v.ownBlock=some j) w (Y.setCell (ar L 1) (.slice A5 (m+1) c5)):=Keep.setCell (S:=fun j=>j=L\/v.ownBlock=some j) ((Keep.below Z.o).trans (q5.mono fun k _ hk=>.inr hk)) (ar L 1) (.inr (.inl rfl)) _;obtain ⟨E3,O6,K6⟩:=af e3 o6 k6;have xL:=tL Y q5;clear I a4 a1 R e3 k1 o6 k6 tL t0 hK K' q5 hO;go_wp2_with fail
 go_end0
 exact ⟨rfl,_,by simpa using E3.o,O6.o,K6.o,HN.o⟩
def gS (w:Qd) (L base st:Nat) (v:Value) (l:List Itm):Prop:=w.heap[L]?=some (.cells #[OH (st:Nat),v] 276 (0,0))/\w.ownsRow base 152 12 v l.length (cC l)
def Apd (L:Nat) (w:Qd) (v:Value) (h:Qd) (v':Value):Prop:=Keep (fun j=>j=L\/v.ownBlock=some j) w h/\(v'.ownBlock=v.ownBlock\/∀k,v'.ownBlock=some k->w.heap.size<=k)
theorem Apd.trans {L:Nat} {a b c:Qd} {v v' i:Value} (h:Apd L a v b v') (k:Apd L b v' c i):Apd L a v c i:=by
 refine ⟨⟨k.1.os.trans h.1.os,k.1.tape.trans h.1.tape,k.1.output.trans h.1.output,NN h.1.size k.1.size,fun j o hn=>(k.1.block j (NQ o h.1.size) fun p=>?_).trans (h.1.block j o hn)⟩,?_⟩
 ·rcases p with rfl | p
  ·exact hn (.inl rfl)
  ·rcases h.2 with x | x
   ·exact hn (.inr (x▸p))
   ·have:=x j p;omega
 ·rcases k.2 with u | u
  ·rw [u];exact h.2
  ·exact .inr fun j o=>NN h.1.size (u j o)
theorem Apd.below {L:Nat} {b c:Qd} {v:Value} (h:aq b c):Apd L b v c v:=⟨Keep.below h,.inl rfl⟩
theorem Apd.refl (L:Nat) (w:Qd) (v:Value):Apd L w v w v:=⟨Keep.refl _ _,.inl rfl⟩
theorem gS.below {w i:Qd} {L base st:Nat} {v:Value} {l:List Itm} (h:gS w L base st v l) (hb:aq w i):gS i L base st v l:=⟨sb h.1 _ hb,ay h.2 hb⟩
theorem yX (L base o st n:Nat) (a:Option Acn) (v:Value) (l:List Itm) (w:Qd) (hl:gS w L base st v l) (hb:base<=w.heap.size) (hm:l.length<=8388608):Calls prog 160 #[(au L),OH (o:Nat),OH (n:Nat),.agg (JT a).toArray] w fun e h=>e=.returned (.tuple #[])/\
   ∃v',gS h L base st v' (l++[(⟨o,st,n,a⟩:Itm)])/\Apd L w v h v':=by
 have i:∀y x p u D B C A H,JT a=[.bool y,.bool x,OH p,OH u,OH D,OH B,OH C,OH A,OH H]->Calls prog 160 #[(au L),OH (o:Nat),OH (n:Nat),.agg (JT a).toArray] w fun e h=>e=.returned (.tuple #[])/\
   ∃v',gS h L base st v' (l++[(⟨o,st,n,a⟩:Itm)])/\Apd L w v h v':=by
  intro y x p u D B C A H e;rw [e];refine (Le L base o st n l.length y x p u D B C A H v _ w hl.1 hl.2 hb hm).mono ?_;rintro J h ⟨rfl,v',h1,I,k,hn⟩;refine ⟨rfl,v',⟨h1,?_⟩,k,hn⟩;rw [fK,Od,bj,e];exact I
 cases a with
 | none=>exact i _ _ _ _ _ _ _ _ _ rfl
 | some a=>exact i _ _ _ _ _ _ _ _ _ rfl
theorem nH (L base st n:Nat) (o:Int) (h:Nat) (hk:(h:Int)=o) (v:Value) (l:List Itm) (w:Qd) (hl:gS w L base st v l) (hb:base<=w.heap.size) (hm:l.length<=8388608):Calls prog 160 #[(au L),OH o,OH (n:Nat),.agg OT] w fun e i=>e=.returned (.tuple #[])/\
   ∃v',gS i L base st v' (l++[(⟨h,st,n,none⟩:Itm)])/\Apd L w v i v':=by
 subst hk;exact yX L base h st n none v l w hl hb hm
theorem EO (L base st:Nat) (o:Int) (h:Nat) (hk:(h:Int)=o) (a:Acn) (v:Value) (l:List Itm) (w:Qd) (hl:gS w L base st v l) (hb:base<=w.heap.size) (hm:l.length<=8388608):Calls prog 160 #[(au L),OH o,OH 0,.agg #[.bool a.send,.bool a.add,OH (a.st:Nat),OH (a.bk:Nat),OH (a.ph:Nat),OH (a.rd:Nat),OH (a.ch:Nat),OH (a.at'.1:Nat),OH (a.at'.2:Nat)]] w fun e i=>e=.returned (.tuple #[])/\
   ∃v',gS i L base st v' (l++[(⟨h,st,0,some a⟩:Itm)])/\Apd L w v i v':=by
 subst hk;exact yX L base h st 0 (some a) v l w hl hb hm
theorem rJ {α β:Type} {g:α->List β} {n:Nat} (hn:∀a,(g a).length=n):∀{l:List α} {i:Nat} {a:α},l[i]?=some a->∀f,f<n->(l.flatMap g)[i*n+f]?=(g a)[f]?
 | [],_,_,h,_,_=>by simp at h
 | x::l,0,a,h,f,hf=>by
  simp only [Oa,Option.some.injEq] at h;subst h;rw [List.flatMap_cons,Nat.zero_mul,Oz,Og (by rw [hn];exact hf)]
 | x::l,i+1,a,h,f,hf=>by
  simp only [N9] at h;rw [List.flatMap_cons,Oh (by rw [hn,Ox];omega),hn,show (i+1)*n+f-n=i*n+f by rw [Ox];omega];exact rJ hn h f hf
theorem Ly (a:Acn):(aZ a).length=9:=rfl
theorem zI {w:Qd} {base n g c:Nat} {l:List Acn} {e:Qf} (h:w.ownsRow base e 9 (.slice (some (ar g 0)) n c) n (eF l)) {i:Nat} {a:Acn} (o:l[i]?=some a) (hl:l.length=n):
  ∀f,f<9->w.cell? (ar g (i*9+f))=(aZ a)[f]?:=fun f p=>by
 have h1:i<l.length:=(Oe.1 o).1;have v:=h.1;have u:=rJ Ly o f p;rw [h.cellAt _ ap,eF,u]
theorem Gm {b:Rg} {k:Nat} {M:Nat} (h1:1<=k) (h:b.1<=b.2) (hb:b.2<=M):∀r∈eh b k,r.2<=M:=by
 intro r hr;simp only [eh,shR,fX,List.map_map,List.mem_map,List.mem_range,Function.comp] at hr;obtain ⟨i,o,rfl⟩:=hr;have c:=gh (b.2-b.1) k (i+1) h1 ap;simp only;omega
theorem tI (n c:Nat):dD n c<=n:=by
 unfold dD
 split
 ·omega
 ·have:=Nat.div_le_self (n-1) c;omega
theorem tM {b:Rg} {W c s M:Nat} (h1:1<=W) (i:b.1<=b.2) (hb:b.2<=M):(chR (aS (eh b W) s) c).length<=M:=by
 rw [xq];have h:=tI ((aS (eh b W) s).2-(aS (eh b W) s).1) c;rcases NY s (eh b W).length with hs | hs
 ·have:=Gm h1 i hb _ (List.getElem_mem hs);rw [<-cS _ _ hs] at this;omega
 ·have:aS (eh b W) s=(0,0):=by simp [aS,List.getD,hs]
  rw [this] at h ⊢;exact NN h (NJ _)
theorem DR {st bk:Nat} {b:Rg} {W c w ph r M:Nat} (h1:1<=W) (h:b.1<=b.2) (hb:b.2<=M):(dt st bk b W c w ph r).length<=2*M:=by
 rw [jQ];have i:=tM (c:=c) (s:=eI W w ph r) h1 h hb;have o:=tM (c:=c) (s:=fV W w ph r) h1 h hb;omega
def gL (p:Pln) (w st k lo:Nat) (n:Nat):List Itm:=(List.range' lo n).flatMap fun j=>cz p w st (k/(p.W-1)) (k%(p.W-1)) j
def cG (p:Pln) (w st:Nat) (g:Rg) (k:Nat):List Itm:=(List.range k).flatMap fun k=>gL p w st k g.1 (g.2-g.1)
theorem pt (p:Pln) (w st k lo n:Nat):gL p w st k lo (n+1)=gL p w st k lo n++cz p w st (k/(p.W-1)) (k%(p.W-1)) (lo+n):=by
 simp [gL,List.range'_concat]
theorem ii (p:Pln) (w st:Nat) (g:Rg) (k:Nat):cG p w st g (k+1)=cG p w st g k++gL p w st k g.1 (g.2-g.1):=by
 simp [cG,Ow]
theorem th {p:Pln} {w st k lo n M:Nat} (h:∀ph r j,(cz p w st ph r j).length<=M):(gL p w st k lo n).length<=n*M:=by
 induction n with
 | zero=>simp [gL]
 | succ n ih=>rw [pt,Od,Ox];have:=h (k/(p.W-1)) (k%(p.W-1)) (lo+n);omega
theorem jP {p:Pln} {w st k M:Nat} {g:Rg} (h:∀ph r j,(cz p w st ph r j).length<=M):(cG p w st g k).length<=k*((g.2-g.1)*M):=by
 induction k with
 | zero=>simp [cG]
 | succ k ih=>rw [ii,Od,Ox];have:=th (w:=w) (st:=st) (k:=k) (lo:=g.1) (n:=g.2-g.1) h;omega
theorem sD {p:Pln} {w st k lo n m:Nat} (hm:p.W-1=m) {ph r:Nat} (h1:k/m=ph) (h:k%m=r):gL p w st k lo n=(List.range' lo n).flatMap fun j=>cz p w st ph r j:=by
 unfold gL;rw [hm,h1,h]
theorem ro (p:Pln) (w st:Nat) (g:Rg):cG p w st g (2*(p.W-1))=(List.range 2).flatMap fun ph=>(List.range (p.W-1)).flatMap fun r=>(List.range' g.1 (g.2-g.1)).flatMap fun j=>cz p w st ph r j:=by
 obtain ⟨m,hm⟩:∃m,p.W-1=m:=⟨_,rfl⟩;obtain ⟨F,u⟩:∃F:Nat->Nat->List Itm,(fun ph r=>(List.range' g.1 (g.2-g.1)).flatMap fun j=>cz p w st ph r j)=F:=⟨_,rfl⟩;have h:∀ph r,((List.range' g.1 (g.2-g.1)).flatMap fun j=>cz p w st ph r j)=F ph r:=fun ph r=>by rw [<-u]
 have o:∀k,k<=m->cG p w st g k=(List.range k).flatMap (F 0):=by
  intro k
  induction k with
  | zero=>intro _;rfl
  | succ k ih=>
   intro hk;have e:=sD (w:=w) (st:=st) (lo:=g.1) (n:=g.2-g.1) hm (Nat.div_eq_of_lt (show k<m by omega)) (Nat.mod_eq_of_lt (show k<m by omega));rw [ii,ih ap,e,h,Ow,List.flatMap_append];simp only [List.flatMap_cons,List.flatMap_nil,List.append_nil]
 have h1:∀k,k<=m->cG p w st g (m+k)=cG p w st g m++(List.range k).flatMap (F 1):=by
  intro k
  induction k with
  | zero=>intro _;simp only [Nat.add_zero,List.range_zero,List.flatMap_nil,List.append_nil]
  | succ k ih=>
   intro hk;have d:(m+k)/m=1:=by rw [Nat.add_div_left k ap,Nat.div_eq_of_lt ap]
   have i:(m+k)%m=k:=by rw [Nat.add_mod_left,Nat.mod_eq_of_lt ap]
   have e:=sD (w:=w) (st:=st) (lo:=g.1) (n:=g.2-g.1) hm d i;rw [<-Oy,ii,ih ap,e,h,Ow,List.flatMap_append,Oj];simp only [List.flatMap_cons,List.flatMap_nil,List.append_nil]
 simp only [h];rw [hm,show 2*m=m+m by omega,h1 m (NF _),o m (NF _)]
 show _=List.flatMap (fun ph=>(List.range m).flatMap (F ph)) [0,1]
 simp only [List.flatMap_cons,List.flatMap_nil,List.append_nil]
end Go.Proofs.YtgmajkppbhiopaaGreat
