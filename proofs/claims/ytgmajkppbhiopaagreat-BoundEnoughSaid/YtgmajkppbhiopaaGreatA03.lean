/- No condition. -/
import Derived.Test.YtgmajkppbhiopaaGreatA00
import Derived.Test.YtgmajkppbhiopaaGreatA02
import Derived.RegionTactic
import Derived.Test.YtgmajkppbhiopaaGreatA01
import Derived.Deep.RegionHeld
set_option linter.unusedSimpArgs false
set_option linter.unusedVariables false
set_option maxRecDepth 100000
set_option maxHeartbeats 4000000
namespace Go.Proofs.YtgmajkppbhiopaaGreat
open Go.RowKit
theorem wF (n:Int) (w:World):Calls Tryz.prog 112 #[FQ n] w fun e h=>e=.returned (.bool (!decide (1≤n∧n≤1048576)))∧w=h:=by
 by_cases i:n<1
 ·go_enter Tryz.func112,Tryz.ntmps112
  go_wp2
  go_ret
  exact ⟨bD (by first | (simp;omega) | (simp;done)),rfl⟩
 ·by_cases o:1048576<n
  ·go_enter Tryz.func112,Tryz.ntmps112
   go_wp2
   go_ret
   exact ⟨bD (by first | (simp;omega) | (simp;done)),rfl⟩
  ·go_enter Tryz.func112,Tryz.ntmps112
   go_wp2
   go_ret
   exact ⟨bD (by first | (simp;omega) | (simp;done)),rfl⟩
def Dx (sz:List Int) (e:Ending):Prop:=∃d:Int,e=.returned (FQ d)∧ -1≤d∧(d<0↔∀k,k<sz.length→1≤nth sz k∧nth sz k≤1048576)
theorem pS (A:Option Addr) (sz:List Int) (c:Nat) (w:World) (J:Rd w A (ar .i64 sz)) (hl:sz.length≤17592186043904):
  Calls Tryz.prog 154 #[.slice A sz.length c,.func (.func 112) #[] #[]] w fun e C=>Dx sz e∧w=C:=by
 obtain ⟨n,hn⟩:∃n,sz.length=n:=⟨_,rfl⟩
 have hw:=fun z=>wF z w
 rw [hn] at hl ⊢
 obtain ⟨HA,H,I⟩:=ae J hn hw;clear J hn hw
 go_enter Tryz.func154,Tryz.ntmps154
 go_wp2_with fail
 go_loop [5,8] (fun _ i=>∃k:Nat,k≤n∧i=FQ k∧Hid (∀j,j<k→1≤nth sz j∧nth sz j≤1048576)) (fun _ i=>n-(intOf i).toNat)
 case atStart=>exact ⟨0,EQ _,rfl,Lib.hid fun j L=>by omega⟩
 case round=>
  obtain ⟨k,hk,rfl,u⟩:=hrel
  by_cases B:k<n
  ·obtain ⟨b,o,rfl,p⟩:=HA.out.num (show k<sz.length by rw [H.out];exact B)
   by_cases x:1≤nth sz k∧nth sz k≤1048576
   ·have y:(!decide (1≤nth sz k∧nth sz k≤1048576))=false:=by simp [x.1,x.2]
    have hw:=I.out (nth sz k)
    rw [y] at hw
    obtain ⟨D,v⟩:=ab x hw;clear x hw y
    go_wp2_with fail
    refine v.out.mono ?_
    rintro e C ⟨rfl,rfl⟩
    go_wp2_with fail
    go_round
    case rel=>exact ⟨k+1,by omega,by go_num,Lib.hid (p:=∀j,j<k+1→1≤nth sz j∧nth sz j≤1048576) fun j L=>by
     rcases Fa j k with h | h
     ·exact u.out j h
     ·obtain rfl:j=k:=by omega
      exact D.out⟩
    case measure=>simp [intOf];omega
   ·have y:(!decide (1≤nth sz k∧nth sz k≤1048576))=true:=by simp;omega
    have hw:=I.out (nth sz k)
    rw [y] at hw
    obtain ⟨D,v⟩:=ab x hw;clear x hw y
    go_wp2_with fail
    refine v.out.mono ?_
    rintro e C ⟨rfl,rfl⟩
    go_wp2_with fail
    go_ret
    exact ⟨⟨k,rfl,by omega,fun h=>by omega,fun h=>absurd (h k (by rw [H.out];exact B)) D.out⟩,rfl⟩
  ·obtain rfl:k=n:=by omega
   go_wp2_with fail
   go_ret
   exact ⟨⟨-1,rfl,by omega,fun _=>by rw [H.out];exact u.out,fun _=>by omega⟩,rfl⟩
theorem qI (A:Option Addr) (sz:List Int) (c:Nat) (w:World) (u:Rd w A (ar .i64 sz)) (hl:sz.length≤17592186043904) (h:¬∀k,k<sz.length→1≤nth sz k∧nth sz k≤1048576):
  Calls Tryz.prog 113 #[.slice A sz.length c,.func (.func 112) #[] #[]] w fun e o=>e=.returned (.bool true)∧w=o:=by
 have v:=pS A sz c w u hl
 obtain ⟨y,H⟩:=ab v h;clear v u h
 go_enter Tryz.func113,Tryz.ntmps113
 go_wp2_with fail
 refine y.out.mono ?_
 rintro e o ⟨⟨d,rfl,B,i⟩,rfl⟩
 have x:0≤d:=by
  rcases Int.lt_or_le d 0 with h | h
  ·exact absurd (i.1 h) H.out
  ·exact h
 clear i
 go_wp2
 go_ret
 exact ⟨bD (by simp [x]),rfl⟩
theorem sM (A:Option Addr) (sz:List Int) (c:Nat) (w:World) (u:Rd w A (ar .i64 sz)) (hl:sz.length≤17592186043904) (h:∀k,k<sz.length→1≤nth sz k∧nth sz k≤1048576):
  Calls Tryz.prog 113 #[.slice A sz.length c,.func (.func 112) #[] #[]] w fun e o=>e=.returned (.bool false)∧w=o:=by
 have v:=pS A sz c w u hl
 obtain ⟨x,H⟩:=ab v h;clear v u h
 go_enter Tryz.func113,Tryz.ntmps113
 go_wp2_with fail
 refine x.out.mono ?_
 rintro e o ⟨⟨d,rfl,y,i⟩,rfl⟩
 have B:d<0:=i.2 H.out
 clear i
 go_wp2
 go_ret
 exact ⟨bD (by simp;omega),rfl⟩
theorem rO (m N:Nat) (P S:Nat) (v0 v1 v2:Value) (w:World) (o:w.heap[P]?=some (.cells #[.pointer (some ⟨S,0,none⟩)] 159 (0,0)))
  (h:w.heap[S]?=some (.cells #[v0,v1,v2,FQ N] 212 (0,0))) (J:N≤17592202821632) (hm:m≤17592202821632):
  Calls Tryz.prog 114 #[FQ m,.pointer (some ⟨P,0,none⟩)] w fun e u=>e=.returned (.agg #[FQ N,FQ ((N+m:Nat):Int)])∧u.heap[S]?=some (.cells #[v0,v1,v2,FQ ((N+m:Nat):Int)] 212 (0,0))∧Keep (fun i=>i=S) w u:=by
 obtain ⟨D,I⟩:=bx1 o
 obtain ⟨⟨s0,s1,s2,C⟩,H⟩:=bx4 h
 have A:=EL o
 have y:=EL h
 have B:=aa h;clear h o
 rw [Int.natCast_add]
 go_enter Tryz.func114,Tryz.ntmps114
 go_wp2_with fail
 go_region
 all_goals go_wp2_with fail
 refine E7 (v:=.agg #[FQ N,FQ ((N:Int)+(m:Int))]) (by simp [results,Tryz.results114,go_sem]) rfl ⟨rfl,?_,?_⟩
 ·have x:(w.setCell ⟨S,3,none⟩ (FQ ((N:Int)+(m:Int)))).heap[S]?=some (.cells #[v0,v1,v2,FQ ((N:Int)+(m:Int))] 212 (0,0)):=FN w S 3 _ _ _ B.out
  have l1:=EL x
  exact (E0 _ _ S (by simp at l1 ⊢;omega)).trans ((E0 _ _ S l1).trans x)
 ·exact (((Keep.setCell (S:=fun i=>i=S) (Keep.refl _ w) ⟨S,3,none⟩ (.inr rfl) _).alloc _).alloc _).drew
theorem jq {T:TypeId} {B:Nat} {u v:World} {b:Nat} {sz:List Int} (h:aY T (dX B u) b sz) (i:Agr B u v):aY T v b sz:=by
 obtain ⟨A1,c1,x,c2,o,c3,C,A,y,D⟩:=h
 exact ⟨A1,c1,x,c2,o,c3,mC C i,iE A i,iE y i,iE D i⟩
theorem iW:cH Tryz.prog 170 148 (.agg #[FQ 0,FQ 0]) 2 16:=⟨Tryz.underlying170,info_parts (by kernel_rfl),rfl,by decide⟩
def EE (sz:List Int) (o:Value) (P S:Nat) (k:Nat) (u w:World):Prop:=
 ∃A1 c1 h c2,w.heap[P]?=some (.cells #[.pointer (some ⟨S,0,none⟩)] 159 (0,0))∧w.heap[S]?=some (.cells #[o,.slice A1 k c1,.slice h k c2,FQ (aZ sz k:Int)] 212 (0,0))∧
  w.ownsRow S 148 2 (.slice A1 k c1) k (j8 sz k)∧w.ownsRow S 148 2 (.slice h k c2) k (kF sz k)∧(∀i,(Value.slice A1 k c1).ownBlock=some i→(Value.slice h k c2).ownBlock≠some i)∧Below S u w
theorem tB (A:Option Addr) (sz:List Int) (c:Nat) (w:World) (hc:sz.length≤c) (hm:c≤9223372036854775807) (h:¬(2≤sz.length∧sz.length≤16)):
  Calls Tryz.prog 77 #[.slice A sz.length c] w fun e i=>e=.returned (.tuple #[.pointer none,FQ 5])∧w=i:=by
 by_cases u:sz.length<2
 ·go_enter Tryz.func77,Tryz.ntmps77
  go_wp2
  go_ret2
  exact ⟨rfl,rfl⟩
 ·have o:16<sz.length:=by omega
  go_enter Tryz.func77,Tryz.ntmps77
  go_wp2
  go_ret2
  exact ⟨rfl,rfl⟩
theorem tA (A:Option Addr) (sz:List Int) (c:Nat) (w:World) (v:Rd w A (ar .i64 sz)) (hc:sz.length≤c) (hm:c≤9223372036854775807) (h:2≤sz.length∧sz.length≤16) (hb:¬∀k,k<sz.length→1≤nth sz k∧nth sz k≤1048576):
  Calls Tryz.prog 77 #[.slice A sz.length c] w fun e u=>e=.returned (.tuple #[.pointer none,FQ 5])∧w=u:=by
 obtain ⟨y,x⟩:=h
 have i:=qI A sz c w v (by omega) hb
 have o:=aa i;clear i hb v
 go_enter Tryz.func77,Tryz.ntmps77
 go_wp2_with fail
 refine o.out.mono ?_
 rintro e u ⟨rfl,rfl⟩
 go_wp2
 go_ret2
 exact ⟨rfl,rfl⟩
theorem qZ (A:Option Addr) (sz:List Int) (c:Nat) (w:World) (hA:Rd w A (ar .i64 sz)) (hc:sz.length≤c) (hm:c≤9223372036854775807) (h:bE sz):
  Calls Tryz.prog 77 #[.slice A sz.length c] w fun e D=>Below w.heap.size w D∧((1048576<aZ sz (sz.length-1)∧e=.returned (.tuple #[.pointer none,FQ 4]))∨
   (aZ sz (sz.length-1)≤1048576∧∃b,e=.returned (.tuple #[.pointer (some ⟨b,0,none⟩),FQ 0])∧aY 212 (dX w.heap.size D) b sz∧w.heap.size≤b)):=by
 obtain ⟨b,o,rfl,_⟩:=hA.num (show 0<sz.length by have:=h.1.1;omega)
 have bn:=sM (some ⟨b,o,none⟩) sz c w hA (by have:=h.1.2;omega) h.2
 have bv:=iU (some ⟨b,o,none⟩) sz c w hA (by have:=h.1.2;omega)
 obtain ⟨n,hn⟩:∃n,sz.length=n:=⟨_,rfl⟩
 obtain ⟨h1,h2⟩:=h.1
 rw [hn] at h1 h2 bn bv hc ⊢
 have el:¬(c=1):=by omega
 have ej:1≤c:=by omega
 obtain ⟨e4,e7,d2,HR,Hn⟩:=ag bn bv hA h hn;clear bn bv hA h hn
 go_enter Tryz.func77,Tryz.ntmps77
 go_wp2_with fail
 refine e4.out.mono ?_
 rintro e D ⟨rfl,rfl⟩
 go_wp2_with fail
 refine e7.out.mono ?_
 rintro e u ⟨v,rfl,U,hb⟩
 obtain ⟨Ac,cc,rfl,cx⟩:=av U
 obtain ⟨d3,Hb,ek⟩:=ae U hb cx;clear U hb cx
 go_wp2_with fail
 go_loopw [30] (fun i wr=>∃k:Nat,k≤n-1∧i=FQ k∧EE sz (.slice Ac n cc) (u.heap.size+1) u.heap.size k u wr) (fun i _=>n-(intOf i).toNat)
 case atStart=>
  refine ⟨0,EQ _,rfl,none,0,none,0,?_,?_,EZ _ _ _ _,EZ _ _ _ _,(fun i y=>by cases y),?_⟩
  ·have:=EN (u.alloc (.cells #[.slice Ac n cc,FR,FR,FQ 0] 212)) (.cells #[.pointer (some ⟨u.heap.size,0,none⟩)] 159)
   simpa using this
  ·exact (E0 _ _ _ (by simp)).trans (EN u _)
  ·exact ak
 case round=>
  obtain ⟨k,hk,rfl,A1,c1,A2,c2,hP,hS,cq,cd,bw,hW⟩:=hrel
  have b0:k<sz.length:=by rw [Hn.out];omega
  have dT:=HR.out.bound b0
  obtain ⟨x0,xf⟩:=bx1 hP
  obtain ⟨⟨s0,s1,s2,s3⟩,sf⟩:=bx4 hS
  have dk:=EL hP
  have dp:=EL hS
  obtain ⟨HP,HS,b2,b4,HN,HW⟩:=ah hP hS cq cd bw hW;clear hP hS cq cd bw hW
  by_cases ef:k<n-1
  ·have C:k+1<sz.length:=by rw [Hn.out];omega
   have co:=HR.out.mul C
   have z0:=HR.out.at b0
   have z1:=HR.out.at C
   obtain ⟨_,_,e',p0⟩:=d2.out.num b0
   injection e' with e';injection e' with e1 e2 _;subst e1;subst e2
   obtain ⟨_,_,e',p1⟩:=d2.out.num C
   injection e' with e';injection e' with e1 e2 _;subst e1;subst e2
   have bV:b<w.heap.size:=au p0
   have cw:b<u.heap.size:=by have:=Hb.out.size;omega
   have bi:=((Hb.out.trans (HW.out.mono Hb.out.size)).cell (p:=⟨b,o+k,none⟩) bV).trans p0
   have ds:=((Hb.out.trans (HW.out.mono Hb.out.size)).cell (p:=⟨b,o+(k+1),none⟩) bV).trans p1
   rw [z0.2.2] at bi
   rw [z1.2.2,show o+(k+1)=o+1+k by omega] at ds
   have J:cX sz k=aZ sz k+szN sz (k+1)*szN sz k:=rfl
   obtain ⟨p,hp⟩:∃p,szN sz (k+1)*szN sz k=p:=⟨_,rfl⟩
   rw [hp] at co J
   have I:=fun W (h1:W.heap[u.heap.size+1]?=_) (h2:W.heap[u.heap.size]?=_)=>rO p (aZ sz k) (u.heap.size+1) u.heap.size (.slice Ac n cc) (.slice A1 k c1) (.slice A2 k c2) W h1 h2 dT (by omega)
   rw [←J] at I
   have e0:(szN sz (k+1):Int)*(szN sz k:Int)=(p:Int):=by rw [←Int.natCast_mul,hp]
   have dG:IntKind.i64.wrap (p:Int)=(p:Int):=ER _ (by omega)
   obtain ⟨cv,eb⟩:=ab I J;clear I p0 p1 z0 z1 J
   have ei:(k:Int)<n:=by omega
   go_wp2_with fail
   have x:(fun D:World=>D.cell? ⟨u.heap.size+1,0,none⟩=some (.pointer (some ⟨u.heap.size,0,none⟩))∧D.cell? ⟨u.heap.size,1,none⟩=some (.slice A1 k c1)∧D.cell? ⟨b,o+k,none⟩=some (FQ (szN sz k))) wr.drew:=⟨x0,s1,bi⟩
   refine XA.g 15 (fun D:World=>D.cell? ⟨u.heap.size+1,0,none⟩=some (.pointer (some ⟨u.heap.size,0,none⟩))∧D.cell? ⟨u.heap.size,1,none⟩=some (.slice A1 k c1)∧D.cell? ⟨b,o+k,none⟩=some (FQ (szN sz k))) ?_
   refine XA.t ?_ [0,1,2,3,4,5,6,7,8,9,10,11] x ?_
   refine XA.o 12 (fun K H=>?_)
   go_simp
   refine (cv.out wr.drew HP.out HS.out).mono ?_
   rintro e w3 ⟨rfl,b1,a2⟩
   have g0:=a2.cell (p:=⟨u.heap.size+1,0,none⟩) x0 (by simp)
   have g1:=EO w3 _ 1 _ _ _ b1
   have g2:=a2.cell (p:=⟨b,o+k,none⟩) bi (by simp;omega)
   have l0:u.heap.size+1<w3.heap.size:=au g0
   have l1:u.heap.size<w3.heap.size:=au g1
   have l2:b<w3.heap.size:=au g2
   obtain ⟨c6,T⟩:=ab b1 a2;clear b1 a2
   dsimp only
   refine H.out _ _ ⟨g0,g1,g2⟩ (fun x=>?_)
   clear H K
   refine XA.o 13 (fun K H=>?_)
   go_simp
   refine H.out _ _ ⟨ax g0 _,ax g1 _,ax g2 _⟩ (fun x=>?_)
   clear H K
   have cj:=T.out.own (bC b2.out 1) (fun i y e=>an HS.out (by decide) b2.out (by rw [y,e]))
   have ci:=(T.out.block _ (EL HP.out) (by omega)).trans HP.out
   obtain ⟨Z,bN⟩:=ab cj ci;clear cj ci
   refine XA.o 14 (fun K H=>?_)
   refine bS iW (.tmp 39) (.tmp 48) rfl rfl u.heap.size (.slice A1 k c1) k (j8 sz k) rfl (Z.out.alloc _) (some ⟨w3.heap.size,0,none⟩) 1 1 [FQ (aZ sz k:Int),FQ (cX sz k:Int)] rfl (fk w3 _ _ _ rfl) rfl (by simp [Value.oneCell']) (by omega) (by unfold maxLen;omega) (by simp;omega) ?_
   intro A4 c4 w4 d1 d7 Y bM
   have b7:=cC bN.out (by decide) Z.out Y
   have a5:=cC c6.out (by decide) Z.out Y
   have i0:=EO w4 _ 0 _ _ _ b7
   have i1:=EO w4 _ 1 _ _ _ a5
   have i2:=vc g2 cw Z.out Y
   have i3:=EV w4 _ 1 _ _ a5
   obtain ⟨b8,bO,a1,cf,cr,bA⟩:=ah d1 b7 a5 Y bM d7;clear d1 b7 a5 Y bM d7
   dsimp only
   refine H.out _ _ ⟨i0,i1,i2⟩ (fun x=>?_)
   clear H K x
   refine XA.e ?_
   simp only [Fm,Fo]
   go_wp2_with fail
   obtain ⟨L,a4⟩:=pF (T.out.own (bC b4.out 1) (fun i y e=>an HS.out (by decide) b4.out (by rw [y,e]))) HN.out cf.out cr.out
   have O:=(Below.heap_setCell w4 ⟨u.heap.size,1,none⟩ (.slice A4 (k+1) c4) (u.heap.size+1) (by simp)).trans bO.out
   have Q:=FN w4 u.heap.size 1 _ _ (.slice A4 (k+1) c4) a1.out
   have bb:Keep (fun i=>i=u.heap.size) w4 (w4.setCell ⟨u.heap.size,1,none⟩ (.slice A4 (k+1) c4)):=Keep.setCell (S:=fun i=>i=u.heap.size) (Keep.refl _ _) ⟨u.heap.size,1,none⟩ (.inr rfl) _
   have a0:=bb.own b8.out (fun i y e=>an a1.out (by decide) b8.out (by rw [y,e]))
   have V:=bb.own L (fun i y e=>an a1.out (by decide) L (by rw [y,e]))
   have bd:Below u.heap.size u (w4.setCell ⟨u.heap.size,1,none⟩ (.slice A4 (k+1) c4)):=
    ((HW.out.drew.trans ((T.out.toBelow (B:=u.heap.size) (by simp;omega) (fun i y=>by omega)))).trans ((((EP _ w3).alloc (by omega) _)).trans bA.out)).setCell (by simp) _
   rw [←jK] at a0
   obtain ⟨w5,cb⟩:∃w5,w5=w4.setCell ⟨u.heap.size,1,none⟩ (.slice A4 (k+1) c4):=⟨_,rfl⟩
   rw [←cb] at O Q a0 V bd ⊢
   clear cb bb L i0 i1 i2 i3 g0 g1 g2 l0 l1 l2 x0 xf s0 s1 s2 s3 sf
   obtain ⟨x0,xf⟩:=bx1 O
   have y2:=EO w5 _ 2 _ _ _ Q
   have b5:=fl sz k
   have z1:=(HR.out.at C).2.1
   have ec:=HR.out.bound C
   have I:=fun W (h1:W.heap[u.heap.size+1]?=_) (h2:W.heap[u.heap.size]?=_)=>rO (szN sz (k+1)) (cX sz k) (u.heap.size+1) u.heap.size (.slice Ac n cc) (.slice A4 (k+1) c4) (.slice A2 k c2) W h1 h2 (by omega) (by omega)
   rw [b5] at I
   have dk:=EL O
   have dp:=EL Q
   obtain ⟨e6,bl,b6,bI,a8,dn,e5,ee⟩:=aj I O Q a0 V a4 bd b5;clear I O Q a0 V a4 bd b5 cv T c6 Z bN b8 bO a1 cf cr bA e0 dG
   go_wp2_with fail
   have x:(fun D:World=>D.cell? ⟨u.heap.size+1,0,none⟩=some (.pointer (some ⟨u.heap.size,0,none⟩))∧D.cell? ⟨u.heap.size,2,none⟩=some (.slice A2 k c2)) w5.drew:=⟨x0,y2⟩
   refine XA.g 10 (fun D:World=>D.cell? ⟨u.heap.size+1,0,none⟩=some (.pointer (some ⟨u.heap.size,0,none⟩))∧D.cell? ⟨u.heap.size,2,none⟩=some (.slice A2 k c2)) ?_
   refine XA.t ?_ [0,1,2,3,4,5,6] x ?_
   refine XA.o 7 (fun K H=>?_)
   go_simp
   refine (e6.out w5.drew bl.out b6.out).mono ?_
   rintro e w6 ⟨rfl,bo,b3⟩
   have g0:=b3.cell (p:=⟨u.heap.size+1,0,none⟩) x0 (by simp)
   have g1:=EO w6 _ 2 _ _ _ bo
   have l0:u.heap.size+1<w6.heap.size:=au g0
   obtain ⟨dw,a7⟩:=ab bo b3;clear bo b3
   dsimp only
   refine H.out _ _ ⟨g0,g1⟩ (fun x=>?_)
   clear H K
   refine XA.o 8 (fun K H=>?_)
   go_simp
   refine H.out _ _ ⟨ax g0 _,ax g1 _⟩ (fun x=>?_)
   clear H K
   have d0:=a7.out.own (bC a8.out 1) (fun i y e=>an b6.out (by decide) a8.out (by rw [y,e]))
   have cl:=(a7.out.block _ (EL bl.out) (by omega)).trans bl.out
   obtain ⟨bh,dv⟩:=ab d0 cl;clear d0 cl
   refine XA.o 9 (fun K H=>?_)
   refine bS iW (.tmp 56) (.tmp 60) rfl rfl u.heap.size (.slice A2 k c2) k (kF sz k) rfl (bh.out.alloc _) (some ⟨w6.heap.size,0,none⟩) 1 1 [FQ (cX sz k:Int),FQ (aZ sz (k+1):Int)] rfl (fk w6 _ _ _ rfl) rfl (by simp [Value.oneCell']) (by omega) (by unfold maxLen;omega) (by simp;omega) ?_
   intro A7 c7 w7 bX d5 a3 cs
   have b9:=cC dv.out (by decide) bh.out a3
   have a6:=cC dw.out (by decide) bh.out a3
   have i0:=EO w7 _ 0 _ _ _ b9
   have i1:=EO w7 _ 2 _ _ _ a6
   have i3:=EV w7 _ 2 _ _ a6
   obtain ⟨c8,da,bs,d9,ea,dr⟩:=ah bX b9 a6 a3 cs d5;clear bX b9 a6 a3 cs d5
   dsimp only
   refine H.out _ _ ⟨i0,i1⟩ (fun x=>?_)
   clear H K x
   refine XA.e ?_
   simp only [Fm,Fo]
   go_wp2_with fail
   obtain ⟨L,a4⟩:=pF (a7.out.own (bC bI.out 1) (fun i y e=>an b6.out (by decide) bI.out (by rw [y,e]))) (fun i y e=>dn.out i e y) d9.out ea.out
   have e8:=(Below.heap_setCell w7 ⟨u.heap.size,2,none⟩ (.slice A7 (k+1) c7) (u.heap.size+1) (by simp)).trans da.out
   have d8:=FN w7 u.heap.size 2 _ _ (.slice A7 (k+1) c7) bs.out
   have cn:Keep (fun i=>i=u.heap.size) w7 (w7.setCell ⟨u.heap.size,2,none⟩ (.slice A7 (k+1) c7)):=Keep.setCell (S:=fun i=>i=u.heap.size) (Keep.refl _ _) ⟨u.heap.size,2,none⟩ (.inr rfl) _
   have bz:=cn.own c8.out (fun i y e=>an bs.out (by decide) c8.out (by rw [y,e]))
   have ct:=cn.own L (fun i y e=>an bs.out (by decide) L (by rw [y,e]))
   have e3:Below u.heap.size u (w7.setCell ⟨u.heap.size,2,none⟩ (.slice A7 (k+1) c7)):=
    ((e5.out.drew.trans ((a7.out.toBelow (B:=u.heap.size) (by simp;omega) (fun i y=>by omega)))).trans ((((EP _ w6).alloc (by omega) _)).trans dr.out)).setCell (by simp) _
   rw [←j4] at bz
   go_roundw
   case rel=>exact ⟨k+1,by omega,by go_num,A4,c4,A7,c7,e8,d8,ct,bz,fun i y e=>a4 i e y,e3⟩
   case measure=>simp [intOf];omega
  ·obtain rfl:k=n-1:=by omega
   have N:sz.length-1=n-1:=by rw [Hn.out]
   have d6:aY 212 (dX w.heap.size wr) u.heap.size sz:=by
    have e9:=Hb.out.size
    refine ⟨Ac,cc,A1,c1,A2,c2,?_,?_,?_,?_⟩
    ·rw [Hn.out,fh e9];exact HS.out
    ·exact Rd.own (dC (aq d3.out HW.out) (EM _))
    ·rw [N];exact Rd.own (dC b2.out (by omega))
    ·rw [N];exact Rd.own (dC b4.out (by omega))
   have ad:Below w.heap.size w wr:=Hb.out.trans (HW.out.mono Hb.out.size)
   obtain ⟨c9,R,bG⟩:=ae d6 ad Hb.out.size;clear d6 ad N
   by_cases d4:1048576<aZ sz (n-1)
   ·have dc:(1048576:Int)<aZ sz (n-1):=by omega
    go_wp2_with fail
    go_ret2
    exact ⟨R.out,.inl ⟨d4,rfl⟩⟩
   ·have dc:¬(1048576:Int)<aZ sz (n-1):=by omega
    go_wp2_with fail
    go_ret2
    first | exact ⟨R.out,by omega,_,rfl,c9.out,bG.out⟩ | exact ⟨R.out,.inr ⟨by omega,_,rfl,c9.out,bG.out⟩⟩
theorem lw (n size:Nat) (w:World) (hn:n≤1048576) (H:1≤size) (x:size≤1048576):
  Calls Tryz.prog 123 #[FQ n,FQ size] w fun e v=>e=.returned (FQ (bT n size:Int))∧w=v:=by
 have C:¬((size:Int)<1):=by omega
 by_cases u:n=0
 ·subst u
  go_enter Tryz.func123,Tryz.ntmps123
  go_wp2
  go_ret
  exact ⟨rfl,rfl⟩
 ·have A:¬((n:Int)<1):=by omega
  have i:(0:Int)≤(n:Int)-1:=by omega
  have he:=yz n size (by omega)
  have o:=Nat.div_le_self (n-1) size
  have hc:bT n size=(n-1)/size+1:=by unfold bT;rw [if_neg u]
  rw [hc]
  obtain ⟨y,h⟩:∃y,(n-1)/size=y:=⟨_,rfl⟩
  rw [h] at he o ⊢
  have B:((n:Int)-1).tdiv size=y:=by rw [Int.tdiv_eq_ediv_of_nonneg i,he]
  obtain ⟨I,D⟩:=ab h hc;clear h hc u
  go_enter Tryz.func123,Tryz.ntmps123
  go_wp2
  go_ret
  exact ⟨rfl,rfl⟩
theorem iX (n size:Nat) (w:World) (hn:n≤1048576) (hs:1≤size) (T:size≤1048576):
  Calls Tryz.prog 119 #[FQ n,FQ size] w fun e Q=>∃v,e=.returned v∧Q.ownsRow w.heap.size 148 2 v (bT n size) (dS n size (bT n size))∧Below w.heap.size w Q:=by
 have D:=lw n size w hn hs T
 have Y:=dR n size
 have A:=fun k (h:k<bT n size)=>ft h
 obtain ⟨m,hm⟩:∃m,bT n size=m:=⟨_,rfl⟩
 rw [hm] at D Y A ⊢
 obtain ⟨R,U⟩:=ab D A;clear D hm A
 go_enter Tryz.func119,Tryz.ntmps119
 go_wp2_with fail
 refine R.out.mono ?_
 rintro e Q ⟨rfl,rfl⟩
 go_wp2_with fail
 go_loopw [5,11] (fun v x wr=>∃k:Nat,k≤m∧x=FQ k∧wr.ownsRow w.heap.size 148 2 v k (dS n size k)∧Below w.heap.size w wr) (fun _ x _=>m-(intOf x).toNat)
 case atStart=>exact ⟨0,EQ _,rfl,EZ _ _ _ _,EP _ _⟩
 case round=>
  obtain ⟨k,hk,rfl,i,hb⟩:=hrel
  by_cases O:k<m
  ·have V:=U.out k O
   obtain ⟨y,N⟩:∃y,k*size=y:=⟨_,rfl⟩
   rw [N] at V
   have a0:(k:Int)*(size:Int)=(y:Int):=by rw [←N];push_cast;rfl
   obtain ⟨Z,cl,rfl,_⟩:=av i
   obtain ⟨Hy,o,J⟩:=ae N i hb;clear i hb N
   by_cases a1:(size:Int)≤(n:Int)-y
   ·have L:(y:Int)+size≤n:=by omega
    go_wp2_with (at_builtin;refine be iW _ rfl (.tmp 17) (.tmp 27) rfl w.heap.size (.slice Z k cl) k _ rfl o.out [FQ (y:Int),FQ ((y:Int)+size)] rfl rfl (bj .i64 [_,_]) (by omega) (by unfold maxLen;omega) J.out.size ?_)
    intro g6 c6 w6 u B I
    obtain ⟨H,C⟩:=ab u (J.out.trans B);clear u B I
    go_wp2_with fail
    go_roundw
    case rel=>
     refine ⟨k+1,by omega,by go_num,?_,C.out⟩
     rw [fK,Hy.out,show ((min (y+size) n:Nat):Int)=(y:Int)+size by omega]
     exact H.out
    case measure=>simp [intOf];omega
   ·have L:(n:Int)-y<size:=by omega
    go_wp2_with (at_builtin;refine be iW _ rfl (.tmp 17) (.tmp 27) rfl w.heap.size (.slice Z k cl) k _ rfl o.out [FQ (y:Int),FQ ((y:Int)+((n:Int)-y))] rfl rfl (bj .i64 [_,_]) (by omega) (by unfold maxLen;omega) J.out.size ?_)
    intro g6 c6 w6 u B I
    obtain ⟨H,C⟩:=ab u (J.out.trans B);clear u B I
    go_wp2_with fail
    go_roundw
    case rel=>
     refine ⟨k+1,by omega,by go_num,?_,C.out⟩
     rw [fK,Hy.out,show ((min (y+size) n:Nat):Int)=(y:Int)+((n:Int)-y) by omega]
     exact H.out
    case measure=>simp [intOf];omega
  ·obtain rfl:m=k:=by omega
   obtain ⟨o,J⟩:=ab i hb;clear i hb
   go_wp2_with fail
   go_ret
   exact ⟨_,rfl,o.out,J.out⟩
theorem iJ (a b:Nat) (w:World) (v:a≤1048576) (hb:b≤1048576):
  Calls Tryz.prog 175 #[.agg #[FQ a,FQ b]] w fun e o=>e=.returned (FQ ((b-a:Nat):Int))∧Below w.heap.size w o:=by
 have hB:Below w.heap.size w (w.alloc (.cells #[FQ a,FQ b] 148)):=(br w).alloc (EM _) _
 by_cases h:a≤b
 ·have u:¬((b:Int)-a<0):=by omega
  have i:((b-a:Nat):Int)=(b:Int)-a:=by omega
  rw [i]
  clear i
  go_enter Tryz.func175,Tryz.ntmps175
  go_wp2
  go_ret
  exact ⟨aF (by first | rfl | omega | (simp;omega)),hB⟩
 ·have u:(b:Int)-a<0:=by omega
  have i:((b-a:Nat):Int)=0:=by omega
  rw [i]
  clear i
  go_enter Tryz.func175,Tryz.ntmps175
  go_wp2
  go_ret
  exact ⟨aF (by first | rfl | omega | (simp;omega)),hB⟩
theorem yH (i n k U bk:Nat) (w:World) (hn:w.heap[U]?=some (.cells #[FQ n] 3 (0,0))) (hk:w.heap[bk]?=some (.cells #[FQ k] 3 (0,0))) (h1:1≤k) (h2:k≤1048576) (h3:n≤1048576) (hi:i≤k):
  Calls Tryz.prog 187 #[FQ i,.pointer (some ⟨U,0,none⟩),.pointer (some ⟨bk,0,none⟩)] w fun e o=>e=.returned (FQ (bdN n k i:Int))∧Below w.heap.size w o:=by
 have tn:=fun o q=>bx1 (sb hn o q)
 have tk:=fun o q=>bx1 (sb hk o q)
 have I:=br w
 have Z:¬(k=0):=by omega
 have v:(n:Int).tdiv (k:Int)=((n/k:Nat):Int):=rfl
 have H:(n:Int)/(k:Int)=((n/k:Nat):Int):=rfl
 have C:(n:Int).tmod (k:Int)=((n%k:Nat):Int):=rfl
 have x:(n:Int)%(k:Int)=((n%k:Nat):Int):=rfl
 have D:=eT n k i (by omega) hi
 have h:bdN n k i=i*(n/k)+min i (n%k):=rfl
 have R:n/k≤n:=Nat.div_le_self _ _
 obtain ⟨q,V⟩:∃q,n/k=q:=⟨_,rfl⟩
 obtain ⟨r,hr⟩:∃r,n%k=r:=⟨_,rfl⟩
 obtain ⟨p,O⟩:∃p,i*q=p:=⟨_,rfl⟩
 have hm:(i:Int)*(q:Int)=(p:Int):=by rw [←O];push_cast;rfl
 rw [V] at v H h R
 rw [hr] at C x h
 rw [O] at h
 have Y:p≤1048576:=by omega
 have Q:IntKind.i64.wrap (p:Int)=p:=ER _ (by omega)
 have N:IntKind.i64.wrap (q:Int)=q:=ER _ (by omega)
 obtain ⟨d,T⟩:∃d,bdN n k i=d:=⟨_,rfl⟩
 rw [T] at D h ⊢
 have y:=aa h;clear hn hk V hr O T h D
 go_enter Tryz.func187,Tryz.ntmps187
 go_wp2_with fail
 refine HA.g (fun o:World=>Below w.heap.size w o) ?_
 refine HA.t ?_ [0,1,2,3,4,5,6,7,8] I.drew ?_
 obtain ⟨u,B⟩:∃u:Nat,min i r=u:=⟨_,rfl⟩
 have A:(if r<i then (r:Int) else (i:Int))=(u:Int):=by rw [←B];split<;>omega
 have L:IntKind.i64.wrap ((p:Int)+(u:Int))=(p:Int)+u:=ER _ (by omega)
 refine HA.t ?_ [9] I.drew ?_
 refine HA.t ?_ [10,11] I.drew ?_
 refine HA.d ?_
 have hB:=I.drew
 have J:=aa (show (p:Int)+u=(d:Int) by have:=y.out;omega);clear B A Q N L v H C x hm
 go_wp2_with fail
 go_ret
 exact ⟨aF J.out,hB⟩
theorem nJ (n k:Nat) (w:World) (h1:1≤k) (h2:k≤1048576) (h3:n≤1048576):
  Calls Tryz.prog 174 #[FQ n,FQ k] w fun e u=>∃v,e=.returned v∧u.ownsRow w.heap.size 148 2 v k (az (eh n k))∧Below w.heap.size w u:=by
 have a1:¬((n:Int)<0):=by omega
 have a6:¬((k:Int)<1):=by omega
 obtain ⟨h,o⟩:∃h,(w.alloc (.cells #[FQ n] 3)).alloc (.cells #[FQ k] 3)=h:=⟨_,rfl⟩
 have hn:h.heap[w.heap.size]?=some (.cells #[FQ n] 3 (0,0)):=by
  rw [←o,E0 _ _ _ (by simp)];exact EN w _
 have hk:h.heap[w.heap.size+1]?=some (.cells #[FQ k] 3 (0,0)):=by
  rw [←o];have:=EN (w.alloc (.cells #[FQ n] 3)) (.cells #[FQ k] 3);simpa using this
 have H:h.heap.size=w.heap.size+1+1:=by rw [←o];simp
 have L:Below w.heap.size w h:=by rw [←o];exact ((br w).alloc (EM _) _).alloc (by simp) _
 have tn:=fun u q=>bx1 (sb hn u q)
 have tk:=fun u q=>bx1 (sb hk u q)
 have O:=fun i u (q:Below h.heap.size h u) (hi:i≤k)=>yH i n k w.heap.size (w.heap.size+1) u (sb hn u q) (sb hk u q) h1 h2 h3 hi
 have N:=fun i (hi:i≤k)=>eT n k i (by omega) hi
 obtain ⟨U,D,a3,T,C⟩:=ag o O N H L;clear o hn hk O N H L
 go_enter Tryz.func174,Tryz.ntmps174
 have q0:=br h
 go_wp2_with fail
 rw [U.out]
 go_loopw [6,16] (fun v x wr=>∃m:Nat,m≤k∧x=FQ m∧wr.ownsRow h.heap.size 148 2 v m (az ((List.range m).map fun i=>(bdN n k i,bdN n k (i+1))))∧Below h.heap.size h wr) (fun _ x _=>k-(intOf x).toNat)
 case atStart=>exact ⟨0,EQ _,rfl,EZ _ _ _ _,q0⟩
 case round=>
  obtain ⟨m,hm,rfl,J,q⟩:=hrel
  by_cases a2:m<k
  ·have a4:(m:Int)<k:=by omega
   obtain ⟨A,c,rfl,_⟩:=av J
   have Q:=aa J;clear J
   go_wp2_with fail
   refine (D.out m wr q (by omega)).mono ?_
   rintro e w1 ⟨rfl,R⟩
   have V:=bt q R
   have O1:=aa (aq Q.out R)
   have a5:IntKind.i64.wrap ((m:Int)+1)=((m+1:Nat):Int):=by rw [ER _ (by omega)];push_cast;rfl
   clear R q
   go_wp2_with fail
   have y:=D.out (m+1) w1 V (by omega)
   rw [show ((m+1:Nat):Int)=(m:Int)+1 from by omega] at y
   refine y.mono ?_
   rintro e w2 ⟨rfl,k2⟩
   have q2:=bt V k2
   have O2:=aa (aq O1.out k2)
   have Y:=q2.size
   clear y k2 V O1 Q
   go_wp2_with (at_builtin;refine be iW _ rfl (.tmp 19) (.tmp 28) rfl h.heap.size (.slice A m c) m _ rfl O2.out [FQ (bdN n k m:Nat),FQ (bdN n k (m+1):Nat)] rfl rfl (bj .i64 [_,_]) (by omega) (by unfold maxLen;omega) Y ?_)
   intro g6 c6 w6 B I a0
   have Z:=aa B
   have q6:=q2.trans I
   clear B I a0 q2
   go_wp2_with fail
   go_roundw
   case rel=>exact ⟨m+1,by omega,by go_num,by rw [nK,fb];exact Z.out,q6⟩
   case measure=>simp [intOf];omega
  ·obtain rfl:k=m:=by omega
   have Q:=aa (aA (base':=w.heap.size) J (by have:=T.out;omega))
   have hB:=C.out.trans (q.mono C.out.size)
   have HB:=aa hB;clear J hB
   go_wp2_with fail
   go_ret
   exact ⟨_,rfl,Q.out,HB.out⟩
theorem bq (l:List Rg) (j:Nat) (h:j<l.length):ay l j=l[j]:=by simp [ay,List.getD,h]
theorem dm {l:List Rg} {j:Nat} (h:j<l.length):(az l)[j*2]?=some (FQ ((ay l j).1:Int))∧(az l)[j*2+1]?=some (FQ ((ay l j).2:Int)):=ju (by rw [bq l j h];simp [h])
theorem mZ:∀(l:List Rg) (j:Nat) (r:Rg),((az l).set (j*2) (FQ (r.1:Int))).set (j*2+1) (FQ (r.2:Int))=az (l.set j r)
 | [],_,_=>rfl
 | x::l,0,r=>rfl
 | x::l,j+1,r=>by
  have h:=mZ l j r
  have e:∀y (m:List Rg),az (y::m)=FQ (y.1:Int)::FQ (y.2:Int)::az m:=fun y m=>by simp [az]
  rw [e,Fi,e,←h,show (j+1)*2=j*2+1+1 by omega,show j*2+1+1+1=(j*2+1)+1+1 by omega]
  simp only [Fi]
theorem zU {w:World} {base n g c:Nat} {l:List Rg} {e:TypeId} (h:w.ownsRow base e 2 (.slice (some ⟨g,0,none⟩) n c) n (az l)) (j:Nat) (r:Rg):
  ((w.setCell ⟨g,j*2,none⟩ (FQ (r.1:Int))).setCell ⟨g,j*2+1,none⟩ (FQ (r.2:Int))).ownsRow base e 2 (.slice (some ⟨g,0,none⟩) n c) n (az (l.set j r)):=by
 have:=((h.stored (j*2) (FQ (r.1:Int))).1.stored (j*2+1) (FQ (r.2:Int))).1
 rwa [mZ] at this
theorem fj {w:World} {base n g c:Nat} {l:List Rg} {e:TypeId} (h:w.ownsRow base e 2 (.slice (some ⟨g,0,none⟩) n c) n (az l)) {j:Nat} (i:j<n):
  w.cell? ⟨g,j*2,none⟩=some (FQ ((ay l j).1:Int))∧w.cell? ⟨g,j*2+1,none⟩=some (FQ ((ay l j).2:Int)):=by
 have hl:=h.1
 rw [jQ] at hl
 have:=dm (l:=l) (j:=j) (by omega)
 exact ⟨by rw [h.cellAt _ (by omega)];exact this.1,by rw [h.cellAt _ (by omega)];exact this.2⟩
def ki (l:List Rg) (k:Nat):List Rg:=(List.range l.length).map fun t=>if t<k∨l.length-1-t<k then ay l (l.length-1-t) else ay l t
theorem eK (l:List Rg) (k:Nat):(ki l k).length=l.length:=by simp [ki]
theorem jv {l:List Rg} {k t:Nat} (h:t<l.length):ay (ki l k) t=if t<k∨l.length-1-t<k then ay l (l.length-1-t) else ay l t:=by
 rw [bq _ _ (by rw [eK];exact h)];simp [ki]
theorem tY {a b:List Rg} (h:a.length=b.length) (hn:∀k,k<a.length→ay a k=ay b k):a=b:=List.ext_getElem h fun k i o=>by
 have:=hn k i;rwa [bq _ _ i,bq _ _ o] at this
theorem xr (l:List Rg):ki l 0=l:=tY (eK l 0) fun k hk=>by
 rw [eK] at hk;rw [jv hk,if_neg (by omega)]
theorem rq {l:List Rg} {i j:Nat} {r:Rg} (h:i<l.length):ay (l.set j r) i=if j=i then r else ay l i:=by
 rw [bq _ _ (by simpa using h),List.getElem_set,bq _ _ h]
theorem xt {l:List Rg} {k:Nat} (h:2*k+1<l.length):((ki l k).set k (ay (ki l k) (l.length-1-k))).set (l.length-1-k) (ay (ki l k) k)=ki l (k+1):=by
 refine tY (by simp [eK]) fun t x=>?_
 have i:t<l.length:=by simpa [eK] using x
 rw [rq (by simpa [eK] using i),rq (by rw [eK];exact i),jv i,jv (by omega),jv (by omega),jv i]
 by_cases u:l.length-1-k=t
 ·subst u
  rw [if_pos rfl,if_neg (by omega),if_pos (by omega),show l.length-1-(l.length-1-k)=k by omega]
 ·rw [if_neg u]
  by_cases o:k=t
  ·subst o
   rw [if_pos rfl,if_neg (by omega),if_pos (by omega)]
  ·rw [if_neg o]
   by_cases v:t<k∨l.length-1-t<k
   ·rw [if_pos v,if_pos (by omega)]
   ·rw [if_neg v,if_neg (by omega)]
theorem zY {l:List Rg} {k:Nat} (h:l.length≤2*k+1):ki l k=l.reverse:=by
 refine tY (by simp [eK]) fun t u=>?_
 have i:t<l.length:=by simpa [eK] using u
 rw [jv i,bq l.reverse t (by simpa using i),List.getElem_reverse,←bq l _ (by omega)]
 by_cases o:t<k∨l.length-1-t<k
 ·rw [if_pos o]
 ·rw [if_neg o,show l.length-1-t=t by omega]
theorem zW (A:Option Addr) (l:List Rg) (n c base:Nat) (w:World) (ho:w.ownsRow base 148 2 (.slice A n c) n (az l)) (hn:l.length=n) (hl:n≤1048576):
  Calls Tryz.prog 159 #[.slice A n c] w fun e v=>e=.returned (.tuple #[])∧v.ownsRow base 148 2 (.slice A n c) n (az l.reverse)∧Keep (fun j=>(Value.slice A n c).ownBlock=some j) w v:=by
 have h0:w.ownsRow base 148 2 (.slice A n c) n (az (ki l 0)):=by rw [xr];exact ho
 have x:=fun k (h:2*k+1<n)=>xt (l:=l) (k:=k) (by omega)
 have u:=fun k (h:n≤2*k+1)=>zY (l:=l) (k:=k) (by omega)
 rw [hn] at x
 obtain ⟨H0,R,H,Hn⟩:=af h0 x u hn;clear ho h0 x u hn
 go_enter Tryz.func159,Tryz.ntmps159
 go_wp2_with fail
 go_loopw [2,3] (fun i j wr=>∃k:Nat,2*k≤n+1∧i=FQ k∧j=FQ ((n:Int)-1-k)∧wr.ownsRow base 148 2 (.slice A n c) n (az (ki l k))∧Keep (fun j=>(Value.slice A n c).ownBlock=some j) w wr) (fun i _ _=>n-(intOf i).toNat)
 case atStart=>exact ⟨0,by omega,rfl,by go_num,H0.out,Keep.refl _ _⟩
 case round=>
  obtain ⟨k,hk,rfl,rfl,hr,J⟩:=hrel
  by_cases Q:2*k+1<n
  ·obtain ⟨g,rfl⟩:∃g,A=some ⟨g,0,none⟩:=by
    obtain ⟨g,e,hv,_⟩:=hr.form (by omega)
    simp only [FD] at hv
    exact ⟨g,hv.1⟩
   have L:=fj hr (show k<n by omega)
   have C:=fj hr (show n-1-k<n by omega)
   have f1:=fun j=>hr.frozenAt j
   have D:(k:Int)<(n:Int)-1-k:=by omega
   have O:(n:Int)-1-k=((n-1-k:Nat):Int):=by omega
   have Y:n-1-k<n:=by omega
   have a0:k<n:=by omega
   have U:n-1-k≠k:=by omega
   have B:¬((n-1-k)*2=k*2)∧¬((n-1-k)*2=k*2+1)∧¬((n-1-k)*2+1=k*2)∧¬((n-1-k)*2+1=k*2+1):=by omega
   obtain ⟨T,y⟩:∃r,ay (ki l k) k=r:=⟨_,rfl⟩
   obtain ⟨r2,o⟩:∃r,ay (ki l k) (n-1-k)=r:=⟨_,rfl⟩
   obtain ⟨j,I⟩:∃j,n-1-k=j:=⟨_,rfl⟩
   have N:=R.out k Q
   rw [y,o] at N
   rw [y] at L
   rw [o] at C
   rw [I] at C O Y U B N
   rw [O] at D ⊢
   obtain ⟨V,Z,Hj,Hs⟩:=af hr J O N;clear hr J O I N y o
   go_wp2_with fail
   refine XA.g 13 (fun v:World=>(v.cell? ⟨g,k*2,none⟩=some (FQ (T.1:Int))∧v.cell? ⟨g,k*2+1,none⟩=some (FQ (T.2:Int)))∧(v.cell? ⟨g,j*2,none⟩=some (FQ (r2.1:Int))∧v.cell? ⟨g,j*2+1,none⟩=some (FQ (r2.2:Int)))) ?_
   refine XA.t0 ?_ [0,1,2,3,4,5,6,8,9,10] ⟨L,C⟩ ?_
   refine XA.t ?_ [7,11] ⟨L,C⟩ ?_
   refine XA.t0 ?_ [12] ⟨L,C⟩ ?_
   refine XA.e ?_
   simp only [Fm,Fo]
   go_wp2_with fail
   go_roundw
   case rel=>exact ⟨k+1,by omega,by go_num,by have:=Hj.out;go_num,by rw [←Hs.out];exact zU (zU V.out k r2) j T,Keep.setCell (S:=fun j=>(Value.slice (some ⟨g,0,none⟩) n c).ownBlock=some j) (Keep.setCell (S:=fun j=>(Value.slice (some ⟨g,0,none⟩) n c).ownBlock=some j) (Keep.setCell (S:=fun j=>(Value.slice (some ⟨g,0,none⟩) n c).ownBlock=some j) (Keep.setCell (S:=fun j=>(Value.slice (some ⟨g,0,none⟩) n c).ownBlock=some j) Z.out.drew ⟨g,k*2,none⟩ (.inr rfl) _) ⟨g,k*2+1,none⟩ (.inr rfl) _) ⟨g,j*2,none⟩ (.inr rfl) _) ⟨g,j*2+1,none⟩ (.inr rfl) _⟩
   case measure=>simp [intOf];omega
  ·have D:¬((k:Int)<(n:Int)-1-k):=by omega
   have o:=H.out k (by omega)
   rw [o] at hr
   obtain ⟨V,Z⟩:=ab hr J;clear hr J o
   go_wp2_with fail
   go_end0
   exact ⟨rfl,V.out,Z.out⟩
theorem sW (n s:Nat) (w:World) (hn:n≤1048576) (O:1≤s) (B:s≤1048576):
  Calls Tryz.prog 124 #[FQ n,FQ s] w fun e i=>∃v,e=.returned v∧i.ownsRow w.heap.size 148 2 v (j0 n s).length (az (j0 n s))∧Below w.heap.size w i:=by
 have hb:=iX n s w hn O B
 have hl:=dR n s
 rw [←lB,←cY] at hb
 have h:=jn n s
 rw [cY] at hb
 rw [h]
 have o:=fun (A:Option Addr) c base i (N:i.ownsRow base 148 2 (.slice A (bT n s) c) (bT n s) (az (dA n s)))=>zW A (dA n s) (bT n s) c base i N (cY n s) (by omega)
 obtain ⟨J,x⟩:=ab hb o;clear hb o h hl
 go_enter Tryz.func124,Tryz.ntmps124
 go_wp2_with fail
 refine J.out.mono ?_
 rintro e I ⟨v,rfl,y,u⟩
 obtain ⟨A,c,rfl,_⟩:=av y
 have C:=aa y;clear y
 go_wp2_with fail
 refine (x.out A c _ I C.out).mono ?_
 rintro e R ⟨rfl,D,H⟩
 have hB:=u.trans (H.toBelow u.size (fun j Q=>(C.out.lt j Q).1))
 have L:=aa D;clear D u H C
 go_wp2_with fail
 go_ret
 exact ⟨_,rfl,L.out,hB⟩
theorem uI (n s:Nat) (w:World) (hn:n≤1048576) (y:1≤s) (h:s≤1048576):
  Calls Tryz.prog 125 #[FQ n,FQ s] w fun e i=>∃v,e=.returned v∧i.ownsRow w.heap.size 148 2 v (dA n s).length (az (dA n s))∧Below w.heap.size w i:=by
 have hb:=iX n s w hn y h
 rw [←lB,←cY] at hb
 have A:=aa hb;clear hb
 go_enter Tryz.func125,Tryz.ntmps125
 go_wp2_with fail
 refine A.out.mono ?_
 rintro e B ⟨v,rfl,o,u⟩
 have x:=aa o;clear o
 go_wp2_with fail
 go_ret
 exact ⟨_,rfl,x.out,u⟩
end Go.Proofs.YtgmajkppbhiopaaGreat
namespace Go.Proofs.YtgmajkppbhiopaaGreat
open Go.RowKit Go.Shelf
attribute [local go_sem] Oper.semAt_some
theorem mT (P:Program) (w:World) (a:Addr) (i:Fn) (h ca:Array Value) (m:Mode):(store a (.func i h ca) m).run P w=stored P w a (.func i h ca) m:=run_store P w a _ m rfl
attribute [local go_sem] mT
structure gE (w:World) (L S B:Nat) (A:Option Addr) (rs:List Rg) (c d:Nat) (tf:TypeId):Prop where
 l:w.heap[L]?=some (.cells #[.slice A rs.length c] 170 (0,0))
 s:w.heap[S]?=some (.cells #[.func (.func 185) #[] #[.pointer (some ⟨B,0,none⟩)]] tf (0,0))
 b:w.heap[B]?=some (.cells #[FQ d] 3 (0,0))
 r:Rd w A (az rs)
theorem gE.below {w i:World} {L S B:Nat} {A:Option Addr} {rs:List Rg} {c d:Nat} {o:TypeId} (h:gE w L S B A rs c d o) (hb:Below w.heap.size w i):gE i L S B A rs c d o:=
 ⟨sb h.l _ hb,sb h.s _ hb,sb h.b _ hb,h.r.below hb⟩
theorem uC (lo h d B:Nat) (w:World) (hB:w.heap[B]?=some (.cells #[FQ d] 3 (0,0))) (H:lo≤1048576) (D:h≤1048576) (I:d≤1048576):
  Calls Tryz.prog 185 #[.agg #[FQ lo,FQ h],.pointer (some ⟨B,0,none⟩)] w fun e C=>e=.returned (.agg #[FQ ((lo+d:Nat):Int),FQ ((h+d:Nat):Int)])∧Below w.heap.size w C:=by
 have hb:=bx1 hB
 have hl:=EL hB
 have o:((lo+d:Nat):Int)=(lo:Int)+d:=by omega
 have A:((h+d:Nat):Int)=(h:Int)+d:=by omega
 rw [o,A]
 clear o A hB
 go_enter Tryz.func185,Tryz.ntmps185
 go_wp2_with fail
 have o:=EN (w.alloc (.cells #[FQ lo,FQ h] 148)) (.cells #[FQ ((lo:Int)+d),FQ ((h:Int)+d)] 148)
 obtain ⟨y,i⟩:∃y,y=(w.alloc (.cells #[FQ lo,FQ h] 148)).alloc (.cells #[FQ ((lo:Int)+d),FQ ((h:Int)+d)] 148):=⟨_,rfl⟩
 have u:Below w.heap.size w y:=by rw [i];exact ((EP _ w).alloc (EM _) _).alloc (by simp) _
 rw [←i,Fb] at o
 rw [←i]
 have x:=bx2 o
 exact E7 (v:=.agg #[FQ ((lo:Int)+d),FQ ((h:Int)+d)]) (by simp [results,Tryz.results185,go_sem,x]) rfl ⟨rfl,u⟩
def pr (r:Rg):Array Value:=#[.agg #[FQ (r.1:Int),FQ (r.2:Int)]]
theorem wT {α:Type} {l:List α} {k:Nat} {x:α} (h:l[k]?=some x):l.take (k+1)=l.take k++[x]:=by
 rw [List.take_add_one,h];rfl
theorem lp (A:Option Addr) (rs:List Rg) (c d:Nat) (w:World) (hr:Rd w A (az rs)):
  Calls Tryz.prog 173 #[.slice A rs.length c,FQ d] w fun e u=>∃L S B,e=.returned (.func (.func 186) #[] #[.pointer (some ⟨L,0,none⟩),.pointer (some ⟨S,0,none⟩)])∧gE u L S B A rs c d 302∧(w.heap.size≤L∧w.heap.size≤S∧w.heap.size≤B)∧Below w.heap.size w u:=by
 obtain ⟨n,hn⟩:∃n,n=rs.length:=⟨_,rfl⟩
 rw [←hn]
 obtain ⟨I,H⟩:=ab hn hr;clear hn hr
 go_enter Tryz.func173,Tryz.ntmps173
 go_wp2_with fail
 have a1:=EN w (.cells #[.slice A n c] 170)
 have o:Below w.heap.size w (w.alloc (.cells #[.slice A n c] 170)):=(EP _ w).alloc (EM _) _
 have s1:=Fb w (.cells #[.slice A n c] 170)
 generalize w.alloc (.cells #[.slice A n c] 170)=W1 at *
 have x:=EN W1 (.cells #[FQ d] 3)
 have y:Below W1.heap.size W1 (W1.alloc (.cells #[FQ d] 3)):=(EP _ W1).alloc (EM _) _
 have s2:=Fb W1 (.cells #[FQ d] 3)
 generalize W1.alloc (.cells #[FQ d] 3)=W2 at *
 have C:=EN W2 (.cells #[.func (.func 185) #[] #[.pointer (some ⟨w.heap.size+1,0,none⟩)]] 302)
 have D:Below W2.heap.size W2 (W2.alloc (.cells #[.func (.func 185) #[] #[.pointer (some ⟨w.heap.size+1,0,none⟩)]] 302)):=(EP _ W2).alloc (EM _) _
 generalize W2.alloc (.cells #[.func (.func 185) #[] #[.pointer (some ⟨w.heap.size+1,0,none⟩)]] 302)=W3 at *
 have i:=y.trans (D.mono y.size)
 have h:=o.trans (i.mono o.size)
 rw [s2,s1] at C
 rw [s1] at x
 exact E7 (v:=.func (.func 186) #[] #[.pointer (some ⟨w.heap.size,0,none⟩),.pointer (some ⟨w.heap.size+1+1,0,none⟩)]) (by simp [results,Tryz.results173,go_sem]) rfl
  ⟨w.heap.size,w.heap.size+1+1,w.heap.size+1,rfl,⟨by rw [←I.out];exact sb a1 _ i,C,sb x _ D,H.out.below h⟩,⟨EM _,by omega,by omega⟩,h⟩
theorem pO (n l L S B:Nat) (A:Option Addr) (rs:List Rg) (c d:Nat) (Kp:World→World→Prop) (V:∀W D,gE W L S B A rs c d 302→Kp W D→gE D L S B A rs c d 302) (C:rs.length≤1048576) (hd:d≤1048576) (a6:∀r∈rs,r.1≤1048576∧r.2≤1048576)
  (J Jx:List Rg→World→Prop) (Bx:Nat) (hJ:AbidesFrom Bx J)
  (hY:∀u x W,J u W→x∈shR d rs→u.length<rs.length→YieldAt Fence.wide (n-1) Tryz.prog l (pr x) W fun e D=>
   (e=.returned (.bool true)∧J (u++[x]) D∧Kp W D)∨(e=.returned (.bool false)∧Jx (u++[x]) D))
  (W:World) (hA:gE W L S B A rs c d 302) (h0:J [] W):
  CallsIn Fence.wide n Tryz.prog 186 #[.func (.yield l) #[] #[],.pointer (some ⟨L,0,none⟩),.pointer (some ⟨S,0,none⟩)] W fun e D=>(∃v,e=.returned v)∧
   ((∃ys,ys=shR d rs∧J ys D)∨(∃u,True∧Jx u D)):=by
 have xL:=bx1 hA.l
 obtain ⟨O,R⟩:∃O,O=rs.length:=⟨_,rfl⟩
 rw [←R] at hY C xL
 obtain ⟨T,HA,HK⟩:=ae R hA V;clear R hA V
 refine callsIn_of_wp Tryz.func186 rfl trivial ?_ rfl
 simp only [Tryz.ntmps186,List.size_toArray,List.length_cons,List.length_nil,Nat.reduceAdd,Nat.reduceSub,Array.replicate_succ,Array.replicate_zero,List.push_toArray,List.append_toArray,List.nil_append,List.cons_append]
 gi_wp2
 gi_loopw [8] (fun i wr=>∃k:Nat,k≤O∧i=FQ k∧J ((shR d rs).take k) wr∧gE wr L S B A rs c d 302) (fun i _=>O-(intOf i).toNat)
 case atStart=>exact ⟨0,EQ _,rfl,h0,HA.out⟩
 case round=>
  obtain ⟨k,hk,rfl,y,hL⟩:=hrel
  clear xL h0 HA W
  by_cases a5:k<O
  ·obtain ⟨r,hr⟩:∃r,rs[k]?=some r:=⟨_,Fr (by rw [←T.out];exact a5)⟩
   have U:=a6 r (List.mem_of_getElem? hr)
   have I:=ju hr
   obtain ⟨g,o,rfl,c0⟩:=hL.r _ _ I.1
   obtain ⟨g',o',e',c1⟩:=hL.r _ _ I.2
   obtain ⟨rfl,rfl⟩:g'=g∧o'=o:=by simpa using e'.symm
   rw [←FH] at c1
   have xS:=bx1 hL.s
   have lS:=au xS.1
   obtain ⟨Q,Hr,HL⟩:=ae y hr hL;clear y hr I e' hL
   have C:((shR d rs).take k).length<O:=by rw [Fv,iG];omega
   have hx:(shR d rs)[k]?=some (r.1+d,r.2+d):=by simp [shR,Hr.out]
   have Hx:=aa hx
   have qa:Below wr.heap.size wr (wr.alloc (.cells #[FQ (r.1:Int),FQ (r.2:Int)] 148)):=(EP _ wr).alloc (EM _) _
   clear hx
   gi_wp2_with fail
   refine ⟨trivial,(fun h=>by cases h),?_⟩
   refine (callsIn_wide.2 (uC r.1 r.2 d B _ (HL.out.below qa).b U.1 U.2 hd)).mono ?_
   rintro e w3 ⟨rfl,a2⟩
   have N:=qa.trans (a2.mono qa.size)
   have a1:=hJ _ _ _ none Q.out (gt N) (fun _ h=>by cases h)
   obtain ⟨fn,tmps,a3,ad,hy,hR⟩:=hY _ (r.1+d,r.2+d) w3 a1 (List.mem_of_getElem? Hx.out) C
   unfold pr at hy
   dsimp only at hy
   rw [Int.natCast_add,Int.natCast_add] at hy
   have a4:=aa (HL.out.below N);clear a1 a2 N qa xS lS c0 c1
   gi_wp2
   refine ⟨(fun h=>by cases h),?_⟩
   refine hR.mono ?_
   rintro e w5 (⟨rfl,Y,a0⟩ | ⟨rfl,Z⟩)
   ·obtain ⟨a8,a7⟩:=ab Y a0;clear Y a0
    gi_wp2
    go_roundw
    case rel=>exact ⟨k+1,by omega,by go_num,by rw [wT Hx.out];exact a8.out,HK.out _ _ a4.out a7.out⟩
    case measure=>simp [intOf];omega
   ·gi_wp2
    refine E7 (results_none rfl _ _ _) rfl ?_
    exact ⟨⟨_,rfl⟩,.inr ⟨_,trivial,Z⟩⟩
  ·obtain rfl:k=O:=by omega
   have H:(shR d rs).take k=shR d rs:=List.take_of_length_le (by rw [iG,T.out];exact EM _)
   rw [H] at y
   have Q:=aa y;clear y H
   gi_wp2
   go_end0
   exact ⟨⟨_,rfl⟩,.inl ⟨_,rfl,Q.out⟩⟩
structure Kd (n₁ n₂:Nat) (W W':World):Prop where
 size:W.heap.size≤W'.heap.size
 block:∀k,n₁≤k→k<n₂→W'.heap[k]?=W.heap[k]?
theorem Kd.trans {o i:Nat} {A B C:World} (h:Kd o i A B) (k:Kd o i B C):Kd o i A C:=⟨ES h.size k.size,fun j v u=>(k.block j v u).trans (h.block j v u)⟩
theorem En {y v:Nat} {w:World} (hn:v≤w.heap.size) (W:World) (l:Nat) (o i:Obj) (hl:w.heap.size≤l) (h:W.heap[l]?=some o) (x:o.isCells=false) (u:o.isWalk=false):Kd y v W (W.putObj l i):=
 ⟨(belowK_b hn W l o i hl h x u).size,fun k _ hk=>(belowK_b hn W l o i hl h x u).block k hk⟩
theorem ns {u i:Nat} {W o:World} (h:Below i W o):Kd u i W o:=⟨h.size,fun k _ hk=>h.block k hk⟩
structure s7 (n₁ n₂ L S B:Nat) (A:Option Addr):Prop where
 l:n₁≤L∧L<n₂
 s:n₁≤S∧S<n₂
 b:n₁≤B∧B<n₂
 a:∀x,A=some x→n₁≤x.block∧x.block<n₂
theorem gE.kd {u i:Nat} {W y:World} {L S B:Nat} {A:Option Addr} {rs:List Rg} {c d:Nat} {v:TypeId} (h:gE W L S B A rs c d v) (hb:s7 u i L S B A) (k:Kd u i W y):gE y L S B A rs c d v:=
 ⟨(k.block _ hb.l.1 hb.l.2).trans h.l,(k.block _ hb.s.1 hb.s.2).trans h.s,(k.block _ hb.b.1 hb.b.2).trans h.b,fun j x C=>by
  obtain ⟨b,o,e,hc⟩:=h.r j x C
  refine ⟨b,o,e,?_⟩
  have:=hb.a _ e
  rw [World.cell?] at hc ⊢
  rw [k.block b this.1 this.2]
  exact hc⟩
theorem sq (n y v L S B:Nat) (A:Option Addr) (rs:List Rg) (c d:Nat) (w:World) (O:gE w L S B A rs c d 302) (hB:s7 y v L S B A) (i:rs.length≤1048576) (C:d≤1048576) (o:∀r∈rs,r.1≤1048576∧r.2≤1048576):
  SeqStopsK Fence.wide n Tryz.prog 186 #[.pointer (some ⟨L,0,none⟩),.pointer (some ⟨S,0,none⟩)] pr (Kd y v) (fun H=>H=shR d rs) (fun _=>True) rs.length w:=fun l J Q W D I _ R N=>
 pO n l L S B A rs c d (Kd y v) (fun _ _ h k=>h.kd hB k) i C o J Q _ I (fun u x W h _=>R u x W h) W (O.below D) N
theorem qC (n I T L S B:Nat) (A:Option Addr) (rs:List Rg) (c d:Nat) (w:World) (hA:gE w L S B A rs c d 302) (hB:s7 I T L S B A) (D:rs.length≤1048576) (Y:d≤1048576) (Q:∀r∈rs,r.1≤1048576∧r.2≤1048576):
  SeqStopsK Fence.wide n Tryz.prog 186 #[.pointer (some ⟨L,0,none⟩),.pointer (some ⟨S,0,none⟩)] (fun x:{r:Rg//r∈shR d rs}=>pr x.1) (Kd I T) (fun U=>U.map (·.1)=shR d rs) (fun _=>True) rs.length w:=fun l J Jx W hW hJ _ hY Z=>by
 have h:=pO n l L S B A rs c d (Kd I T) (fun _ _ h k=>h.kd hB k) D Y Q (fun y W=>∃i:List {r:Rg//r∈shR d rs},i.map (·.1)=y∧J i W) (fun y W=>∃i:List {r:Rg//r∈shR d rs},i.map (·.1)=y∧Jx i W) W.heap.size
  (fun s A B row R hg hr=>by obtain ⟨i,H,u⟩:=R;exact ⟨i,H,hJ i A B row u hg hr⟩)
  (fun y x W1 R hx hl=>by
   obtain ⟨i,rfl,u⟩:=R
   obtain ⟨fn,tmps,o,v,hy,hR⟩:=hY i ⟨x,hx⟩ W1 u (by simpa using hl)
   refine ⟨fn,tmps,o,v,hy,hR.mono ?_⟩
   rintro e w5 (⟨rfl,N,O⟩ | ⟨rfl,C⟩)
   ·exact .inl ⟨rfl,⟨_,by simp,N⟩,O⟩
   ·exact .inr ⟨rfl,⟨_,by simp,C⟩⟩)
  W (hA.below hW) ⟨[],rfl,Z⟩
 refine h.mono ?_
 rintro e w' ⟨V,⟨U,rfl,i,H,u⟩ | ⟨y,_,i,H,u⟩⟩
 ·exact ⟨V,.inl ⟨i,H,u⟩⟩
 ·exact ⟨V,.inr ⟨i,trivial,u⟩⟩
theorem fd {w:World} {base:Nat} {e:TypeId} {size n c:Nat} {A:Option Addr} {xs:List Value} (h:w.ownsRow base e size (.slice A n c) n xs):∀x,A=some x→base≤x.block∧x.block<w.heap.size:=fun x o=>by
 rcases h.2 with ⟨i,_⟩ | ⟨g,cap,u,i,hb,v,_⟩
 ·simp only [FD] at i;rw [o] at i;cases i.1
 ·simp only [FD] at i;rw [o] at i;cases i.1;exact ⟨hb,EL v⟩
end Go.Proofs.YtgmajkppbhiopaaGreat
namespace Go.Proofs.YtgmajkppbhiopaaGreat
open Go.RowKit Go.Shelf
attribute [local go_sem] Oper.semAt_some
theorem rp (l:List Rg) (x:Rg):az (l++[x])=az l++[FQ (x.1:Int),FQ (x.2:Int)]:=by simp [az]
theorem Ci (L S B:Nat) (A:Option Addr) (rs:List Rg) (c d:Nat) (w:World) (hA:gE w L S B A rs c d 302) (hB:s7 0 w.heap.size L S B A) (N:rs.length≤1048576) (hd:d≤1048576) (V:∀r∈rs,r.1≤1048576∧r.2≤1048576):
  Calls Tryz.prog 198 #[FR,.func (.func 186) #[] #[.pointer (some ⟨L,0,none⟩),.pointer (some ⟨S,0,none⟩)]] w fun e w'=>∃v,e=.returned v∧w'.ownsRow w.heap.size 148 2 v rs.length (az (shR d rs))∧Below w.heap.size w w':=by
 have I:=fun n=>sq n 0 w.heap.size L S B A rs c d w hA hB N hd V
 have U:=aa I;clear I
 refine (callsIn_wide (n:=3)).1 ?_
 refine callsIn_of_wp_marks Tryz.func198 rfl trivial ?_ rfl
 simp only [Tryz.ntmps198,List.size_toArray,List.length_cons,List.length_nil,Nat.reduceAdd,Nat.reduceSub,Array.replicate_succ,Array.replicate_zero,List.push_toArray,List.append_toArray,List.nil_append,List.cons_append]
 gi_wp2_with fail
 have y:Below w.heap.size w (w.alloc (.cells #[FR] 170)):=(EP _ w).alloc (EM _) _
 refine' wpIn_rangeFunc_ownH (F:=Fence.wide) (n:=3) rfl (by omega) (gf:=186) (lb:=#[.pointer (some ⟨L,0,none⟩),.pointer (some ⟨S,0,none⟩)]) rfl trivial (enters_of Tryz.func186 (by kernel_rfl) rfl)
  (U.out _) Kd.trans (En y.size) y (fun _=>rfl)
  (fun (o:List Rg) W=>(∃v,Boxed W w.heap.size 170 v∧W.ownsRow w.heap.size 148 2 v o.length (az o)∧True)∧Below w.heap.size w W)
  (fun _ _ _=>False)
  (OwnFrom.and (Own.from (holdsRow_own w.heap.size w.heap.size 170 148 2 (fun o:List Rg=>o.length) (fun o=>az o) (fun _ _=>True)) _) (ownFrom_below (EM _) y.size))
  (fun _ _ _ _ _ hs _ _=>hs)
  ⟨⟨_,Boxed.new w 170 (FR),EZ _ _ _ _,trivial⟩,y⟩
  (fun (x:Rg) Y W=>∃b,Y={tmps:=#[FR,.func (.func 186) #[] #[.pointer (some ⟨L,0,none⟩),.pointer (some ⟨S,0,none⟩)],.pointer (some ⟨w.heap.size,0,none⟩),undef,FR,.pointer (some ⟨b,0,none⟩),.func (.func 186) #[] #[.pointer (some ⟨L,0,none⟩),.pointer (some ⟨S,0,none⟩)],.agg #[FQ (x.1:Int),FQ (x.2:Int)],undef,undef,undef,undef,undef],defers:=[]}∧W.heap[b]?=some (.cells #[FQ (x.1:Int),FQ (x.2:Int)] 148 (0,0)))
  (fun x Y _ W W' row h hg hr=>by obtain ⟨b,e,hb⟩:=h;exact ⟨b,e,cL _ b _ rfl () W W' row hb hg hr⟩)
  ?assign ?body ?done ?stop
 case assign=>
  rintro l o x W K ⟨⟨v,C,i,_⟩,u⟩ J
  unfold pr
  have R:Below W.heap.size W (W.alloc (.cells #[FQ (x.1:Int),FQ (x.2:Int)] 148)):=(EP _ W).alloc (EM _) _
  gi_wp2
  refine J _ _ ((KeepsOthers.of_grownBy (row:=none) (gt R) (fun _ _ h=>by cases h)).from _) (ns (R.mono u.size)) ⟨⟨v,C.alloc _,i.alloc _,trivial⟩,u.trans (R.mono u.size)⟩ ⟨_,rfl,EN _ _⟩
 case body=>
  rintro l o x Y W _ _ ⟨⟨v,C,i,_⟩,u⟩ ⟨b,rfl,hb⟩ H
  have hc:=C.cell
  have hW:=u.size
  have a0:=au hc
  have xb:=bx2 hb
  have lb:=EL hb
  have R:Below W.heap.size W (W.alloc (.cells #[FQ (x.1:Int),FQ (x.2:Int)] 148)):=(EP _ W).alloc (EM _) _
  obtain ⟨Hv,O,Z,Q,HW⟩:=ag C i u H hW;clear C i u H hW hb
  gi_wp2_with (gi_at_builtin;refine jE iW W rfl (.tmp 8) (.tmp 10) rfl w.heap.size w.heap.size v o.length _ rfl Hv.out (by decide) O.out [FQ (x.1:Int),FQ (x.2:Int)] rfl rfl (by simp [Value.oneCell']) (by have:=Q.out;omega) (by have:=Q.out;unfold maxLen;omega) HW.out (EM _) ?_)
  intro g1 c1 w1 T k2 k3 k4 k5 k6
  have a2:=T.cell;have a1:=T.frozen
  obtain ⟨K2,K3,K4,K5⟩:=af k2 k3 k4 k5;clear T k2 k3 k4 k5 k6 hc xb
  gi_wp2_with fail
  exact ⟨K4.out.from _,ns K5.out,⟨⟨_,K2.out,by rw [Fp,rp];exact K3.out,trivial⟩,Z.out.trans K5.out⟩⟩
 case done=>
  rintro D ys W hD rfl ⟨⟨v,C,i,_⟩,u⟩ J
  have hc:=C.cell
  gi_wp2
  refine ⟨by simp,.inl ⟨_,_,rfl,run_takeDeferred J,?_⟩⟩
  rw [iG] at i
  refine ⟨v,by simp [results,Tryz.results198,go_sem],v,rfl,ownsRow_putObj i _ J rfl,u.trans (belowK_b (w:=w) (EM _) W D _ _ (by simp at hD;omega) J rfl rfl)⟩
 case stop=>
  rintro D c o W _ _ h _
  exact h.elim
theorem sO (L S B:Nat) (A:Option Addr) (rs:List Rg) (c d:Nat) (w:World) (y:gE w L S B A rs c d 302) (hB:s7 0 w.heap.size L S B A) (i:rs.length≤1048576) (u:d≤1048576) (o:∀r∈rs,r.1≤1048576∧r.2≤1048576):
  Calls Tryz.prog 197 #[.func (.func 186) #[] #[.pointer (some ⟨L,0,none⟩),.pointer (some ⟨S,0,none⟩)]] w fun e x=>∃v,e=.returned v∧x.ownsRow w.heap.size 148 2 v rs.length (az (shR d rs))∧Below w.heap.size w x:=by
 have h:=Ci L S B A rs c d w y hB i u o
 have H:=aa h;clear h y hB i u o
 go_enter Tryz.func197,Tryz.ntmps197
 go_wp2_with fail
 refine H.out.mono ?_
 rintro e J ⟨v,rfl,C,D⟩
 have I:=aa C;clear C
 go_wp2_with fail
 go_ret
 exact ⟨_,rfl,I.out,D⟩
end Go.Proofs.YtgmajkppbhiopaaGreat
namespace Go.Proofs.YtgmajkppbhiopaaGreat
open Go.RowKit
theorem nL {n k:Nat} (h:1≤k) (hn:n≤1048576):∀r∈eh n k,r.1≤1048576∧r.2≤1048576:=by
 intro r hr
 simp only [eh,List.mem_map,List.mem_range] at hr
 obtain ⟨i,o,rfl⟩:=hr
 have a:=eT n k i h (by omega)
 have b:=eT n k (i+1) h (by omega)
 exact ⟨by simp only;omega,by simp only;omega⟩
theorem wn {n s:Nat} (hn:n≤1048576):∀r∈dA n s,r.1≤1048576∧r.2≤1048576:=by
 intro r hr
 simp only [dA,List.mem_map,List.mem_range] at hr
 obtain ⟨i,h,rfl⟩:=hr
 have:=ft h
 exact ⟨by simp only;omega,by simp only;omega⟩
theorem zC (lo h k:Nat) (w:World) (h1:1≤k) (h2:k≤1048576) (h3:lo≤1048576) (h4:h≤1048576):
  Calls Tryz.prog 189 #[.agg #[FQ lo,FQ h],FQ k] w fun e y=>∃v,e=.returned v∧y.ownsRow w.heap.size 148 2 v k (az (cG (lo,h) k))∧Below w.heap.size w y:=by
 obtain ⟨o,i⟩:∃o,w.alloc (.cells #[FQ lo,FQ h] 148)=o:=⟨_,rfl⟩
 have h0:o.heap[w.heap.size]?=some (.cells #[FQ lo,FQ h] 148 (0,0)):=by rw [←i];exact EN w _
 have H:Below w.heap.size w o:=by rw [←i];exact (br w).alloc (EM _) _
 have t0:=fun y q=>bx2 (sb h0 y q)
 obtain ⟨O,u⟩:=ab i H;clear i h0 H
 have T:Hid (cG (lo,h) k=shR lo (eh (h-lo) k)):=Lib.hid rfl
 go_enter Tryz.func189,Tryz.ntmps189
 have q0:=br o
 go_wp2_with fail
 rw [O.out]
 refine HA.g (fun y:World=>Below o.heap.size o y) ?_
 refine HA.t ?_ [0,2,4,5] q0.drew ?_
 refine HA.c 1 (iJ lo h _ h3 h4) ?_
 rintro e w1 ⟨rfl,Z⟩
 have R:=bt q0.drew Z
 refine ⟨_,rfl,R,fun _=>?_⟩
 refine HA.c 3 (nJ (h-lo) k _ h1 h2 (by omega)) ?_
 rintro e w2 ⟨v2,rfl,J,k2⟩
 obtain ⟨A,c,rfl,_⟩:=av J
 have V:=bt R k2
 have hl:=lp A (eh (h-lo) k) c lo w2 (Rd.own J)
 rw [dy] at hl
 refine ⟨_,rfl,V,fun _=>?_⟩
 refine HA.c 6 hl ?_
 rintro e w3 ⟨L,S,B,rfl,C,Y,Q⟩
 have D:s7 0 w3.heap.size L S B A:=⟨⟨EQ _,EL C.l⟩,⟨EQ _,EL C.s⟩,⟨EQ _,EL C.b⟩,fun x hx=>⟨EQ _,ET (fd J x hx).2 Q.size⟩⟩
 clear Y
 have I:=bt V Q
 refine ⟨_,rfl,I,fun _=>?_⟩
 refine HA.c 7 (sO L S B A _ c lo w3 C D (by rw [dy];exact h2) h3 (nL h1 (by omega))) ?_
 rintro e w4 ⟨v4,rfl,U,k4⟩
 have N:=bt I k4
 refine ⟨_,rfl,N,fun _=>?_⟩
 refine HA.t ?_ [8] N ?_
 refine HA.d ?_
 have hB:=aa (u.out.trans (N.mono u.out.size))
 rw [dy,←T.out] at U
 have O4:=aa (aA (base':=w.heap.size) U (ES u.out.size I.size));clear U J hl C D Z k2 Q k4 R V I N t0
 go_wp2_with fail
 go_ret
 exact ⟨_,rfl,O4.out,hB.out⟩
theorem sQ (lo h k:Nat) (w:World) (h1:1≤k) (h2:k≤1048576) (h3:lo≤1048576) (h4:h≤1048576):
  Calls Tryz.prog 190 #[.agg #[FQ lo,FQ h],FQ k] w fun e C=>∃v,e=.returned v∧C.ownsRow w.heap.size 148 2 v (chR (lo,h) k).length (az (chR (lo,h) k))∧Below w.heap.size w C:=by
 obtain ⟨o,i⟩:∃o,w.alloc (.cells #[FQ lo,FQ h] 148)=o:=⟨_,rfl⟩
 have h0:o.heap[w.heap.size]?=some (.cells #[FQ lo,FQ h] 148 (0,0)):=by rw [←i];exact EN w _
 have I:Below w.heap.size w o:=by rw [←i];exact (br w).alloc (EM _) _
 have t0:=fun C q=>bx2 (sb h0 C q)
 obtain ⟨U,y⟩:=ab i I;clear i h0 I
 have J:Hid (chR (lo,h) k=shR lo (dA (h-lo) k)):=Lib.hid rfl
 go_enter Tryz.func190,Tryz.ntmps190
 have q0:=br o
 go_wp2_with fail
 rw [U.out]
 refine HA.g (fun C:World=>Below o.heap.size o C) ?_
 refine HA.t ?_ [0,2,4,5] q0.drew ?_
 refine HA.c 1 (iJ lo h _ h3 h4) ?_
 rintro e w1 ⟨rfl,k1⟩
 have Y:=bt q0.drew k1
 refine ⟨_,rfl,Y,fun _=>?_⟩
 have u:=iX (h-lo) k w1 (by omega) h1 h2
 have O:=dR (h-lo) k
 rw [←lB,←cY] at u
 rw [←cY] at O
 refine HA.c 3 u ?_
 rintro e w2 ⟨v2,rfl,R,k2⟩
 obtain ⟨A,c,rfl,_⟩:=av R
 have q2:=bt Y k2
 have hl:=lp A (dA (h-lo) k) c lo w2 (Rd.own R)
 refine ⟨_,rfl,q2,fun _=>?_⟩
 refine HA.c 6 hl ?_
 rintro e w3 ⟨L,S,B,rfl,D,a0,V⟩
 have H:s7 0 w3.heap.size L S B A:=⟨⟨EQ _,EL D.l⟩,⟨EQ _,EL D.s⟩,⟨EQ _,EL D.b⟩,fun x hx=>⟨EQ _,ET (fd R x hx).2 V.size⟩⟩
 clear a0
 have Q:=bt q2 V
 refine ⟨_,rfl,Q,fun _=>?_⟩
 refine HA.c 7 (sO L S B A _ c lo w3 D H (by omega) h3 (wn (by omega))) ?_
 rintro e w4 ⟨v4,rfl,Z,k4⟩
 have T:=bt Q k4
 refine ⟨_,rfl,T,fun _=>?_⟩
 refine HA.t ?_ [8] T ?_
 refine HA.d ?_
 have hB:=aa (y.out.trans (T.mono y.out.size))
 have N:(chR (lo,h) k).length=(dA (h-lo) k).length:=by rw [J.out,iG]
 rw [←J.out,←N] at Z
 have O4:=aa (aA (base':=w.heap.size) Z (ES y.out.size Q.size));clear Z R hl D H u O N k1 k2 V k4 Y q2 Q T t0
 go_wp2_with fail
 go_ret
 exact ⟨_,rfl,O4.out,hB.out⟩
end Go.Proofs.YtgmajkppbhiopaaGreat
namespace Go.Proofs.YtgmajkppbhiopaaGreat
open Go.RowKit Go.Shelf
theorem qp {l n:Nat} {P:Program} {row:String} {args:Array Value} {w:World} {R:Value→World→Prop} (h:Rows P row args w R):RowsIn (Fence.wide.inRound l) n P row args w R:=
 fun c i _=>let ⟨v,w',r,s⟩:=h c i;⟨v,w',r,(stepsIn_wide (P:=P)).2 s⟩
theorem qu {l n:Nat} {P:Program} {o:Oper} {a:Act} {w:World} {K:Act→World→Prop} {Q:Exit→Act→World→Prop} (i:∀c,o.op≠.defer c) (h:o.wp P a w K Q):o.wpIn (Fence.wide.inRound l) n P a w K Q:=by
 unfold Oper.wp at h
 unfold Oper.wpIn
 refine ⟨fun _ _=>trivial,?_⟩
 rw [Oper.semAt_plain _ _ _ i]
 generalize (execOp a.eval o).run P w=r at *
 cases r with
 | ok x w'=>
  cases x<;>simp only [Oper.upon,Oper.uponIn] at h ⊢<;>
   first
    | exact h
    | exact ⟨fun u=>(by cases u),CallsIn.inRound l (callsIn_wide.2 h)⟩
    | exact ⟨fun u=>(by cases u),qp h⟩
    | exact h.elim
 | halt x w'=>cases x<;>simp only [Oper.upon,Oper.uponIn] at h ⊢<;>exact h
theorem qe {l n:Nat} {P:Program} {ops:Array Oper} {Q:Exit→Act→World→Prop} (x:∀(i:Nat) (o:Oper),ops[i]?=some o→∀c,o.op≠.defer c) (v:¬LetsOut Q) {i:Nat} {K:Act→World→Prop} {a:Act} {w:World}
  (h:wpOp P ops Q i K a w):wpOpIn (Fence.wide.inRound l) n P ops Q i K a w:=by
 unfold wpOp at h
 unfold wpOpIn
 split at h
 ·rename_i u;simp only [u];exact h
 ·rename_i o u
  simp only [u]
  split at h
  ·rename_i hw
   rw [if_pos hw]
   rcases h with h | ⟨_,h⟩
   ·exact qu (x i o u) h
   ·exact absurd h v
  ·rename_i hw
   rw [if_neg hw]
   exact ⟨fun _ _=>trivial,h⟩
theorem gY {l n:Nat} {P:Program} {A:Region.Mode} {ops:Array Oper} {Q:Exit→Act→World→Prop} (y:∀(i:Nat) (o:Oper),ops[i]?=some o→∀c,o.op≠.defer c) (x:¬LetsOut Q):∀(u:Nat) (v:Array Bool) (a:Act) (w:World),
  wpAny P A ops Q u v a w→wpAnyIn (Fence.wide.inRound l) n P A ops Q u v a w
 | 0,_,_,_,h=>h
 | u+1,_,_,_,h=>⟨h.1,fun i H=>wpOpIn_mono (fun D C B=>gY y x u _ D C B) (qe y x (h.2 i H))⟩
def EI:Op→Bool
 | .defer _=>true
 | _=>false
theorem vP {ops:Array Oper} (h:ops.all (fun o=> !EI o.op)=true):∀(i:Nat) (o:Oper),ops[i]?=some o→∀c,o.op≠.defer c:=fun i o u c e=>by
 have:=(Array.all_eq_true.1 h) i (Array.getElem?_eq_some_iff.1 u).1
 rw [(Array.getElem?_eq_some_iff.1 u).2,e] at this
 cases this
theorem gh {l n:Nat} {P:Program} {ops:Array Oper} {Q:Exit→Act→World→Prop} (S:World→Prop) {id:Nat} {a:Act} {w:World} (hm:P.follows .mixedOrders=true) (i:ops.all (fun o=> !EI o.op)=true) (u:¬LetsOut Q)
  (h:wpAnyH P .any ops Q S ops.size (Array.replicate ops.size false) a w.drew):(Code.region id ops true).wpIn (Fence.wide.inRound l) n P Q a w:=
 wpIn_region_any hm (gY (vP i) u _ _ _ _ (wpAny_of_held _ _ _ _ h))
theorem HA.r {P:Program} {ops:Array Oper} {Q:Exit→Act→World→Prop} {l n id:Nat} {a:Act} {w:World} (S:World→Prop) (h:HA P ops Q S [] a w.drew) (hm:P.follows .mixedOrders=true:=by kernel_rfl) (hnd:ops.all (fun o=> !EI o.op)=true:=by kernel_rfl) (hno:¬LetsOut Q:=by (rintro ⟨_,_,h⟩;exact h)):
  (Code.region id ops true).wpIn (Fence.wide.inRound l) n P Q a w:=by
 have i:=h.out
 rw [iD] at i
 exact gh S hm hnd hno i
theorem XA.r {P:Program} {ops:Array Oper} {Q:Exit→Act→World→Prop} {l m id:Nat} {a:Act} {w:World} (n:Nat) (S:World→Prop) (h:XA P ops Q S n [] a w.drew) (hm:P.follows .mixedOrders=true:=by kernel_rfl) (hnd:ops.all (fun o=> !EI o.op)=true:=by kernel_rfl) (hno:¬LetsOut Q:=by (rintro ⟨_,_,h⟩;exact h)):
  (Code.region id ops true).wpIn (Fence.wide.inRound l) m P Q a w:=by
 have i:=h.out
 rw [iD] at i
 exact wpIn_region_any hm (gY (vP hnd) hno _ _ _ _ (jJ _ _ _ _ i))
theorem wK {K:Act→World→Prop} {i:Exit→Act→World→Prop} {n:Nat} {P:Program} {c:Code} {a:Act} {w:World} (h:c.wp P (Exit.then K fun _ _ _=>False) a w):c.wpIn Fence.wide n P (Exit.then K i) a w:=
 wpIn_mono (wpIn_wide.2 h) fun e _ _ he=>by cases e<;>first | exact he | exact he.elim
end Go.Proofs.YtgmajkppbhiopaaGreat
