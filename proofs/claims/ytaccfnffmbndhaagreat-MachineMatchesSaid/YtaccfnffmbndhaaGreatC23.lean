/- No condition. -/
import Derived.Test.YtaccfnffmbndhaaGreatC00
import Derived.Test.YtaccfnffmbndhaaGreatC22
import Derived.Test.YtaccfnffmbndhaaGreatC18
import Derived.Test.YtaccfnffmbndhaaGreatC21
import Derived.Deep.DeepCutAuto
import Derived.Test.YtaccfnffmbndhaaGreatC15
import Derived.Test.YtaccfnffmbndhaaGreatC17
import Derived.Test.YtaccfnffmbndhaaGreatC19
set_option linter.unusedSimpArgs false
set_option linter.unusedVariables false
set_option maxRecDepth 100000
set_option maxHeartbeats 4000000
namespace Go.Proofs.YtaccfnffmbndhaaGreat
open Go.RowKit
theorem Is {t:Tg} {i:Acn} {D:Bool} (u:D=true↔t=i.tg) (h1:t.a=i.st) (j:t.b=i.bk) (q:t.c=i.ph) (o:t.d=i.rd) (p:t.e=i.ch):true=D:=by
 obtain ⟨a,b,c,d,e⟩:=t
 simp only at h1 j q o p
 subst h1 j q o p
 exact (u.2 rfl).symm
theorem I5 {t:Tg} {i:Acn} {D:Bool} (j:D=true↔t=i.tg) (h:¬(t.a=i.st∧t.b=i.bk∧t.c=i.ph∧t.d=i.rd∧t.e=i.ch)):false=D:=
 (Bool.eq_false_iff.2 fun e=>h (by rw [j.1 e];exact ⟨rfl,rfl,rfl,rfl,rfl⟩)).symm
theorem GF {H:Nat→Prop} {w:World} {b x:Nat} {i:Inp} {a:MAd} {m:Mst} (h:aI H w b i x a m) (hn:(bZ i x m.st).length≤m.nx) (u v:Option Addr):
  Calls Tryz.prog 18 #[.pointer (some ⟨b,0,none⟩),.pointer u,.pointer v] w fun e q=>e=.returned (.bool false)∧Below w.heap.size w q:=by
 have hnx:=qd h hn
 have j:=aa hnx;clear hnx h hn
 go_enter Tryz.func18,Tryz.ntmps18
 go_wp2_with fail
 refine j.out.mono ?_
 rintro e A ⟨rfl,q1⟩
 go_wp2_with (refine az (JE _ _) iD rfl rfl rfl rfl rfl rfl rfl ?_;intro C p o;obtain ⟨B,y⟩:=ae p (bt q1 (aB o));clear p o q1)
 go_ret
 exact ⟨rfl,y.out⟩
theorem GD {H:Nat→Prop} {w:World} {b x:Nat} {i:Inp} {a:MAd} {m:Mst} (h:aI H w b i x a m) {y:Itm} (B:(bZ i x m.st)[m.nx]?=some y) (O:y.kind≠3) (L:y.kind≠4) (u v:Option Addr):
  Calls Tryz.prog 18 #[.pointer (some ⟨b,0,none⟩),.pointer u,.pointer v] w fun e J=>e=.returned (.bool true)∧Below w.heap.size w J:=by
 have hnx:=iP h B
 obtain ⟨o,R,q,Y,T,i0,i1,U,i3,i4,Z,i6,j⟩:=mb y
 have D:(y.kind:Int)=o:=by have:=j;simp only [aN,List.cons.injEq,Value.int.injEq,true_and] at this;exact this.1
 rw [j] at hnx
 have V:¬o=3:=by omega
 have X:¬o=4:=by omega
 have p:=aa hnx;clear hnx h B j D O L
 go_enter Tryz.func18,Tryz.ntmps18
 go_wp2_with fail
 refine p.out.mono ?_
 rintro e I ⟨rfl,q1⟩
 go_upto_region 2 with (refine az (JE _ _) iD rfl rfl rfl rfl rfl rfl rfl ?_;intro C A q;obtain ⟨N,Q⟩:=ae A (bt q1 (aB q));clear A q q1)
 have t0:C.cell? ⟨I.heap.size,0,none⟩=some (KL o):=JF C _ 0 _ _ _ N.out
 go_wp2_with fail
 go_ret
 exact ⟨rfl,Q.out⟩
theorem vW {H:Nat→Prop} {w:World} {b x:Nat} {i:Inp} {a:MAd} {m:Mst} (h:aI H w b i x a m) {y:Itm} (T:(bZ i x m.st)[m.nx]?=some y) (h3:y.kind=3) (u:Option Addr) {base l:Nat} {g:Option Nat} {s:LSt} (hL:aK w base l g s) (J:s.msgs.length≤100000000000):
  Calls Tryz.prog 18 #[.pointer (some ⟨b,0,none⟩),.pointer u,.pointer (some ⟨l,0,none⟩)] w fun e w'=>e=.returned (.bool (decide (s.msgs.length<s.recv+s.cap)))∧Below w.heap.size w w':=by
 have hnx:=iP h T
 obtain ⟨O,k1,N,b0,b1,i0,i1,i2,i3,i4,i5,i6,o⟩:=mb y
 have Y:(y.kind:Int)=O:=by have:=o;simp only [aN,List.cons.injEq,Value.int.injEq,true_and] at this;exact this.1
 rw [o] at hnx
 obtain rfl:O=3:=by omega
 obtain ⟨D,B⟩:∃D,decide (s.msgs.length<s.recv+s.cap)=D:=⟨_,rfl⟩
 have q:decide ((s.msgs.length:Int)-s.recv<s.cap)=D:=by rw [←B];exact decide_eq_decide.2 (by omega)
 rw [B]
 obtain ⟨v,U,A⟩:=af hnx hL q;clear hnx h T o Y h3 hL B q
 go_enter Tryz.func18,Tryz.ntmps18
 go_wp2_with fail
 refine v.out.mono ?_
 rintro e Z ⟨rfl,q1⟩
 go_upto_region 2 with (refine az (JE _ _) iD rfl rfl rfl rfl rfl rfl rfl ?_;intro V Q N;obtain ⟨E2,X⟩:=ae Q (bt q1 (aB N));clear Q N q1)
 have t0:V.cell? ⟨Z.heap.size,0,none⟩=some (KL 3):=JF V _ 0 _ _ _ E2.out
 go_wp2_with fail
 obtain ⟨ok,ring,R,hc,_⟩:=U.out.below X.out
 refine (ks l _ _ _ _ _ _ hc ok.rs (by omega)).mono ?_
 rintro e w3 ⟨rfl,n,rfl⟩
 have j:=JN X.out n
 obtain ⟨L,ring',rows',p,_⟩:=U.out.below j
 obtain ⟨C,I⟩:=ae j p;clear ok L hc p j
 go_wp2_with fail
 refine (GL l _ _ _ _ _ _ I.out).mono ?_
 rintro e w4 ⟨rfl,rfl⟩
 go_wp2_with fail
 go_ret
 exact ⟨congrArg (fun d=>Ending.returned (.bool d)) A.out,C.out⟩
theorem vX {H:Nat→Prop} {w:World} {b x:Nat} {i:Inp} {a:MAd} {m:Mst} (h:aI H w b i x a m) {y:Itm} (V:(bZ i x m.st)[m.nx]?=some y) (R:y.kind=4) {j:Acn} (u:y.a=some j) (v:Option Addr) {base l:Nat} {g:Option Nat} {s:LSt} (hL:aK w base l g s) (p:s.recv<s.msgs.length) (D:Bool) (C:D=true↔(aC s.msgs s.recv).tag=j.tg):
  Calls Tryz.prog 18 #[.pointer (some ⟨b,0,none⟩),.pointer (some ⟨l,0,none⟩),.pointer v] w fun e A=>e=.returned (.bool D)∧Below w.heap.size w A:=by
 have hnx:=iP h V
 rw [uq u rfl rfl,R] at hnx
 have o:=fun A (q:Below w.heap.size w A)=>nL base l g s A (hL.below q) p
 obtain ⟨t,Q⟩:∃t,(aC s.msgs s.recv).tag=t:=⟨_,rfl⟩
 rw [Q] at o C
 obtain ⟨B,J,HD⟩:=af hnx o C;clear hnx h V R hL p Q o u C
 go_enter Tryz.func18,Tryz.ntmps18
 go_wp2_with fail
 refine B.out.mono ?_
 rintro e w1 ⟨rfl,q1⟩
 go_upto_region 2 with (refine az (JE _ _) iD rfl rfl rfl rfl rfl rfl rfl ?_;intro L U X;obtain ⟨T,Z⟩:=ae U (bt q1 (aB X));clear U X q1)
 have t0:L.cell? ⟨w1.heap.size,0,none⟩=some (KL 4):=JF L _ 0 _ _ _ T.out
 go_wp2_with fail
 refine (J.out L Z.out).mono ?_
 rintro e w3 ⟨rfl,I⟩
 obtain ⟨B3,E3⟩:=ae (bt Z.out I) (sb T.out _ I);clear I t0
 go_upto_region 8 with (refine az (JE _ _) ff rfl rfl rfl rfl rfl rfl rfl ?_;intro W4 Y O;obtain ⟨E4,B4,N⟩:=af Y (bt B3.out (aB O)) (sb E3.out _ (aB O));clear Y O)
 go_wp2_with (first | (refine nc #[KL t.a,KL t.b,KL t.c,KL t.d,KL t.e] E4.out ff rfl rfl rfl rfl ?_) | (refine nc #[KL (j.st:Nat),KL (j.bk:Nat),KL (j.ph:Nat),KL (j.rd:Nat),KL (j.ch:Nat)] N.out ff rfl rfl rfl rfl ?_))
 all_goals (go_ret;refine ⟨congrArg (fun d=>Ending.returned (.bool d)) ?_,B4.out⟩;first | exact Is HD.out (by assumption) (by assumption) (by assumption) (by assumption) (by assumption) | exact I5 HD.out (by rintro ⟨z1,z2,z3,z4,z5⟩;contradiction))
theorem Cf {H:Nat→Prop} {w:World} {b x:Nat} {i:Inp} {a:MAd} {m:Mst} (h:aI H w b i x a m) {y:Itm} (N:(bZ i x m.st)[m.nx]?=some y) (U:y.kind=4) (v:Option Addr) {base l:Nat} {g:Option Nat} {s:LSt} (hL:aK w base l g s) (o:s.recv=s.msgs.length):
  Calls Tryz.prog 18 #[.pointer (some ⟨b,0,none⟩),.pointer (some ⟨l,0,none⟩),.pointer v] w fun e u=>e=.returned (.bool false)∧Below w.heap.size w u:=by
 have hnx:=iP h N
 obtain ⟨J,k1,D,b0,b1,i0,i1,i2,i3,i4,i5,i6,j⟩:=mb y
 have R:(y.kind:Int)=J:=by have:=j;simp only [aN,List.cons.injEq,Value.int.injEq,true_and] at this;exact this.1
 rw [j] at hnx
 obtain rfl:J=4:=by omega
 have p:=fun u (q:Below w.heap.size w u)=>jK base l g s u (hL.below q) o
 obtain ⟨A,B⟩:=ae hnx p;clear hnx h N j R U hL o p
 go_enter Tryz.func18,Tryz.ntmps18
 go_wp2_with fail
 refine A.out.mono ?_
 rintro e T ⟨rfl,q1⟩
 go_upto_region 2 with (refine az (JE _ _) iD rfl rfl rfl rfl rfl rfl rfl ?_;intro C L D;obtain ⟨V,Q⟩:=ae L (bt q1 (aB D));clear L D q1)
 have t0:C.cell? ⟨T.heap.size,0,none⟩=some (KL 4):=JF C _ 0 _ _ _ V.out
 go_wp2_with fail
 refine (B.out C Q.out).mono ?_
 rintro e w3 ⟨rfl,I⟩
 have X:=aa (bt Q.out I);clear I t0
 go_wp2_with (refine az (JE _ _) ff rfl rfl rfl rfl rfl rfl rfl ?_;intro W4 Y O;have Z:=aa (bt X.out (aB O));clear Y O)
 go_ret
 exact ⟨rfl,Z.out⟩
theorem aI.i64 {H:Nat→Prop} {w:World} {b x:Nat} {i:Inp} {a:MAd} {m:Mst} (h:aI H w b i x a m) {j:Nat} {c:Array Value} (o:w.heap[j]?=some (.cells c 2 (0,0))) (hm:Mut b a j):j=a.bp∨j=a.bm∨j=a.bg:=by
 rcases hm with e | e | e | e | e | e
 ·exact absurd e (ix o h.blk (by decide))
 ·exact .inl e
 ·exact .inr (.inl e)
 ·exact .inr (.inr e)
 ·obtain ⟨p,q,_⟩:=h.re
  exact absurd (show some j=_ by rw [e];rfl) (an o (by decide) q)
 ·exact absurd e.symm (an o (by decide) h.oO)
theorem aK.noI64 {w:World} {B l:Nat} {g:Option Nat} {s:LSt} (h:aK w B l g s) {j:Nat} {c:Array Value} (o:w.heap[j]?=some (.cells c 2 (0,0))):¬dC l g j:=by
 rintro (e | e)
 ·obtain ⟨p,i⟩:=h.blk
  exact absurd e (ix o i (by decide))
 ·subst e
  obtain ⟨p,i⟩:=h.ringBlk
  exact absurd rfl (ix o i (by decide))
theorem aK.mach {H G:Nat→Prop} {w p:World} {B l b x:Nat} {g:Option Nat} {s:LSt} {i:Inp} {a:MAd} {m:Mst} (hL:aK w B l g s) (hM:aI H w b i x a m) (u:a.bp<B∧a.bm<B∧a.bg<B) (hn:∀k,dC l g k→¬(Mut b a k∨G k))
  (hG:∀(j:Nat) (c:Array Value),w.heap[j]?=some (.cells c 2 (0,0))→¬G j) (q:Keep (fun k=>Mut b a k∨G k) w p):aK p B l g s:=
 hL.keep q (hn l (.inl rfl)) (fun j o=>hn j (.inr o)) (fun j c o v e=>e.elim (fun e=>by rcases hM.i64 o e with e | e | e<;>omega) (hG j c o))
theorem aK.lt {w:World} {B l:Nat} {g:Option Nat} {s:LSt} (h:aK w B l g s):∀k,dC l g k→k<w.heap.size:=by
 rintro k (e | e)
 ·rw [e];exact h.blocks.1
 ·exact (h.blocks.2 k e).2
def zZ (l:Nat) (g:Option Nat) (j:Nat) (i:Option Nat) (k:Nat):Prop:=dC l g k∨dC j i k
def WH (E:Nat→Prop) (l:Nat) (g:Option Nat) (j:Nat) (i:Option Nat) (k:Nat):Prop:=zZ l g j i k∨E k
structure Wld (E:Nat→Prop) (B:Nat) (w:World) (b l l':Nat) (i:Inp) (x:Nat) (a:MAd) (m:Mst) (s t:LSt) (g g':Option Nat):Prop where
 mach:aI (WH E l g l' g') w b i x a m
 hn:∀k,Mut b a k→¬WH E l g l' g' k
 lf:aK w B l g s
 lt:aK w B l' g' t
 dj:∀k,dC l g k→¬dC l' g' k
 lo:b<B∧a.bp<B∧a.bm<B∧a.bg<B
 hB:B≤w.heap.size
 ne:∀k,zZ l g l' g' k→¬E k
 ex:∀k,E k→k<w.heap.size
theorem Wld.below {E:Nat→Prop} {B:Nat} {w o:World} {b l p x:Nat} {i:Inp} {a:MAd} {m:Mst} {s t:LSt} {g q:Option Nat} (h:Wld E B w b l p i x a m s t g q) (j:Below w.heap.size w o):Wld E B o b l p i x a m s t g q:=
 ⟨h.mach.below j h.hn,h.hn,h.lf.below j,h.lt.below j,h.dj,h.lo,JJ h.hB j.size,h.ne,fun k e=>JK (h.ex k e) j.size⟩
theorem Wld.keepE {E:Nat→Prop} {B:Nat} {w u:World} {b l q x:Nat} {i:Inp} {a:MAd} {m:Mst} {s t:LSt} {g v:Option Nat} (h:Wld E B w b l q i x a m s t g v) (o:Keep E w u) (he:∀(j:Nat) (c:Array Value),w.heap[j]?=some (.cells c 2 (0,0))→B≤j→¬E j):Wld E B u b l q i x a m s t g v:=
 ⟨h.mach.step (o.mono fun k _ e=>.inr e) (fun k _ e=>e) h.hn,h.hn,h.lf.keep o (fun e=>h.ne l (.inl (.inl rfl)) e) (fun j p e=>h.ne j (.inl (.inr p)) e) he,h.lt.keep o (fun e=>h.ne q (.inr (.inl rfl)) e) (fun j p e=>h.ne j (.inr (.inr p)) e) he,h.dj,h.lo,JJ h.hB o.size,h.ne,fun k e=>JK (h.ex k e) o.size⟩
theorem Wld.newL {E:Nat→Prop} {B:Nat} {w:World} {b l o x:Nat} {i:Inp} {a:MAd} {m:Mst} {s t:LSt} {g j:Option Nat} (h:Wld E B w b l o i x a m s t g j):∀k,w.heap.size≤k→¬zZ l g o j k:=by
 rintro k p (e | e)
 ·have:=h.lf.lt k e;omega
 ·have:=h.lt.lt k e;omega
theorem Wld.new {E:Nat→Prop} {B:Nat} {w:World} {b l o x:Nat} {i:Inp} {a:MAd} {m:Mst} {s t:LSt} {g j:Option Nat} (h:Wld E B w b l o i x a m s t g j):∀k,w.heap.size≤k→¬WH E l g o j k:=by
 rintro k p (e | e)
 ·exact h.newL k p e
 ·have:=h.ex k e;omega
def kW (b:Nat) (a:MAd) (l:Nat) (g:Option Nat) (j:Nat) (i:Option Nat) (k:Nat):Prop:=Mut b a k∨zZ l g j i k
theorem Wld.lts {E:Nat→Prop} {B:Nat} {w:World} {b l p x:Nat} {i:Inp} {a:MAd} {m:Mst} {s t:LSt} {g o:Option Nat} (h:Wld E B w b l p i x a m s t g o):∀k,kW b a l g p o k→k<w.heap.size:=by
 rintro k (e | e)
 ·exact h.mach.mlt k e
 ·rcases JR k w.heap.size with j | j
  ·exact j
  ·exact absurd e (h.newL k j)
def jO (E:Nat→Prop) (B:Nat) (w:World) (b l j:Nat) (i:Inp) (x:Nat) (a:MAd) (g u:Option Nat) (A:Mst) (y v:LSt) (p:World):Prop:=
 ∃q o,Wld E B p b l j i x q A y v g o∧Keep (kW b a l g j u) w p∧∀k,kW b q l g j o k→kW b a l g j u k∨w.heap.size≤k
theorem jO.below {E:Nat→Prop} {B:Nat} {w o:World} {b l p x:Nat} {i:Inp} {a:MAd} {m:Mst} {s t:LSt} {g j:Option Nat} (h:Wld E B w b l p i x a m s t g j) (q:Below w.heap.size w o):jO E B w b l p i x a g j m s t o:=
 ⟨a,j,h.below q,Keep.below q,fun _ h=>.inl h⟩
theorem jO.own {E:Nat→Prop} {B:Nat} {w y:World} {b l u x:Nat} {i:Inp} {a:MAd} {m C:Mst} {s t:LSt} {g q:Option Nat} (h:Wld E B w b l u i x a m s t g q) {T:World→Mst→Prop} (J:∀w m,T w m→m=C) (H:xj (WH E l g u q) (fun _=>False) b i x a m T w y):jO E B w b l u i x a g q (adv i x C) s t y:=by
 obtain ⟨D,R,h1, -, -,p,A,O,L⟩:=H
 rw [J _ _ L] at h1
 obtain ⟨I,N,Q⟩:=O
 have o:=h.lo
 have v:∀k,Mut b D k→¬WH E l g u q k:=fun k j=>(A k j).elim (h.hn k) (h.new k)
 exact ⟨D,q,⟨h1,v,h.lf.mach h.mach o.2 (fun k j e=>e.elim (fun e=>h.hn k e (.inl (.inl j))) id) (fun _ _ _ h=>h) p,h.lt.mach h.mach o.2 (fun k j e=>e.elim (fun e=>h.hn k e (.inl (.inr j))) id) (fun _ _ _ h=>h) p,h.dj,by rw [I,N,Q];exact o,JJ h.hB p.size,h.ne,fun k e=>JK (h.ex k e) p.size⟩,
  p.mono fun k _ e=>e.elim .inl False.elim,fun k j=>j.elim (fun e=>(A k e).imp .inl id) (fun e=>.inl (.inr e))⟩
theorem GH {E:Nat→Prop} {B:Nat} {w:World} {b l N x:Nat} {i:Inp} {a:MAd} {m m1:Mst} {s t s1 t1:LSt} {g O:Option Nat} {C:Nat} (h:Wld E B w b l N i x a m s t g O) (hs:cU i) (hm:MOk i x m) (Y:pW i x s) (J:t.msgs.length<100000000000)
  (Z: -9223372036854775808≤i.cfg.rate∧i.cfg.rate≤9223372036854775807) (a0: -9223372036854775808≤i.cfg.mom∧i.cfg.mom≤9223372036854775807) (hr:gE i x m s t m1 s1 t1 C):
  Calls Tryz.prog 17 #[.pointer (some ⟨b,0,none⟩),.pointer (some ⟨l,0,none⟩),.pointer (some ⟨N,0,none⟩)] w fun e H=>e=.returned (KL (C:Nat))∧jO E B w b l N i x a g O m1 s1 t1 H:=by
 have v:∀{y:Itm} {ac:Acn},(bZ i x m.st)[m.nx]?=some y→y.a=some ac→ac.at'.1<ac.at'.2∧ac.at'.2≤i.start.length:=fun p q=>zo hs.ok (ep p).2 q
 cases hr with
 | fin hf=>
  refine (zX h.mach hf _ _).mono ?_
  rintro e H ⟨he,k⟩
  exact ⟨he,jO.below h k⟩
 | own y p q=>
  refine (Ew h.mach h.hn h.new hs p (hm.okAt hs p q) Z a0 _ _).mono ?_
  rintro e H ⟨he,hd⟩
  exact ⟨he,jO.own h (fun _ _ e=>e) hd⟩
 | send y ac p q o hroom=>
  refine (Eu h.mach h.hn h.new hs p o q (v p q).1 (v p q).2 _ h.lt hroom J h.hB (fun k e=>.inl (.inr e)) h.lo.1).mono ?_
  rintro e H ⟨he,H1,T,m2,h1,L, -, -, -,D,V,⟨f1,f2,f3⟩,rfl,U,hH,hL,hg⟩
  have u:=h.lo
  have I:∀k,WH E l g N U k→H1 k:=fun k e=>(hH k).2 (by
   rcases e with (e | e | e) | e
   ·exact .inl (.inl (.inl e))
   ·exact .inl (.inl (.inr (.inl e)))
   ·exact .inr e
   ·exact .inl (.inr e))
  have A:∀k,U=some k→dC N O k∨w.heap.size≤k:=fun k e=>by
   rcases hg with rfl | ⟨j,e1,e2⟩
   ·exact .inl (.inr e)
   ·rw [e1] at e;cases e;exact .inr e2
  have Q:∀k,Mut b T k→¬WH E l g N U k:=fun k o e=>L k o (I k e)
  refine ⟨he,T,U,⟨h1.step (Keep.refl _ _) (fun k _ e=>I k e) Q,Q,h.lf.mach h.mach u.2 (fun k o e=>e.elim (fun e=>h.hn k e (.inl (.inl o))) (h.dj k o)) (fun j c hj=>h.lt.noI64 hj) D,hL,fun k o e=>?_,by rw [f1,f2,f3];exact u,JJ h.hB D.size,fun k o X=>?_,fun k e=>JK (h.ex k e) D.size⟩,
   D.mono fun k _ e=>e.imp id .inr,fun k o=>?_⟩
  ·rcases e with e | e
   ·exact h.dj k o (.inl e)
   ·rcases A k e with e | e
    ·exact h.dj k o e
    ·have:=h.lf.lt k o;omega
  ·rcases o with e | e | e
   ·exact h.ne k (.inl e) X
   ·exact h.ne k (.inr (.inl e)) X
   ·rcases A k e with e | e
    ·exact h.ne k (.inr e) X
    ·have:=h.ex k X;omega
  ·rcases o with e | e | e | e
   ·exact (V k e).imp .inl id
   ·exact .inl (.inr (.inl e))
   ·exact .inl (.inr (.inr (.inl e)))
   ·exact (A k e).imp (fun e=>.inr (.inr e)) id
 | full y ac p q o hf=>
  refine (Ey h.mach h.hn h.new hs p o q (v p q).1 (v p q).2 _ h.lt hf).mono ?_
  rintro e H ⟨he,k⟩
  exact ⟨he,jO.below h k⟩
 | recv y ac p q o hlt heq=>
  have R:=Y.len hs (ep p).1 (ep p).2 q (oT (ep p).2 q o) hlt heq
  have u:=h.lo
  refine (Ev h.mach h.hn h.new hs p o q (v p q).1 (v p q).2 _ h.lf (fun k e=>.inl (.inl e)) u.1 u.2.2.2 hlt heq R.1 R.2).mono ?_
  rintro e H ⟨he,T,m2,h1, -, -,D,V,⟨f1,f2,f3⟩,rfl,hL⟩
  have L:∀k,Mut b T k→¬WH E l g N O k:=fun k o=>(V k o).elim (h.hn k) (h.new k)
  exact ⟨he,T,O,⟨h1,L,hL,h.lt.mach h.mach u.2 (fun k o e=>e.elim (fun e=>h.hn k e (.inl (.inr o))) (fun e=>h.dj k (.inl e) o)) (fun j c hj e=>h.lf.noI64 hj (.inl e)) D,h.dj,by rw [f1,f2,f3];exact u,JJ h.hB D.size,h.ne,fun k e=>JK (h.ex k e) D.size⟩,
   D.mono fun k _ e=>e.imp id (fun e=>.inl (.inl e)),fun k o=>o.elim (fun e=>(V k e).imp .inl id) (fun e=>.inl (.inr e))⟩
 | none y ac p q o h0=>
  refine (qT h.mach h.hn h.new hs p o q _ h.lf (.inl h0)).mono ?_
  rintro e H ⟨he,k⟩
  rw [if_pos h0] at he
  exact ⟨he,jO.below h k⟩
 | other y ac p q o hlt hne=>
  refine (qT h.mach h.hn h.new hs p o q _ h.lf (.inr ⟨hlt,hne⟩)).mono ?_
  rintro e H ⟨he,k⟩
  rw [if_neg (by omega)] at he
  exact ⟨he,jO.below h k⟩
theorem GC {E:Nat→Prop} {B:Nat} {w:World} {b l q x:Nat} {i:Inp} {a:MAd} {m A:Mst} {s t v u:LSt} {g D:Option Nat} {C:Nat} (h:Wld E B w b l q i x a m s t g D) (hs:cU i) (hm:MOk i x m) (p:t.msgs.length<100000000000) (hr:gE i x m s t A v u C):
  Calls Tryz.prog 18 #[.pointer (some ⟨b,0,none⟩),.pointer (some ⟨l,0,none⟩),.pointer (some ⟨q,0,none⟩)] w fun e o=>e=.returned (.bool (decide (C=0)))∧Below w.heap.size w o:=by
 cases hr with
 | fin hf=>exact GF h.mach hf _ _
 | own y hy ha=>
  have j:=lq (ep hy).2 ha
  exact GD h.mach hy (by omega) (by omega) _ _
 | send y ac hy ha j hroom=>
  refine (vW h.mach hy j _ h.lt (by omega)).mono ?_
  rintro e o ⟨he,k⟩
  rw [KA hroom] at he
  exact ⟨he,k⟩
 | full y ac hy ha j hf=>
  refine (vW h.mach hy j _ h.lt (by omega)).mono ?_
  rintro e o ⟨he,k⟩
  rw [KD (by omega)] at he
  exact ⟨he,k⟩
 | recv y ac hy ha j hlt heq=>exact vX h.mach hy j ha _ h.lf hlt true ⟨fun _=>heq,fun _=>rfl⟩
 | none y ac hy ha j h0=>exact Cf h.mach hy j _ h.lf h0
 | other y ac hy ha j hlt hne=>exact vX h.mach hy j ha _ h.lf hlt false ⟨fun e=>(by cases e),fun e=>absurd e hne⟩
def bJ (w:World) (A:Option Addr) (ms:List Msg):Prop:=
 ∃i,Rd w A (List.flatten i)∧i.length=ms.length∧(∀r∈i,r.length=6)∧∀j,j<ms.length→rR w (dL i j) (aC ms j)
theorem rR.same {w i:World} {j:List Value} {m:Msg} (h:rR w j m) (o:∀b,b<w.heap.size→i.heap[b]?=w.heap[b]?):rR i j m:=by
 obtain ⟨A,c,e,hr⟩:=h
 exact ⟨A,c,e,hr.same o⟩
theorem bJ.same {w o:World} {A:Option Addr} {ms:List Msg} (h:bJ w A ms) (p:∀b,b<w.heap.size→o.heap[b]?=w.heap[b]?):bJ o A ms:=by
 obtain ⟨i,h1,u,x,v⟩:=h
 exact ⟨i,h1.same p,u,x,fun j q=>(v j q).same p⟩
theorem bJ.below {w i:World} {A:Option Addr} {ms:List Msg} (h:bJ w A ms) (j:Below w.heap.size w i):bJ i A ms:=h.same j.block
theorem bJ.nil (w:World) (A:Option Addr):bJ w A []:=⟨[],Rd.nil _ _,rfl,by simp,by simp⟩
theorem pS {i:List (List Value)} {k:Nat} (h:∀r∈i,r.length=k):(List.flatten i).length=i.length*k:=by
 induction i with
 | nil=>simp
 | cons r l ih=>rw [List.flatten_cons,Kf,h r (by simp),ih (fun r hr=>h r (by simp [hr])),List.length_cons,Nat.add_mul];omega
def eA (V w:World) (A:Option Addr) (ms:List Msg):Prop:=
 ∃i,Rd w A (List.flatten i)∧i.length=ms.length∧(∀r∈i,r.length=6)∧∀j,j<ms.length→rR V (dL i j) (aC ms j)
theorem eA.nil (V w:World) (A:Option Addr):eA V w A []:=⟨[],Rd.nil _ _,rfl,by simp,by simp⟩
theorem eA.rd {V w:World} {A:Option Addr} {ms:List Msg} (h:eA V w A ms) (v:Below V.heap.size V w):bJ w A ms:=by
 obtain ⟨i,h1,p,u,q⟩:=h
 exact ⟨i,h1,p,u,fun j o=>(q j o).same v.block⟩
theorem bJ.in_ {w:World} {A:Option Addr} {ms:List Msg} (h:bJ w A ms):eA w w A ms:=h
theorem eA.keep {V w j:World} {S:Nat→Prop} {A:Option Addr} {ms:List Msg} (h:eA V w A ms) (k:Keep S w j) (hA:∀a,A=some a→¬S a.block):eA V j A ms:=by
 obtain ⟨i,h1,o,q,p⟩:=h
 exact ⟨i,k.rd h1 hA,o,q,p⟩
theorem df {p q:Prop} (h:p) (k:p→q):q:=k h
theorem mU (w:World) (e:TypeId) (size n base:Nat) (hn:w.heap.size=n) (i:base≤n):(w.alloc (.cells #[] e)).ownsRow base e size (.slice (some ⟨n,0,none⟩) 0 0) 0 []:=by
 subst hn
 exact World.ownsRow_made w #[] 0 i (by unfold maxLen;omega) (by simp)
theorem oK (cap:Int) (A:Option Addr) (n c:Nat) (r pk:Int) (w:World) (hr:0≤r∧r≤n) (hn:n≤17592186043904):
  Calls Tryz.prog 83 #[.agg #[KL cap,.slice A n c,KL r,KL pk]] w fun e i=>e=.returned (KL ((n:Int)-r))∧i=w.alloc (.cells #[KL cap,.slice A n c,KL r,KL pk] 73):=by
 go_enter Tryz.func83,Tryz.ntmps83
 go_wp2
 go_ret
 exact ⟨rfl,rfl⟩
theorem nJ (t0 o t2 i j:Int) (v:Value) (hv:v.oneCell'=true):∀u∈[Value.int .i64 t0,KL o,KL t2,KL i,KL j,v],u.oneCell'=true:=by
 intro u hu
 simp at hu
 rcases hu with rfl | rfl | rfl | rfl | rfl | rfl<;>first | rfl | exact hv
theorem DI {w:World} {ms:List Msg} {i:List (List Value)} (v:i.length=ms.length) (q:∀j,j<ms.length→rR w (dL i j) (aC ms j)):∀u∈List.flatten i,u.oneCell'=true:=by
 intro u hu
 obtain ⟨r,hr,hu⟩:=List.mem_flatten.1 hu
 obtain ⟨j,p,e⟩:=List.getElem_of_mem hr
 obtain ⟨x,c,o,_⟩:=q j (by omega)
 rw [show dL i j=r by simp [dL,p,e]] at o
 subst o
 exact nJ _ _ _ _ _ _ rfl u hu
theorem ua {j o:World} {k:Nat} {cap r pk:Int} {x:Value} {q:Option Addr} {n c3:Nat} {xs:List Value} (y:k<j.heap.size) (u:j.heap[k]?=some (.cells #[KL cap,x,KL r,KL pk] 73 (0,0)))
  (hB:Below j.heap.size j o) (p:o.ownsRow j.heap.size 91 6 (.slice q n c3) n xs) (v:Value):
  (o.setCell ⟨k,1,none⟩ v).ownsRow j.heap.size 91 6 (.slice q n c3) n xs∧(o.setCell ⟨k,1,none⟩ v).heap[k]?=some (.cells #[KL cap,v,KL r,KL pk] 73 (0,0))∧Keep (fun i=>i=k) j (o.setCell ⟨k,1,none⟩ v):=by
 refine ⟨ownsRow_setCell_other p (fun e=>by have:=(p.lt _ e).1;simp at this;omega) v,?_,Keep.setCell (S:=fun i=>i=k) (Keep.below hB) ⟨k,1,none⟩ (.inr rfl) v⟩
 exact KG o k 1 _ _ v ((hB.block k y).trans u)
def AB (V:World) (cap r:Nat) (pk:Nat) (ms:List Msg) (w:World) (e:Ending) (j:World):Prop:=
 ∃i o P,P=(pk:Int)∧e=.returned (.tuple #[.agg #[KL cap,.slice i ms.length o,KL r,KL P],KL 0])∧(eA V j i ms∧ms.length≤o∧∀a,i=some a→w.heap.size≤a.block)∧Below w.heap.size w j
theorem vi {V W:World} {v B:Option Addr} {ms:List Msg} {i:List (List Value)} {t0 p t2 o q:Int} {zs:List Int} {d:Nat} (u:i.length=ms.length) (A:∀r∈i,r.length=6)
  (y:∀j,j<ms.length→rR V (dL i j) (aC ms j)) (hB:Rd V B (aq .i64 zs)) (hr:Rd W v (List.flatten i++[KL t0,KL p,KL t2,KL o,KL q,.slice B zs.length d])):
  eA V W v (ms++[⟨⟨t0,p,t2,o,q⟩,zs⟩]):=by
 refine ⟨i++[[KL t0,KL p,KL t2,KL o,KL q,.slice B zs.length d]],?_,by simp [u],?_,?_⟩
 ·rw [Kr,List.flatten_cons,List.flatten_nil,List.append_nil];exact hr
 ·intro r hr
  rcases Kv.1 hr with hr | hr
  ·exact A r hr
  ·rw [List.mem_singleton.1 hr];rfl
 ·intro j x
  rcases JR j ms.length with h | h
  ·rw [iW _ _ _ (by omega),jf _ _ _ h]
   exact y j h
  ·obtain rfl:j=ms.length:=by simp at x;omega
   rw [jg,←u,iX]
   exact ⟨B,d,rfl,hB⟩
theorem zF (V:World) (cap:Nat) (A:Option Addr) (ms:List Msg) (c r pk:Nat) (t:Tg) (B:Option Addr) (zs:List Int) (d:Nat) (w:World) (hr:r≤ms.length) (hn:ms.length≤100000000000) (bd:ms.length<r+cap) (hA:eA V w A ms) (hB:Rd V B (aq .i64 zs)):
  Calls Tryz.prog 34 #[.agg #[KL cap,.slice A ms.length c,KL r,KL pk],.agg #[KL t.a,KL t.b,KL t.c,KL t.d,KL t.e,.slice B zs.length d]] w (AB V cap r (max pk (ms.length+1-r)) (ms++[⟨t,zs⟩]) w):=by
 obtain ⟨t0,t1,t2,t3,t4⟩:=t
 obtain ⟨L,h1,h2,h3,h4⟩:=hA
 have av:=pS h3
 rw [h2] at av
 have a8:=DI h2 h4
 have a1:=fun W=>oK cap A ms.length c r pk W (by omega) (by omega)
 obtain ⟨bh,aM,a2,H2,H3,H4⟩:=ai a1 av a8 h2 h3 h4;clear a1 av a8 h2 h3 h4
 go_enter Tryz.func34,Tryz.ntmps34
 go_wp2_with fail
 go_region_held3 (fun w'=>w'.cell? ⟨w.heap.size,0,none⟩=some (KL (cap:Int))∧w'.cell? ⟨w.heap.size,1,none⟩=some (.slice A ms.length c)∧w'.cell? ⟨w.heap.size,2,none⟩=some (KL (r:Int))∧w'.cell? ⟨w.heap.size,3,none⟩=some (KL (pk:Int))) (simp [go_sem,World.cell?_alloc_past, *])
  ((go_at_call 83;refine (bh.out _).mono ?_;rintro e w' ⟨rfl,rfl⟩))
 go_wp2_with fail
 generalize hw1:World.drew _=w1
 have hf:(w1.heap[w.heap.size]?=some (.cells #[KL (cap:Int),.slice A ms.length c,KL (r:Int),KL (pk:Int)] 73 (0,0)))∧(w1.heap[w.heap.size+1]?=some (.cells #[KL t0,KL t1,KL t2,KL t3,KL t4,.slice B zs.length d] 91 (0,0)))∧
   (w1.heap[w.heap.size+1+1]?=some (.cells #[KL 0,KN,KL 0,KL 0] 73 (0,0)))∧w.heap.size+4=w1.heap.size∧Below w.heap.size w w1:=by
  subst hw1
  refine ⟨?_,?_,?_,by simp,?_⟩
  ·show ((((w.heap.push _).push _).push _).push _)[_]?=_
   simp only [Array.getElem?_push,Array.size_push]
   rw [if_neg (by omega),if_neg (by omega),if_neg (by omega),if_pos trivial]
  ·show ((((w.heap.push _).push _).push _).push _)[_]?=_
   simp only [Array.getElem?_push,Array.size_push]
   rw [if_neg (by omega),if_neg (by omega),if_pos trivial]
  ·show ((((w.heap.push _).push _).push _).push _)[_]?=_
   simp only [Array.getElem?_push,Array.size_push]
   rw [if_neg (by omega),if_pos trivial]
  ·exact al
 obtain ⟨Z,T,aR,aP,b4⟩:=hf
 have b0:w1.cell? ⟨w.heap.size,0,none⟩=some (KL (cap:Int)):=JF w1 _ 0 _ _ _ Z
 have b1:w1.cell? ⟨w.heap.size,1,none⟩=some (.slice A ms.length c):=JF w1 _ 1 _ _ _ Z
 have b2:w1.cell? ⟨w.heap.size,2,none⟩=some (KL (r:Int)):=JF w1 _ 2 _ _ _ Z
 have b3:w1.cell? ⟨w.heap.size,3,none⟩=some (KL (pk:Int)):=JF w1 _ 3 _ _ _ Z
 have bf:=fun j=>JM w1 _ j _ _ Z
 have m0:w1.cell? ⟨w.heap.size+1,0,none⟩=some (KL t0):=JF w1 _ 0 _ _ _ T
 have m1:w1.cell? ⟨w.heap.size+1,1,none⟩=some (KL t1):=JF w1 _ 1 _ _ _ T
 have m2:w1.cell? ⟨w.heap.size+1,2,none⟩=some (KL t2):=JF w1 _ 2 _ _ _ T
 have m3:w1.cell? ⟨w.heap.size+1,3,none⟩=some (KL t3):=JF w1 _ 3 _ _ _ T
 have m4:w1.cell? ⟨w.heap.size+1,4,none⟩=some (KL t4):=JF w1 _ 4 _ _ _ T
 have m5:w1.cell? ⟨w.heap.size+1,5,none⟩=some (.slice B zs.length d):=JF w1 _ 5 _ _ _ T
 have I:w.heap.size<w1.heap.size:=by omega
 have u:w.heap.size+1<w1.heap.size:=by omega
 have a6:w.heap.size+1+1<w1.heap.size:=by omega
 have a7:=h1.below b4
 obtain ⟨bv,bw,bn,bA,be⟩:=ah hw1 aP Z T aR;clear hw1 aP Z T aR h1
 go_cut [] (fun wx=>∃A' c',wx.ownsRow w1.heap.size 91 6 (.slice A' (ms.length+1) c') (ms.length+1) (List.flatten L++[KL t0,KL t1,KL t2,KL t3,KL t4,.slice B zs.length d])∧
   wx.heap[w.heap.size]?=some (.cells #[KL (cap:Int),.slice A' (ms.length+1) c',KL (r:Int),KL (pk:Int)] 73 (0,0))∧Keep (fun k=>k=w.heap.size) w1 wx)
 case first=>
  go_region_law (first | (refine ij jD rfl (.tmp 12) (.tmp 14) rfl w1.heap.size (.slice (some ⟨w1.heap.size,0,none⟩) 0 0) 0 [] rfl ?_ A ms.length c (List.flatten L) rfl ?_ ?_ ?_ ?_ ?_ ?_ ?_;(focus ((repeat' (first | (with_reducible refine World.ownsRow.drew ?_) | (refine mU _ _ _ _ _ ?_ ?_;(focus (try simp));omega) | (with_reducible refine World.ownsRow.alloc ?_ _)));done));(focus ((repeat' (first | (with_reducible exact a7) | (with_reducible refine Rd.drew ?_) | (with_reducible refine Rd.alloc ?_ _)));done));exact aM.out;exact a2.out;omega;(unfold maxLen;omega);(simp;try omega);intro A2 c2 X o C q R;simp only [Kz,List.nil_append] at o;refine df (p:=Below w1.heap.size w1 X) ?_ ?_;(focus (refine Below.trans ?_ C;exact al;done));intro i;have a6:=i.size;have n0:=(i.cell (p:=⟨w.heap.size+1,0,none⟩) u).trans m0;have n1:=(i.cell (p:=⟨w.heap.size+1,1,none⟩) u).trans m1;have n2:=(i.cell (p:=⟨w.heap.size+1,2,none⟩) u).trans m2;have n3:=(i.cell (p:=⟨w.heap.size+1,3,none⟩) u).trans m3;have n4:=(i.cell (p:=⟨w.heap.size+1,4,none⟩) u).trans m4;have n5:=(i.cell (p:=⟨w.heap.size+1,5,none⟩) u).trans m5;refine df (p:=Rd X (some ⟨w1.heap.size+1,0,none⟩) [KL t0,KL t1,KL t2,KL t3,KL t4,.slice B zs.length d]) ?_ ?_;(focus (refine Rd.grown (row:=some w1.heap.size) ?_ q ?_;(focus ((repeat' (first | (with_reducible refine Rd.drew ?_) | (refine dZ _ _ _ _ ?_;simp;done) | (with_reducible refine Rd.alloc ?_ _)));done));(intro a ha;cases ha;simp)));intro J;refine df (p:=w.heap.size<X.heap.size∧w.heap.size+1<X.heap.size) (JL ?_ ?_) ?_;omega;omega;intro hss;have ab:=hss.1;have ad:=hss.2;have p1:=(i.cell (p:=⟨w.heap.size,1,none⟩) I).trans b1;have b7:=(i.frozen (p:=⟨w.heap.size,1,none⟩) I).trans (bf 1);obtain ⟨a3,N,a0⟩:=af i o J;clear i o J C q R hss) | (refine ij jD rfl (.tmp 12) (.tmp 14) rfl w1.heap.size (.slice (some ⟨w1.heap.size+1,0,none⟩) 0 0) 0 [] rfl ?_ A ms.length c (List.flatten L) rfl ?_ ?_ ?_ ?_ ?_ ?_ ?_;(focus ((repeat' (first | (with_reducible refine World.ownsRow.drew ?_) | (refine mU _ _ _ _ _ ?_ ?_;(focus (try simp));omega) | (with_reducible refine World.ownsRow.alloc ?_ _)));done));(focus ((repeat' (first | (with_reducible exact a7) | (with_reducible refine Rd.drew ?_) | (with_reducible refine Rd.alloc ?_ _)));done));exact aM.out;exact a2.out;omega;(unfold maxLen;omega);(simp;try omega);intro A2 c2 X o C q R;simp only [Kz,List.nil_append] at o;refine df (p:=Below w1.heap.size w1 X) ?_ ?_;(focus (refine Below.trans ?_ C;exact al;done));intro i;have a6:=i.size;have n0:=(i.cell (p:=⟨w.heap.size+1,0,none⟩) u).trans m0;have n1:=(i.cell (p:=⟨w.heap.size+1,1,none⟩) u).trans m1;have n2:=(i.cell (p:=⟨w.heap.size+1,2,none⟩) u).trans m2;have n3:=(i.cell (p:=⟨w.heap.size+1,3,none⟩) u).trans m3;have n4:=(i.cell (p:=⟨w.heap.size+1,4,none⟩) u).trans m4;have n5:=(i.cell (p:=⟨w.heap.size+1,5,none⟩) u).trans m5;refine df (p:=Rd X (some ⟨w1.heap.size,0,none⟩) [KL t0,KL t1,KL t2,KL t3,KL t4,.slice B zs.length d]) ?_ ?_;(focus (refine Rd.grown (row:=some (w1.heap.size+1)) ?_ q ?_;(focus ((repeat' (first | (with_reducible refine Rd.drew ?_) | (refine dZ _ _ _ _ ?_;simp;done) | (with_reducible refine Rd.alloc ?_ _)));done));(intro a ha;cases ha;simp)));intro J;refine df (p:=w.heap.size<X.heap.size∧w.heap.size+1<X.heap.size) (JL ?_ ?_) ?_;omega;omega;intro hss;have ab:=hss.1;have ad:=hss.2;have p1:=(i.cell (p:=⟨w.heap.size,1,none⟩) I).trans b1;have b7:=(i.frozen (p:=⟨w.heap.size,1,none⟩) I).trans (bf 1);obtain ⟨a3,N,a0⟩:=af i o J;clear i o J C q R hss) | (refine ij jD rfl (.tmp 12) (.tmp 14) rfl w1.heap.size (.slice (some ⟨w1.heap.size,0,none⟩) 0 0) 0 [] rfl ?_ A ms.length c (List.flatten L) rfl ?_ ?_ ?_ ?_ ?_ ?_ ?_;(focus ((repeat' (first | (with_reducible refine World.ownsRow.drew ?_) | (refine mU _ _ _ _ _ ?_ ?_;(focus (try simp));omega) | (with_reducible refine World.ownsRow.alloc ?_ _)));done));(focus ((repeat' (first | (with_reducible exact a7) | (with_reducible refine Rd.drew ?_) | (with_reducible refine Rd.alloc ?_ _)));done));exact aM.out;exact a2.out;omega;(unfold maxLen;omega);(simp;try omega);intro A2 c2 X o C q R;simp only [Kz,List.nil_append] at o;refine df (p:=Below w1.heap.size w1 X) ?_ ?_;(focus (refine Below.trans ?_ C;exact al;done));intro i;have a6:=i.size;have n0:=(i.cell (p:=⟨w.heap.size+1,0,none⟩) u).trans m0;have n1:=(i.cell (p:=⟨w.heap.size+1,1,none⟩) u).trans m1;have n2:=(i.cell (p:=⟨w.heap.size+1,2,none⟩) u).trans m2;have n3:=(i.cell (p:=⟨w.heap.size+1,3,none⟩) u).trans m3;have n4:=(i.cell (p:=⟨w.heap.size+1,4,none⟩) u).trans m4;have n5:=(i.cell (p:=⟨w.heap.size+1,5,none⟩) u).trans m5;have J:Rd X (some ⟨X.heap.size,0,none⟩) []:=Rd.nil _ _;refine df (p:=w.heap.size<X.heap.size∧w.heap.size+1<X.heap.size) (JL ?_ ?_) ?_;omega;omega;intro hss;have ab:=hss.1;have ad:=hss.2;have p1:=(i.cell (p:=⟨w.heap.size,1,none⟩) I).trans b1;have b7:=(i.frozen (p:=⟨w.heap.size,1,none⟩) I).trans (bf 1);obtain ⟨a3,N,a0⟩:=af i o J;clear i o J C q R hss) | (refine ij jD rfl (.tmp 15) (.tmp 17) rfl w1.heap.size (.slice A2 ms.length c2) ms.length (List.flatten L) rfl ?_ (some ⟨X.heap.size,0,none⟩) 1 1 [KL t0,KL t1,KL t2,KL t3,KL t4,.slice B zs.length d] rfl ?_ rfl (nJ _ _ _ _ _ _ rfl) ?_ ?_ ?_ ?_;(focus ((repeat' (first | (with_reducible exact N.out) | (with_reducible refine World.ownsRow.drew ?_) | (with_reducible refine World.ownsRow.alloc ?_ _)));done));(focus ((repeat' (first | (with_reducible refine Rd.drew ?_) | exact dZ _ _ _ _ rfl));done));omega;(unfold maxLen;omega);(first | omega | (focus (simp;omega)) | simp);intro A3 c3 w3 x y H U;refine df (p:=Below w1.heap.size w1 w3) ?_ ?_;(focus (refine a3.out.trans (Below.trans ?_ y);exact al;done));intro D;have q1:=(D.cell (p:=⟨w.heap.size,1,none⟩) I).trans b1;have b9:=(D.frozen (p:=⟨w.heap.size,1,none⟩) I).trans (bf 1);obtain ⟨aG,Y⟩:=ae D x;clear D x y H U) | (refine ij jD rfl (.tmp 15) (.tmp 17) rfl w1.heap.size (.slice A2 ms.length c2) ms.length (List.flatten L) rfl ?_ (some ⟨w1.heap.size+1,0,none⟩) 1 1 [KL t0,KL t1,KL t2,KL t3,KL t4,.slice B zs.length d] rfl ?_ rfl (nJ _ _ _ _ _ _ rfl) ?_ ?_ ?_ ?_;(focus ((repeat' (first | (with_reducible exact N.out) | (with_reducible refine World.ownsRow.drew ?_) | (with_reducible refine World.ownsRow.alloc ?_ _)));done));(focus ((repeat' (first | (with_reducible exact a0.out) | (with_reducible refine Rd.drew ?_)));done));omega;(unfold maxLen;omega);(first | omega | (focus (simp;omega)) | simp);intro A3 c3 w3 x y H U;refine df (p:=Below w1.heap.size w1 w3) ?_ ?_;(focus (refine a3.out.trans (Below.trans ?_ y);exact al;done));intro D;have q1:=(D.cell (p:=⟨w.heap.size,1,none⟩) I).trans b1;have b9:=(D.frozen (p:=⟨w.heap.size,1,none⟩) I).trans (bf 1);obtain ⟨aG,Y⟩:=ae D x;clear D x y H U) | (refine ij jD rfl (.tmp 15) (.tmp 17) rfl w1.heap.size (.slice A2 ms.length c2) ms.length (List.flatten L) rfl ?_ (some ⟨w1.heap.size,0,none⟩) 1 1 [KL t0,KL t1,KL t2,KL t3,KL t4,.slice B zs.length d] rfl ?_ rfl (nJ _ _ _ _ _ _ rfl) ?_ ?_ ?_ ?_;(focus ((repeat' (first | (with_reducible exact N.out) | (with_reducible refine World.ownsRow.drew ?_) | (with_reducible refine World.ownsRow.alloc ?_ _)));done));(focus ((repeat' (first | (with_reducible exact a0.out) | (with_reducible refine Rd.drew ?_)));done));omega;(unfold maxLen;omega);(first | omega | (focus (simp;omega)) | simp);intro A3 c3 w3 x y H U;refine df (p:=Below w1.heap.size w1 w3) ?_ ?_;(focus (refine a3.out.trans (Below.trans ?_ y);exact al;done));intro D;have q1:=(D.cell (p:=⟨w.heap.size,1,none⟩) I).trans b1;have b9:=(D.frozen (p:=⟨w.heap.size,1,none⟩) I).trans (bf 1);obtain ⟨aG,Y⟩:=ae D x;clear D x y H U))
  all_goals go_wp2_with fail
  all_goals go_meet
  all_goals
   have hm:=ua I bn.out aG.out Y.out (.slice A3 (ms.length+1) c3)
   first | exact ⟨A3,c3,hm.1,hm.2.1,hm.2.2⟩ | exact ⟨A3,c3,hm.1,hm.2.1,Keep.drew hm.2.2⟩
 case rest=>
  obtain ⟨A',c',ao,Q,hK⟩:=hcut
  have bo:=hK.size
  have e0:wc.cell? ⟨w.heap.size,0,none⟩=some (KL (cap:Int)):=JF wc _ 0 _ _ _ Q
  have e1:wc.cell? ⟨w.heap.size,1,none⟩=some (.slice A' (ms.length+1) c'):=JF wc _ 1 _ _ _ Q
  have e2:wc.cell? ⟨w.heap.size,2,none⟩=some (KL (r:Int)):=JF wc _ 2 _ _ _ Q
  have e3:wc.cell? ⟨w.heap.size,3,none⟩=some (KL (pk:Int)):=JF wc _ 3 _ _ _ Q
  have ef:=fun j=>JM wc _ j _ _ Q
  have O:=(hK.block (w.heap.size+1+1) a6 (by omega)).trans be.out
  have g0:wc.cell? ⟨w.heap.size+1+1,0,none⟩=some (KL 0):=JF wc _ 0 _ _ _ O
  have g1:wc.cell? ⟨w.heap.size+1+1,1,none⟩=some (KN):=JF wc _ 1 _ _ _ O
  have g2:wc.cell? ⟨w.heap.size+1+1,2,none⟩=some (KL 0):=JF wc _ 2 _ _ _ O
  have g3:wc.cell? ⟨w.heap.size+1+1,3,none⟩=some (KL 0):=JF wc _ 3 _ _ _ O
  have gf:=fun j=>JM wc _ j _ _ O
  have bs:w.heap.size<wc.heap.size:=by omega
  have b6:w.heap.size+1+1<wc.heap.size:=by omega
  have b5:=fun W=>oK cap A' (ms.length+1) c' r pk W (by omega) (by omega)
  obtain ⟨bb,HK,a5⟩:=af b5 hK ao;clear b5 hK ao O Q b0 b1 b2 b3 bf m0 m1 m2 m3 m4 m5 a7
  go_wp2_with fail
  go_region_with ((go_at_call 83;refine (bb.out _).mono ?_;rintro e w' ⟨rfl,rfl⟩))
  all_goals go_wp2_with fail
  all_goals
   have bz:Keep (fun k=>k<w1.heap.size) wc wc:=Keep.refl _ _
   have bG:Below w.heap.size w wc:=b4.trans (HK.out.toBelow (by omega) (fun k hk=>by omega))
   have bl:=Rd.own a5.out
   have b8:ms.length+1≤c':=by
    obtain ⟨A9,c9,e9,bi⟩:=aw a5.out
    injection e9 with _ _ e9;rw [e9];exact bi
   have a4:∀a:Addr,A'=some a→¬a.block<w1.heap.size:=fun a ha=>by
    have:=(a5.out.lt a.block (by rw [ha];rfl)).1;omega
   first
   | (have hP:(pk:Int)=((max pk (ms.length+1-r):Nat):Int):=(by omega);refine JQ (v:=.tuple #[.agg #[KL cap,.slice A' (ms.length+1) c',KL r,KL (pk:Int)],KL 0]) (by simp [results,Tryz.results34,go_sem,g0,g1,g2,g3,b6]) rfl ⟨A',c',(pk:Int),hP,by rw [Kf,Ko],⟨?_,by rw [Kf,Ko];exact b8,fun a ha=>by have:=a4 a ha;omega⟩,?_⟩)
   | (have hP:(ms.length:Int)+1-(r:Int)=((max pk (ms.length+1-r):Nat):Int):=(by omega);refine JQ (v:=.tuple #[.agg #[KL cap,.slice A' (ms.length+1) c',KL r,KL ((ms.length:Int)+1-(r:Int))],KL 0]) (by simp [results,Tryz.results34,go_sem,g0,g1,g2,g3,b6]) rfl ⟨A',c',(ms.length:Int)+1-(r:Int),hP,by rw [Kf,Ko],⟨?_,by rw [Kf,Ko];exact b8,fun a ha=>by have:=a4 a ha;omega⟩,?_⟩)
  all_goals first
   | (refine vi (B:=B) (d:=d) H2.out H3.out H4.out hB (Keep.rd (S:=fun k=>k<w1.heap.size) (w:=wc) ?_ bl a4);(focus (repeat' (first | (with_reducible exact Keep.refl _ _) | (with_reducible assumption) | (with_reducible refine Keep.setCell ?_ _ ?_ _) | (with_reducible refine Keep.alloc ?_ _) | (with_reducible refine Keep.drewN ?_ _) | (with_reducible refine Keep.drew ?_) | (dsimp only;omega)))))
   | exact al
theorem aS:cL Tryz.prog 73 4:=⟨⟨_,Tryz.underlying73,rfl⟩,by kernel_rfl⟩
theorem xH:cL Tryz.prog 24 12:=⟨⟨_,Tryz.underlying24,rfl⟩,by kernel_rfl⟩
theorem jI:cL Tryz.prog 39 2:=⟨⟨_,Tryz.underlying39,rfl⟩,by kernel_rfl⟩
theorem fF:cL Tryz.prog 132 2:=⟨⟨_,Tryz.underlying132,rfl⟩,by kernel_rfl⟩
theorem vn (w:World) (X Y Z o i j:Array Value) (t u:TypeId):∃W0,(((((w.alloc (.cells X t)).alloc (.cells Y u)).alloc (.cells Z u)).alloc (.cells o t)).alloc (.cells i u)).alloc (.cells j u)=W0∧
  W0.heap[w.heap.size]?=some (.cells X t (0,0))∧W0.heap[w.heap.size+1]?=some (.cells Y u (0,0))∧W0.heap[w.heap.size+1+1]?=some (.cells Z u (0,0))∧W0.heap[w.heap.size+1+1+1]?=some (.cells o t (0,0))∧W0.heap[w.heap.size+1+1+1+1]?=some (.cells i u (0,0))∧
  W0.heap[w.heap.size+1+1+1+1+1]?=some (.cells j u (0,0))∧Below w.heap.size w W0:=by
 refine ⟨_,rfl,?_⟩
 have h:=er [.cells X t,.cells Y u,.cells Z u,.cells o t,.cells i u,.cells j u] w
 exact ⟨cz [.cells X t,.cells Y u,.cells Z u,.cells o t,.cells i u,.cells j u] w 0 rfl,cz [.cells X t,.cells Y u,.cells Z u,.cells o t,.cells i u,.cells j u] w 1 rfl,cz [.cells X t,.cells Y u,.cells Z u,.cells o t,.cells i u,.cells j u] w 2 rfl,
  cz [.cells X t,.cells Y u,.cells Z u,.cells o t,.cells i u,.cells j u] w 3 rfl,cz [.cells X t,.cells Y u,.cells Z u,.cells o t,.cells i u,.cells j u] w 4 rfl,cz [.cells X t,.cells Y u,.cells Z u,.cells o t,.cells i u,.cells j u] w 5 rfl,h⟩
def RL (w:World) (v:Array Value) (s:LSt):Prop:=∃B c,v=#[KL (s.cap:Nat),.slice B s.msgs.length c,KL (s.recv:Nat),KL (s.peak:Nat)]∧bJ w B s.msgs∧s.msgs.length≤c
theorem RL.below {w i:World} {v:Array Value} {s:LSt} (h:RL w v s) (p:Below w.heap.size w i):RL i v s:=by
 obtain ⟨B,c,h1,j,o⟩:=h
 exact ⟨B,c,h1,j.below p,o⟩
section
variable {u v:World}
theorem aX {A:Option Addr} {l:List Int} {c:Nat} (h:bD u A l c) (hv:Ext u v):bD v A l c:=⟨h.hc,h.hl,aU h.hr hv,h.hw⟩
theorem fJ {A:Option Addr} {c:Nat} {D T R:Option Addr} {ct:Nat} {i:Inp} (h:gF u A c D T ct R i) (hv:Ext u v):gF v A c D T ct R i:=
 ⟨⟨h.c.hc,h.c.hm,h.c.hl,aU h.c.hr hv⟩,dJ bW h.d hv,h.dl,aX h.t hv,h.tl,aU h.r hv,h.rl,h.ru,h.ra,h.rm⟩
theorem du {vs:Array Value} {i:Inp} {x:Nat} {m:Mst} (h:dM u vs i x m) (j:Ext u v):dM v vs i x m:=by
 obtain ⟨A,c,D,cd,T,ct,R,cr,PA,pc,MA,mc,GA,gc,SA,sc,IA,ic,C,h1,p,H,q,B,o,y⟩:=h
 exact ⟨A,c,D,cd,T,ct,R,cr,PA,pc,MA,mc,GA,gc,SA,sc,IA,ic,C,fJ h1 j,aX p j,aX H j,aX q j,dJ bW B j,aU o j,y⟩
theorem bK {A:Option Addr} {ms:List Msg} (h:bJ u A ms) (o:Ext u v):bJ v A ms:=by
 obtain ⟨i,h1,q,B,x⟩:=h
 exact ⟨i,aU h1 o,q,B,fun j p=>by obtain ⟨C,y,e,hr⟩:=x j p;exact ⟨C,y,e,aU hr o⟩⟩
theorem ko {V:World} {A:Option Addr} {ms:List Msg} (h:eA V u A ms) (q:Ext u v):eA V v A ms:=by
 obtain ⟨i,h1,j,p,o⟩:=h
 exact ⟨i,aU h1 q,j,p,o⟩
theorem eh {x:Array Value} {s:LSt} (h:RL u x s) (o:Ext u v):RL v x s:=by
 obtain ⟨B,c,h1,i,j⟩:=h
 exact ⟨B,c,h1,bK i o,j⟩
end
theorem fM {S:Nat→Prop} {w:World} {base:Nat} {e:TypeId} {n c:Nat} {A:Option Addr} {xs:List Value} (h:w.ownsRow base e 1 (.slice A n c) n xs) (o:∀k,S k→k<base):Rd (ay S w) A xs:=by
 refine kh (Rd.own h) fun y i hs=>?_
 rcases h.2 with ⟨j,_⟩ | ⟨g,_,_,j,q,_⟩
 ·injection j with e1;rw [e1] at i;cases i
 ·injection j with e1;rw [e1] at i;cases i;have p:g<base:=o _ hs;omega
theorem fp {P:Program} {f:Func} {x y z q:Tmp} {O j i:TypeId} (h:f.results=#[.cell x O,.cell y j,.cell z i,.tmp q]) {tmps:Array Value} {w:World} {b v b3:Nat} {xs ys zs:Array Value} {t t2 Z:TypeId} {fr D A:Nat×Nat} (hx:tmps.getD x undef=.pointer (some ⟨b,0,none⟩)) (hy:tmps.getD y undef=.pointer (some ⟨v,0,none⟩)) (hz:tmps.getD z undef=.pointer (some ⟨b3,0,none⟩))
  (hb:w.heap[b]?=some (.cells xs t fr)) (Q:w.heap[v]?=some (.cells ys t2 D)) (U:w.heap[b3]?=some (.cells zs Z A)) (hr:cL P O xs.size) (C:cL P j ys.size) (R:cL P i zs.size):(results f tmps).run P w=.ok (.tuple #[.agg xs,.agg ys,.agg zs,tmps.getD q undef]) w:=by
 obtain ⟨⟨d,h1,h2⟩,h3⟩:=hr
 obtain ⟨⟨d',J,H⟩,N⟩:=C
 obtain ⟨⟨I,o,p⟩,u⟩:=R
 have X:=run_loadVar_mid (P:=P) w b 0 O xs.toList d (dW hb 0 (by rw [Ke,Ks])) h1 h2 (by simpa using h3)
 have V:=run_loadVar_mid (P:=P) w v 0 j ys.toList d' (dW Q 0 (by rw [Ke,Ks])) J H (by simpa using N)
 have Y:=run_loadVar_mid (P:=P) w b3 0 i zs.toList I (dW U 0 (by rw [Ke,Ks])) o p (by simpa using u)
 rw [Array.toArray_toList] at X V Y
 have B:tmps[x]?.getD undef=.pointer (some ⟨b,0,none⟩):=by simpa using hx
 have L:tmps[y]?.getD undef=.pointer (some ⟨v,0,none⟩):=by simpa using hy
 have T:tmps[z]?.getD undef=.pointer (some ⟨b3,0,none⟩):=by simpa using hz
 simp [results,h,B,L,T,asAddr,X,V,Y]
def mG (S:Nat→Prop) (i:Inp) (x:Nat) (m:Mst) (s t:LSt) (C:Int) (w:World) (e:Ending) (j:World):Prop:=∃vs u v,e=.returned (.tuple #[.agg vs,.agg u,.agg v,KL C])∧vs.size=22∧(vs.toList.all (·.oneCell')=true)∧dM (ay S j) vs i x m∧RL (ay S j) u s∧RL (ay S j) v t∧Below w.heap.size w j
structure RdF (S:Nat→Prop) (w W0:World) (i:Inp) (x:Nat) (m:Mst) (s t:LSt) (y:Itm) (A:Option Addr) (c:Nat) (D:Option Addr) (cd:Nat) (T:Option Addr) (ct:Nat) (R:Option Addr) (cr:Nat) (PA:Option Addr) (pc:Nat) (MA:Option Addr) (mc:Nat) (GA:Option Addr) (gc:Nat) (SA:Option Addr) (sc bI oI ic:Nat) (B1:Option Addr) (c1:Nat) (B2:Option Addr) (c2 dn il:Nat):Prop where
 eW:(((((w.alloc (.cells #[.slice A i.cfg.sizes.length c,KL i.cfg.shift,KL i.cfg.rate,KL i.cfg.mom,KL i.cfg.workers,KL i.cfg.batch,KL i.cfg.micros,KL i.cfg.steps,KL i.cfg.bucket,KL i.cfg.chunk,KL i.cfg.window,KL i.cfg.cap,.slice D i.data.length cd,.slice T i.start.length ct,.slice R i.draws.length cr,KL (x:Nat),.slice PA i.start.length pc,.slice MA i.start.length mc,.slice GA i.start.length gc,.slice SA m.rc.length sc,.slice (some ⟨bI,oI,none⟩) il ic,KL (dn:Nat)] 43)).alloc (.cells #[KL (s.cap:Nat),.slice B1 s.msgs.length c1,KL (s.recv:Nat),KL (s.peak:Nat)] 73)).alloc (.cells #[KL (t.cap:Nat),.slice B2 t.msgs.length c2,KL (t.recv:Nat),KL (t.peak:Nat)] 73)).alloc (.cells KP 43)).alloc (.cells #[KL 0,KN,KL 0,KL 0] 73)).alloc (.cells #[KL 0,KN,KL 0,KL 0] 73)=W0
 bx:∀w',Below W0.heap.size W0 w'→w'.heap[w.heap.size]?=some (.cells #[.slice A i.cfg.sizes.length c,KL i.cfg.shift,KL i.cfg.rate,KL i.cfg.mom,KL i.cfg.workers,KL i.cfg.batch,KL i.cfg.micros,KL i.cfg.steps,KL i.cfg.bucket,KL i.cfg.chunk,KL i.cfg.window,KL i.cfg.cap,.slice D i.data.length cd,.slice T i.start.length ct,.slice R i.draws.length cr,KL (x:Nat),.slice PA i.start.length pc,.slice MA i.start.length mc,.slice GA i.start.length gc,.slice SA m.rc.length sc,.slice (some ⟨bI,oI,none⟩) il ic,KL (dn:Nat)] 43 (0,0))∧w'.heap[w.heap.size+1]?=some (.cells #[KL (s.cap:Nat),.slice B1 s.msgs.length c1,KL (s.recv:Nat),KL (s.peak:Nat)] 73 (0,0))∧w'.heap[w.heap.size+1+1]?=some (.cells #[KL (t.cap:Nat),.slice B2 t.msgs.length c2,KL (t.recv:Nat),KL (t.peak:Nat)] 73 (0,0))∧w'.heap[w.heap.size+1+1+1]?=some (.cells KP 43 (0,0))∧w'.heap[w.heap.size+1+1+1+1]?=some (.cells #[KL 0,KN,KL 0,KL 0] 73 (0,0))∧w'.heap[w.heap.size+1+1+1+1+1]?=some (.cells #[KL 0,KN,KL 0,KL 0] 73 (0,0))
 K:Below w.heap.size w W0
 I0:gF (ay S w) A c D T ct R i
 P0:bD (ay S w) PA m.P pc
 M0:bD (ay S w) MA m.M mc
 G0:bD (ay S w) GA m.G gc
 R0:cE rEx 2 (ay S w) SA m.rc
 It0:Rd (ay S w) (some ⟨bI,oI,none⟩) (bH (dx i x))
 Pl:m.P.length=i.start.length
 Ml:m.M.length=i.start.length
 Gl:m.G.length=i.start.length
 s0:bJ (ay S w) B1 s.msgs
 t0:bJ (ay S w) B2 t.msgs
 s2:s.msgs.length≤c1
 t2:t.msgs.length≤c2
 il':(dx i x).length=il
 dn':aW i x m=dn
 s':cU i
 rw':W0.rangeAt bI (oI+dn*12) (aN y)
 S':∀k,S k→k<w.heap.size
 wd:IntKind.i64.wrap ((dn:Int)+1)=((dn:Int)+1)
 loc:(∀w',Below W0.heap.size W0 w'→w'.cell? ⟨w.heap.size,20,none⟩=some (.slice (some ⟨bI,oI,none⟩) il ic))∧(∀w',Below W0.heap.size W0 w'→w'.cell? ⟨w.heap.size,21,none⟩=some (KL (dn:Nat)))∧(∀w',Below W0.heap.size W0 w'→w.heap.size<w'.heap.size)∧(dn:Int)<il∧¬(il:Int)≤dn∧¬(dn:Int)<0∧¬il≤dn
section
variable {S:Nat→Prop} {w W0:World} {i:Inp} {x:Nat} {m:Mst} {s t:LSt} {y:Itm} {A:Option Addr} {c:Nat} {D:Option Addr} {cd:Nat} {T:Option Addr} {ct:Nat} {R:Option Addr} {cr:Nat} {PA:Option Addr} {pc:Nat} {MA:Option Addr} {mc:Nat} {GA:Option Addr} {gc:Nat} {SA:Option Addr} {sc bI oI ic:Nat} {B1:Option Addr} {c1:Nat} {B2:Option Addr} {c2 dn il:Nat}
variable (h:RdF S w W0 i x m s t y A c D cd T ct R cr PA pc MA mc GA gc SA sc bI oI ic B1 c1 B2 c2 dn il)
include h
theorem RdF.hI:gF w A c D T ct R i:=fJ h.I0 (cJ S w)
theorem RdF.hP:bD w PA m.P pc:=aX h.P0 (cJ S w)
theorem RdF.hM:bD w MA m.M mc:=aX h.M0 (cJ S w)
theorem RdF.hG:bD w GA m.G gc:=aX h.G0 (cJ S w)
theorem RdF.hR:cE rEx 2 w SA m.rc:=dJ bW h.R0 (cJ S w)
theorem RdF.hIt:Rd w (some ⟨bI,oI,none⟩) (bH (dx i x)):=aU h.It0 (cJ S w)
theorem RdF.hs1:bJ w B1 s.msgs:=bK h.s0 (cJ S w)
theorem RdF.ht1:bJ w B2 t.msgs:=bK h.t0 (cJ S w)
end
theorem jy {S:Nat→Prop} {w:World} {vs u v:Array Value} {i:Inp} {x:Nat} {m:Mst} {s t:LSt} {y:Itm} (hS:∀k,S k→k<w.heap.size) (h:dM (ay S w) vs i x m) (hu:RL (ay S w) u s) (hv:RL (ay S w) v t) (hs:cU i) (hy:(dx i x)[aW i x m]?=some y):
  ∃A c D cd T ct R cr PA pc MA mc GA gc SA sc bI oI ic B1 c1 B2 c2 dn il W0,vs=#[.slice A i.cfg.sizes.length c,KL i.cfg.shift,KL i.cfg.rate,KL i.cfg.mom,KL i.cfg.workers,KL i.cfg.batch,KL i.cfg.micros,KL i.cfg.steps,KL i.cfg.bucket,KL i.cfg.chunk,KL i.cfg.window,KL i.cfg.cap,.slice D i.data.length cd,.slice T i.start.length ct,.slice R i.draws.length cr,KL (x:Nat),.slice PA i.start.length pc,.slice MA i.start.length mc,.slice GA i.start.length gc,.slice SA m.rc.length sc,.slice (some ⟨bI,oI,none⟩) il ic,KL (dn:Nat)]∧u=#[KL (s.cap:Nat),.slice B1 s.msgs.length c1,KL (s.recv:Nat),KL (s.peak:Nat)]∧v=#[KL (t.cap:Nat),.slice B2 t.msgs.length c2,KL (t.recv:Nat),KL (t.peak:Nat)]∧RdF S w W0 i x m s t y A c D cd T ct R cr PA pc MA mc GA gc SA sc bI oI ic B1 c1 B2 c2 dn il:=by
 obtain ⟨A,c,D,cd,T,ct,R,cr,PA,pc,MA,mc,GA,gc,SA,sc,IA,ic,rfl,Q,N,V,L,U,o,O,Z,I⟩:=h
 obtain ⟨B1,c1,rfl,J,X⟩:=hu
 obtain ⟨B2,c2,rfl,a0,Y⟩:=hv
 have hal:(dx i x).length≤48000000:=ml hs x (JD _)
 obtain ⟨bI,oI,rfl,p⟩:=lA (aU o (cJ S w)) hy
 have H:=(Kg.1 hy).1
 obtain ⟨dn,B⟩:∃dn,aW i x m=dn:=⟨_,rfl⟩
 obtain ⟨il,C⟩:∃il,(dx i x).length=il:=⟨_,rfl⟩
 rw [B] at p H
 rw [C] at hal H
 obtain ⟨W0,hW0,g0,g1,g2,g3,g4,g5,k0⟩:=vn w #[.slice A i.cfg.sizes.length c,KL i.cfg.shift,KL i.cfg.rate,KL i.cfg.mom,KL i.cfg.workers,KL i.cfg.batch,KL i.cfg.micros,KL i.cfg.steps,KL i.cfg.bucket,KL i.cfg.chunk,KL i.cfg.window,KL i.cfg.cap,.slice D i.data.length cd,.slice T i.start.length ct,.slice R i.draws.length cr,KL (x:Nat),.slice PA i.start.length pc,.slice MA i.start.length mc,.slice GA i.start.length gc,.slice SA m.rc.length sc,.slice (some ⟨bI,oI,none⟩) il ic,KL (dn:Nat)] #[KL (s.cap:Nat),.slice B1 s.msgs.length c1,KL (s.recv:Nat),KL (s.peak:Nat)] #[KL (t.cap:Nat),.slice B2 t.msgs.length c2,KL (t.recv:Nat),KL (t.peak:Nat)] KP #[KL 0,KN,KL 0,KL 0] #[KL 0,KN,KL 0,KL 0] 43 73
 exact ⟨A,c,D,cd,T,ct,R,cr,PA,pc,MA,mc,GA,gc,SA,sc,bI,oI,ic,B1,c1,B2,c2,dn,il,W0,by rw [B,C],rfl,rfl,hW0,fun j q=>⟨sb g0 j q,sb g1 j q,sb g2 j q,sb g3 j q,sb g4 j q,sb g5 j q⟩,k0,Q,N,V,L,U,o,O,Z,I,J,a0,X,Y,C,B,hs,fun k u hu=>am k0 (p k u hu),hS,by rw [JI _ (by omega)],
  fun j q=>JF j w.heap.size 20 _ _ _ (sb g0 j q),fun j q=>JF j w.heap.size 21 _ _ _ (sb g0 j q),sl g0,by omega,by omega,by omega,by omega⟩
theorem ta {V i:World} {X:Nat} {A y j x o:Obj} (k:Keep (fun k=>k=X) V i) (h1:V.heap[X+1]?=some A) (p:V.heap[X+1+1]?=some y) (v:V.heap[X+1+1+1]?=some j) (q:V.heap[X+1+1+1+1]?=some x) (u:V.heap[X+1+1+1+1+1]?=some o):
  i.heap[X+1]?=some A∧i.heap[X+1+1]?=some y∧i.heap[X+1+1+1]?=some j∧i.heap[X+1+1+1+1]?=some x∧i.heap[X+1+1+1+1+1]?=some o:=
 ⟨(k.block _ (JC h1) (by omega)).trans h1,(k.block _ (JC p) (by omega)).trans p,(k.block _ (JC v) (by omega)).trans v,(k.block _ (JC q) (by omega)).trans q,(k.block _ (JC u) (by omega)).trans u⟩
abbrev KB3 (X:Nat) (V w:World):Prop:=Keep (fun k=>k=X+1+1+1∨k=X+1+1+1+1∨k=X+1+1+1+1+1) V w
section
variable {P:Program} {ops:Array Oper} {Q:Exit→Act→World→Prop} {X:Nat} {V:World}
theorem HA.ld3 {L:List Nat} {a:Act} {w:World} {vs u v:Array Value} {Y t2 R:TypeId} {i j o:Oper} {C O D:TypeId} {y N J:Operand} (H:V.heap[X]?=some (.cells vs Y (0,0))) (A:V.heap[X+1]?=some (.cells u t2 (0,0))) (I:V.heap[X+1+1]?=some (.cells v R (0,0))) (U:cL P C vs.size) (T:cL P O u.size) (Z:cL P D v.size) (x:KB3 X V w)
  (k:HA P ops Q (KB3 X V) (2::1::0::L) (((a.put i.dst (.agg vs)).put j.dst (.agg u)).put o.dst (.agg v)) w)
  (p:ops[0]?=some i:=by (simp only [J1,Ka,Kb];rfl)) (ho1:ops[1]?=some j:=by (simp only [J1,Ka,Kb];rfl)) (ho2:ops[2]?=some o:=by (simp only [J1,Ka,Kb];rfl))
  (hp0:i.op=.load C y:=by rfl) (hp1:j.op=.load O N:=by rfl) (hp2:o.op=.load D J:=by rfl) (hx0:a.eval y=.pointer (some ⟨X,0,none⟩):=by rfl) (hx1:(a.put i.dst (.agg vs)).eval N=.pointer (some ⟨X+1,0,none⟩):=by rfl) (hx2:((a.put i.dst (.agg vs)).put j.dst (.agg u)).eval J=.pointer (some ⟨X+1+1,0,none⟩):=by rfl)
  (g0:Region.wanted i (yielded ops a.tmps)=true:=by rfl) (g1:Region.wanted j (yielded ops (a.put i.dst (.agg vs)).tmps)=true:=by rfl) (g2:Region.wanted o (yielded ops ((a.put i.dst (.agg vs)).put j.dst (.agg u)).tmps)=true:=by rfl)
  (hs:Region.noSelect ops=true:=by decide +kernel) (hQ:∀c a w d v,Q (.panic c) (Act.put a d v) w→Q (.panic c) a w:=by (intro _ _ _ d _ h;cases d<;>exact h)) (c0:j4 ops L [0]=true:=by decide +kernel) (c1:j4 ops (0::L) [1]=true:=by decide +kernel) (c2:j4 ops (1::0::L) [2]=true:=by decide +kernel):HA P ops Q (KB3 X V) L a w:=
 HA.ld 0 vs (fun B q=>(q.block _ (JC H) (by omega)).trans H) U x (HA.ld 1 u (fun B q=>(q.block _ (JC A) (by omega)).trans A) T x (HA.ld 2 v (fun B q=>(q.block _ (JC I) (by omega)).trans I) Z x k ho2 hp2 hx2 (by rw [Ke,Ks]) g2 hs hQ c2) ho1 hp1 hx1 (by rw [Ke,Ks]) g1 hs hQ c1) p hp0 hx0 (by rw [Ke,Ks]) g0 hs hQ c0
theorem HA.st3 {L:List Nat} {a:Act} {w:World} {vs u v z1 U z3:Array Value} {t1 t2 J:TypeId} {o p A:Oper} {T y2 y3:TypeId} {I x1 x2 v0 v1 v2:Operand} {n1 n2 R:Nat} (i j l:Nat) (b3:V.heap[X+1+1+1]?=some (.cells z1 t1 (0,0))) (b4:V.heap[X+1+1+1+1]?=some (.cells U t2 (0,0))) (b5:V.heap[X+1+1+1+1+1]?=some (.cells z3 J (0,0))) (r0:cL P T n1) (r1:cL P y2 n2) (r2:cL P y3 R) (hw:Below V.heap.size V w)
  (k:∀x,x.heap[X+1+1+1]?=some (.cells vs t1 (0,0))→x.heap[X+1+1+1+1]?=some (.cells u t2 (0,0))→x.heap[X+1+1+1+1+1]?=some (.cells v J (0,0))→KB3 X V x→HA P ops Q (KB3 X V) (l::j::i::L) (((a.put o.dst undef).put p.dst undef).put A.dst undef) x)
  (B:ops[i]?=some o:=by (simp only [J1,Ka,Kb];rfl)) (ho1:ops[j]?=some p:=by (simp only [J1,Ka,Kb];rfl)) (ho2:ops[l]?=some A:=by (simp only [J1,Ka,Kb];rfl))
  (hp0:o.op=.store T I v0:=by rfl) (hp1:p.op=.store y2 x1 v1:=by rfl) (hp2:A.op=.store y3 x2 v2:=by rfl) (hx0:a.eval I=.pointer (some ⟨X+1+1+1,0,none⟩):=by rfl) (hx1:(a.put o.dst undef).eval x1=.pointer (some ⟨X+1+1+1+1,0,none⟩):=by rfl) (hx2:((a.put o.dst undef).put p.dst undef).eval x2=.pointer (some ⟨X+1+1+1+1+1,0,none⟩):=by rfl)
  (hv0:a.eval v0=.agg vs:=by rfl) (hv1:(a.put o.dst undef).eval v1=.agg u:=by rfl) (hv2:((a.put o.dst undef).put p.dst undef).eval v2=.agg v:=by rfl)
  (e0:vs.size=n1:=by rfl) (e1:u.size=n2:=by rfl) (e2:v.size=R:=by rfl) (f0:z1.size=vs.size:=by rfl) (f1:U.size=u.size:=by rfl) (f2:z3.size=v.size:=by rfl) (l0:vs.toList.all (·.oneCell')=true:=by rfl) (l1:u.toList.all (·.oneCell')=true:=by rfl) (l2:v.toList.all (·.oneCell')=true:=by rfl)
  (d0:cM ops L=[i]:=by decide +kernel) (d1:cM ops (i::L)=[j]:=by decide +kernel) (d2:cM ops (j::i::L)=[l]:=by decide +kernel)
  (g0:Region.wanted o (yielded ops a.tmps)=true:=by rfl) (g1:Region.wanted p (yielded ops (a.put o.dst undef).tmps)=true:=by rfl) (g2:Region.wanted A (yielded ops ((a.put o.dst undef).put p.dst undef).tmps)=true:=by rfl):HA P ops Q (KB3 X V) L a w:=by
 have q:KB3 X V w:=Keep.below hw
 refine HA.st i (sb b3 w hw) r0 (fun w6 Z H=>?_) B hp0 hx0 hv0 e0 f0 l0 d0 g0
 have Y:KB3 X V w6:=q.trans (H.mono fun k _ e=>.inl e)
 refine ⟨Y,HA.st j ((H.block _ (JC (sb b4 w hw)) (by omega)).trans (sb b4 w hw)) r1 (fun w7 O D=>?_) ho1 hp1 hx1 hv1 e1 f1 l1 d1 g1⟩
 have N:KB3 X V w7:=Y.trans (D.mono fun k _ e=>.inr (.inl e))
 have y:=(H.block _ (JC (sb b5 w hw)) (by omega)).trans (sb b5 w hw)
 refine ⟨N,HA.st l ((D.block _ (JC y) (by omega)).trans y) r2 (fun w8 e8 C=>?_) ho2 hp2 hx2 hv2 e2 f2 l2 d2 g2⟩
 have q8:KB3 X V w8:=N.trans (C.mono fun k _ e=>.inr (.inr e))
 have c3:=(D.block _ (JC Z) (by omega)).trans Z
 exact ⟨q8,k w8 ((C.block _ (JC c3) (by omega)).trans c3) ((C.block _ (JC O) (by omega)).trans O) e8 q8⟩
end
theorem jx {w V o i:World} (p:Keep (fun k=>k=w.heap.size) V o) (u:KB3 w.heap.size o i) (h:Below w.heap.size w V):Keep (fun k=>w.heap.size≤k∧k<w.heap.size+6) V i∧Below w.heap.size w i:=
 have k:Keep (fun k=>w.heap.size≤k∧k<w.heap.size+6) V i:=(p.mono fun k _ e=>by omega).trans (u.mono fun k _ e=>by rcases e with e | e | e<;>omega)
 ⟨k,h.trans (k.toBelow h.size (fun j q=>q.1))⟩
theorem yi {w:World} {vs:Array Value} {i:Inp} {x:Nat} {m:Mst} {s t:LSt} {u v:Array Value} {S:Nat→Prop} (hS:∀k,S k→k<w.heap.size) (h:dM (ay S w) vs i x m) (hu:RL (ay S w) u s) (hv:RL (ay S w) v t) (hs:cU i) {y:Itm} (hy:(dx i x)[aW i x m]?=some y) (k1 k2:Int) (b0 b1:Bool) (i0 i1 i2 i3 i4 i5 i6:Int) (a0:aN y=[KL 2,KL k1,KL k2,.bool b0,.bool b1,KL i0,KL i1,KL i2,KL i3,KL i4,KL i5,KL i6])
  (Q:Mst) (h1:Q.P=m.P∧Q.M=m.M∧Q.G=m.G∧Q.rc=m.rc) (C:aW i x Q=aW i x m+1):
  Calls Tryz.prog 24 #[.agg vs,.agg u,.agg v] w (fun e w'=>mG S i x Q (s) (t) 0 w e w'):=by
 obtain ⟨A,c,D,cd,T,ct,R,cr,PA,pc,MA,mc,GA,gc,SA,sc,bI,oI,ic,B1,c1,B2,c2,dn,il,W0,rfl,rfl,rfl,H⟩:=jy hS h hu hv hs hy
 have B:=H.rw'
 rw [a0] at B
 rw [H.dn'] at C
 obtain ⟨ab,H1,a4⟩:=af B h1 C
 obtain ⟨b7,b6,tl,aM,a5,aR,a7⟩:=H.loc
 have q0:=br W0
 clear h hu hv hs hy a0 hS h1 C B
 go_enter Tryz.func24,Tryz.ntmps24
 go_upto_region 1 with (fail)
 rw [H.eW]
 go_upto_region 4 with (first | (refine dN ab.out fg rfl rfl rfl ?_) | (refine az (JE _ _) fg rfl rfl rfl rfl rfl rfl rfl ?_;intro W3 e3 k3;obtain ⟨E3,K3⟩:=ae e3 (aB k3);clear e3 k3))
 clear b7 b6 tl q0 aM a5 aR a7
 go_upto_region 5 with (first | (refine aJ #[KL i5,KL i6] (b:=W0.heap.size) E3.out fF rfl rfl rfl rfl ?_) | (refine az (JE _ _) fF rfl rfl rfl rfl rfl rfl rfl ?_;intro W4 e4 k4;obtain ⟨E4,K4⟩:=ae e4 (aB k4);clear e4 k4))
 have y0:W4.cell? ⟨W0.heap.size,0,none⟩=some (KL 2):=JF W4 _ 0 _ _ _ (sb E3.out _ K4.out)
 have a1:=aa (bt K3.out K4.out)
 go_upto_region 28 with (fail)
 obtain ⟨j,q,L,p,I,O⟩:=H.bx _ a1.out
 have J:=H.K.trans (a1.out.mono H.K.size)
 obtain ⟨V,hV⟩:∃V,W4=V:=⟨_,rfl⟩
 rw [hV] at j q L p I O J ⊢
 clear hV y0
 have ao:=JF V w.heap.size 21 _ _ _ j
 have a3:=JM V w.heap.size 21 _ _ j
 have lM:=JC j
 have av:=H.wd
 have e9:=ss (i:=21) (v:=KL ((dn:Int)+1)) j rfl
 have k9:Keep (fun k=>k=w.heap.size) V (V.setCell ⟨w.heap.size,21,none⟩ (KL ((dn:Int)+1))):=Keep.setCell (S:=fun k=>k=w.heap.size) (Keep.refl _ _) _ (.inr rfl) _
 obtain ⟨E9,K9,a8,ad,aP,aG,a6,b8⟩:=ak e9 k9 q L p I O J;clear e9 k9 q L p I O J j
 go_upto_region 29 with (fail)
 obtain ⟨N,X⟩:∃N,V.setCell ⟨w.heap.size,21,none⟩ (KL ((dn:Int)+1))=N:=⟨_,rfl⟩
 rw [X] at E9 K9 ⊢
 clear X ao a3 lM av
 obtain ⟨b1,b2,b3,b4,b5⟩:=ta K9.out a8.out ad.out aP.out aG.out a6.out
 have hq:Below N.heap.size N N.drew:=(br N).drew
 refine HA.g (KB3 w.heap.size N) ?_
 refine HA.ld3 (vs:=#[.slice A i.cfg.sizes.length c,KL i.cfg.shift,KL i.cfg.rate,KL i.cfg.mom,KL i.cfg.workers,KL i.cfg.batch,KL i.cfg.micros,KL i.cfg.steps,KL i.cfg.bucket,KL i.cfg.chunk,KL i.cfg.window,KL i.cfg.cap,.slice D i.data.length cd,.slice T i.start.length ct,.slice R i.draws.length cr,KL (x:Nat),.slice PA i.start.length pc,.slice MA i.start.length mc,.slice GA i.start.length gc,.slice SA m.rc.length sc,.slice (some ⟨bI,oI,none⟩) il ic,KL (dn+1)]) E9.out b1 b2 cI aS aS (Keep.below hq) ?_
 refine HA.st3 3 4 5 b3 b4 b5 cI aS aS hq (fun w8 r3 r4 e8 q8=>?_)
 refine HA.t ?_ [6] q8 ?_
 refine HA.d ?_
 obtain ⟨R3,R4,R5⟩:=af r3 r4 e8
 have F:=jx K9.out q8 b8.out
 obtain ⟨b9,QW⟩:=ae F.1 F.2;clear b1 b2 b3 b4 b5 e8 q8 r3 r4 hq F
 go_wp2_with fail
 refine JQ (fp rfl rfl rfl rfl R3.out R4.out R5.out cI aS aS) rfl ?_
 have o:Ext (ay S w) (ay S w8):=cu (Keep.below QW.out) (fun _ _ h=>h)
 obtain ⟨U,Z,a2,Y⟩:=H1.out
 exact ⟨_,_,_,rfl,rfl,rfl,⟨A,c,D,cd,T,ct,R,cr,PA,pc,MA,mc,GA,gc,SA,sc,some ⟨bI,oI,none⟩,ic,by rw [H.il',a4.out,Y];push_cast;rfl,fJ H.I0 o,by rw [U];exact aX H.P0 o,by rw [Z];exact aX H.M0 o,by rw [a2];exact aX H.G0 o,by rw [Y];exact dJ bW H.R0 o,aU H.It0 o,by rw [U];exact H.Pl,by rw [Z];exact H.Ml,by rw [a2];exact H.Gl⟩,⟨B1,c1,rfl,bK H.s0 o,H.s2⟩,⟨B2,c2,rfl,bK H.t0 o,H.t2⟩,QW.out⟩
end Go.Proofs.YtaccfnffmbndhaaGreat
