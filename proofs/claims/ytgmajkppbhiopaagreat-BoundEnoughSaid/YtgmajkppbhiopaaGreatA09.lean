/- No condition. -/
import Derived.Test.YtgmajkppbhiopaaGreatA00
import Derived.Test.YtgmajkppbhiopaaGreatA08
import Derived.Test.YtgmajkppbhiopaaGreatA01
import Derived.Deep.RegionHeld3
import Derived.BigQuiet
import Derived.Deep.QuietTactic
import Derived.Test.YtgmajkppbhiopaaGreatA06
import Derived.Test.YtgmajkppbhiopaaGreatA07
set_option linter.unusedSimpArgs false
set_option linter.unusedVariables false
set_option maxRecDepth 100000
set_option maxHeartbeats 4000000
namespace Go.Proofs.YtgmajkppbhiopaaGreat
open Go.RowKit
theorem xB (n:Nat) (w:World) (hn:1≤n) (i:n≤1048576):Calls Tryz.prog 118 #[FQ n] w fun e h=>e=.returned (FQ ((n-1:Nat):Int))∧w=h:=by
 have o:(0:Int)≤(n:Int)-1:=by omega
 go_enter Tryz.func118,Tryz.ntmps118
 go_wp2
 all_goals
  go_ret
  exact ⟨aF (by omega),rfl⟩
theorem uV (A:Option Addr) (c n:Nat) (k:Cfg) (w:World) (h:fI w A c k) (C:fL k) (hn:k.batch≤n∧(n:Int)≤1048576):
  Calls Tryz.prog 117 #[.agg (bZ A c k),FQ n] w fun e H=>e=.returned (FQ (epN n k.batch.toNat k.steps.toNat:Int))∧Below w.heap.size w H:=by
 have x:=fun H (q:Below w.heap.size w H)=>fU A c k H (h.below q)
 rw [dN.2 C] at x
 have g1:=C.w;have g2:=C.ba;have g3:=C.st
 clear h C
 obtain ⟨sz,sh,ra,Q,T,ba,mi,st,bu,ch,wi,ca⟩:=k
 dsimp only [bZ] at *
 obtain ⟨bt,rfl⟩:∃bt:Nat,ba=bt:=⟨ba.toNat,by omega⟩
 obtain ⟨sn,rfl⟩:∃sn:Nat,st=sn:=⟨st.toNat,by omega⟩
 rw [Int.toNat_natCast,Int.toNat_natCast]
 obtain ⟨L,U⟩:∃L,sz.length=L:=⟨_,rfl⟩
 rw [U] at x ⊢
 obtain ⟨i,o⟩:∃i,n/bt=i:=⟨_,rfl⟩
 have y:1≤i:=by rw [←o];exact Nat.div_pos (by omega) (by omega)
 have N:i≤n:=by rw [←o];exact Nat.div_le_self _ _
 have V:epN n bt sn=(sn+i-1)/i:=by unfold epN;rw [o,qL _ _ y]
 rw [V]
 have J:(sn+i-1)/i≤sn+i-1:=Nat.div_le_self _ _
 obtain ⟨E,v⟩:∃E,(sn+i-1)/i=E:=⟨_,rfl⟩
 rw [v] at J ⊢
 have Z:(n:Int).tdiv (bt:Int)=(i:Int):=by rw [←o];rfl
 have Y:(n:Int)/(bt:Int)=(i:Int):=by rw [←o];rfl
 have u:(sn:Int)+i-1=((sn+i-1:Nat):Int):=by omega
 have a6:((sn:Int)+i-1).tdiv (i:Int)=(E:Int):=by rw [u,←v];rfl
 have R:((sn:Int)+i-1)/(i:Int)=(E:Int):=by rw [u,←v];rfl
 have a3:¬(bt=0):=by omega
 have a5:¬(i=0):=by omega
 have a2:¬((n:Int)<bt):=by omega
 have a1:¬((1048576:Int)<n):=by omega
 have I:=aa x;clear x U o V v u
 go_enter Tryz.func117,Tryz.ntmps117
 go_wp2_with fail
 have O:=EN w (.cells #[.slice A L c,FQ sh,FQ ra,FQ Q,FQ T,FQ bt,FQ mi,FQ sn,FQ bu,FQ ch,FQ wi,FQ ca] 24)
 have hB:=(EP _ w).alloc (EM _) (.cells #[.slice A L c,FQ sh,FQ ra,FQ Q,FQ T,FQ bt,FQ mi,FQ sn,FQ bu,FQ ch,FQ wi,FQ ca] 24)
 refine (I.out _ hB).mono ?_
 rintro e w1 ⟨rfl,B⟩
 have D:=(B.block _ (EL O)).trans O
 have HB:=aa (hB.trans (B.mono hB.size))
 obtain ⟨⟨z0,z1,z2,z3,z4,z5,z6,z7,z8,z9,a0,a4⟩,zf⟩:=fx D
 clear O hB B D
 go_wp2_with fail
 go_ret
 exact ⟨rfl,HB.out⟩
theorem AH (A:Option Addr) (c n:Nat) (k:Cfg) (w:World) (h:fI w A c k) (x:fL k) (hn:k.batch≤n∧(n:Int)≤1048576):
  Calls Tryz.prog 80 #[.agg (bZ A c k),FQ n] w fun e v=>e=.returned (FQ (jj n k.batch.toNat k.steps.toNat:Int))∧Below w.heap.size w v:=by
 have i:=fun v (q:Below w.heap.size w v)=>uV A c n k v (h.below q) x hn
 have g1:=x.w;have V:=x.ba;have Z:=x.st
 have u:=fun v=>xB n v (by omega) (by omega)
 have o:=rQ (n:=n) (b:=k.batch.toNat) (st:=k.steps.toNat) (by omega) (by omega)
 unfold jj at o ⊢
 clear h x
 obtain ⟨sz,sh,ra,I,J,ba,mi,st,bu,ch,wi,ca⟩:=k
 dsimp only [bZ] at *
 obtain ⟨L,N⟩:∃L,sz.length=L:=⟨_,rfl⟩
 rw [N] at i ⊢
 obtain ⟨E,O⟩:∃E,epN n ba.toNat st.toNat=E:=⟨_,rfl⟩
 obtain ⟨m,hm⟩:∃m,n-1=m:=⟨_,rfl⟩
 rw [O] at i o ⊢
 rw [hm] at u o ⊢
 obtain ⟨y,H⟩:∃y,E*m=y:=⟨_,rfl⟩
 rw [H] at o ⊢
 have Q:(E:Int)*(m:Int)=(y:Int):=by rw [←H];push_cast;rfl
 obtain ⟨C,D⟩:=ab i u;clear i u N O hm H
 go_enter Tryz.func80,Tryz.ntmps80
 go_wp2_with fail
 have T:=EN w (.cells #[.slice A L c,FQ sh,FQ ra,FQ I,FQ J,FQ ba,FQ mi,FQ st,FQ bu,FQ ch,FQ wi,FQ ca] 24)
 have hB:=(EP _ w).alloc (EM _) (.cells #[.slice A L c,FQ sh,FQ ra,FQ I,FQ J,FQ ba,FQ mi,FQ st,FQ bu,FQ ch,FQ wi,FQ ca] 24)
 refine (C.out _ hB).mono ?_
 rintro e U ⟨rfl,B⟩
 have R:=aa (hB.trans (B.mono hB.size));clear T hB B
 go_wp2_with fail
 refine (D.out _).mono ?_
 rintro e Y ⟨rfl,rfl⟩
 go_wp2_with fail
 go_ret
 exact ⟨rfl,R.out⟩
abbrev aP (A:Option Addr) (c:Nat) (D:Option Addr) (cd:Nat) (T:Option Addr) (ct:Nat) (R:Option Addr) (cr:Nat) (i:Inp):Array Value:=
 #[.slice A i.cfg.sizes.length c,FQ i.cfg.shift,FQ i.cfg.rate,FQ i.cfg.mom,FQ i.cfg.workers,FQ i.cfg.batch,FQ i.cfg.micros,FQ i.cfg.steps,FQ i.cfg.bucket,FQ i.cfg.chunk,FQ i.cfg.window,FQ i.cfg.cap,
  .slice D i.data.length cd,.slice T i.start.length ct,.slice R i.draws.length cr]
structure iC (w:World) (A:Option Addr) (c:Nat) (D:Option Addr) (T:Option Addr) (ct:Nat) (R:Option Addr) (i:Inp):Prop where
 c:fI w A c i.cfg
 d:cZ rEx 2 w D i.data
 dl:i.data.length≤1048576
 t:bY w T i.start ct
 tl:i.start.length≤1048576
 r:Rd w R (ar .u64 i.draws)
 rl:i.draws.length≤1048576
 ru:U64 i.draws
 ra: -9223372036854775808≤i.cfg.rate∧i.cfg.rate≤9223372036854775807
 rm: -9223372036854775808≤i.cfg.mom∧i.cfg.mom≤9223372036854775807
theorem iC.below {w o:World} {A:Option Addr} {c:Nat} {D T R:Option Addr} {u:Nat} {i:Inp} (h:iC w A c D T u R i) (hb:Below w.heap.size w o):iC o A c D T u R i:=
 ⟨h.c.below hb,h.d.below dH hb,h.dl,h.t.below hb,h.tl,h.r.below hb,h.rl,h.ru,h.ra,h.rm⟩
theorem pR (A:Option Addr) (c:Nat) (D:Option Addr) (cd:Nat) (T:Option Addr) (ct:Nat) (R:Option Addr) (cr:Nat) (i:Inp) (w:World) (h:iC w A c D T ct R i):
  Calls Tryz.prog 43 #[.agg (aP A c D cd T ct R cr i)] w fun e u=>e=.returned (FQ (cF i))∧Below w.heap.size w u:=by
 have b0:=fun u (q:Below w.heap.size w u)=>fU A c i.cfg u (h.c.below q)
 have bo:=fun u (q:Below w.heap.size w u)=>oY A i.cfg.sizes c u (h.c.hr.below q) h.c.hc h.c.hm
 have b6:=fun S u (hS:aY 212 u S i.cfg.sizes)=>gO S i.cfg.sizes u hS
 have ad:=fun a b u (q:Below w.heap.size w u)=>uW a b cd D i.data u (h.d.below dH q) h.dl
 have Y:=fun (hg:fL i.cfg) (hb:i.cfg.batch≤i.data.length∧(i.data.length:Int)≤1048576) u (q:Below w.heap.size w u)=>AH A c i.data.length i.cfg u (h.c.below q) hg hb
 have fc:=@DS i;have f7:=@DU i;have f5:=@DV i;have J:=@DT i;have O:=@DW i
 have bi:=@dN i.cfg
 have bI:=h.c.hr
 have d0:=h.dl;have d4:=h.tl;have hrl:=h.rl
 unfold lH at ad
 unfold jo at f7 f5 J O
 unfold iF DX inN ul cnt at f5 J O
 unfold lv at J O
 obtain ⟨bb,a7⟩:∃bb,cF i=bb:=⟨_,rfl⟩
 rw [a7] at fc f7 f5 J O ⊢
 clear a7 h
 obtain ⟨⟨sz,sh,ra,mo,wk,ba,mi,st,bu,ch,wi,ca⟩,data,start,draws⟩:=i
 dsimp only [aP,bZ] at *
 obtain ⟨L,hL⟩:∃L,sz.length=L:=⟨_,rfl⟩
 obtain ⟨N,hN⟩:∃N,data.length=N:=⟨_,rfl⟩
 obtain ⟨M,hM⟩:∃M,start.length=M:=⟨_,rfl⟩
 obtain ⟨Q,hQ⟩:∃Q,draws.length=Q:=⟨_,rfl⟩
 obtain ⟨cc,c9⟩:∃cc,aM ⟨sz,sh,ra,mo,wk,ba,mi,st,bu,ch,wi,ca⟩=cc:=⟨_,rfl⟩
 rw [hL] at b0 bo b6 Y f5 J O ⊢
 rw [hN] at ad Y f7 f5 J O d0 ⊢
 rw [hM] at f5 J O d4 ⊢
 rw [hQ] at J O hrl ⊢
 rw [c9] at b0 fc f7 f5 J O bi
 obtain ⟨CN,bn⟩:∃CN,aZ sz (L-1)=CN:=⟨_,rfl⟩
 rw [bn] at b6 f5 J O
 obtain ⟨ND,bM⟩:∃ND,jj N ba.toNat st.toNat=ND:=⟨_,rfl⟩
 rw [bM] at Y J O
 obtain ⟨d3,cn,d2,d8,d6,Fc,F7,F5⟩:=aj b0 bo b6 ad Y fc f7 f5;obtain ⟨F8,F0,cv,bO,HL,dk⟩:=ah J O bi bI hL bn;clear b0 bo b6 ad Y fc f7 f5 J O bi bI hL hN hM hQ c9 bn bM
 go_enter Tryz.func43,Tryz.ntmps43
 go_wp2_with fail
 have hz:=(E0 (w.alloc (.cells #[.slice A L c,FQ sh,FQ ra,FQ mo,FQ wk,FQ ba,FQ mi,FQ st,FQ bu,FQ ch,FQ wi,FQ ca,.slice D N cd,.slice T M ct,.slice R Q cr] 29)) (.cells #[.slice A L c,FQ sh,FQ ra,FQ mo,FQ wk,FQ ba,FQ mi,FQ st,FQ bu,FQ ch,FQ wi,FQ ca] 24) w.heap.size (by simp)).trans (EN w _)
 have hy:=EN (w.alloc (.cells #[.slice A L c,FQ sh,FQ ra,FQ mo,FQ wk,FQ ba,FQ mi,FQ st,FQ bu,FQ ch,FQ wi,FQ ca,.slice D N cd,.slice T M ct,.slice R Q cr] 29)) (.cells #[.slice A L c,FQ sh,FQ ra,FQ mo,FQ wk,FQ ba,FQ mi,FQ st,FQ bu,FQ ch,FQ wi,FQ ca] 24)
 rw [show (w.alloc (.cells #[.slice A L c,FQ sh,FQ ra,FQ mo,FQ wk,FQ ba,FQ mi,FQ st,FQ bu,FQ ch,FQ wi,FQ ca,.slice D N cd,.slice T M ct,.slice R Q cr] 29)).heap.size=w.heap.size+1 by simp] at hy
 have hB:Below w.heap.size w ((w.alloc (.cells #[.slice A L c,FQ sh,FQ ra,FQ mo,FQ wk,FQ ba,FQ mi,FQ st,FQ bu,FQ ch,FQ wi,FQ ca,.slice D N cd,.slice T M ct,.slice R Q cr] 29)).alloc (.cells #[.slice A L c,FQ sh,FQ ra,FQ mo,FQ wk,FQ ba,FQ mi,FQ st,FQ bu,FQ ch,FQ wi,FQ ca] 24)):=((EP _ w).alloc (EM _) _).alloc (by simp) _
 obtain ⟨W0,bV⟩:∃W0,W0=(w.alloc (.cells #[.slice A L c,FQ sh,FQ ra,FQ mo,FQ wk,FQ ba,FQ mi,FQ st,FQ bu,FQ ch,FQ wi,FQ ca,.slice D N cd,.slice T M ct,.slice R Q cr] 29)).alloc (.cells #[.slice A L c,FQ sh,FQ ra,FQ mo,FQ wk,FQ ba,FQ mi,FQ st,FQ bu,FQ ch,FQ wi,FQ ca] 24):=⟨_,rfl⟩
 rw [←bV] at hz hy hB ⊢
 clear bV
 refine (d3.out _ hB).mono ?_
 rintro e w1 ⟨rfl,b8⟩
 have b7:=(b8.block _ (EL hz)).trans hz
 have a8:=(b8.block _ (EL hy)).trans hy
 have HB:=aa (hB.trans (b8.mono hB.size))
 obtain ⟨⟨z0,z1,z2,z3,z4,z5,z6,z7,z8,z9,Z,a1,U,a0,I⟩,zf⟩:=hZ b7
 obtain ⟨⟨y0,y1,y2,y3,y4,y5,y6,y7,y8,y9,B,C⟩,yf⟩:=fx a8
 have lz:=EL b7;have ly:=EL a8
 obtain ⟨HZ,HY⟩:=ab b7 a8;clear hz hy hB b8 b7 a8
 by_cases h3:cc≠0
 ·have hq:(cc != 0)=true:=by rw [bne_iff_ne];exact h3
  have H3:=aa h3;clear h3
  go_wp2_with fail
  go_ret
  exact ⟨aF (Fc.out H3.out).symm,HB.out⟩
 obtain rfl:cc=0:=by omega
 clear h3
 have hg:=cv.out.1 rfl
 have g1:=hg.w;have g2:=hg.ba;have g3:=hg.st;have gz:=hg.z
 have HG:=aa hg
 dsimp only at g1 g2 g3 gz
 clear hg
 have c6:=gz.1.1
 rw [HL.out] at c6
 have s0:=gz.1.at (k:=0) (by have:=HL.out;omega)
 have s1:=gz.1.at (k:=L-1) (by have:=HL.out;omega)
 obtain ⟨bz,oz,rfl,p0⟩:=bO.out.num (show 0<sz.length by have:=HL.out;omega)
 obtain ⟨_,_,e',p1⟩:=bO.out.num (show L-1<sz.length by have:=HL.out;omega)
 injection e' with e';injection e' with e1 e2 _;subst e1;subst e2
 rw [s0.2.2,Nat.add_zero] at p0
 rw [s1.2.2] at p1
 obtain ⟨n0,bs⟩:∃n0,szN sz 0=n0:=⟨_,rfl⟩
 obtain ⟨n1,bl⟩:∃n1,szN sz (L-1)=n1:=⟨_,rfl⟩
 have f5:=F5.out;have J:=F8.out;have O:=F0.out
 rw [bs,bl] at f5 J O
 rw [bs] at p0 s0
 rw [bl] at p1 s1
 obtain ⟨F5,F8,F0,d7⟩:=af f5 J O gz
 have cj:bz<w.heap.size:=au p0
 obtain ⟨P0,P1⟩:=ab p0 p1;clear f5 J O gz bs bl p0 p1 s0 s1
 obtain ⟨bt,rfl⟩:∃bt:Nat,ba=bt:=⟨ba.toNat,by omega⟩
 go_wp2_with fail
 refine (cn.out _ HB.out).mono ?_
 rintro e w2 ⟨b3,hs⟩
 obtain ⟨S,rfl,hS⟩:∃S,e=.returned (.tuple #[.pointer (some ⟨S,0,none⟩),FQ 0])∧aY 212 w2 S sz:=by
  rcases hs with ⟨_,S,he,hS,_⟩ | ⟨cl,_⟩
  ·exact ⟨S,he,hS⟩
  ·exact absurd d7.out cl
 clear hs
 have b5:=(b3.block _ lz).trans HZ.out
 have b2:=(b3.block _ ly).trans HY.out
 have a6:=aa (HB.out.trans (b3.mono HB.out.size));clear z0 z1 z2 z3 z4 z5 z6 z7 z8 z9 Z a1 U a0 I zf y0 y1 y2 y3 y4 y5 y6 y7 y8 y9 B C yf lz ly
 obtain ⟨⟨z0,z1,z2,z3,z4,z5,z6,z7,z8,z9,Z,a1,U,a0,I⟩,zf⟩:=hZ b5
 obtain ⟨⟨y0,y1,y2,y3,y4,y5,y6,y7,y8,y9,B,C⟩,yf⟩:=fx b2
 have lz:=EL b5;have ly:=EL b2
 obtain ⟨cw,d5,HS⟩:=ae b5 b2 hS;clear b3 b5 b2 hS
 have p0:=(a6.out.cell (p:=⟨bz,oz,none⟩) cj).trans P0.out
 have p1:=(a6.out.cell (p:=⟨bz,oz+(L-1),none⟩) cj).trans P1.out
 have co:IntKind.i64.wrap ((L:Int)-1)=((L-1:Nat):Int):=by rw [ER _ (by omega)];omega
 have dp:((L-1:Nat):Int)<L:=by omega
 have dn:L-1<L:=by omega
 have dc:0<L:=by omega
 have d9:(0:Int)<L:=by omega
 go_wp2_with fail
 have v:(fun u:World=>u.cell? ⟨w.heap.size,12,none⟩=some (.slice D N cd)∧u.cell? ⟨w.heap.size+1,0,none⟩=some (.slice (some ⟨bz,oz,none⟩) L c)∧u.cell? ⟨bz,oz,none⟩=some (FQ n0)∧u.cell? ⟨bz,oz+(L-1),none⟩=some (FQ n1)) w2.drew:=⟨U,y0,p0,p1⟩
 refine HA.g (fun u:World=>u.cell? ⟨w.heap.size,12,none⟩=some (.slice D N cd)∧u.cell? ⟨w.heap.size+1,0,none⟩=some (.slice (some ⟨bz,oz,none⟩) L c)∧u.cell? ⟨bz,oz,none⟩=some (FQ n0)∧u.cell? ⟨bz,oz+(L-1),none⟩=some (FQ n1)) ?_
 refine HA.t ?_ [0,1,2,3,4,5,6,7,8,9,10,11,12,13] v ?_
 refine HA.o 14 (fun K hK=>?_)
 go_simp
 refine (d8.out n0 n1 _ a6.out.drew).mono ?_
 rintro e w3 ⟨a3,d,hd⟩
 have bG:=EU (am a3 v.1) (EU (am a3 v.2.1) (EU (am a3 v.2.2.1) (am a3 v.2.2.2)))
 have H:Below w2.heap.size w2 w3:=(EP w2.heap.size w2).drew.trans a3
 have a2:=(H.block _ lz).trans cw.out
 have a4:=(H.block _ ly).trans d5.out
 have bw:=HS.out.below H
 obtain ⟨b4,cb,bN,cx⟩:=af (a6.out.trans (H.mono a6.out.size)) a2 a4 bw
 obtain ⟨b1,rfl,bh⟩:∃b1,e=.returned (.tuple #[FQ d,.bool b1])∧decide (∀x∈data,dK n0 n1 x)=b1:=by
  rcases hd with ⟨ha,rfl⟩ | ⟨ha,rfl⟩
  ·exact ⟨true,rfl,FJ ha⟩
  ·exact ⟨false,rfl,FK ha⟩
 have a5:=aa bh;clear a3 H a2 a4 bw hd bh v
 dsimp only
 refine hK.out _ _ bG (fun v=>?_)
 clear hK K bG
 refine HA.t ?_ [15,16,17,18,19] v ?_
 refine HA.d ?_
 clear v z0 z1 z2 z3 z4 z5 z6 z7 z8 z9 Z a1 U a0 I zf y0 y1 y2 y3 y4 y5 y6 y7 y8 y9 B C yf lz ly co
 have a2:=cb.out;have a4:=bN.out
 obtain ⟨⟨z0,z1,z2,z3,z4,z5,z6,z7,z8,z9,Z,a1,U,a0,I⟩,zf⟩:=hZ a2
 obtain ⟨⟨y0,y1,y2,y3,y4,y5,y6,y7,y8,y9,B,C⟩,yf⟩:=fx a4
 have lz:=EL a2;have ly:=EL a4
 clear a2 a4
 by_cases h7:N<bt
 ·have hq:(N:Int)<bt:=by omega
  go_wp2_with fail
  go_ret
  exact ⟨aF (F7.out trivial (by rw [FL];omega)).symm,b4.out⟩
 have dr:¬((N:Int)<bt):=by omega
 have da:¬((1048576:Int)<N):=by omega
 have G1:=aa (show decide ((bt:Int)≤N∧N≤1048576)=true by rw [FM];omega)
 rcases cQ b1 with rfl | rfl
 ·go_wp2_with fail
  go_quiet (fail)
  go_wp2_with fail
  go_ret
  exact ⟨aF (F5.out trivial G1.out (by rw [a5.out];rfl)).symm,EW b4.out _⟩
 have b9:=fun u (q:Below w3.heap.size w3 u)=>d2.out S u (cx.out.below q)
 have bd:=aa b9;clear b9
 by_cases h5:M≠CN
 ·have hq:((M:Int) != (CN:Int))=true:=by rw [bne_iff_ne];omega
  have H5:=aa h5;clear h5
  go_wp2_with fail
  go_quiet ((go_at_call 79;refine Calls.quiet_of ((bd.out _ ?_).mono fun e u ⟨he,hw⟩=>⟨he,0,hw.symm⟩);exact ak))
  go_wp2_with fail
  go_ret
  exact ⟨aF (F5.out trivial G1.out (by rw [a5.out,FK H5.out];rfl)).symm,EW b4.out _⟩
 have hq:((M:Int) != (CN:Int))=false:=by rw [bne_eq_false_iff_eq];omega
 have G2:=aa (show (decide (∀x∈data,dK n0 n1 x)&&decide (M=CN))=true by rw [a5.out,FJ (show M=CN by omega)];rfl);clear h5
 go_wp2_with fail
 go_quiet ((go_at_call 79;refine Calls.quiet_of ((bd.out _ ?_).mono fun e u ⟨he,hw⟩=>⟨he,0,hw.symm⟩);exact ak))
 go_wp2_with fail
 obtain ⟨V,hV⟩:∃V,V=w3.drewN nq:=⟨_,rfl⟩
 have ci:Below w.heap.size w V:=by rw [hV];exact EW b4.out _
 have bA:V.heap[w.heap.size]?=some (.cells #[.slice (some ⟨bz,oz,none⟩) L c,FQ sh,FQ ra,FQ mo,FQ wk,FQ bt,FQ mi,FQ st,FQ bu,FQ ch,FQ wi,FQ ca,.slice D N cd,.slice T M ct,.slice R Q cr] 29 (0,0)):=by rw [hV];exact cb.out
 have cf:V.heap[w.heap.size+1]?=some (.cells #[.slice (some ⟨bz,oz,none⟩) L c,FQ sh,FQ ra,FQ mo,FQ wk,FQ bt,FQ mi,FQ st,FQ bu,FQ ch,FQ wi,FQ ca] 24 (0,0)):=by rw [hV];exact bN.out
 clear z0 z1 z2 z3 z4 z5 z6 z7 z8 z9 Z a1 U a0 I zf y0 y1 y2 y3 y4 y5 y6 y7 y8 y9 B C yf
 rw [←hV]
 clear hV
 obtain ⟨⟨z0,z1,z2,z3,z4,z5,z6,z7,z8,z9,Z,a1,U,a0,I⟩,zf⟩:=hZ bA
 obtain ⟨⟨y0,y1,y2,y3,y4,y5,y6,y7,y8,y9,B,C⟩,yf⟩:=fx cf
 have bv:=aa ci;clear ci bA cf
 have Y:=d6.out HG.out (by omega) V.drew bv.out.drew
 have bX:=aa Y;clear Y
 have v:(fun u:World=>u.cell? ⟨w.heap.size,14,none⟩=some (.slice R Q cr)∧u.cell? ⟨w.heap.size+1,0,none⟩=some (.slice (some ⟨bz,oz,none⟩) L c)∧u.cell? ⟨w.heap.size+1,1,none⟩=some (FQ sh)∧u.cell? ⟨w.heap.size+1,2,none⟩=some (FQ ra)∧u.cell? ⟨w.heap.size+1,3,none⟩=some (FQ mo)∧u.cell? ⟨w.heap.size+1,4,none⟩=some (FQ wk)∧u.cell? ⟨w.heap.size+1,5,none⟩=some (FQ bt)∧u.cell? ⟨w.heap.size+1,6,none⟩=some (FQ mi)∧u.cell? ⟨w.heap.size+1,7,none⟩=some (FQ st)∧u.cell? ⟨w.heap.size+1,8,none⟩=some (FQ bu)∧u.cell? ⟨w.heap.size+1,9,none⟩=some (FQ ch)∧u.cell? ⟨w.heap.size+1,10,none⟩=some (FQ wi)∧u.cell? ⟨w.heap.size+1,11,none⟩=some (FQ ca)) V.drew:=⟨I,y0,y1,y2,y3,y4,y5,y6,y7,y8,y9,B,C⟩
 refine HA.g (fun u:World=>u.cell? ⟨w.heap.size,14,none⟩=some (.slice R Q cr)∧u.cell? ⟨w.heap.size+1,0,none⟩=some (.slice (some ⟨bz,oz,none⟩) L c)∧u.cell? ⟨w.heap.size+1,1,none⟩=some (FQ sh)∧u.cell? ⟨w.heap.size+1,2,none⟩=some (FQ ra)∧u.cell? ⟨w.heap.size+1,3,none⟩=some (FQ mo)∧u.cell? ⟨w.heap.size+1,4,none⟩=some (FQ wk)∧u.cell? ⟨w.heap.size+1,5,none⟩=some (FQ bt)∧u.cell? ⟨w.heap.size+1,6,none⟩=some (FQ mi)∧u.cell? ⟨w.heap.size+1,7,none⟩=some (FQ st)∧u.cell? ⟨w.heap.size+1,8,none⟩=some (FQ bu)∧u.cell? ⟨w.heap.size+1,9,none⟩=some (FQ ch)∧u.cell? ⟨w.heap.size+1,10,none⟩=some (FQ wi)∧u.cell? ⟨w.heap.size+1,11,none⟩=some (FQ ca)) ?_
 refine HA.t ?_ [0,1,2,3,4] v ?_
 refine HA.o 5 (fun K hK=>?_)
 go_simp
 refine bX.out.mono ?_
 rintro e w4 ⟨rfl,y⟩
 have c7:=aa (bv.out.trans ((EP V.heap.size V).drew.trans y |>.mono bv.out.size))
 have c8:=EU (am y v.1) (EU (am y v.2.1) (EU (am y v.2.2.1) (EU (am y v.2.2.2.1) (EU (am y v.2.2.2.2.1) (EU (am y v.2.2.2.2.2.1) (EU (am y v.2.2.2.2.2.2.1) (EU (am y v.2.2.2.2.2.2.2.1) (EU (am y v.2.2.2.2.2.2.2.2.1) (EU (am y v.2.2.2.2.2.2.2.2.2.1) (EU (am y v.2.2.2.2.2.2.2.2.2.2.1) (EU (am y v.2.2.2.2.2.2.2.2.2.2.2.1) (am y v.2.2.2.2.2.2.2.2.2.2.2.2))))))))))))
 clear y v
 dsimp only
 refine hK.out _ _ c8 (fun v=>?_)
 clear hK K c8
 refine HA.t ?_ [6,7] v ?_
 refine HA.d ?_
 clear v z0 z1 z2 z3 z4 z5 z6 z7 z8 z9 Z a1 U a0 I zf y0 y1 y2 y3 y4 y5 y6 y7 y8 y9 B C yf
 by_cases h8:ND≤Q
 ·have cq:¬((Q:Int)<ND):=by omega
  have d1:decide ((Q:Int)<ND)=false:=by simp;omega
  have cs:decide (Q<ND)=false:=by simp;omega
  have G8:=aa (FJ h8)
  go_wp2_with fail
  go_ret
  exact ⟨aF (F0.out trivial G1.out G2.out G8.out).symm,c7.out⟩
 ·have cq:(Q:Int)<ND:=by omega
  have d1:decide ((Q:Int)<ND)=true:=by simp;omega
  have cs:decide (Q<ND)=true:=by simp;omega
  have G8:=aa (FK h8)
  go_wp2_with fail
  go_ret
  exact ⟨aF (F8.out trivial G1.out G2.out G8.out).symm,c7.out⟩
end Go.Proofs.YtgmajkppbhiopaaGreat
namespace Go.Proofs.YtgmajkppbhiopaaGreat
open Go.RowKit Go.Shelf
attribute [local go_sem] Oper.semAt_some
def mH (l:List Int):Int:=l.foldl (fun a x=>wrap64 (a+x)) 0
theorem wU (l:List Int) (x:Int):mH (l++[x])=wrap64 (mH l+x):=by simp [mH]
def qi (zs:List Int) {m:Nat} (k:Fin m):Array Value:=#[FQ (nth zs k.1)]
theorem Cy {zs:List Int} {m:Nat} (h:zs.length=m):((List.finRange m).map fun k=>nth zs k.1)=zs:=by
 refine gW (by simp [h]) fun k hk=>?_
 rw [cW _ _ hk]
 simp
theorem rI {β:Type} (B b:Nat) (o:List β→Obj) (v:∀p,(o p).isCells=true):OwnFrom B (fun (p:List β) W=>W.heap[b]?=some (o p)):=fun p W u row h i hr=>cL (β:=List β) B b (o p) (v p) p W u row h i hr
theorem yZ (n l Y n₀ m d:Nat) (A:Option Addr) (zs:List Int) (T:zs.length=m) (hm:m≤1048576) (a7:Y<n₀) (R:∀a,A=some a→a.block<n₀) (J Jx:List (Fin m)→World→Prop)
  (hY:∀u x W,J u W→u.length<m→YieldAt Fence.wide (n-1) Tryz.prog l (qi zs x) W fun e I=>
   (e=.returned (.bool true)∧J (u++[x]) I∧fy n₀ Y W I)∨(e=.returned (.bool false)∧Jx (u++[x]) I))
  (W:World) (H:W.heap[Y]?=some (.cells #[.slice A m d] 26 (0,0))) (hA:Rd W A (ar .i64 zs)) (h0:J [] W):
  CallsIn Fence.wide n Tryz.prog 276 #[.func (.yield l) #[] #[],.pointer (some ⟨Y,0,none⟩)] W fun e I=>(∃v,e=.returned v)∧
   ((∃ys,ys=List.finRange m∧J ys I)∨(∃u,True∧Jx u I)):=by
 obtain ⟨e0,ef⟩:=bx1 H
 obtain ⟨a6,HA,Z,a3⟩:=af H hA T R;clear H hA T R
 refine callsIn_of_wp Tryz.func276 rfl trivial ?_ rfl
 simp only [Tryz.ntmps276,List.size_toArray,List.length_cons,List.length_nil,Nat.reduceAdd,Nat.reduceSub,Array.replicate_succ,Array.replicate_zero,List.push_toArray,List.append_toArray,List.nil_append,List.cons_append]
 gi_wp2
 gi_loopw [7] (fun i wr=>∃k:Nat,k≤m∧i=FQ k∧J ((List.finRange m).take k) wr∧Rd wr A (ar .i64 zs))
  (fun i _=>m-(intOf i).toNat)
 case atStart=>exact ⟨0,EQ _,rfl,h0,HA.out⟩
 case round=>
  obtain ⟨k,hk,rfl,y,B⟩:=hrel
  clear e0 ef
  by_cases D:k<m
  ·have U:((List.finRange m).take k).length<m:=by simp;omega
   have a2:=aa B
   obtain ⟨b,o,rfl,p⟩:=B.num (show k<zs.length by rw [Z.out];exact D)
   obtain ⟨fn,tmps,V,a5,hy,hR⟩:=hY _ ⟨k,D⟩ wr y U
   unfold qi at hy
   dsimp only at hy
   clear B y
   gi_wp2
   refine ⟨(fun h=>by cases h),?_⟩
   refine hR.mono ?_
   rintro e w5 (⟨rfl,L,Q⟩ | ⟨rfl,O⟩)
   ·have N:=a2.out.belowB Q.1 a3.out
    obtain ⟨a0,a4⟩:=ab N L;clear N L Q p
    gi_wp2
    go_roundw
    case rel=>exact ⟨k+1,by omega,by go_num,by rw [wa D];exact a4.out,a0.out⟩
    case measure=>simp [intOf];omega
   ·gi_wp2
    refine E7 (results_none rfl _ _ _) rfl ?_
    exact ⟨⟨_,rfl⟩,.inr ⟨_,trivial,O⟩⟩
  ·obtain rfl:k=m:=by omega
   have C:(List.finRange k).take k=List.finRange k:=List.take_of_length_le (by simp)
   rw [C] at y
   have a1:=aa y;clear y C B
   gi_wp2
   go_end0
   exact ⟨⟨_,rfl⟩,.inl ⟨_,rfl,a1.out⟩⟩
theorem te (n i n₀ m d:Nat) (A:Option Addr) (zs:List Int) (v:zs.length=m) (hm:m≤1048576) (u:i<n₀) (o:∀a,A=some a→a.block<n₀) (w:World)
  (h:w.heap[i]?=some (.cells #[.slice A m d] 26 (0,0))) (C:Rd w A (ar .i64 zs)):
  SeqStopsK Fence.wide n Tryz.prog 276 #[.pointer (some ⟨i,0,none⟩)] (qi zs (m:=m)) (fy n₀ i) (fun y=>y=List.finRange m) (fun _=>True) m w:=fun l J D W x _ _ H B=>
 yZ n l i n₀ m d A zs v hm u o J D H W ((x.block _ (EL h)).trans h) (C.below x) B
theorem wQ (N m d:Nat) (A:Option Addr) (zs:List Int) (w:World) (H:w.heap[N]?=some (.cells #[.slice A m d] 26 (0,0))) (hA:Rd w A (ar .i64 zs)) (B:zs.length=m) (hm:m≤1048576) (L:∀a,A=some a→a.block<w.heap.size):
  Calls Tryz.prog 272 #[.func (.func 276) #[] #[.pointer (some ⟨N,0,none⟩)]] w fun e w'=>e=.returned (FQ (mH zs))∧Below w.heap.size w w':=by
 have O:=EL H
 have I:=te 2 N w.heap.size m d A zs B hm O L (w.alloc (.cells #[FQ 0] 2)) ((E0 w _ _ O).trans H) (hA.alloc _)
 obtain ⟨Y,U⟩:=ab I B;clear I H hA B L
 refine (callsIn_wide (n:=3)).1 ?_
 refine callsIn_of_wp_marks Tryz.func272 rfl trivial ?_ rfl
 simp only [Tryz.ntmps272,List.size_toArray,List.length_cons,List.length_nil,Nat.reduceAdd,Nat.reduceSub,Array.replicate_succ,Array.replicate_zero,List.push_toArray,List.append_toArray,List.nil_append,List.cons_append]
 gi_wp2_with fail
 refine' wpIn_rangeFunc_ownG (F:=Fence.wide) (n:=3) rfl (by omega) (gf:=276) (lb:=#[.pointer (some ⟨N,0,none⟩)]) rfl trivial (enters_of Tryz.func276 (by kernel_rfl) rfl)
  Y.out iH (iI (by simp) (by simp;omega)) (EP _ _) (fun _=>rfl)
  (fun (u:List (Fin m)) W=>(W.heap[w.heap.size]?=some (.cells #[FQ (mH (u.map fun k=>nth zs k.1))] 2 (0,0)))∧Below w.heap.size w W)
  (fun _ _ _=>False)
  (OwnFrom.and (rI _ _ (fun u:List (Fin m)=>.cells #[FQ (mH (u.map fun k=>nth zs k.1))] 2 (0,0)) (fun _=>rfl)) (ownFrom_below (EM _) (by simp)))
  (fun _ _ _ _ _ hs _ _=>hs)
  ⟨EN w _,(EP _ w).alloc (EM _) _⟩
  _ ?assign ?body ?done ?stop
 case assign=>
  intro l x W K R
  unfold qi
  gi_wp2
  exact R
 case body=>
  rintro l u x W ⟨v,i⟩ V
  obtain ⟨T,y⟩:∃T,mH (u.map fun k=>nth zs k.1)=T:=⟨_,rfl⟩
  obtain ⟨Q,C⟩:∃Q,nth zs x.1=Q:=⟨_,rfl⟩
  rw [y] at v
  obtain ⟨p0,pf⟩:=bx1 v
  have a1:=EL v
  obtain ⟨HS,HB,a0,Z⟩:=af v i y C;clear v i V y
  simp only [C]
  clear C
  gi_wp2_with fail
  have hk:Keep (fun j=>j=w.heap.size) W (W.setCell ⟨w.heap.size,0,none⟩ (FQ (wrap64 (T+Q)))):=Keep.setCell (S:=fun j=>j=w.heap.size) (Keep.refl _ _) ⟨w.heap.size,0,none⟩ (.inr rfl) _
  have hb:Below w.heap.size W (W.setCell ⟨w.heap.size,0,none⟩ (FQ (wrap64 (T+Q)))):=hk.toBelow HB.out.size (fun j hj=>by omega)
  refine ⟨(gP hk (fun k o hs J=>by rw [hs,HS.out] at J;injection J with e;subst e;rfl)).from _,⟨hb,fun h=>hk.block N h (by omega)⟩,?_,HB.out.trans hb⟩
  rw [List.map_append,List.map_cons,List.map_nil,wU,a0.out,Z.out]
  exact FN W w.heap.size 0 _ _ _ HS.out
 case done=>
  rintro D ys W hD rfl ⟨v,i⟩ R
  rw [Cy U.out] at v
  obtain ⟨p0,pf⟩:=bx1 v
  gi_wp2
  refine ⟨by simp,.inl ⟨_,_,rfl,run_takeDeferred R,?_⟩⟩
  exact ⟨FQ (mH zs),by simp [results,Tryz.results272,go_sem],rfl,i.trans (belowK_b (w:=w) (EM _) W D _ _ (by simp at hD;omega) R rfl rfl)⟩
 case stop=>
  rintro D c u W _ _ h _
  exact h.elim
theorem yY (A:Option Addr) (m d:Nat) (w:World):
  Calls Tryz.prog 273 #[.slice A m d] w fun e h=>e=.returned (.func (.func 276) #[] #[.pointer (some ⟨w.heap.size,0,none⟩)])∧h=w.alloc (.cells #[.slice A m d] 26):=by
 go_enter Tryz.func273,Tryz.ntmps273
 go_wp2
 go_ret
 exact ⟨rfl,rfl⟩
theorem Br (A:Option Addr) (m d:Nat) (zs:List Int) (w:World) (u:Rd w A (ar .i64 zs)) (i:zs.length=m) (hm:m≤1048576) (h:∀a,A=some a→a.block<w.heap.size):
  Calls Tryz.prog 262 #[.slice A m d] w fun e v=>e=.returned (FQ (mH zs))∧Below w.heap.size w v:=by
 have o:=wQ w.heap.size m d A zs (w.alloc (.cells #[.slice A m d] 26)) (EN w _) (u.alloc _) i hm (fun a x=>by have:=h a x;simp;omega)
 have y:=aa o;clear o u i h
 go_enter Tryz.func262,Tryz.ntmps262
 go_wp2_with fail
 refine (yY A m d w).mono ?_
 rintro e C ⟨rfl,rfl⟩
 go_wp2_with fail
 refine y.out.mono ?_
 rintro e D ⟨rfl,hb⟩
 have B:=aa (((EP _ w).alloc (EM _) _).trans (hb.mono (by simp)));clear hb
 go_wp2
 go_ret
 exact ⟨rfl,B.out⟩
end Go.Proofs.YtgmajkppbhiopaaGreat
namespace Go.Proofs.YtgmajkppbhiopaaGreat
open Go.RowKit
theorem zp (a b:Int):mH [a,b]=wrap64 (a+b):=by
 show wrap64 (wrap64 (0+a)+b)=wrap64 (a+b)
 unfold wrap64
 omega
def mO (h q m g:Int):Int:=wrap64 (gH h m q+g)
def vA (ra q p m:Int):Int:=wrap64 (p-gH ra m q)
def apM (i q:Int) (h g:List Int) (lo k:Nat):List Int:=di h.length fun j=>if lo≤j∧j<lo+k then mO i q (nth h j) (nth g (j-lo)) else nth h j
def apP (ra i q:Int) (ps h g:List Int) (lo k:Nat):List Int:=di ps.length fun j=>if lo≤j∧j<lo+k then vA ra q (nth ps j) (mO i q (nth h j) (nth g (j-lo))) else nth ps j
theorem Ck (i q:Int) (h g:List Int) (lo:Nat):apM i q h g lo 0=h:=(dQ rfl fun k _=>by rw [if_neg (by omega)]).symm
theorem Cj (ra i q:Int) (ps h g:List Int) (lo:Nat):apP ra i q ps h g lo 0=ps:=(dQ rfl fun k _=>by rw [if_neg (by omega)]).symm
theorem kI (i q:Int) (h g:List Int) (lo k:Nat):(apM i q h g lo k).length=h.length:=aU _ _
theorem kH (ra i q:Int) (ps h g:List Int) (lo k:Nat):(apP ra i q ps h g lo k).length=ps.length:=aU _ _
theorem D9 (o q:Int) (i g:List Int) (lo k:Nat) (h:lo+k<i.length):nth (apM o q i g lo k) (lo+k)=nth i (lo+k):=by
 unfold apM;rw [cu _ h,if_neg (by omega)]
theorem D8 (ra o q:Int) (ps i g:List Int) (lo k:Nat) (h:lo+k<ps.length):nth (apP ra o q ps i g lo k) (lo+k)=nth ps (lo+k):=by
 unfold apP;rw [cu _ h,if_neg (by omega)]
theorem Dt (o q:Int) (i g:List Int) (lo k:Nat) (h:lo+k<i.length):(apM o q i g lo k).set (lo+k) (mO o q (nth i (lo+k)) (nth g k))=apM o q i g lo (k+1):=by
 refine gW (by simp [kI]) fun j u=>?_
 rw [List.length_set,kI] at u
 rw [eN,kI]
 unfold apM
 rw [cu _ u,cu _ u]
 by_cases x:j=lo+k
 ·subst x
  rw [if_pos ⟨rfl,h⟩,if_pos (by omega),show lo+k-lo=k by omega]
 ·rw [if_neg (by omega)]
  by_cases v:lo≤j∧j<lo+k
  ·rw [if_pos v,if_pos (by omega)]
  ·rw [if_neg v,if_neg (by omega)]
theorem Dr (ra o q:Int) (ps i g:List Int) (lo k:Nat) (h:lo+k<ps.length):(apP ra o q ps i g lo k).set (lo+k) (vA ra q (nth ps (lo+k)) (mO o q (nth i (lo+k)) (nth g k)))=apP ra o q ps i g lo (k+1):=by
 refine gW (by simp [kH]) fun j u=>?_
 rw [List.length_set,kH] at u
 rw [eN,kH]
 unfold apP
 rw [cu _ u,cu _ u]
 by_cases x:j=lo+k
 ·subst x
  rw [if_pos ⟨rfl,h⟩,if_pos (by omega),show lo+k-lo=k by omega]
 ·rw [if_neg (by omega)]
  by_cases v:lo≤j∧j<lo+k
  ·rw [if_pos v,if_pos (by omega)]
  ·rw [if_neg v,if_neg (by omega)]
theorem wt {o q:Int} {i g:List Int} {lo k:Nat} (h:W64 i):W64 (apM o q i g lo k):=dZ fun j u=>by
 split
 ·exact fM _
 ·exact h j u
theorem xj (lo i:Nat) (w:World) (h:lo≤i) (x:i≤17592186043904):Calls Tryz.prog 175 #[.agg #[FQ lo,FQ i]] w fun e v=>e=.returned (FQ ((i-lo:Nat):Int))∧Below w.heap.size w v:=by
 have y:(0:Int)≤(i:Int)-lo:=by omega
 have o:max ((i:Int)-lo) 0=((i-lo:Nat):Int):=by omega
 have u:=aa o;clear o
 go_enter Tryz.func175,Tryz.ntmps175
 go_wp2
 all_goals
  go_ret
  exact ⟨aF (by have:=u.out;omega),(EP _ w).alloc (EM _) _⟩
theorem ti (ra J q g:Int) (base n i B cp y cm:Nat) (ps ms:List Int) (w:World) (hp:w.ownsRow base 2 1 (.slice (some ⟨B,0,none⟩) n cp) n (ar .i64 ps)) (hm:w.ownsRow base 2 1 (.slice (some ⟨y,0,none⟩) n cm) n (ar .i64 ms)) (bv:B≠y) (hi:i<n)
  (wr: -9223372036854775808≤ra∧ra≤9223372036854775807) (wo: -9223372036854775808≤J∧J≤9223372036854775807) (wm:W64 ms):
  Calls Tryz.prog 253 #[.agg #[FQ ra,FQ J,FQ q],.pointer (some ⟨B,i,none⟩),.pointer (some ⟨y,i,none⟩),FQ g] w fun e v=>e=.returned (.tuple #[])∧
   v.ownsRow base 2 1 (.slice (some ⟨B,0,none⟩) n cp) n (ar .i64 (ps.set i (vA ra q (nth ps i) (mO J q (nth ms i) g))))∧v.ownsRow base 2 1 (.slice (some ⟨y,0,none⟩) n cm) n (ar .i64 (ms.set i (mO J q (nth ms i) g)))∧Keep (fun j=>j=B∨j=y) w v:=by
 have b0:=iO hm
 have p1:=cP hp hi
 have p2:=cP hm hi
 have f1:=hp.frozenAt i
 have f2:=hm.frozenAt i
 have l1:=(hp.lt B rfl).2
 have l2:=(hm.lt y rfl).2
 have a1:=fun v=>nE J (nth ms i) q v wo (wm i (by omega))
 have T:=fun m' v (h: -9223372036854775808≤m'∧m'≤9223372036854775807)=>nE ra m' q v wr h
 obtain ⟨m0,bd⟩:∃m0,nth ms i=m0:=⟨_,rfl⟩
 obtain ⟨p0,b6⟩:∃p0,nth ps i=p0:=⟨_,rfl⟩
 rw [bd] at p2 a1 ⊢
 rw [b6] at p1 ⊢
 obtain ⟨m1,C⟩:∃m1,mO J q m0 g=m1:=⟨_,rfl⟩
 have bn: -9223372036854775808≤m1∧m1≤9223372036854775807:=by rw [←C];exact fM _
 obtain ⟨mu,O⟩:∃mu,gH J m0 q=mu:=⟨_,rfl⟩
 have b9:mH [mu,g]=m1:=by rw [zp,←C,←O];rfl
 rw [C]
 rw [O] at a1
 have T:=fun v=>T m1 v bn
 obtain ⟨pu,N⟩:∃pu,gH ra m1 q=pu:=⟨_,rfl⟩
 rw [N] at T
 obtain ⟨p9,b1⟩:∃p9,vA ra q p0 m1=p9:=⟨_,rfl⟩
 have a3:wrap64 (p0-pu)=p9:=by rw [←b1,←N];rfl
 rw [b1]
 have b2:=fun v=>vz p0 pu v
 rw [a3] at b2
 have ad:=fun A v (hA:Rd v A (ar .i64 [mu,g])) ha=>Br A 2 2 [mu,g] v hA rfl (by omega) ha
 rw [b9] at ad
 obtain ⟨bM,bO,bX,bN,HP,HM,bz,bh⟩:=aj a1 T b2 ad hp hm b6 bv;clear a1 T b2 ad hp hm bd b6 C O b9 N b1 a3 wr wo wm b0 bn
 go_enter Tryz.func253,Tryz.ntmps253
 go_wp2_with fail
 have hz:=EN w (.cells #[FQ ra,FQ J,FQ q] 172)
 have H:Below w.heap.size w (w.alloc (.cells #[FQ ra,FQ J,FQ q] 172)):=(EP _ w).alloc (EM _) _
 obtain ⟨Z,bi⟩:∃Z,Z=w.alloc (.cells #[FQ ra,FQ J,FQ q] 172):=⟨_,rfl⟩
 rw [←bi] at hz H ⊢
 clear bi
 have q1:=am H p1
 have q2:=am H p2
 obtain ⟨⟨y0,y1,y2⟩,yf⟩:=bx3 hz
 have a2:=aq HP.out H
 have a6:=aq HM.out H
 have bw:=EL hz
 obtain ⟨HZ,c6,bA,c9⟩:=af hz H a2 a6;clear hz H a2 a6 p1 p2 f1 f2
 have u:(fun v:World=>v.cell? ⟨w.heap.size,1,none⟩=some (FQ J)∧v.cell? ⟨w.heap.size,2,none⟩=some (FQ q)∧v.cell? ⟨y,i,none⟩=some (FQ m0)) Z.drew:=⟨y1,y2,q2⟩
 refine XA.g 12 (fun v:World=>v.cell? ⟨w.heap.size,1,none⟩=some (FQ J)∧v.cell? ⟨w.heap.size,2,none⟩=some (FQ q)∧v.cell? ⟨y,i,none⟩=some (FQ m0)) ?_
 refine XA.t ?_ [0,1,2,3,4,5,6,7,9] u ?_
 refine XA.o 8 (fun K I=>?_)
 go_simp
 refine (bM.out _).mono ?_
 rintro e w1 ⟨rfl,x⟩
 have bb:=EU (am x u.1) (EU (am x u.2.1) (am x u.2.2))
 have b3:=aa ((EP Z.heap.size Z).drew.trans x);clear x u
 dsimp only
 refine I.out _ _ bb (fun u=>?_)
 clear I K bb
 refine XA.o 10 (fun K I=>?_)
 go_simp
 refine I.out _ _ ⟨ax u.1 _,ax u.2.1 _,ax u.2.2 _⟩ (fun u=>?_)
 clear I K
 refine XA.o 11 (fun K I=>?_)
 go_simp
 refine (bN.out _ _ ?_ ?_).mono ?_
 ·exact fk _ [FQ mu,FQ g] 2 _ (by simp)
 ·intro a ha;injection ha with ha;subst ha;simp
 rintro e w2 ⟨rfl,x⟩
 have b5:=EU (am x u.1) (EU (am x u.2.1) (am x u.2.2))
 have D:Below Z.heap.size Z w2:=(b3.out.alloc b3.out.size _).trans (x.mono (by have:=b3.out.size;simp;omega))
 have b4:=aq bA.out D
 have C:=aq c9.out D
 have bI:=am D q1
 have g1:=C.frozenAt i
 have g2:=b4.frozenAt i
 have bo:=(D.block _ bw).trans HZ.out
 have cn:=D.size
 obtain ⟨cd,ci,bl,cf⟩:=af b4 C D bo;clear b4 C D x bo u y0 y1 y2 yf q1 q2
 dsimp only
 refine I.out _ _ b5 (fun u=>?_)
 clear I K
 have q3:=b5.2.2
 refine XA.e ?_
 clear u b5
 simp only [Fm,Fo]
 go_wp2_with fail
 have R:Keep (fun j=>j=y) w2 (w2.setCell ⟨y,i,none⟩ (FQ m1)):=Keep.setCell (S:=fun j=>j=y) (Keep.refl _ _) ⟨y,i,none⟩ (.inr rfl) _
 have Y:=eL ci.out i m1
 have a4:∀j,(Value.slice (some ⟨B,0,none⟩) n cp).ownBlock=some j→¬j=y:=fun j hj e=>by
  have h1:B=j:=by simpa [Value.ownBlock] using hj
  exact bh.out (by omega)
 have a5:∀j,(Value.slice (some ⟨y,0,none⟩) n cm).ownBlock=some j→¬j=B:=fun j hj e=>by
  have h1:y=j:=by simpa [Value.ownBlock] using hj
  exact bh.out (by omega)
 have a0:=R.own cd.out a4
 have b7:=aa a5;clear a4 a5
 have Q:=(R.block _ (by have:=bl.out.size;omega) (by omega)).trans cf.out
 obtain ⟨V,hV⟩:∃V,V=w2.setCell ⟨y,i,none⟩ (FQ m1):=⟨_,rfl⟩
 rw [←hV] at R Y a0 Q ⊢
 clear hV bI q3 g1 g2
 have r1:=cP a0 hi
 have r2:=cP Y hi
 have b0:=iO HM.out
 rw [eN,if_pos ⟨rfl,by omega⟩] at r2
 rw [bz.out] at r1
 obtain ⟨⟨y0,y1,y2⟩,yf⟩:=bx3 Q
 have cj:=EL Q
 obtain ⟨c8,cb,bG,cl⟩:=af R Y a0 Q;clear R Y a0 Q b0
 have u:(fun v:World=>v.cell? ⟨w.heap.size,0,none⟩=some (FQ ra)∧v.cell? ⟨w.heap.size,2,none⟩=some (FQ q)∧v.cell? ⟨B,i,none⟩=some (FQ p0)∧v.cell? ⟨y,i,none⟩=some (FQ m1)) V.drew:=⟨y0,y2,r1,r2⟩
 refine XA.g 13 (fun v:World=>v.cell? ⟨w.heap.size,0,none⟩=some (FQ ra)∧v.cell? ⟨w.heap.size,2,none⟩=some (FQ q)∧v.cell? ⟨B,i,none⟩=some (FQ p0)∧v.cell? ⟨y,i,none⟩=some (FQ m1)) ?_
 refine XA.t ?_ [0,1,2,3,4,5,6,7,8,9,10] u ?_
 refine XA.o 11 (fun K I=>?_)
 go_simp
 refine (bO.out _).mono ?_
 rintro e w3 ⟨rfl,L⟩
 have a8:=EU (am L u.1) (EU (am L u.2.1) (EU (am L u.2.2.1) (am L u.2.2.2)))
 have U:Below V.heap.size V w3:=(EP V.heap.size V).drew.trans L
 have a7:=aq bG.out U
 have bs:=aq cb.out U
 have g2:=a7.frozenAt i
 have q3:=a8.2.2.1
 obtain ⟨c7,bV,cc⟩:=ae U a7 bs;clear L U a7 bs u
 dsimp only
 refine I.out _ _ a8 (fun u=>?_)
 clear I K a8
 refine XA.o 12 (fun K I=>?_)
 go_simp
 refine (bX.out _).mono ?_
 rintro e w4 ⟨rfl,rfl⟩
 dsimp only
 refine I.out _ _ u (fun u=>?_)
 clear I K
 refine XA.e ?_
 clear u y0 y1 y2 yf r1 r2
 simp only [Fm,Fo]
 go_wp2_with fail
 go_end0
 have b8:Keep (fun j=>j=B) w3 (w3.setCell ⟨B,i,none⟩ (FQ p9)):=Keep.setCell (S:=fun j=>j=B) (Keep.refl _ _) ⟨B,i,none⟩ (.inr rfl) _
 refine ⟨rfl,eL bV.out i p9,b8.own cc.out b7.out,?_⟩
 have k1:Keep (fun j=>j=B∨j=y) w Z:=Keep.below c6.out
 have k2:Keep (fun j=>j=B∨j=y) Z w2:=Keep.below bl.out
 have k3:Keep (fun j=>j=B∨j=y) w2 V:=c8.out.mono (fun _ _ h=>.inr h)
 have k4:Keep (fun j=>j=B∨j=y) V w3:=Keep.below c7.out
 exact (((k1.trans k2).trans k3).trans k4).trans (b8.mono (fun _ _ h=>.inl h))
theorem yN (ra u q:Int) (base n lo m c1 c2 cg:Nat) (A B G:Option Addr) (ps I g:List Int) (w:World) (hp:w.ownsRow base 2 1 (.slice A n c1) n (ar .i64 ps)) (hm:w.ownsRow base 2 1 (.slice B n c2) n (ar .i64 I)) (b2:∀i,(Value.slice A n c1).ownBlock=some i→(Value.slice B n c2).ownBlock≠some i)
  (hG:Rd w G (ar .i64 g)) (bb:g.length=m) (d4:lo+m≤n) (hn:n≤1048576) (b1:∀a,G=some a→(Value.slice A n c1).ownBlock≠some a.block) (bh:∀a,G=some a→(Value.slice B n c2).ownBlock≠some a.block)
  (wr: -9223372036854775808≤ra∧ra≤9223372036854775807) (wo: -9223372036854775808≤u∧u≤9223372036854775807) (wm:W64 I):
  Calls Tryz.prog 237 #[.agg #[FQ ra,FQ u,FQ q],.agg #[.slice A n c1,.slice B n c2],.agg #[FQ lo,FQ ((lo+m:Nat):Int)],.slice G m cg] w fun e y=>e=.returned (.bool true)∧
   y.ownsRow base 2 1 (.slice A n c1) n (ar .i64 (apP ra u q ps I g lo m))∧y.ownsRow base 2 1 (.slice B n c2) n (ar .i64 (apM u q I g lo m))∧Keep (fun j=>(Value.slice A n c1).ownBlock=some j∨(Value.slice B n c2).ownBlock=some j) w y:=by
 have bz:=iO hp
 have bv:=iO hm
 have a0:=fun y=>xj lo (lo+m) y (by omega) (by omega)
 rw [Nat.add_sub_cancel_left] at a0
 obtain ⟨J,bl⟩:∃J,lo+m=J:=⟨_,rfl⟩
 rw [bl] at a0 ⊢
 have d2:lo≤J:=by omega
 have dc:J≤n:=by omega
 have dk:((n:Int) != (n:Int))=false:=by simp
 have d9:((m:Int) != (m:Int))=false:=by simp
 have d5:¬((n:Int)<(J:Int)):=by omega
 have d6:¬((J:Int)<lo):=by omega
 have a4:=hp.lt
 have a6:=hm.lt
 obtain ⟨b4,HP,HM,cj,HG,cc,bI,b3⟩:=aj a0 hp hm b2 hG bb b1 bh;obtain ⟨b8,bn,Wr,Wo,Wm,a1,a2⟩:=ai bz bv wr wo wm a4 a6;clear a0 hp hm b2 hG bb b1 bh bz bv wr wo wm a4 a6 bl
 go_enter Tryz.func237,Tryz.ntmps237
 go_wp2_with fail
 have a7:(((w.alloc (.cells #[FQ ra,FQ u,FQ q] 172)).alloc (.cells #[.slice A n c1,.slice B n c2] 141)).alloc (.cells #[FQ lo,FQ J] 148)).heap.size=w.heap.size+3:=by simp
 have ad:Below w.heap.size w (((w.alloc (.cells #[FQ ra,FQ u,FQ q] 172)).alloc (.cells #[.slice A n c1,.slice B n c2] 141)).alloc (.cells #[FQ lo,FQ J] 148)):=(((EP _ w).alloc (EM _) _).alloc (by simp) _).alloc (by simp;omega) _
 have a8:=(E0 ((w.alloc (.cells #[FQ ra,FQ u,FQ q] 172)).alloc (.cells #[.slice A n c1,.slice B n c2] 141)) (.cells #[FQ lo,FQ J] 148) w.heap.size (by simp;omega)).trans ((E0 (w.alloc (.cells #[FQ ra,FQ u,FQ q] 172)) (.cells #[.slice A n c1,.slice B n c2] 141) w.heap.size (by simp)).trans (EN w _))
 have H:=EN (w.alloc (.cells #[FQ ra,FQ u,FQ q] 172)) (.cells #[.slice A n c1,.slice B n c2] 141)
 rw [show (w.alloc (.cells #[FQ ra,FQ u,FQ q] 172)).heap.size=w.heap.size+1 by simp] at H
 have H:=(E0 ((w.alloc (.cells #[FQ ra,FQ u,FQ q] 172)).alloc (.cells #[.slice A n c1,.slice B n c2] 141)) (.cells #[FQ lo,FQ J] 148) (w.heap.size+1) (by simp)).trans H
 have V:=EN ((w.alloc (.cells #[FQ ra,FQ u,FQ q] 172)).alloc (.cells #[.slice A n c1,.slice B n c2] 141)) (.cells #[FQ lo,FQ J] 148)
 rw [show ((w.alloc (.cells #[FQ ra,FQ u,FQ q] 172)).alloc (.cells #[.slice A n c1,.slice B n c2] 141)).heap.size=w.heap.size+1+1 by simp] at V
 obtain ⟨W0,bN⟩:∃W0,W0=((w.alloc (.cells #[FQ ra,FQ u,FQ q] 172)).alloc (.cells #[.slice A n c1,.slice B n c2] 141)).alloc (.cells #[FQ lo,FQ J] 148):=⟨_,rfl⟩
 rw [←bN] at a7 ad a8 H V ⊢
 obtain ⟨d3,O,b5,b9,Z⟩:=ag a7 ad a8 H V;clear a7 ad a8 H V bN
 refine (b4.out _).mono ?_
 rintro e w1 ⟨rfl,k1⟩
 have C:=(k1.block _ (EL Z.out)).trans Z.out
 have co:=EL C
 obtain ⟨⟨x0,x1⟩,xf⟩:=bx2 C
 have K1:=aa k1;clear k1 C
 go_wp2_with fail
 refine (b4.out _).mono ?_
 rintro e w2 ⟨rfl,k2⟩
 have K2:=aa (K1.out.trans (k2.mono K1.out.size));clear k2 x0 x1 xf co
 have bs:=O.out.trans (K2.out.mono O.out.size)
 have bO:=aq (aq HP.out O.out) K2.out
 have bi:=aq (aq HM.out O.out) K2.out
 have c7:=(HG.out.below O.out).below K2.out
 have L:=(K2.out.block _ (EL b5.out)).trans b5.out
 have T:=(K2.out.block _ (EL b9.out)).trans b9.out
 have C:=(K2.out.block _ (EL Z.out)).trans Z.out
 obtain ⟨cl,cf,ct,cq,bM,bw,c6⟩:=ai bs bO bi c7 L T C;clear bs bO bi c7 L T C
 go_wp2_with fail
 go_loopw [46] (fun x wr=>∃k:Nat,k≤m∧x=FQ k∧wr.ownsRow base 2 1 (.slice A n c1) n (ar .i64 (apP ra u q ps I g lo k))∧wr.ownsRow base 2 1 (.slice B n c2) n (ar .i64 (apM u q I g lo k))∧Keep (fun j=>(Value.slice A n c1).ownBlock=some j∨(Value.slice B n c2).ownBlock=some j) w2 wr) (fun x _=>m-(intOf x).toNat)
 case atStart=>exact ⟨0,EQ _,rfl,by rw [Cj];exact cf.out,by rw [Ck];exact ct.out,Keep.refl _ _⟩
 case round=>
  obtain ⟨k,hk,rfl,U,N,Q⟩:=hrel
  by_cases ci:k<m
  ·have hG:=Q.rd cq.out (fun a ha=>by
    rintro (h | h)
    ·exact bI.out a ha h
    ·exact b3.out a ha h)
   obtain ⟨bG,oG,rfl,pg⟩:=hG.num (show k<g.length by rw [cc.out];exact ci)
   obtain ⟨gk,R⟩:∃gk,nth g k=gk:=⟨_,rfl⟩
   rw [R] at pg
   have Y:∀j,w.heap.size≤j→¬((Value.slice A n c1).ownBlock=some j∨(Value.slice B n c2).ownBlock=some j):=fun j hj=>by
    rintro (h | h)
    ·have:=(a1.out j h).2;omega
    ·have:=(a2.out j h).2;omega
   have L:=(Q.block _ (EL bM.out) (Y _ (EM _))).trans bM.out
   have T:=(Q.block _ (EL bw.out) (Y _ (by omega))).trans bw.out
   have C:=(Q.block _ (EL c6.out) (Y _ (by omega))).trans c6.out
   obtain ⟨gp,e1,bd,_,_⟩:=U.form (by omega)
   obtain ⟨gm,e2,bA,_,_⟩:=N.form (by omega)
   simp only [FD] at bd bA
   obtain ⟨rfl,_,rfl⟩:=bd
   obtain ⟨rfl,_,rfl⟩:=bA
   have a5:gp≠gm:=fun e=>cj.out gp rfl (by rw [e];rfl)
   have b0:=ti ra u q gk base n (lo+k) gp c1 gm c2 (apP ra u q ps I g lo k) (apM u q I g lo k) wr.drew (bC U 1) (bC N 1) a5 (by omega) Wr.out Wo.out (wt Wm.out)
   rw [D8 ra u q ps I g lo k (by have:=b8.out;omega),D9 u q I g lo k (by have:=bn.out;omega),←R,Dr ra u q ps I g lo k (by have:=b8.out;omega),Dt u q I g lo k (by have:=bn.out;omega),R] at b0
   obtain ⟨⟨y0,y1,y2⟩,yf⟩:=bx3 L
   obtain ⟨⟨z0,z1⟩,zf⟩:=bx2 T
   obtain ⟨⟨t0,t1⟩,tf⟩:=bx2 C
   have d7:(k:Int)<m:=by omega
   have cd:IntKind.i64.wrap ((lo:Int)+(k:Int))=(lo:Int)+k:=ER _ (by omega)
   have d1:(0:Int)≤(lo:Int)+k:=by omega
   have da:(lo:Int)+k<n:=by omega
   have c9:((lo:Int)+k).toNat=lo+k:=by omega
   obtain ⟨HK,cr,d8⟩:=ae Q b0 R;clear Q b0 U N hG L T C Y R a5
   go_wp2_with fail
   have v:(fun y:World=>y.cell? ⟨w.heap.size,0,none⟩=some (FQ ra)∧y.cell? ⟨w.heap.size,1,none⟩=some (FQ u)∧y.cell? ⟨w.heap.size,2,none⟩=some (FQ q)∧y.cell? ⟨w.heap.size+1,0,none⟩=some (.slice (some ⟨gp,0,none⟩) n c1)∧y.cell? ⟨w.heap.size+1,1,none⟩=some (.slice (some ⟨gm,0,none⟩) n c2)∧y.cell? ⟨w.heap.size+1+1,0,none⟩=some (FQ lo)∧y.cell? ⟨bG,oG+k,none⟩=some (FQ gk)) wr.drew:=⟨y0,y1,y2,z0,z1,t0,pg⟩
   have cx:gp<w.heap.size:=(a1.out gp rfl).2
   have d0:gm<w.heap.size:=(a2.out gm rfl).2
   have a3:¬(bG=gp∨bG=gm):=by
    rintro (h | h)
    ·exact bI.out _ rfl (by rw [h];rfl)
    ·exact b3.out _ rfl (by rw [h];rfl)
   refine HA.g (fun y:World=>y.cell? ⟨w.heap.size,0,none⟩=some (FQ ra)∧y.cell? ⟨w.heap.size,1,none⟩=some (FQ u)∧y.cell? ⟨w.heap.size,2,none⟩=some (FQ q)∧y.cell? ⟨w.heap.size+1,0,none⟩=some (.slice (some ⟨gp,0,none⟩) n c1)∧y.cell? ⟨w.heap.size+1,1,none⟩=some (.slice (some ⟨gm,0,none⟩) n c2)∧y.cell? ⟨w.heap.size+1+1,0,none⟩=some (FQ lo)∧y.cell? ⟨bG,oG+k,none⟩=some (FQ gk)) ?_
   refine HA.t ?_ [0,1,2,3,4,5,6,7,8,9,10,11,12,13,14,15,16,17,18] v ?_
   clear cd c9
   refine HA.o 19 (fun K Q=>?_)
   go_simp
   refine cr.out.mono ?_
   rintro e w5 ⟨rfl,bX,b6,D⟩
   have b7:=EU (D.cell v.1 (by simp;omega)) (EU (D.cell v.2.1 (by simp;omega)) (EU (D.cell v.2.2.1 (by simp;omega)) (EU (D.cell v.2.2.2.1 (by simp;omega)) (EU (D.cell v.2.2.2.2.1 (by simp;omega)) (EU (D.cell v.2.2.2.2.2.1 (by simp;omega)) (D.cell v.2.2.2.2.2.2 a3))))))
   have bo:Keep (fun j=>(Value.slice (some ⟨gp,0,none⟩) n c1).ownBlock=some j∨(Value.slice (some ⟨gm,0,none⟩) n c2).ownBlock=some j) w2 w5:=HK.out.trans ((Keep.refl _ wr).drew.trans (D.mono (fun j _ h=>by
    rcases h with rfl | rfl
    ·exact .inl rfl
    ·exact .inr rfl)))
   obtain ⟨cs,cb,cv⟩:=ae bX b6 bo;clear bX b6 D bo v a3
   dsimp only
   refine Q.out _ _ b7 (fun v=>?_)
   clear Q K b7 v y0 y1 y2 yf z0 z1 zf t0 t1 tf pg
   refine HA.d ?_
   go_wp2_with fail
   go_roundw
   case rel=>exact ⟨k+1,by omega,by go_num,cs.out,cb.out,cv.out⟩
   case measure=>simp [intOf];omega
  ·obtain rfl:m=k:=by omega
   have bV:Keep (fun j=>(Value.slice A n c1).ownBlock=some j∨(Value.slice B n c2).ownBlock=some j) w wr:=(Keep.below cl.out).trans Q
   obtain ⟨c8,cw,cn⟩:=ae U N bV;clear U N bV Q
   go_wp2_with fail
   go_ret
   exact ⟨rfl,c8.out,cw.out,cn.out⟩
theorem tI {P:Program} {t e:TypeId} {z:Value} {h:Nat} (T:cH P t e z 1 h) (w:World) (B:z.cells=#[z]) (n:Nat) (D:h*n≤281474976710656) (H:n≤maxLen):
  ∃v,Sem.run P (Instr.makeSlice t (FQ (n:Int)) (FQ (n:Int))) w=.ok (.slice (some ⟨w.heap.size,0,none⟩) n n) v∧v.ownsRow w.heap.size e 1 (.slice (some ⟨w.heap.size,0,none⟩) n n) n (List.replicate n z)∧Below w.heap.size w v:=by
 obtain ⟨i,I,y,A,x⟩:=T.info
 obtain ⟨v,u,C,o⟩:=run_make_full (P:=P) w w.heap.size t e i z 1 T.und I y A .i64 .i64 n (by rw [x];exact D) H (EM _)
 rw [B,Nat.mul_one,toList_madeCells_one] at C
 exact ⟨v,u,C,⟨o.os,o.tape,o.output,o.size,fun k hk=>o.block k hk (by simp)⟩⟩
theorem lO (A B:Option Addr) (n c d:Nat) (ps ms:List Int) (w:World) (hA:Rd w A (ar .i64 ps)) (hB:Rd w B (ar .i64 ms)) (a1:ps.length=n) (a8:ms.length=n) (hn:n≤1048576):
  Calls Tryz.prog 86 #[.agg #[.slice A n c,.slice B n d]] w fun e i=>∃A1 c1 y c2,e=.returned (.agg #[.slice A1 n c1,.slice y n c2])∧n≤c1∧n≤c2∧i.ownsRow w.heap.size 2 1 (.slice A1 n c1) n (ar .i64 ps)∧i.ownsRow w.heap.size 2 1 (.slice y n c2) n (ar .i64 ms)∧
   (∀j,(Value.slice A1 n c1).ownBlock=some j→(Value.slice y n c2).ownBlock≠some j)∧Below w.heap.size w i:=by
 have Q:=fun i (k:Below w.heap.size w i)=>dF A ps c i (hA.below k) (by omega)
 have U:=fun i (k:Below w.heap.size w i)=>dF B ms d i (hB.below k) (by omega)
 rw [a1] at Q
 rw [a8] at U
 obtain ⟨b8,bd⟩:=ab Q U;clear Q U a1 a8 hA hB
 go_enter Tryz.func86,Tryz.ntmps86
 go_wp2_with fail
 have hz:=EN (w.alloc (.cells #[.slice A n c,.slice B n d] 141)) (.cells #[FR,FR] 141)
 rw [show (w.alloc (.cells #[.slice A n c,.slice B n d] 141)).heap.size=w.heap.size+1 by simp] at hz
 have hy:=(E0 (w.alloc (.cells #[.slice A n c,.slice B n d] 141)) (.cells #[FR,FR] 141) w.heap.size (by simp)).trans (EN w _)
 have V:Below w.heap.size w ((w.alloc (.cells #[.slice A n c,.slice B n d] 141)).alloc (.cells #[FR,FR] 141)):=((EP _ w).alloc (EM _) _).alloc (by simp) _
 have R:((w.alloc (.cells #[.slice A n c,.slice B n d] 141)).alloc (.cells #[FR,FR] 141)).heap.size=w.heap.size+2:=by simp
 obtain ⟨W0,a2⟩:∃W0,W0=(w.alloc (.cells #[.slice A n c,.slice B n d] 141)).alloc (.cells #[FR,FR] 141):=⟨_,rfl⟩
 rw [←a2] at hz hy V R ⊢
 obtain ⟨⟨y0,y1⟩,yf⟩:=bx2 hy
 obtain ⟨Hz,Z,H⟩:=ae hz V R;clear hz hy V R a2
 have h:(fun i:World=>i.cell? ⟨w.heap.size,0,none⟩=some (.slice A n c)∧i.cell? ⟨w.heap.size,1,none⟩=some (.slice B n d)) W0.drew:=⟨y0,y1⟩
 refine XA.g 7 (fun i:World=>i.cell? ⟨w.heap.size,0,none⟩=some (.slice A n c)∧i.cell? ⟨w.heap.size,1,none⟩=some (.slice B n d)) ?_
 refine XA.t ?_ [0,1,3,4] h ?_
 refine XA.o 2 (fun K hK=>?_)
 go_simp
 refine (b8.out _ Z.out.drew).mono ?_
 rintro e w1 ⟨A1,c1,rfl,b1,D,x⟩
 have b9:=aa b1;clear b1
 have a4:=EU (am x h.1) (am x h.2)
 have a3:=(x.block (w.heap.size+1) (by simp [H.out])).trans Hz.out
 have a0:=Z.out.drew.trans (x.mono (by simp [H.out]))
 have bb:=x.size
 simp only [FC,H.out] at bb
 have D:=aA (base':=w.heap.size) D (by simp [H.out])
 obtain ⟨a5,b6,J⟩:=ae D a3 a0;clear D a3 a0 x h
 dsimp only
 refine hK.out _ _ a4 (fun h=>?_)
 clear hK K a4
 refine XA.o 5 (fun K hK=>?_)
 go_simp
 refine (bd.out _ J.out).mono ?_
 rintro e Y ⟨y,c2,rfl,b2,C,u⟩
 have N:∀j,(Value.slice A1 n c1).ownBlock=some j→(Value.slice y n c2).ownBlock≠some j:=fun j h1 h2=>by have:=(a5.out.lt j h1).2;have:=(C.lt j h2).1;omega
 obtain ⟨b3,b0⟩:=ab b2 N;clear b2 N
 have a6:=EU (am u h.1) (am u h.2)
 have I:=(u.block (w.heap.size+1) (by omega)).trans b6.out
 have a7:=J.out.trans (u.mono J.out.size)
 have bl:=u.size
 have C:=aA (base':=w.heap.size) C J.out.size
 have O:=aq a5.out u
 obtain ⟨⟨z0,z1⟩,zf⟩:=bx2 I
 have l2:w.heap.size+1<Y.heap.size:=EL I
 obtain ⟨ad,L,T,bh⟩:=af C O I a7;clear C O I a7 u h
 dsimp only
 refine hK.out _ _ a6 (fun h=>?_)
 clear hK K a6
 refine XA.t ?_ [6] h ?_
 refine XA.e ?_
 clear h
 simp only [Fm,Fo]
 go_wp2_with fail
 have e1:=FN Y (w.heap.size+1) 0 _ _ (.slice A1 n c1) T.out
 have e2:=FN _ (w.heap.size+1) 1 _ _ (.slice y n c2) e1
 have e3:((Y.setCell ⟨w.heap.size+1,0,none⟩ (.slice A1 n c1)).setCell ⟨w.heap.size+1,1,none⟩ (.slice y n c2)).heap[w.heap.size+1]?=some (.cells #[(.slice A1 n c1),(.slice y n c2)] 141 (0,0)):=by simpa using e2
 have hk:Keep (fun j=>j=w.heap.size+1) Y ((Y.setCell ⟨w.heap.size+1,0,none⟩ (.slice A1 n c1)).setCell ⟨w.heap.size+1,1,none⟩ (.slice y n c2)):=Keep.setCell (S:=fun j=>j=w.heap.size+1) (Keep.setCell (S:=fun j=>j=w.heap.size+1) (Keep.refl _ _) ⟨w.heap.size+1,0,none⟩ (.inr rfl) _) ⟨w.heap.size+1,1,none⟩ (.inr rfl) _
 obtain ⟨W9,b7⟩:∃W9,W9=(Y.setCell ⟨w.heap.size+1,0,none⟩ (.slice A1 n c1)).setCell ⟨w.heap.size+1,1,none⟩ (.slice y n c2):=⟨_,rfl⟩
 rw [←b7] at e3 hk ⊢
 obtain ⟨⟨x0,x1⟩,xf⟩:=bx2 e3
 have bi:=hk.own L.out (fun j hj e=>an T.out (by decide) L.out (by rw [hj,e]))
 have b5:=hk.own ad.out (fun j hj e=>an T.out (by decide) ad.out (by rw [hj,e]))
 have b4:Below w.heap.size w W9:=bh.out.trans (hk.toBelow (by omega) (fun j hj=>by omega))
 exact E7 (v:=.agg #[.slice A1 n c1,.slice y n c2]) (by simp [results,Tryz.results86,go_sem,x0,x1]) rfl ⟨A1,c1,y,c2,rfl,b9.out,b3.out,bi,b5,b0.out,b4⟩
theorem tw (A:Option Addr) (n c:Nat) (ps:List Int) (w:World) (hA:Rd w A (ar .i64 ps)) (b4:ps.length=n) (hn:n≤1048576):
  Calls Tryz.prog 83 #[.slice A n c] w fun e w'=>∃A1 c1 A2 c2,e=.returned (.agg #[.slice A1 n c1,.slice A2 n c2])∧n≤c1∧n≤c2∧w'.ownsRow w.heap.size 2 1 (.slice A1 n c1) n (ar .i64 ps)∧w'.ownsRow w.heap.size 2 1 (.slice A2 n c2) n (ar .i64 (List.replicate n 0))∧(∀j,(Value.slice A1 n c1).ownBlock=some j→(Value.slice A2 n c2).ownBlock≠some j)∧Below w.heap.size w w':=by
 have a3:=fun w' (k:Below w.heap.size w w')=>dF A ps c w' (hA.below k) (by omega)
 rw [b4] at a3
 have b6:=aa a3
 have a8:=fun w'=>tI iV w' rfl n (by omega) (by unfold maxLen;omega)
 simp only [gj] at a8
 have b7:=aa a8;clear a3 b4 hA a8
 go_enter Tryz.func83,Tryz.ntmps83
 go_wp2_with fail
 have hz:=EN w (.cells #[FR,FR] 141)
 have a6:Below w.heap.size w (w.alloc (.cells #[FR,FR] 141)):=(EP _ w).alloc (EM _) _
 obtain ⟨I,b5⟩:∃I,I=w.alloc (.cells #[FR,FR] 141):=⟨_,rfl⟩
 rw [←b5] at hz a6 ⊢
 have b3:=EL hz
 obtain ⟨HZ,B⟩:=ab hz a6;clear hz a6 b5
 have h:(fun _:World=>True) I.drew:=trivial
 refine gI 6 (fun _:World=>True) (by kernel_rfl) ?_
 refine wX 0 h ?_
 refine wX 2 h ?_
 refine wX 3 h ?_
 simp only [Fd,Fe,Ff,Act.put,Fg,Fh,Fi]
 refine a9 (rs:=[1,4]) (by kernel_rfl) (by simp) ?_
 refine aB.cons rfl (fun K R=>?_) (aB.cons rfl (fun K R=>?_) aB.nil)
 ·simp only [Fd,Fe,Ff]
  go_simp
  refine (b6.out _ B.out.drew).mono ?_
  rintro e J ⟨A1,c1,rfl,a0,D,u⟩
  have N:=B.out.drew.trans (u.mono B.out.size)
  have O:=(u.block w.heap.size (by simpa using b3)).trans HZ.out
  have a1:=aA (base':=w.heap.size) D (by have:=B.out.size;simpa using this)
  have a5:=u.size
  have Y:∀j,(Value.slice A1 n c1).ownBlock=some j→j<J.heap.size:=fun j y=>(D.lt j y).2
  have a2:=aa Y;clear Y
  simp only [FC] at a5
  obtain ⟨x,ad,b9,b0⟩:=af N O a1 a0;clear u N O D a1 a0
  dsimp only
  refine R.out _ _ trivial (fun h=>?_)
  clear R K h
  refine a9 (rs:=[4]) (by kernel_rfl) (by simp) ?_
  refine aB.cons rfl (fun K R=>?_) aB.nil
  simp only [Fd,Fe,Ff]
  obtain ⟨V,H,Z,o⟩:=b7.out J
  obtain ⟨L,T,i,U⟩:=af (aA (base':=w.heap.size) Z x.out.size) (x.out.trans (o.mono x.out.size)) ((o.block w.heap.size (by omega)).trans ad.out) (aq b9.out o)
  have C:=i.out
  obtain ⟨⟨z0,z1⟩,zf⟩:=bx2 C
  have b8:=EL C
  clear Z o C
  go_simp
  refine R.out _ _ trivial (fun h=>?_)
  clear R K H
  refine wX 5 h ?_
  simp only [Fd,Fe,Ff,Act.put,Fg,Fh,Fi]
  refine dg (by rfl) (by kernel_rfl) ?_
  simp only [Fm,Fo]
  go_wp2_with fail
  have e1:=FN V w.heap.size 0 _ _ (.slice A1 n c1) i.out
  have e2:=FN _ w.heap.size 1 _ _ (.slice (some ⟨J.heap.size,0,none⟩) n n) e1
  have e3:((V.setCell ⟨w.heap.size,0,none⟩ (.slice A1 n c1)).setCell ⟨w.heap.size,1,none⟩ (.slice (some ⟨J.heap.size,0,none⟩) n n)).heap[w.heap.size]?=some (.cells #[.slice A1 n c1,.slice (some ⟨J.heap.size,0,none⟩) n n] 141 (0,0)):=by simpa using e2
  have hk:Keep (fun j=>j=w.heap.size) V ((V.setCell ⟨w.heap.size,0,none⟩ (.slice A1 n c1)).setCell ⟨w.heap.size,1,none⟩ (.slice (some ⟨J.heap.size,0,none⟩) n n)):=Keep.setCell (S:=fun j=>j=w.heap.size) (Keep.setCell (S:=fun j=>j=w.heap.size) (Keep.refl _ _) ⟨w.heap.size,0,none⟩ (.inr rfl) _) ⟨w.heap.size,1,none⟩ (.inr rfl) _
  obtain ⟨W9,a4⟩:∃W9,W9=(V.setCell ⟨w.heap.size,0,none⟩ (.slice A1 n c1)).setCell ⟨w.heap.size,1,none⟩ (.slice (some ⟨J.heap.size,0,none⟩) n n):=⟨_,rfl⟩
  rw [←a4] at e3 hk ⊢
  obtain ⟨⟨r0,r1⟩,rf⟩:=bx2 e3
  have b1:=hk.own U.out (fun j y e=>an i.out (by decide) U.out (by rw [y,e]))
  have a7:=hk.own L.out (fun j y e=>an i.out (by decide) L.out (by rw [y,e]))
  exact E7 (v:=.agg #[.slice A1 n c1,.slice (some ⟨J.heap.size,0,none⟩) n n]) (by simp [results,Tryz.results83,go_sem,r0,r1]) rfl ⟨A1,c1,_,n,rfl,b0.out,EM _,b1,a7,fun j y e=>by
   have h1:=a2.out j y
   have h2:J.heap.size=j:=by simpa [Value.ownBlock] using e
   omega,T.out.trans (hk.toBelow T.out.size (fun j y=>by omega))⟩
 ·simp only [Fd,Fe,Ff]
  obtain ⟨J,H,Z,o⟩:=b7.out I.drew
  have N:=B.out.drew.trans (o.mono B.out.size)
  have O:=(o.block w.heap.size (by simpa using b3)).trans HZ.out
  have Q:=aA (base':=w.heap.size) Z (by have:=B.out.size;simpa using this)
  have a5:=o.size
  simp only [FC] at a5 Q H
  obtain ⟨x,ad,b2⟩:=ae N O Q;clear o N O Z Q
  go_simp
  refine R.out _ _ trivial (fun h=>?_)
  clear R K H
  refine a9 (rs:=[1]) (by kernel_rfl) (by simp) ?_
  refine aB.cons rfl (fun K R=>?_) aB.nil
  simp only [Fd,Fe,Ff]
  go_simp
  refine (b6.out _ x.out).mono ?_
  rintro e V ⟨A1,c1,rfl,a0,D,u⟩
  have Y:∀j,(Value.slice A1 n c1).ownBlock=some j→J.heap.size≤j:=fun j y=>(D.lt j y).1
  have a2:=aa Y;clear Y;obtain ⟨U,T,i,L,b0⟩:=ag (aA (base':=w.heap.size) D x.out.size) (x.out.trans (u.mono x.out.size)) ((u.block w.heap.size (by omega)).trans ad.out) (aq b2.out u) a0
  have C:=i.out
  obtain ⟨⟨z0,z1⟩,zf⟩:=bx2 C
  have b8:=EL C
  clear D u C a0
  dsimp only
  refine R.out _ _ trivial (fun h=>?_)
  clear R K
  refine wX 5 h ?_
  simp only [Fd,Fe,Ff,Act.put,Fg,Fh,Fi]
  refine dg (by rfl) (by kernel_rfl) ?_
  simp only [Fm,Fo]
  go_wp2_with fail
  have e1:=FN V w.heap.size 0 _ _ (.slice A1 n c1) i.out
  have e2:=FN _ w.heap.size 1 _ _ (.slice (some ⟨I.heap.size,0,none⟩) n n) e1
  have e3:((V.setCell ⟨w.heap.size,0,none⟩ (.slice A1 n c1)).setCell ⟨w.heap.size,1,none⟩ (.slice (some ⟨I.heap.size,0,none⟩) n n)).heap[w.heap.size]?=some (.cells #[.slice A1 n c1,.slice (some ⟨I.heap.size,0,none⟩) n n] 141 (0,0)):=by simpa using e2
  have hk:Keep (fun j=>j=w.heap.size) V ((V.setCell ⟨w.heap.size,0,none⟩ (.slice A1 n c1)).setCell ⟨w.heap.size,1,none⟩ (.slice (some ⟨I.heap.size,0,none⟩) n n)):=Keep.setCell (S:=fun j=>j=w.heap.size) (Keep.setCell (S:=fun j=>j=w.heap.size) (Keep.refl _ _) ⟨w.heap.size,0,none⟩ (.inr rfl) _) ⟨w.heap.size,1,none⟩ (.inr rfl) _
  obtain ⟨W9,a4⟩:∃W9,W9=(V.setCell ⟨w.heap.size,0,none⟩ (.slice A1 n c1)).setCell ⟨w.heap.size,1,none⟩ (.slice (some ⟨I.heap.size,0,none⟩) n n):=⟨_,rfl⟩
  rw [←a4] at e3 hk ⊢
  obtain ⟨⟨r0,r1⟩,rf⟩:=bx2 e3
  have b1:=hk.own U.out (fun j y e=>an i.out (by decide) U.out (by rw [y,e]))
  have a7:=hk.own L.out (fun j y e=>an i.out (by decide) L.out (by rw [y,e]))
  exact E7 (v:=.agg #[.slice A1 n c1,.slice (some ⟨I.heap.size,0,none⟩) n n]) (by simp [results,Tryz.results83,go_sem,r0,r1]) rfl ⟨A1,c1,_,n,rfl,b0.out,EM _,b1,a7,fun j y e=>by
   have h1:=a2.out j y
   have h2:I.heap.size=j:=by simpa [Value.ownBlock] using e
   have h3:=(b2.out.lt I.heap.size rfl).2
   omega,T.out.trans (hk.toBelow T.out.size (fun j y=>by omega))⟩
theorem tx (S n b steps:Nat) (l:List Int) (w:World) (h:dB w S n b steps l):
  Calls Tryz.prog 264 #[.pointer (some ⟨S,0,none⟩)] w fun e o=>e=.returned (FQ steps)∧w=o:=by
 obtain ⟨A,C,N,L,vs,i,u,y,v,x⟩:=h
 obtain ⟨⟨I,H,B,D⟩,J⟩:=bx4 i
 clear i u y v x
 go_enter Tryz.func264,Tryz.ntmps264
 go_wp2
 go_ret
 exact ⟨rfl,rfl⟩
theorem tD (S n b steps t:Nat) (l:List Int) (w:World) (h:dB w S n b steps l) (hn:n≤1048576) (B:1≤n/b) (O:steps≤1048576) (ht:t<steps):
  Calls Tryz.prog 255 #[.pointer (some ⟨S,0,none⟩),FQ t] w fun e C=>e=.returned (.tuple #[FQ ((t/(n/b):Nat):Int),FQ ((t%(n/b):Nat):Int),.bool true])∧∃d,C=w.drewN d:=by
 have H:=tx S n b steps l w h
 obtain ⟨Ab,cb,Ao,co,vs,y,L,U,Q,R⟩:=h
 have A:=Nat.div_le_self n b
 obtain ⟨nb,u⟩:∃nb,n/b=nb:=⟨_,rfl⟩
 rw [u] at y B A ⊢
 obtain ⟨⟨r0,r1,r2,r3⟩,rf⟩:=bx4 y
 obtain ⟨v,i⟩:∃v,t/nb=v:=⟨_,rfl⟩
 obtain ⟨x,o⟩:∃x,t%nb=x:=⟨_,rfl⟩
 have I:(t:Int).tdiv (nb:Int)=(v:Int):=by rw [←i];rfl
 have a2:(t:Int).tmod (nb:Int)=(x:Int):=by rw [←o];rfl
 have V:v≤t:=by rw [←i];exact Nat.div_le_self _ _
 have J:x≤t:=by rw [←o];exact Nat.mod_le _ _
 have Z:IntKind.i64.wrap (v:Int)=(v:Int):=ER _ (by omega)
 have a1:IntKind.i64.wrap (x:Int)=(x:Int):=ER _ (by omega)
 have Y:¬(nb=0):=by omega
 have T:(t:Int)<steps:=by omega
 have a0:¬((t:Int)<0):=by omega
 have D:¬((steps:Int)≤t):=by omega
 rw [i,o]
 have N:=aa H;clear H y L U Q R u i o
 go_enter Tryz.func255,Tryz.ntmps255
 go_wp2_with fail
 refine N.out.mono ?_
 rintro e C ⟨rfl,rfl⟩
 go_wp2_with fail
 go_quiet (fail)
 go_wp2_with fail
 go_ret3
 exact ⟨rfl,_,rfl⟩
def et (l:List Int) (n b t:Nat):List Int:=((im l n ((t/(n/b))*(n-1))).drop (t%(n/b)*b)).take b
theorem BH {n b steps t:Nat} (h:t<steps):t/(n/b)<epN n b steps:=by
 unfold epN bT
 rw [if_neg (by omega)]
 have:=Nat.div_le_div_right (c:=n/b) (show t≤steps-1 by omega)
 omega
theorem j3 (l:List Int) {n b t:Nat} (h:1≤n/b):(et l n b t).length=b:=by
 unfold et
 have i:=mz n b (t%(n/b)) (Nat.mod_lt _ h)
 rw [Fv,Fy,pE]
 omega
theorem yJ (l:List Int) {n b t:Nat} (h:1≤n/b):∀k,k<b→0≤nth (et l n b t) k∧nth (et l n b t) k<n:=fun k hk=>by
 have i:=mz n b (t%(n/b)) (Nat.mod_lt _ h)
 unfold et
 rw [fv hk,fw]
 exact Ar l n _ _ (by omega)
end Go.Proofs.YtgmajkppbhiopaaGreat
