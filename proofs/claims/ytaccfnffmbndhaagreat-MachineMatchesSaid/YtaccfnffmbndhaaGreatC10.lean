/- No condition. -/
import Derived.Test.YtaccfnffmbndhaaGreatC00
import Derived.Test.YtaccfnffmbndhaaGreatC02
import Derived.Test.YtaccfnffmbndhaaGreatC09
import Derived.Deep.RegionHeld3
import Derived.BigQuiet
import Derived.Deep.QuietTactic
import Derived.Test.YtaccfnffmbndhaaGreatC06
import Derived.Test.YtaccfnffmbndhaaGreatC08
import Derived.Test.YtaccfnffmbndhaaGreatC01
set_option linter.unusedSimpArgs false
set_option linter.unusedVariables false
set_option maxRecDepth 100000
set_option maxHeartbeats 4000000
namespace Go.Proofs.YtaccfnffmbndhaaGreat
open Go.RowKit
abbrev aH (A:Option Addr) (c:Nat) (D:Option Addr) (cd:Nat) (T:Option Addr) (ct:Nat) (R:Option Addr) (cr:Nat) (i:Inp):Array Value:=
 #[.slice A i.cfg.sizes.length c,KL i.cfg.shift,KL i.cfg.rate,KL i.cfg.mom,KL i.cfg.workers,KL i.cfg.batch,KL i.cfg.micros,KL i.cfg.steps,KL i.cfg.bucket,KL i.cfg.chunk,KL i.cfg.window,KL i.cfg.cap,
  .slice D i.data.length cd,.slice T i.start.length ct,.slice R i.draws.length cr]
structure gF (w:World) (A:Option Addr) (c:Nat) (D:Option Addr) (T:Option Addr) (ct:Nat) (R:Option Addr) (i:Inp):Prop where
 c:jG w A c i.cfg
 d:cE rEx 2 w D i.data
 dl:i.data.length≤1048576
 t:bD w T i.start ct
 tl:i.start.length≤1048576
 r:Rd w R (aq .u64 i.draws)
 rl:i.draws.length≤1048576
 ru:U64 i.draws
 ra: -9223372036854775808≤i.cfg.rate∧i.cfg.rate≤9223372036854775807
 rm: -9223372036854775808≤i.cfg.mom∧i.cfg.mom≤9223372036854775807
theorem gF.below {w o:World} {A:Option Addr} {c:Nat} {D T R:Option Addr} {p:Nat} {i:Inp} (h:gF w A c D T p R i) (j:Below w.heap.size w o):gF o A c D T p R i:=
 ⟨h.c.below j,h.d.below cY j,h.dl,h.t.below j,h.tl,h.r.below j,h.rl,h.ru,h.ra,h.rm⟩
theorem Cu (A:Option Addr) (c:Nat) (D:Option Addr) (cd:Nat) (T:Option Addr) (ct:Nat) (R:Option Addr) (cr:Nat) (i:Inp) (w:World) (h:gF w A c D T ct R i):
  Calls Tryz.prog 42 #[.agg (aH A c D cd T ct R cr i)] w fun e j=>e=.returned (KL (dd i))∧Below w.heap.size w j:=by
 have a8:=fun j (q:Below w.heap.size w j)=>oY A c i.cfg j (h.c.below q)
 have b7:=fun j (q:Below w.heap.size w j)=>su A i.cfg.sizes c j (h.c.hr.below q) h.c.hc h.c.hm
 have aM:=fun S j (hS:bY 186 j S i.cfg.sizes)=>jv S i.cfg.sizes j hS
 have a7:=fun a b j (q:Below w.heap.size w j)=>yY a b cd D i.data j (h.d.below cY q) h.dl
 have U:=fun (hg:iL i.cfg) (hb:i.cfg.batch≤i.data.length∧(i.data.length:Int)≤1048576) j (q:Below w.heap.size w j)=>Eh A c i.data.length i.cfg j (h.c.below q) hg hb
 have fc:=@II i;have f7:=@IK i;have f5:=@IL i;have I:=@IJ i;have J:=@IM i
 have b4:=@gu i.cfg
 have bf:=h.c.hr
 have cb:=h.dl;have cl:=h.tl;have c9:=h.rl
 unfold pw at a7
 unfold lH at f7 f5 I J
 unfold j5 IN inN ug cnt at f5 I J
 unfold oW at I J
 obtain ⟨b1,a5⟩:∃b1,dd i=b1:=⟨_,rfl⟩
 rw [a5] at fc f7 f5 I J ⊢
 clear a5 h
 obtain ⟨⟨sz,sh,ra,mo,wk,ba,mi,st,bu,ch,wi,ca⟩,data,start,draws⟩:=i
 dsimp only [aH,cS] at *
 obtain ⟨L,hL⟩:∃L,sz.length=L:=⟨_,rfl⟩
 obtain ⟨N,hN⟩:∃N,data.length=N:=⟨_,rfl⟩
 obtain ⟨M,hM⟩:∃M,start.length=M:=⟨_,rfl⟩
 obtain ⟨Q,hQ⟩:∃Q,draws.length=Q:=⟨_,rfl⟩
 obtain ⟨cc,bw⟩:∃cc,bQ ⟨sz,sh,ra,mo,wk,ba,mi,st,bu,ch,wi,ca⟩=cc:=⟨_,rfl⟩
 rw [hL] at a8 b7 aM U f5 I J ⊢
 rw [hN] at a7 U f7 f5 I J cb ⊢
 rw [hM] at f5 I J cl ⊢
 rw [hQ] at I J c9 ⊢
 rw [bw] at a8 fc f7 f5 I J b4
 obtain ⟨CN,b6⟩:∃CN,aZ sz (L-1)=CN:=⟨_,rfl⟩
 rw [b6] at aM f5 I J
 obtain ⟨ND,bh⟩:∃ND,lj N ba.toNat st.toNat=ND:=⟨_,rfl⟩
 rw [bh] at U I J
 obtain ⟨cj,bO,ci,cw,cs,Fc,F7,F5⟩:=ak a8 b7 aM a7 U fc f7 f5;obtain ⟨F8,F0,c6,bl,HL,cO⟩:=ai I J b4 bf hL b6;clear a8 b7 aM a7 U fc f7 f5 I J b4 bf hL hN hM hQ bw b6 bh
 go_enter Tryz.func42,Tryz.ntmps42
 go_wp2_with fail
 have hz:=(JP (w.alloc (.cells #[.slice A L c,KL sh,KL ra,KL mo,KL wk,KL ba,KL mi,KL st,KL bu,KL ch,KL wi,KL ca,.slice D N cd,.slice T M ct,.slice R Q cr] 29)) (.cells #[.slice A L c,KL sh,KL ra,KL mo,KL wk,KL ba,KL mi,KL st,KL bu,KL ch,KL wi,KL ca] 24) w.heap.size (by simp)).trans (JE w _)
 have hy:=JE (w.alloc (.cells #[.slice A L c,KL sh,KL ra,KL mo,KL wk,KL ba,KL mi,KL st,KL bu,KL ch,KL wi,KL ca,.slice D N cd,.slice T M ct,.slice R Q cr] 29)) (.cells #[.slice A L c,KL sh,KL ra,KL mo,KL wk,KL ba,KL mi,KL st,KL bu,KL ch,KL wi,KL ca] 24)
 rw [show (w.alloc (.cells #[.slice A L c,KL sh,KL ra,KL mo,KL wk,KL ba,KL mi,KL st,KL bu,KL ch,KL wi,KL ca,.slice D N cd,.slice T M ct,.slice R Q cr] 29)).heap.size=w.heap.size+1 by simp] at hy
 have hB:Below w.heap.size w ((w.alloc (.cells #[.slice A L c,KL sh,KL ra,KL mo,KL wk,KL ba,KL mi,KL st,KL bu,KL ch,KL wi,KL ca,.slice D N cd,.slice T M ct,.slice R Q cr] 29)).alloc (.cells #[.slice A L c,KL sh,KL ra,KL mo,KL wk,KL ba,KL mi,KL st,KL bu,KL ch,KL wi,KL ca] 24)):=((JG _ w).alloc (JD _) _).alloc (by simp) _
 obtain ⟨W0,hW0⟩:∃W0,W0=(w.alloc (.cells #[.slice A L c,KL sh,KL ra,KL mo,KL wk,KL ba,KL mi,KL st,KL bu,KL ch,KL wi,KL ca,.slice D N cd,.slice T M ct,.slice R Q cr] 29)).alloc (.cells #[.slice A L c,KL sh,KL ra,KL mo,KL wk,KL ba,KL mi,KL st,KL bu,KL ch,KL wi,KL ca] 24):=⟨_,rfl⟩
 rw [←hW0] at hz hy hB ⊢
 clear hW0
 refine (cj.out _ hB).mono ?_
 rintro e w1 ⟨rfl,aR⟩
 have aP:=(aR.block _ (JC hz)).trans hz
 have a6:=(aR.block _ (JC hy)).trans hy
 have HB:=aa (hB.trans (aR.mono hB.size))
 obtain ⟨⟨z0,z1,z2,z3,z4,z5,z6,z7,z8,z9,X,Z,O,Y,H⟩,zf⟩:=jM aP
 obtain ⟨⟨y0,y1,y2,y3,y4,y5,y6,y7,y8,y9,y,B⟩,yf⟩:=jN a6
 have lz:=JC aP;have ly:=JC a6
 obtain ⟨HZ,HY⟩:=ae aP a6;clear hz hy hB aR aP a6
 by_cases h3:cc≠0
 ·have hq:(cc != 0)=true:=by rw [bne_iff_ne];exact h3
  have H3:=aa h3;clear h3
  go_wp2_with fail
  go_ret
  exact ⟨aV (Fc.out H3.out).symm,HB.out⟩
 obtain rfl:cc=0:=by omega
 clear h3
 have hg:=c6.out.1 rfl
 have g1:=hg.w;have g2:=hg.ba;have g3:=hg.st;have gz:=hg.z
 have HG:=aa hg
 dsimp only at g1 g2 g3 gz
 clear hg
 have bo:=gz.1.1
 rw [HL.out] at bo
 have s0:=gz.1.at (k:=0) (by have:=HL.out;omega)
 have s1:=gz.1.at (k:=L-1) (by have:=HL.out;omega)
 obtain ⟨bz,oz,rfl,p0⟩:=bl.out.num (show 0<sz.length by have:=HL.out;omega)
 obtain ⟨_,_,e',p1⟩:=bl.out.num (show L-1<sz.length by have:=HL.out;omega)
 injection e' with e';injection e' with e1 e2 _;subst e1;subst e2
 rw [s0.2.2,Nat.add_zero] at p0
 rw [s1.2.2] at p1
 obtain ⟨n0,b8⟩:∃n0,szN sz 0=n0:=⟨_,rfl⟩
 obtain ⟨n1,b5⟩:∃n1,szN sz (L-1)=n1:=⟨_,rfl⟩
 have f5:=F5.out;have I:=F8.out;have J:=F0.out
 rw [b8,b5] at f5 I J
 rw [b8] at p0 s0
 rw [b5] at p1 s1
 obtain ⟨F5,F8,F0,cv⟩:=ag f5 I J gz
 have bM:bz<w.heap.size:=ar p0
 obtain ⟨P0,P1⟩:=ae p0 p1;clear f5 I J gz b8 b5 p0 p1 s0 s1
 obtain ⟨bt,rfl⟩:∃bt:Nat,ba=bt:=⟨ba.toNat,by omega⟩
 go_wp2_with fail
 refine (bO.out _ HB.out).mono ?_
 rintro e w2 ⟨ao,hs⟩
 obtain ⟨S,rfl,hS⟩:∃S,e=.returned (.tuple #[.pointer (some ⟨S,0,none⟩),KL 0])∧bY 186 w2 S sz:=by
  rcases hs with ⟨_,S,he,hS,_⟩ | ⟨bN,_⟩
  ·exact ⟨S,he,hS⟩
  ·exact absurd cv.out bN
 clear hs
 have aG:=(ao.block _ lz).trans HZ.out
 have ad:=(ao.block _ ly).trans HY.out
 have a4:=aa (HB.out.trans (ao.mono HB.out.size));clear z0 z1 z2 z3 z4 z5 z6 z7 z8 z9 X Z O Y H zf y0 y1 y2 y3 y4 y5 y6 y7 y8 y9 y B yf lz ly
 obtain ⟨⟨z0,z1,z2,z3,z4,z5,z6,z7,z8,z9,X,Z,O,Y,H⟩,zf⟩:=jM aG
 obtain ⟨⟨y0,y1,y2,y3,y4,y5,y6,y7,y8,y9,y,B⟩,yf⟩:=jN ad
 have lz:=JC aG;have ly:=JC ad
 obtain ⟨c7,co,HS⟩:=af aG ad hS;clear ao aG ad hS
 have p0:=(a4.out.cell (p:=⟨bz,oz,none⟩) bM).trans P0.out
 have p1:=(a4.out.cell (p:=⟨bz,oz+(L-1),none⟩) bM).trans P1.out
 have bU:IntKind.i64.wrap ((L:Int)-1)=((L-1:Nat):Int):=by rw [JI _ (by omega)];omega
 have d1:((L-1:Nat):Int)<L:=by omega
 have d0:L-1<L:=by omega
 have cA:0<L:=by omega
 have cx:(0:Int)<L:=by omega
 go_wp2_with fail
 have u:(fun j:World=>j.cell? ⟨w.heap.size,12,none⟩=some (.slice D N cd)∧j.cell? ⟨w.heap.size+1,0,none⟩=some (.slice (some ⟨bz,oz,none⟩) L c)∧j.cell? ⟨bz,oz,none⟩=some (KL n0)∧j.cell? ⟨bz,oz+(L-1),none⟩=some (KL n1)) w2.drew:=⟨O,y0,p0,p1⟩
 refine HA.g (fun j:World=>j.cell? ⟨w.heap.size,12,none⟩=some (.slice D N cd)∧j.cell? ⟨w.heap.size+1,0,none⟩=some (.slice (some ⟨bz,oz,none⟩) L c)∧j.cell? ⟨bz,oz,none⟩=some (KL n0)∧j.cell? ⟨bz,oz+(L-1),none⟩=some (KL n1)) ?_
 refine HA.t ?_ [0,1,2,3,4,5,6,7,8,9,10,11,12,13] u ?_
 refine HA.o 14 (fun K hK=>?_)
 go_simp
 refine (cw.out n0 n1 _ a4.out.drew).mono ?_
 rintro e w3 ⟨a1,d,hd⟩
 have be:=JL (am a1 u.1) (JL (am a1 u.2.1) (JL (am a1 u.2.2.1) (am a1 u.2.2.2)))
 have C:Below w2.heap.size w2 w3:=(JG w2.heap.size w2).drew.trans a1
 have a0:=(C.block _ lz).trans c7.out
 have a2:=(C.block _ ly).trans co.out
 have bb:=HS.out.below C
 obtain ⟨av,bA,bi,c8⟩:=ag (a4.out.trans (C.mono a4.out.size)) a0 a2 bb
 obtain ⟨ab,rfl,b3⟩:∃ab,e=.returned (.tuple #[KL d,.bool ab])∧decide (∀x∈data,eH n0 n1 x)=ab:=by
  rcases hd with ⟨ha,rfl⟩ | ⟨ha,rfl⟩
  ·exact ⟨true,rfl,KA ha⟩
  ·exact ⟨false,rfl,KD ha⟩
 have a3:=aa b3;clear a1 C a0 a2 bb hd b3 u
 dsimp only
 refine hK.out _ _ be (fun u=>?_)
 clear hK K be
 refine HA.t ?_ [15,16,17,18,19] u ?_
 refine HA.d ?_
 clear u z0 z1 z2 z3 z4 z5 z6 z7 z8 z9 X Z O Y H zf y0 y1 y2 y3 y4 y5 y6 y7 y8 y9 y B yf lz ly bU
 have a0:=bA.out;have a2:=bi.out
 obtain ⟨⟨z0,z1,z2,z3,z4,z5,z6,z7,z8,z9,X,Z,O,Y,H⟩,zf⟩:=jM a0
 obtain ⟨⟨y0,y1,y2,y3,y4,y5,y6,y7,y8,y9,y,B⟩,yf⟩:=jN a2
 have lz:=JC a0;have ly:=JC a2
 clear a0 a2
 by_cases h7:N<bt
 ·have hq:(N:Int)<bt:=by omega
  go_wp2_with fail
  go_ret
  exact ⟨aV (F7.out trivial (by rw [KE];omega)).symm,av.out⟩
 have d2:¬((N:Int)<bt):=by omega
 have cy:¬((1048576:Int)<N):=by omega
 have G1:=aa (show decide ((bt:Int)≤N∧N≤1048576)=true by rw [KF];omega)
 rcases dB ab with rfl | rfl
 ·go_wp2_with fail
  go_quiet (fail)
  go_wp2_with fail
  go_ret
  exact ⟨aV (F5.out trivial G1.out (by rw [a3.out];rfl)).symm,JN av.out _⟩
 have b0:=fun j (q:Below w3.heap.size w3 j)=>ci.out S j (c8.out.below q)
 have b2:=aa b0;clear b0
 by_cases h5:M≠CN
 ·have hq:((M:Int) != (CN:Int))=true:=by rw [bne_iff_ne];omega
  have H5:=aa h5;clear h5
  go_wp2_with fail
  go_quiet ((go_at_call 46;refine Calls.quiet_of ((b2.out _ ?_).mono fun e j ⟨he,hw⟩=>⟨he,0,hw.symm⟩);exact al))
  go_wp2_with fail
  go_ret
  exact ⟨aV (F5.out trivial G1.out (by rw [a3.out,KD H5.out];rfl)).symm,JN av.out _⟩
 have hq:((M:Int) != (CN:Int))=false:=by rw [bne_eq_false_iff_eq];omega
 have G2:=aa (show (decide (∀x∈data,eH n0 n1 x)&&decide (M=CN))=true by rw [a3.out,KA (show M=CN by omega)];rfl);clear h5
 go_wp2_with fail
 go_quiet ((go_at_call 46;refine Calls.quiet_of ((b2.out _ ?_).mono fun e j ⟨he,hw⟩=>⟨he,0,hw.symm⟩);exact al))
 go_wp2_with fail
 obtain ⟨V,hV⟩:∃V,V=w3.drewN nq:=⟨_,rfl⟩
 have bI:Below w.heap.size w V:=by rw [hV];exact JN av.out _
 have bd:V.heap[w.heap.size]?=some (.cells #[.slice (some ⟨bz,oz,none⟩) L c,KL sh,KL ra,KL mo,KL wk,KL bt,KL mi,KL st,KL bu,KL ch,KL wi,KL ca,.slice D N cd,.slice T M ct,.slice R Q cr] 29 (0,0)):=by rw [hV];exact bA.out
 have bG:V.heap[w.heap.size+1]?=some (.cells #[.slice (some ⟨bz,oz,none⟩) L c,KL sh,KL ra,KL mo,KL wk,KL bt,KL mi,KL st,KL bu,KL ch,KL wi,KL ca] 24 (0,0)):=by rw [hV];exact bi.out
 clear z0 z1 z2 z3 z4 z5 z6 z7 z8 z9 X Z O Y H zf y0 y1 y2 y3 y4 y5 y6 y7 y8 y9 y B yf
 rw [←hV]
 clear hV
 obtain ⟨⟨z0,z1,z2,z3,z4,z5,z6,z7,z8,z9,X,Z,O,Y,H⟩,zf⟩:=jM bd
 obtain ⟨⟨y0,y1,y2,y3,y4,y5,y6,y7,y8,y9,y,B⟩,yf⟩:=jN bG
 have b9:=aa bI;clear bI bd bG
 have U:=cs.out HG.out (by omega) V.drew b9.out.drew
 have bn:=aa U;clear U
 have u:(fun j:World=>j.cell? ⟨w.heap.size,14,none⟩=some (.slice R Q cr)∧j.cell? ⟨w.heap.size+1,0,none⟩=some (.slice (some ⟨bz,oz,none⟩) L c)∧j.cell? ⟨w.heap.size+1,1,none⟩=some (KL sh)∧j.cell? ⟨w.heap.size+1,2,none⟩=some (KL ra)∧j.cell? ⟨w.heap.size+1,3,none⟩=some (KL mo)∧j.cell? ⟨w.heap.size+1,4,none⟩=some (KL wk)∧j.cell? ⟨w.heap.size+1,5,none⟩=some (KL bt)∧j.cell? ⟨w.heap.size+1,6,none⟩=some (KL mi)∧j.cell? ⟨w.heap.size+1,7,none⟩=some (KL st)∧j.cell? ⟨w.heap.size+1,8,none⟩=some (KL bu)∧j.cell? ⟨w.heap.size+1,9,none⟩=some (KL ch)∧j.cell? ⟨w.heap.size+1,10,none⟩=some (KL wi)∧j.cell? ⟨w.heap.size+1,11,none⟩=some (KL ca)) V.drew:=⟨H,y0,y1,y2,y3,y4,y5,y6,y7,y8,y9,y,B⟩
 refine HA.g (fun j:World=>j.cell? ⟨w.heap.size,14,none⟩=some (.slice R Q cr)∧j.cell? ⟨w.heap.size+1,0,none⟩=some (.slice (some ⟨bz,oz,none⟩) L c)∧j.cell? ⟨w.heap.size+1,1,none⟩=some (KL sh)∧j.cell? ⟨w.heap.size+1,2,none⟩=some (KL ra)∧j.cell? ⟨w.heap.size+1,3,none⟩=some (KL mo)∧j.cell? ⟨w.heap.size+1,4,none⟩=some (KL wk)∧j.cell? ⟨w.heap.size+1,5,none⟩=some (KL bt)∧j.cell? ⟨w.heap.size+1,6,none⟩=some (KL mi)∧j.cell? ⟨w.heap.size+1,7,none⟩=some (KL st)∧j.cell? ⟨w.heap.size+1,8,none⟩=some (KL bu)∧j.cell? ⟨w.heap.size+1,9,none⟩=some (KL ch)∧j.cell? ⟨w.heap.size+1,10,none⟩=some (KL wi)∧j.cell? ⟨w.heap.size+1,11,none⟩=some (KL ca)) ?_
 refine HA.t ?_ [0,1,2,3,4] u ?_
 refine HA.o 5 (fun K hK=>?_)
 go_simp
 refine bn.out.mono ?_
 rintro e w4 ⟨rfl,v⟩
 have bs:=aa (b9.out.trans ((JG V.heap.size V).drew.trans v |>.mono b9.out.size))
 have bv:=JL (am v u.1) (JL (am v u.2.1) (JL (am v u.2.2.1) (JL (am v u.2.2.2.1) (JL (am v u.2.2.2.2.1) (JL (am v u.2.2.2.2.2.1) (JL (am v u.2.2.2.2.2.2.1) (JL (am v u.2.2.2.2.2.2.2.1) (JL (am v u.2.2.2.2.2.2.2.2.1) (JL (am v u.2.2.2.2.2.2.2.2.2.1) (JL (am v u.2.2.2.2.2.2.2.2.2.2.1) (JL (am v u.2.2.2.2.2.2.2.2.2.2.2.1) (am v u.2.2.2.2.2.2.2.2.2.2.2.2))))))))))))
 clear v u
 dsimp only
 refine hK.out _ _ bv (fun u=>?_)
 clear hK K bv
 refine HA.t ?_ [6,7] u ?_
 refine HA.d ?_
 clear u z0 z1 z2 z3 z4 z5 z6 z7 z8 z9 X Z O Y H zf y0 y1 y2 y3 y4 y5 y6 y7 y8 y9 y B yf
 by_cases h8:ND≤Q
 ·have bV:¬((Q:Int)<ND):=by omega
  have cf:decide ((Q:Int)<ND)=false:=by simp;omega
  have bX:decide (Q<ND)=false:=by simp;omega
  have G8:=aa (KA h8)
  go_wp2_with fail
  go_ret
  exact ⟨aV (F0.out trivial G1.out G2.out G8.out).symm,bs.out⟩
 ·have bV:(Q:Int)<ND:=by omega
  have cf:decide ((Q:Int)<ND)=true:=by simp;omega
  have bX:decide (Q<ND)=true:=by simp;omega
  have G8:=aa (KD h8)
  go_wp2_with fail
  go_ret
  exact ⟨aV (F8.out trivial G1.out G2.out G8.out).symm,bs.out⟩
end Go.Proofs.YtaccfnffmbndhaaGreat
namespace Go.Proofs.YtaccfnffmbndhaaGreat
open Go.RowKit Go.Shelf
attribute [local go_sem] Oper.semAt_some
def qq (l:List Int):Int:=l.foldl (fun a x=>wrap64 (a+x)) 0
theorem AJ (l:List Int) (x:Int):qq (l++[x])=wrap64 (qq l+x):=by simp [qq]
def tQ (zs:List Int) {m:Nat} (k:Fin m):Array Value:=#[KL (nth zs k.1)]
theorem FS {zs:List Int} {m:Nat} (h:zs.length=m):((List.finRange m).map fun k=>nth zs k.1)=zs:=by
 refine iH (by simp [h]) fun k i=>?_
 rw [dI _ _ i]
 simp
theorem vD {β:Type} (B b:Nat) (o:List β→Obj) (j:∀p,(o p).isCells=true):OwnFrom B (fun (p:List β) W=>W.heap[b]?=some (o p)):=fun p W i row hs hg hr=>fH (β:=List β) B b (o p) (j p) p W i row hs hg hr
theorem Da (n l U n₀ m d:Nat) (A:Option Addr) (zs:List Int) (Q:zs.length=m) (hm:m≤1048576) (a4:U<n₀) (O:∀a,A=some a→a.block<n₀) (J Jx:List (Fin m)→World→Prop)
  (hY:∀j x W,J j W→j.length<m→YieldAt Fence.wide (n-1) Tryz.prog l (tQ zs x) W fun e D=>
   (e=.returned (.bool true)∧J (j++[x]) D∧iu n₀ U W D)∨(e=.returned (.bool false)∧Jx (j++[x]) D))
  (W:World) (C:W.heap[U]?=some (.cells #[.slice A m d] 26 (0,0))) (hA:Rd W A (aq .i64 zs)) (h0:J [] W):
  CallsIn Fence.wide n Tryz.prog 229 #[.func (.yield l) #[] #[],.pointer (some ⟨U,0,none⟩)] W fun e D=>(∃v,e=.returned v)∧
   ((∃ys,ys=List.finRange m∧J ys D)∨(∃j,True∧Jx j D)):=by
 obtain ⟨e0,ef⟩:=bx1 C
 obtain ⟨a3,HA,V,a0⟩:=ag C hA Q O;clear C hA Q O
 refine callsIn_of_wp Tryz.func229 rfl trivial ?_ rfl
 simp only [Tryz.ntmps229,List.size_toArray,List.length_cons,List.length_nil,Nat.reduceAdd,Nat.reduceSub,Array.replicate_succ,Array.replicate_zero,List.push_toArray,List.append_toArray,List.nil_append,List.cons_append]
 gi_wp2
 gi_loopw [7] (fun i wr=>∃k:Nat,k≤m∧i=KL k∧J ((List.finRange m).take k) wr∧Rd wr A (aq .i64 zs))
  (fun i _=>m-(intOf i).toNat)
 case atStart=>exact ⟨0,JH _,rfl,h0,HA.out⟩
 case round=>
  obtain ⟨k,hk,rfl,q,u⟩:=hrel
  clear e0 ef
  by_cases B:k<m
  ·have R:((List.finRange m).take k).length<m:=by simp;omega
   have Z:=aa u
   obtain ⟨b,o,rfl,p⟩:=u.num (show k<zs.length by rw [V.out];exact B)
   obtain ⟨fn,tmps,T,a2,hy,hR⟩:=hY _ ⟨k,B⟩ wr q R
   unfold tQ at hy
   dsimp only at hy
   clear u q
   gi_wp2
   refine ⟨(fun h=>by cases h),?_⟩
   refine hR.mono ?_
   rintro e w5 (⟨rfl,H,N⟩ | ⟨rfl,L⟩)
   ·have I:=Z.out.belowB N.1 a0.out
    obtain ⟨X,a1⟩:=ae I H;clear I H N p
    gi_wp2
    go_roundw
    case rel=>exact ⟨k+1,by omega,by go_num,by rw [Ae B];exact a1.out,X.out⟩
    case measure=>simp [intOf];omega
   ·gi_wp2
    refine JQ (results_none rfl _ _ _) rfl ?_
    exact ⟨⟨_,rfl⟩,.inr ⟨_,trivial,L⟩⟩
  ·obtain rfl:k=m:=by omega
   have y:(List.finRange k).take k=List.finRange k:=List.take_of_length_le (by simp)
   rw [y] at q
   have Y:=aa q;clear q y u
   gi_wp2
   go_end0
   exact ⟨⟨_,rfl⟩,.inl ⟨_,rfl,Y.out⟩⟩
theorem xo (n j n₀ m d:Nat) (A:Option Addr) (zs:List Int) (q:zs.length=m) (hm:m≤1048576) (p:j<n₀) (o:∀a,A=some a→a.block<n₀) (w:World)
  (i:w.heap[j]?=some (.cells #[.slice A m d] 26 (0,0))) (hA:Rd w A (aq .i64 zs)):
  SeqStopsK Fence.wide n Tryz.prog 229 #[.pointer (some ⟨j,0,none⟩)] (tQ zs (m:=m)) (iu n₀ j) (fun ys=>ys=List.finRange m) (fun _=>True) m w:=fun l J x W u _ _ y v=>
 Da n l j n₀ m d A zs q hm p o J x y W ((u.block _ (JC i)).trans i) (hA.below u) v
theorem AF (J m d:Nat) (A:Option Addr) (zs:List Int) (w:World) (B:w.heap[J]?=some (.cells #[.slice A m d] 26 (0,0))) (hA:Rd w A (aq .i64 zs)) (v:zs.length=m) (hm:m≤1048576) (I:∀a,A=some a→a.block<w.heap.size):
  Calls Tryz.prog 221 #[.func (.func 229) #[] #[.pointer (some ⟨J,0,none⟩)]] w fun e w'=>e=.returned (KL (qq zs))∧Below w.heap.size w w':=by
 have L:=JC B
 have C:=xo 2 J w.heap.size m d A zs v hm L I (w.alloc (.cells #[KL 0] 2)) ((JP w _ _ L).trans B) (hA.alloc _)
 obtain ⟨U,R⟩:=ae C v;clear C B hA v I
 refine (callsIn_wide (n:=3)).1 ?_
 refine callsIn_of_wp_marks Tryz.func221 rfl trivial ?_ rfl
 simp only [Tryz.ntmps221,List.size_toArray,List.length_cons,List.length_nil,Nat.reduceAdd,Nat.reduceSub,Array.replicate_succ,Array.replicate_zero,List.push_toArray,List.append_toArray,List.nil_append,List.cons_append]
 gi_wp2_with fail
 refine' wpIn_rangeFunc_ownG (F:=Fence.wide) (n:=3) rfl (by omega) (gf:=229) (lb:=#[.pointer (some ⟨J,0,none⟩)]) rfl trivial (enters_of Tryz.func229 (by kernel_rfl) rfl)
  U.out j9 (ka (by simp) (by simp;omega)) (JG _ _) (fun _=>rfl)
  (fun (p:List (Fin m)) W=>(W.heap[w.heap.size]?=some (.cells #[KL (qq (p.map fun k=>nth zs k.1))] 2 (0,0)))∧Below w.heap.size w W)
  (fun _ _ _=>False)
  (OwnFrom.and (vD _ _ (fun p:List (Fin m)=>.cells #[KL (qq (p.map fun k=>nth zs k.1))] 2 (0,0)) (fun _=>rfl)) (ownFrom_below (JD _) (by simp)))
  (fun _ _ _ _ _ hs _ _=>hs)
  ⟨JE w _,(JG _ w).alloc (JD _) _⟩
  _ ?assign ?body ?done ?stop
 case assign=>
  intro l x W K O
  unfold tQ
  gi_wp2
  exact O
 case body=>
  rintro l p x W ⟨q,i⟩ T
  obtain ⟨Q,u⟩:∃Q,qq (p.map fun k=>nth zs k.1)=Q:=⟨_,rfl⟩
  obtain ⟨N,y⟩:∃N,nth zs x.1=N:=⟨_,rfl⟩
  rw [u] at q
  obtain ⟨p0,pf⟩:=bx1 q
  have a0:=JC q
  obtain ⟨HS,HB,Y,X⟩:=ag q i u y;clear q i T u
  simp only [y]
  clear y
  gi_wp2_with fail
  have V:Keep (fun j=>j=w.heap.size) W (W.setCell ⟨w.heap.size,0,none⟩ (KL (wrap64 (Q+N)))):=Keep.setCell (S:=fun j=>j=w.heap.size) (Keep.refl _ _) ⟨w.heap.size,0,none⟩ (.inr rfl) _
  have Z:Below w.heap.size W (W.setCell ⟨w.heap.size,0,none⟩ (KL (wrap64 (Q+N)))):=V.toBelow HB.out.size (fun j hj=>by omega)
  refine ⟨(lh V (fun k o hs H=>by rw [hs,HS.out] at H;injection H with e;subst e;rfl)).from _,⟨Z,fun h=>V.block J h (by omega)⟩,?_,HB.out.trans Z⟩
  rw [List.map_append,List.map_cons,List.map_nil,AJ,Y.out,X.out]
  exact KG W w.heap.size 0 _ _ _ HS.out
 case done=>
  rintro D ys W hD rfl ⟨q,i⟩ O
  rw [FS R.out] at q
  obtain ⟨p0,pf⟩:=bx1 q
  gi_wp2
  refine ⟨by simp,.inl ⟨_,_,rfl,run_takeDeferred O,?_⟩⟩
  exact ⟨KL (qq zs),by simp [results,Tryz.results221,go_sem],rfl,i.trans (belowK_b (w:=w) (JD _) W D _ _ (by simp at hD;omega) O rfl rfl)⟩
 case stop=>
  rintro D c p W _ _ h _
  exact h.elim
theorem C9 (A:Option Addr) (m d:Nat) (w:World):
  Calls Tryz.prog 222 #[.slice A m d] w fun e i=>e=.returned (.func (.func 229) #[] #[.pointer (some ⟨w.heap.size,0,none⟩)])∧i=w.alloc (.cells #[.slice A m d] 26):=by
 go_enter Tryz.func222,Tryz.ntmps222
 go_wp2
 go_ret
 exact ⟨rfl,rfl⟩
theorem EM (A:Option Addr) (m d:Nat) (zs:List Int) (w:World) (hA:Rd w A (aq .i64 zs)) (j:zs.length=m) (hm:m≤1048576) (i:∀a,A=some a→a.block<w.heap.size):
  Calls Tryz.prog 202 #[.slice A m d] w fun e q=>e=.returned (KL (qq zs))∧Below w.heap.size w q:=by
 have o:=AF w.heap.size m d A zs (w.alloc (.cells #[.slice A m d] 26)) (JE w _) (hA.alloc _) j hm (fun a u=>by have:=i a u;simp;omega)
 have v:=aa o;clear o hA j i
 go_enter Tryz.func202,Tryz.ntmps202
 go_wp2_with fail
 refine (C9 A m d w).mono ?_
 rintro e y ⟨rfl,rfl⟩
 go_wp2_with fail
 refine v.out.mono ?_
 rintro e B ⟨rfl,p⟩
 have x:=aa (((JG _ w).alloc (JD _) _).trans (p.mono (by simp)));clear p
 go_wp2
 go_ret
 exact ⟨rfl,x.out⟩
end Go.Proofs.YtaccfnffmbndhaaGreat
namespace Go.Proofs.YtaccfnffmbndhaaGreat
open Go.RowKit
theorem Dl (a b:Int):qq [a,b]=wrap64 (a+b):=by
 show wrap64 (wrap64 (0+a)+b)=wrap64 (a+b)
 unfold wrap64
 omega
def eD (i q m g:Int):Int:=wrap64 (eL i m q+g)
def kR (ra q p m:Int):Int:=wrap64 (p-eL ra m q)
def apM (i q:Int) (ms g:List Int) (lo k:Nat):List Int:=dh ms.length fun j=>if lo≤j∧j<lo+k then eD i q (nth ms j) (nth g (j-lo)) else nth ms j
def apP (ra i q:Int) (ps ms g:List Int) (lo k:Nat):List Int:=dh ps.length fun j=>if lo≤j∧j<lo+k then kR ra q (nth ps j) (eD i q (nth ms j) (nth g (j-lo))) else nth ps j
theorem xa (i q:Int) (ms g:List Int) (lo:Nat):apM i q ms g lo 0=ms:=(eQ rfl fun k _=>by rw [if_neg (by omega)]).symm
theorem wZ (ra i q:Int) (ps ms g:List Int) (lo:Nat):apP ra i q ps ms g lo 0=ps:=(eQ rfl fun k _=>by rw [if_neg (by omega)]).symm
theorem mj (i q:Int) (ms g:List Int) (lo k:Nat):(apM i q ms g lo k).length=ms.length:=bR _ _
theorem mh (ra i q:Int) (ps ms g:List Int) (lo k:Nat):(apP ra i q ps ms g lo k).length=ps.length:=bR _ _
theorem IU (i q:Int) (ms g:List Int) (lo k:Nat) (h:lo+k<ms.length):nth (apM i q ms g lo k) (lo+k)=nth ms (lo+k):=by
 unfold apM;rw [bj _ h,if_neg (by omega)]
theorem IT (ra i q:Int) (ps ms g:List Int) (lo k:Nat) (h:lo+k<ps.length):nth (apP ra i q ps ms g lo k) (lo+k)=nth ps (lo+k):=by
 unfold apP;rw [bj _ h,if_neg (by omega)]
theorem Ax (i q:Int) (ms g:List Int) (lo k:Nat) (h:lo+k<ms.length):(apM i q ms g lo k).set (lo+k) (eD i q (nth ms (lo+k)) (nth g k))=apM i q ms g lo (k+1):=by
 refine iH (by simp [mj]) fun j o=>?_
 rw [List.length_set,mj] at o
 rw [fZ,mj]
 unfold apM
 rw [bj _ o,bj _ o]
 by_cases h1:j=lo+k
 ·subst h1
  rw [if_pos ⟨rfl,h⟩,if_pos (by omega),show lo+k-lo=k by omega]
 ·rw [if_neg (by omega)]
  by_cases p:lo≤j∧j<lo+k
  ·rw [if_pos p,if_pos (by omega)]
  ·rw [if_neg p,if_neg (by omega)]
theorem At (ra i q:Int) (ps ms g:List Int) (lo k:Nat) (h:lo+k<ps.length):(apP ra i q ps ms g lo k).set (lo+k) (kR ra q (nth ps (lo+k)) (eD i q (nth ms (lo+k)) (nth g k)))=apP ra i q ps ms g lo (k+1):=by
 refine iH (by simp [mh]) fun j o=>?_
 rw [List.length_set,mh] at o
 rw [fZ,mh]
 unfold apP
 rw [bj _ o,bj _ o]
 by_cases h1:j=lo+k
 ·subst h1
  rw [if_pos ⟨rfl,h⟩,if_pos (by omega),show lo+k-lo=k by omega]
 ·rw [if_neg (by omega)]
  by_cases p:lo≤j∧j<lo+k
  ·rw [if_pos p,if_pos (by omega)]
  ·rw [if_neg p,if_neg (by omega)]
theorem uD {i q:Int} {ms g:List Int} {lo k:Nat} (h:W64 ms):W64 (apM i q ms g lo k):=fE fun j o=>by
 split
 ·exact gH _
 ·exact h j o
def vJ (i q:Int) (ms g:List Int):List Int:=dh ms.length fun j=>eD i q (nth ms j) (nth g j)
def vI (ra i q:Int) (ps ms g:List Int):List Int:=dh ps.length fun j=>kR ra q (nth ps j) (eD i q (nth ms j) (nth g j))
theorem AT (lo i:Nat) (w:World) (h:lo≤i) (q:i≤17592186043904):Calls Tryz.prog 181 #[.agg #[KL lo,KL i]] w fun e p=>e=.returned (KL ((i-lo:Nat):Int))∧Below w.heap.size w p:=by
 have h1:(0:Int)≤(i:Int)-lo:=by omega
 have j:max ((i:Int)-lo) 0=((i-lo:Nat):Int):=by omega
 have o:=aa j;clear j
 go_enter Tryz.func181,Tryz.ntmps181
 go_wp2
 all_goals
  go_ret
  exact ⟨aV (by have:=o.out;omega),(JG _ w).alloc (JD _) _⟩
theorem xp (ra I q g:Int) (base n i y cp x cm:Nat) (ps ms:List Int) (w:World) (hp:w.ownsRow base 2 1 (.slice (some ⟨y,0,none⟩) n cp) n (aq .i64 ps)) (hm:w.ownsRow base 2 1 (.slice (some ⟨x,0,none⟩) n cm) n (aq .i64 ms)) (b9:y≠x) (hi:i<n)
  (wr: -9223372036854775808≤ra∧ra≤9223372036854775807) (wo: -9223372036854775808≤I∧I≤9223372036854775807) (wm:W64 ms):
  Calls Tryz.prog 182 #[.agg #[KL ra,KL I,KL q],.pointer (some ⟨y,i,none⟩),.pointer (some ⟨x,i,none⟩),KL g] w fun e u=>e=.returned (.tuple #[])∧
   u.ownsRow base 2 1 (.slice (some ⟨y,0,none⟩) n cp) n (aq .i64 (ps.set i (kR ra q (nth ps i) (eD I q (nth ms i) g))))∧u.ownsRow base 2 1 (.slice (some ⟨x,0,none⟩) n cm) n (aq .i64 (ms.set i (eD I q (nth ms i) g)))∧Keep (fun j=>j=y∨j=x) w u:=by
 have ab:=jz hm
 have p1:=cq hp hi
 have p2:=cq hm hi
 have f1:=hp.frozenAt i
 have f2:=hm.frozenAt i
 have l1:=(hp.lt y rfl).2
 have l2:=(hm.lt x rfl).2
 have a0:=fun u=>rq I (nth ms i) q u wo (wm i (by omega))
 have T:=fun m' u (h: -9223372036854775808≤m'∧m'≤9223372036854775807)=>rq ra m' q u wr h
 obtain ⟨m0,b3⟩:∃m0,nth ms i=m0:=⟨_,rfl⟩
 obtain ⟨p0,aP⟩:∃p0,nth ps i=p0:=⟨_,rfl⟩
 rw [b3] at p2 a0 ⊢
 rw [aP] at p1 ⊢
 obtain ⟨L,B⟩:∃L,eD I q m0 g=L:=⟨_,rfl⟩
 have b6: -9223372036854775808≤L∧L≤9223372036854775807:=by rw [←B];exact gH _
 obtain ⟨mu,O⟩:∃mu,eL I m0 q=mu:=⟨_,rfl⟩
 have b1:qq [mu,g]=L:=by rw [Dl,←B,←O];rfl
 rw [B]
 rw [O] at a0
 have T:=fun u=>T L u b6
 obtain ⟨pu,N⟩:∃pu,eL ra L q=pu:=⟨_,rfl⟩
 rw [N] at T
 obtain ⟨p9,ad⟩:∃p9,kR ra q p0 L=p9:=⟨_,rfl⟩
 have a2:wrap64 (p0-pu)=p9:=by rw [←ad,←N];rfl
 rw [ad]
 have ao:=fun u=>zv p0 pu u
 rw [a2] at ao
 have a8:=fun A u (hA:Rd u A (aq .i64 [mu,g])) ha=>EM A 2 2 [mu,g] u hA rfl (by omega) ha
 rw [b1] at a8
 obtain ⟨bi,bn,bs,bl,HP,HM,bd,b4⟩:=ak a0 T ao a8 hp hm aP b9;clear a0 T ao a8 hp hm b3 aP B O b1 N ad a2 wr wo wm ab b6
 go_enter Tryz.func182,Tryz.ntmps182
 go_wp2_with fail
 have hz:=JE w (.cells #[KL ra,KL I,KL q] 123)
 have D:Below w.heap.size w (w.alloc (.cells #[KL ra,KL I,KL q] 123)):=(JG _ w).alloc (JD _) _
 obtain ⟨Y,hW0⟩:∃Y,Y=w.alloc (.cells #[KL ra,KL I,KL q] 123):=⟨_,rfl⟩
 rw [←hW0] at hz D ⊢
 clear hW0
 have q1:=am D p1
 have q2:=am D p2
 obtain ⟨⟨y0,y1,y2⟩,yf⟩:=bx3 hz
 have a1:=ap HP.out D
 have a5:=ap HM.out D
 have bb:=JC hz
 obtain ⟨HZ,bv,be,bA⟩:=ag hz D a1 a5;clear hz D a1 a5 p1 p2 f1 f2
 have p:(fun u:World=>u.cell? ⟨w.heap.size,1,none⟩=some (KL I)∧u.cell? ⟨w.heap.size,2,none⟩=some (KL q)∧u.cell? ⟨x,i,none⟩=some (KL m0)) Y.drew:=⟨y1,y2,q2⟩
 refine XA.g 12 (fun u:World=>u.cell? ⟨w.heap.size,1,none⟩=some (KL I)∧u.cell? ⟨w.heap.size,2,none⟩=some (KL q)∧u.cell? ⟨x,i,none⟩=some (KL m0)) ?_
 refine XA.t ?_ [0,1,2,3,4,5,6,7,9] p ?_
 refine XA.o 8 (fun K H=>?_)
 go_simp
 refine (bi.out _).mono ?_
 rintro e w1 ⟨rfl,v⟩
 have b2:=JL (am v p.1) (JL (am v p.2.1) (am v p.2.2))
 have av:=aa ((JG Y.heap.size Y).drew.trans v);clear v p
 dsimp only
 refine H.out _ _ b2 (fun p=>?_)
 clear H K b2
 refine XA.o 10 (fun K H=>?_)
 go_simp
 refine H.out _ _ ⟨aA p.1 _,aA p.2.1 _,aA p.2.2 _⟩ (fun p=>?_)
 clear H K
 refine XA.o 11 (fun K H=>?_)
 go_simp
 refine (bl.out _ _ ?_ ?_).mono ?_
 ·exact dZ _ [KL mu,KL g] 2 _ (by simp)
 ·intro a ha;injection ha with ha;subst ha;simp
 rintro e w2 ⟨rfl,v⟩
 have aM:=JL (am v p.1) (JL (am v p.2.1) (am v p.2.2))
 have C:Below Y.heap.size Y w2:=(av.out.alloc av.out.size _).trans (v.mono (by have:=av.out.size;simp;omega))
 have aG:=ap be.out C
 have B:=ap bA.out C
 have bh:=am C q1
 have g1:=B.frozenAt i
 have g2:=aG.frozenAt i
 have b8:=(C.block _ bb).trans HZ.out
 have bX:=C.size
 obtain ⟨bM,bO,b5,bN⟩:=ag aG B C b8;clear aG B C v b8 p y0 y1 y2 yf q1 q2
 dsimp only
 refine H.out _ _ aM (fun p=>?_)
 clear H K
 have q3:=aM.2.2
 refine XA.e ?_
 clear p aM
 simp only [Kc,Ke]
 go_wp2_with fail
 have R:Keep (fun j=>j=x) w2 (w2.setCell ⟨x,i,none⟩ (KL L)):=Keep.setCell (S:=fun j=>j=x) (Keep.refl _ _) ⟨x,i,none⟩ (.inr rfl) _
 have X:=dA bO.out i L
 have a3:∀j,(Value.slice (some ⟨y,0,none⟩) n cp).ownBlock=some j→¬j=x:=fun j hj e=>by
  have h1:y=j:=by simpa [Value.ownBlock] using hj
  exact b4.out (by omega)
 have a4:∀j,(Value.slice (some ⟨x,0,none⟩) n cm).ownBlock=some j→¬j=y:=fun j hj e=>by
  have h1:x=j:=by simpa [Value.ownBlock] using hj
  exact b4.out (by omega)
 have Z:=R.own bM.out a3
 have aR:=aa a4;clear a3 a4
 have Q:=(R.block _ (by have:=b5.out.size;omega) (by omega)).trans bN.out
 obtain ⟨V,hV⟩:∃V,V=w2.setCell ⟨x,i,none⟩ (KL L):=⟨_,rfl⟩
 rw [←hV] at R X Z Q ⊢
 clear hV bh q3 g1 g2
 have r1:=cq Z hi
 have r2:=cq X hi
 have ab:=jz HM.out
 rw [fZ,if_pos ⟨rfl,by omega⟩] at r2
 rw [bd.out] at r1
 obtain ⟨⟨y0,y1,y2⟩,yf⟩:=bx3 Q
 have bU:=JC Q
 obtain ⟨bz,bG,bf,bV⟩:=ag R X Z Q;clear R X Z Q ab
 have p:(fun u:World=>u.cell? ⟨w.heap.size,0,none⟩=some (KL ra)∧u.cell? ⟨w.heap.size,2,none⟩=some (KL q)∧u.cell? ⟨y,i,none⟩=some (KL p0)∧u.cell? ⟨x,i,none⟩=some (KL L)) V.drew:=⟨y0,y2,r1,r2⟩
 refine XA.g 13 (fun u:World=>u.cell? ⟨w.heap.size,0,none⟩=some (KL ra)∧u.cell? ⟨w.heap.size,2,none⟩=some (KL q)∧u.cell? ⟨y,i,none⟩=some (KL p0)∧u.cell? ⟨x,i,none⟩=some (KL L)) ?_
 refine XA.t ?_ [0,1,2,3,4,5,6,7,8,9,10] p ?_
 refine XA.o 11 (fun K H=>?_)
 go_simp
 refine (bn.out _).mono ?_
 rintro e w3 ⟨rfl,J⟩
 have a7:=JL (am J p.1) (JL (am J p.2.1) (JL (am J p.2.2.1) (am J p.2.2.2)))
 have U:Below V.heap.size V w3:=(JG V.heap.size V).drew.trans J
 have a6:=ap bf.out U
 have b7:=ap bG.out U
 have g2:=a6.frozenAt i
 have q3:=a7.2.2.1
 obtain ⟨bw,bo,bI⟩:=af U a6 b7;clear J U a6 b7 p
 dsimp only
 refine H.out _ _ a7 (fun p=>?_)
 clear H K a7
 refine XA.o 12 (fun K H=>?_)
 go_simp
 refine (bs.out _).mono ?_
 rintro e w4 ⟨rfl,rfl⟩
 dsimp only
 refine H.out _ _ p (fun p=>?_)
 clear H K
 refine XA.e ?_
 clear p y0 y1 y2 yf r1 r2
 simp only [Kc,Ke]
 go_wp2_with fail
 go_end0
 have b0:Keep (fun j=>j=y) w3 (w3.setCell ⟨y,i,none⟩ (KL p9)):=Keep.setCell (S:=fun j=>j=y) (Keep.refl _ _) ⟨y,i,none⟩ (.inr rfl) _
 refine ⟨rfl,dA bo.out i p9,b0.own bI.out aR.out,?_⟩
 have k1:Keep (fun j=>j=y∨j=x) w Y:=Keep.below bv.out
 have k2:Keep (fun j=>j=y∨j=x) Y w2:=Keep.below b5.out
 have k3:Keep (fun j=>j=y∨j=x) w2 V:=bz.out.mono (fun _ _ h=>.inr h)
 have k4:Keep (fun j=>j=y∨j=x) V w3:=Keep.below bw.out
 exact (((k1.trans k2).trans k3).trans k4).trans (b0.mono (fun _ _ h=>.inl h))
theorem CS (ra p q:Int) (base n lo m c1 c2 cg:Nat) (A B G:Option Addr) (ps ms g:List Int) (w:World) (hp:w.ownsRow base 2 1 (.slice A n c1) n (aq .i64 ps)) (hm:w.ownsRow base 2 1 (.slice B n c2) n (aq .i64 ms)) (ad:∀i,(Value.slice A n c1).ownBlock=some i→(Value.slice B n c2).ownBlock≠some i)
  (hG:Rd w G (aq .i64 g)) (b1:g.length=m) (co:lo+m≤n) (hn:n≤1048576) (ab:∀a,G=some a→(Value.slice A n c1).ownBlock≠some a.block) (b3:∀a,G=some a→(Value.slice B n c2).ownBlock≠some a.block)
  (wr: -9223372036854775808≤ra∧ra≤9223372036854775807) (wo: -9223372036854775808≤p∧p≤9223372036854775807) (wm:W64 ms):
  Calls Tryz.prog 150 #[.agg #[KL ra,KL p,KL q],.agg #[.slice A n c1,.slice B n c2],.agg #[KL lo,KL ((lo+m:Nat):Int)],.slice G m cg] w fun e v=>e=.returned (.bool true)∧
   v.ownsRow base 2 1 (.slice A n c1) n (aq .i64 (apP ra p q ps ms g lo m))∧v.ownsRow base 2 1 (.slice B n c2) n (aq .i64 (apM p q ms g lo m))∧Keep (fun j=>(Value.slice A n c1).ownBlock=some j∨(Value.slice B n c2).ownBlock=some j) w v:=by
 have bd:=jz hp
 have b9:=jz hm
 have Y:=fun v=>AT lo (lo+m) v (by omega) (by omega)
 rw [Nat.add_sub_cancel_left] at Y
 obtain ⟨H,b5⟩:∃H,lo+m=H:=⟨_,rfl⟩
 rw [b5] at Y ⊢
 have cj:lo≤H:=by omega
 have cy:H≤n:=by omega
 have cA:((n:Int) != (n:Int))=false:=by simp
 have cw:((m:Int) != (m:Int))=false:=by simp
 have cr:¬((n:Int)<(H:Int)):=by omega
 have cs:¬((H:Int)<lo):=by omega
 have a2:=hp.lt
 have a4:=hm.lt
 obtain ⟨av,HP,HM,bO,HG,bA,bf,ao⟩:=ak Y hp hm ad hG b1 ab b3;obtain ⟨aR,b6,Wr,Wo,Wm,Z,a0⟩:=aj bd b9 wr wo wm a2 a4;clear Y hp hm ad hG b1 ab b3 bd b9 wr wo wm a2 a4 b5
 go_enter Tryz.func150,Tryz.ntmps150
 go_wp2_with fail
 have a5:(((w.alloc (.cells #[KL ra,KL p,KL q] 123)).alloc (.cells #[.slice A n c1,.slice B n c2] 68)).alloc (.cells #[KL lo,KL H] 52)).heap.size=w.heap.size+3:=by simp
 have a7:Below w.heap.size w (((w.alloc (.cells #[KL ra,KL p,KL q] 123)).alloc (.cells #[.slice A n c1,.slice B n c2] 68)).alloc (.cells #[KL lo,KL H] 52)):=(((JG _ w).alloc (JD _) _).alloc (by simp) _).alloc (by simp;omega) _
 have a6:=(JP ((w.alloc (.cells #[KL ra,KL p,KL q] 123)).alloc (.cells #[.slice A n c1,.slice B n c2] 68)) (.cells #[KL lo,KL H] 52) w.heap.size (by simp;omega)).trans ((JP (w.alloc (.cells #[KL ra,KL p,KL q] 123)) (.cells #[.slice A n c1,.slice B n c2] 68) w.heap.size (by simp)).trans (JE w _))
 have D:=JE (w.alloc (.cells #[KL ra,KL p,KL q] 123)) (.cells #[.slice A n c1,.slice B n c2] 68)
 rw [show (w.alloc (.cells #[KL ra,KL p,KL q] 123)).heap.size=w.heap.size+1 by simp] at D
 have D:=(JP ((w.alloc (.cells #[KL ra,KL p,KL q] 123)).alloc (.cells #[.slice A n c1,.slice B n c2] 68)) (.cells #[KL lo,KL H] 52) (w.heap.size+1) (by simp)).trans D
 have T:=JE ((w.alloc (.cells #[KL ra,KL p,KL q] 123)).alloc (.cells #[.slice A n c1,.slice B n c2] 68)) (.cells #[KL lo,KL H] 52)
 rw [show ((w.alloc (.cells #[KL ra,KL p,KL q] 123)).alloc (.cells #[.slice A n c1,.slice B n c2] 68)).heap.size=w.heap.size+1+1 by simp] at T
 obtain ⟨W0,hW0⟩:∃W0,W0=((w.alloc (.cells #[KL ra,KL p,KL q] 123)).alloc (.cells #[.slice A n c1,.slice B n c2] 68)).alloc (.cells #[KL lo,KL H] 52):=⟨_,rfl⟩
 rw [←hW0] at a5 a7 a6 D T ⊢
 obtain ⟨cl,L,aG,b0,V⟩:=ah a5 a7 a6 D T;clear a5 a7 a6 D T hW0
 refine (av.out _).mono ?_
 rintro e w1 ⟨rfl,k1⟩
 have y:=(k1.block _ (JC V.out)).trans V.out
 have bX:=JC y
 obtain ⟨⟨x0,x1⟩,xf⟩:=bx2 y
 have K1:=aa k1;clear k1 y
 go_wp2_with fail
 refine (av.out _).mono ?_
 rintro e w2 ⟨rfl,k2⟩
 have K2:=aa (K1.out.trans (k2.mono K1.out.size));clear k2 x0 x1 xf bX
 have b8:=L.out.trans (K2.out.mono L.out.size)
 have bi:=ap (ap HP.out L.out) K2.out
 have b4:=ap (ap HM.out L.out) K2.out
 have bs:=(HG.out.below L.out).below K2.out
 have I:=(K2.out.block _ (JC aG.out)).trans aG.out
 have Q:=(K2.out.block _ (JC b0.out)).trans b0.out
 have y:=(K2.out.block _ (JC V.out)).trans V.out
 obtain ⟨bU,bM,c9,c6,bh,bb,bo⟩:=aj b8 bi b4 bs I Q y;clear b8 bi b4 bs I Q y
 go_wp2_with fail
 go_loopw [46] (fun x wr=>∃k:Nat,k≤m∧x=KL k∧wr.ownsRow base 2 1 (.slice A n c1) n (aq .i64 (apP ra p q ps ms g lo k))∧wr.ownsRow base 2 1 (.slice B n c2) n (aq .i64 (apM p q ms g lo k))∧Keep (fun j=>(Value.slice A n c1).ownBlock=some j∨(Value.slice B n c2).ownBlock=some j) w2 wr) (fun x _=>m-(intOf x).toNat)
 case atStart=>exact ⟨0,JH _,rfl,by rw [wZ];exact bM.out,by rw [xa];exact c9.out,Keep.refl _ _⟩
 case round=>
  obtain ⟨k,hk,rfl,R,J,N⟩:=hrel
  by_cases bN:k<m
  ·have hG:=N.rd c6.out (fun a ha=>by
    rintro (h | h)
    ·exact bf.out a ha h
    ·exact ao.out a ha h)
   obtain ⟨bG,oG,rfl,pg⟩:=hG.num (show k<g.length by rw [bA.out];exact bN)
   obtain ⟨gk,O⟩:∃gk,nth g k=gk:=⟨_,rfl⟩
   rw [O] at pg
   have U:∀j,w.heap.size≤j→¬((Value.slice A n c1).ownBlock=some j∨(Value.slice B n c2).ownBlock=some j):=fun j hj=>by
    rintro (h | h)
    ·have:=(Z.out j h).2;omega
    ·have:=(a0.out j h).2;omega
   have I:=(N.block _ (JC bh.out) (U _ (JD _))).trans bh.out
   have Q:=(N.block _ (JC bb.out) (U _ (by omega))).trans bb.out
   have y:=(N.block _ (JC bo.out) (U _ (by omega))).trans bo.out
   obtain ⟨X,e1,b2,_,_⟩:=R.form (by omega)
   obtain ⟨gm,e2,be,_,_⟩:=J.form (by omega)
   simp only [Ku] at b2 be
   obtain ⟨rfl,_,rfl⟩:=b2
   obtain ⟨rfl,_,rfl⟩:=be
   have a3:X≠gm:=fun e=>bO.out X rfl (by rw [e];rfl)
   have a8:=xp ra p q gk base n (lo+k) X c1 gm c2 (apP ra p q ps ms g lo k) (apM p q ms g lo k) wr.drew (bC R 1) (bC J 1) a3 (by omega) Wr.out Wo.out (uD Wm.out)
   rw [IT ra p q ps ms g lo k (by have:=aR.out;omega),IU p q ms g lo k (by have:=b6.out;omega),←O,At ra p q ps ms g lo k (by have:=aR.out;omega),Ax p q ms g lo k (by have:=b6.out;omega),O] at a8
   obtain ⟨⟨y0,y1,y2⟩,yf⟩:=bx3 I
   obtain ⟨⟨z0,z1⟩,zf⟩:=bx2 Q
   obtain ⟨⟨t0,t1⟩,tf⟩:=bx2 y
   have ct:(k:Int)<m:=by omega
   have bI:IntKind.i64.wrap ((lo:Int)+(k:Int))=(lo:Int)+k:=JI _ (by omega)
   have ci:(0:Int)≤(lo:Int)+k:=by omega
   have cx:(lo:Int)+k<n:=by omega
   have bw:((lo:Int)+k).toNat=lo+k:=by omega
   obtain ⟨HK,c7,cv⟩:=af N a8 O;clear N a8 R J hG I Q y U O a3
   go_wp2_with fail
   have u:(fun v:World=>v.cell? ⟨w.heap.size,0,none⟩=some (KL ra)∧v.cell? ⟨w.heap.size,1,none⟩=some (KL p)∧v.cell? ⟨w.heap.size,2,none⟩=some (KL q)∧v.cell? ⟨w.heap.size+1,0,none⟩=some (.slice (some ⟨X,0,none⟩) n c1)∧v.cell? ⟨w.heap.size+1,1,none⟩=some (.slice (some ⟨gm,0,none⟩) n c2)∧v.cell? ⟨w.heap.size+1+1,0,none⟩=some (KL lo)∧v.cell? ⟨bG,oG+k,none⟩=some (KL gk)) wr.drew:=⟨y0,y1,y2,z0,z1,t0,pg⟩
   have cd:X<w.heap.size:=(Z.out X rfl).2
   have cf:gm<w.heap.size:=(a0.out gm rfl).2
   have a1:¬(bG=X∨bG=gm):=by
    rintro (h | h)
    ·exact bf.out _ rfl (by rw [h];rfl)
    ·exact ao.out _ rfl (by rw [h];rfl)
   refine HA.g (fun v:World=>v.cell? ⟨w.heap.size,0,none⟩=some (KL ra)∧v.cell? ⟨w.heap.size,1,none⟩=some (KL p)∧v.cell? ⟨w.heap.size,2,none⟩=some (KL q)∧v.cell? ⟨w.heap.size+1,0,none⟩=some (.slice (some ⟨X,0,none⟩) n c1)∧v.cell? ⟨w.heap.size+1,1,none⟩=some (.slice (some ⟨gm,0,none⟩) n c2)∧v.cell? ⟨w.heap.size+1+1,0,none⟩=some (KL lo)∧v.cell? ⟨bG,oG+k,none⟩=some (KL gk)) ?_
   refine HA.t ?_ [0,1,2,3,4,5,6,7,8,9,10,11,12,13,14,15,16,17,18] u ?_
   clear bI bw
   refine HA.o 19 (fun K N=>?_)
   go_simp
   refine c7.out.mono ?_
   rintro e w5 ⟨rfl,bn,aM,C⟩
   have aP:=JL (C.cell u.1 (by simp;omega)) (JL (C.cell u.2.1 (by simp;omega)) (JL (C.cell u.2.2.1 (by simp;omega)) (JL (C.cell u.2.2.2.1 (by simp;omega)) (JL (C.cell u.2.2.2.2.1 (by simp;omega)) (JL (C.cell u.2.2.2.2.2.1 (by simp;omega)) (C.cell u.2.2.2.2.2.2 a1))))))
   have b7:Keep (fun j=>(Value.slice (some ⟨X,0,none⟩) n c1).ownBlock=some j∨(Value.slice (some ⟨gm,0,none⟩) n c2).ownBlock=some j) w2 w5:=HK.out.trans ((Keep.refl _ wr).drew.trans (C.mono (fun j _ h=>by
    rcases h with rfl | rfl
    ·exact .inl rfl
    ·exact .inr rfl)))
   obtain ⟨c8,bz,cb⟩:=af bn aM b7;clear bn aM C b7 u a1
   dsimp only
   refine N.out _ _ aP (fun u=>?_)
   clear N K aP u y0 y1 y2 yf z0 z1 zf t0 t1 tf pg
   refine HA.d ?_
   go_wp2_with fail
   go_roundw
   case rel=>exact ⟨k+1,by omega,by go_num,c8.out,bz.out,cb.out⟩
   case measure=>simp [intOf];omega
  ·obtain rfl:m=k:=by omega
   have bl:Keep (fun j=>(Value.slice A n c1).ownBlock=some j∨(Value.slice B n c2).ownBlock=some j) w wr:=(Keep.below bU.out).trans N
   obtain ⟨bv,cc,bV⟩:=af R J bl;clear R J bl N
   go_wp2_with fail
   go_ret
   exact ⟨rfl,bv.out,cc.out,bV.out⟩
theorem j8 {P:Program} {t e:TypeId} {z:Value} {j:Nat} (T:dq P t e z 1 j) (w:World) (y:z.cells=#[z]) (n:Nat) (C:j*n≤281474976710656) (b3:n≤maxLen):
  ∃q,Sem.run P (Instr.makeSlice t (KL (n:Int)) (KL (n:Int))) w=.ok (.slice (some ⟨w.heap.size,0,none⟩) n n) q∧q.ownsRow w.heap.size e 1 (.slice (some ⟨w.heap.size,0,none⟩) n n) n (List.replicate n z)∧Below w.heap.size w q:=by
 obtain ⟨i,D,v,x,u⟩:=T.info
 obtain ⟨q,p,A,o⟩:=run_make_full (P:=P) w w.heap.size t e i z 1 T.und D v x .i64 .i64 n (by rw [u];exact C) b3 (JD _)
 rw [y,Nat.mul_one,toList_madeCells_one] at A
 exact ⟨q,p,A,⟨o.os,o.tape,o.output,o.size,fun k B=>o.block k B (by simp)⟩⟩
theorem jt (A B:Option Addr) (n c d:Nat) (ps ms:List Int) (w:World) (hA:Rd w A (aq .i64 ps)) (hB:Rd w B (aq .i64 ms)) (Z:ps.length=n) (a5:ms.length=n) (hn:n≤1048576):
  Calls Tryz.prog 50 #[.agg #[.slice A n c,.slice B n d]] w fun e p=>∃A1 c1 x c2,e=.returned (.agg #[.slice A1 n c1,.slice x n c2])∧n≤c1∧n≤c2∧p.ownsRow w.heap.size 2 1 (.slice A1 n c1) n (aq .i64 ps)∧p.ownsRow w.heap.size 2 1 (.slice x n c2) n (aq .i64 ms)∧
   (∀j,(Value.slice A1 n c1).ownBlock=some j→(Value.slice x n c2).ownBlock≠some j)∧Below w.heap.size w p:=by
 have O:=fun p (k:Below w.heap.size w p)=>dY A ps c p (hA.below k) (by omega)
 have T:=fun p (k:Below w.heap.size w p)=>dY B ms d p (hB.below k) (by omega)
 rw [Z] at O
 rw [a5] at T
 obtain ⟨aP,b1⟩:=ae O T;clear O T Z a5 hA hB
 go_enter Tryz.func50,Tryz.ntmps50
 go_wp2_with fail
 have hz:=JE (w.alloc (.cells #[.slice A n c,.slice B n d] 68)) (.cells #[KN,KN] 68)
 rw [show (w.alloc (.cells #[.slice A n c,.slice B n d] 68)).heap.size=w.heap.size+1 by simp] at hz
 have hy:=(JP (w.alloc (.cells #[.slice A n c,.slice B n d] 68)) (.cells #[KN,KN] 68) w.heap.size (by simp)).trans (JE w _)
 have U:Below w.heap.size w ((w.alloc (.cells #[.slice A n c,.slice B n d] 68)).alloc (.cells #[KN,KN] 68)):=((JG _ w).alloc (JD _) _).alloc (by simp) _
 have Q:((w.alloc (.cells #[.slice A n c,.slice B n d] 68)).alloc (.cells #[KN,KN] 68)).heap.size=w.heap.size+2:=by simp
 obtain ⟨W0,hW0⟩:∃W0,W0=(w.alloc (.cells #[.slice A n c,.slice B n d] 68)).alloc (.cells #[KN,KN] 68):=⟨_,rfl⟩
 rw [←hW0] at hz hy U Q ⊢
 obtain ⟨⟨y0,y1⟩,yf⟩:=bx2 hy
 obtain ⟨Hz,X,D⟩:=af hz U Q;clear hz hy U Q hW0
 have i:(fun p:World=>p.cell? ⟨w.heap.size,0,none⟩=some (.slice A n c)∧p.cell? ⟨w.heap.size,1,none⟩=some (.slice B n d)) W0.drew:=⟨y0,y1⟩
 refine XA.g 7 (fun p:World=>p.cell? ⟨w.heap.size,0,none⟩=some (.slice A n c)∧p.cell? ⟨w.heap.size,1,none⟩=some (.slice B n d)) ?_
 refine XA.t ?_ [0,1,3,4] i ?_
 refine XA.o 2 (fun K hK=>?_)
 go_simp
 refine (aP.out _ X.out.drew).mono ?_
 rintro e w1 ⟨A1,c1,rfl,a8,C,u⟩
 have aR:=aa a8;clear a8
 have a1:=JL (am u i.1) (am u i.2)
 have a0:=(u.block (w.heap.size+1) (by simp [D.out])).trans Hz.out
 have Y:=X.out.drew.trans (u.mono (by simp [D.out]))
 have b0:=u.size
 simp only [Kt,D.out] at b0
 have C:=ax (base':=w.heap.size) C (by simp [D.out])
 obtain ⟨a2,aG,I⟩:=af C a0 Y;clear C a0 Y u i
 dsimp only
 refine hK.out _ _ a1 (fun i=>?_)
 clear hK K a1
 refine XA.o 5 (fun K hK=>?_)
 go_simp
 refine (b1.out _ I.out).mono ?_
 rintro e V ⟨x,c2,rfl,ab,y,q⟩
 have L:∀j,(Value.slice A1 n c1).ownBlock=some j→(Value.slice x n c2).ownBlock≠some j:=fun j h1 h2=>by have:=(a2.out.lt j h1).2;have:=(y.lt j h2).1;omega
 obtain ⟨ad,a7⟩:=ae ab L;clear ab L
 have a3:=JL (am q i.1) (am q i.2)
 have H:=(q.block (w.heap.size+1) (by omega)).trans aG.out
 have a4:=I.out.trans (q.mono I.out.size)
 have b4:=q.size
 have y:=ax (base':=w.heap.size) y I.out.size
 have N:=ap a2.out q
 obtain ⟨⟨z0,z1⟩,zf⟩:=bx2 H
 have l2:w.heap.size+1<V.heap.size:=JC H
 obtain ⟨a6,J,R,b2⟩:=ag y N H a4;clear y N H a4 q i
 dsimp only
 refine hK.out _ _ a3 (fun i=>?_)
 clear hK K a3
 refine XA.t ?_ [6] i ?_
 refine XA.e ?_
 clear i
 simp only [Kc,Ke]
 go_wp2_with fail
 have e1:=KG V (w.heap.size+1) 0 _ _ (.slice A1 n c1) R.out
 have e2:=KG _ (w.heap.size+1) 1 _ _ (.slice x n c2) e1
 have e3:((V.setCell ⟨w.heap.size+1,0,none⟩ (.slice A1 n c1)).setCell ⟨w.heap.size+1,1,none⟩ (.slice x n c2)).heap[w.heap.size+1]?=some (.cells #[(.slice A1 n c1),(.slice x n c2)] 68 (0,0)):=by simpa using e2
 have hk:Keep (fun j=>j=w.heap.size+1) V ((V.setCell ⟨w.heap.size+1,0,none⟩ (.slice A1 n c1)).setCell ⟨w.heap.size+1,1,none⟩ (.slice x n c2)):=Keep.setCell (S:=fun j=>j=w.heap.size+1) (Keep.setCell (S:=fun j=>j=w.heap.size+1) (Keep.refl _ _) ⟨w.heap.size+1,0,none⟩ (.inr rfl) _) ⟨w.heap.size+1,1,none⟩ (.inr rfl) _
 obtain ⟨W9,aM⟩:∃W9,W9=(V.setCell ⟨w.heap.size+1,0,none⟩ (.slice A1 n c1)).setCell ⟨w.heap.size+1,1,none⟩ (.slice x n c2):=⟨_,rfl⟩
 rw [←aM] at e3 hk ⊢
 obtain ⟨⟨x0,x1⟩,xf⟩:=bx2 e3
 have b3:=hk.own J.out (fun j hj e=>an R.out (by decide) J.out (by rw [hj,e]))
 have av:=hk.own a6.out (fun j hj e=>an R.out (by decide) a6.out (by rw [hj,e]))
 have ao:Below w.heap.size w W9:=b2.out.trans (hk.toBelow (by omega) (fun j hj=>by omega))
 exact JQ (v:=.agg #[.slice A1 n c1,.slice x n c2]) (by simp [results,Tryz.results50,go_sem,x0,x1]) rfl ⟨A1,c1,x,c2,rfl,aR.out,ad.out,b3,av,a7.out,ao⟩
theorem xz (A:Option Addr) (n c:Nat) (ps:List Int) (w:World) (hA:Rd w A (aq .i64 ps)) (aG:ps.length=n) (hn:n≤1048576):
  Calls Tryz.prog 47 #[.slice A n c] w fun e w'=>∃A1 c1 A2 c2,e=.returned (.agg #[.slice A1 n c1,.slice A2 n c2])∧n≤c1∧n≤c2∧w'.ownsRow w.heap.size 2 1 (.slice A1 n c1) n (aq .i64 ps)∧w'.ownsRow w.heap.size 2 1 (.slice A2 n c2) n (aq .i64 (List.replicate n 0))∧(∀j,(Value.slice A1 n c1).ownBlock=some j→(Value.slice A2 n c2).ownBlock≠some j)∧Below w.heap.size w w':=by
 have a2:=fun w' (k:Below w.heap.size w w')=>dY A ps c w' (hA.below k) (by omega)
 rw [aG] at a2
 have aM:=aa a2
 have a7:=fun w'=>j8 kD w' rfl n (by omega) (by unfold maxLen;omega)
 simp only [dS] at a7
 have aP:=aa a7;clear a2 aG hA a7
 go_enter Tryz.func47,Tryz.ntmps47
 go_wp2_with fail
 have hz:=JE w (.cells #[KN,KN] 68)
 have a5:Below w.heap.size w (w.alloc (.cells #[KN,KN] 68)):=(JG _ w).alloc (JD _) _
 obtain ⟨H,hW0⟩:∃H,H=w.alloc (.cells #[KN,KN] 68):=⟨_,rfl⟩
 rw [←hW0] at hz a5 ⊢
 have av:=JC hz
 obtain ⟨HZ,y⟩:=ae hz a5;clear hz a5 hW0
 have i:(fun _:World=>True) H.drew:=trivial
 refine jq 6 (fun _:World=>True) (by kernel_rfl) ?_
 refine wX 0 i ?_
 refine wX 2 i ?_
 refine wX 3 i ?_
 simp only [JT,JU,JV,Act.put,JW,JX,J0]
 refine cn (rs:=[1,4]) (by kernel_rfl) (by simp) ?_
 refine aL.cons rfl (fun K N=>?_) (aL.cons rfl (fun K N=>?_) aL.nil)
 ·simp only [JT,JU,JV]
  go_simp
  refine (aM.out _ y.out.drew).mono ?_
  rintro e I ⟨A1,c1,rfl,Y,C,q⟩
  have L:=y.out.drew.trans (q.mono y.out.size)
  have O:=(q.block w.heap.size (by simpa using av)).trans HZ.out
  have a0:=ax (base':=w.heap.size) C (by have:=y.out.size;simpa using this)
  have a4:=q.size
  have U:∀j,(Value.slice A1 n c1).ownBlock=some j→j<I.heap.size:=fun j x=>(C.lt j x).2
  have a1:=aa U;clear U
  simp only [Kt] at a4
  obtain ⟨u,a8,b0,ab⟩:=ag L O a0 Y;clear q L O C a0 Y
  dsimp only
  refine N.out _ _ trivial (fun i=>?_)
  clear N K i
  refine cn (rs:=[4]) (by kernel_rfl) (by simp) ?_
  refine aL.cons rfl (fun K N=>?_) aL.nil
  simp only [JT,JU,JV]
  obtain ⟨V,D,X,p⟩:=aP.out I
  obtain ⟨J,R,o,T⟩:=ag (ax (base':=w.heap.size) X u.out.size) (u.out.trans (p.mono u.out.size)) ((p.block w.heap.size (by omega)).trans a8.out) (ap b0.out p)
  have B:=o.out
  obtain ⟨⟨z0,z1⟩,zf⟩:=bx2 B
  have aR:=JC B
  clear X p B
  go_simp
  refine N.out _ _ trivial (fun i=>?_)
  clear N K D
  refine wX 5 i ?_
  simp only [JT,JU,JV,Act.put,JW,JX,J0]
  refine dV (by rfl) (by kernel_rfl) ?_
  simp only [Kc,Ke]
  go_wp2_with fail
  have e1:=KG V w.heap.size 0 _ _ (.slice A1 n c1) o.out
  have e2:=KG _ w.heap.size 1 _ _ (.slice (some ⟨I.heap.size,0,none⟩) n n) e1
  have e3:((V.setCell ⟨w.heap.size,0,none⟩ (.slice A1 n c1)).setCell ⟨w.heap.size,1,none⟩ (.slice (some ⟨I.heap.size,0,none⟩) n n)).heap[w.heap.size]?=some (.cells #[.slice A1 n c1,.slice (some ⟨I.heap.size,0,none⟩) n n] 68 (0,0)):=by simpa using e2
  have Z:Keep (fun j=>j=w.heap.size) V ((V.setCell ⟨w.heap.size,0,none⟩ (.slice A1 n c1)).setCell ⟨w.heap.size,1,none⟩ (.slice (some ⟨I.heap.size,0,none⟩) n n)):=Keep.setCell (S:=fun j=>j=w.heap.size) (Keep.setCell (S:=fun j=>j=w.heap.size) (Keep.refl _ _) ⟨w.heap.size,0,none⟩ (.inr rfl) _) ⟨w.heap.size,1,none⟩ (.inr rfl) _
  obtain ⟨W9,a3⟩:∃W9,W9=(V.setCell ⟨w.heap.size,0,none⟩ (.slice A1 n c1)).setCell ⟨w.heap.size,1,none⟩ (.slice (some ⟨I.heap.size,0,none⟩) n n):=⟨_,rfl⟩
  rw [←a3] at e3 Z ⊢
  obtain ⟨⟨r0,r1⟩,rf⟩:=bx2 e3
  have ad:=Z.own T.out (fun j x e=>an o.out (by decide) T.out (by rw [x,e]))
  have a6:=Z.own J.out (fun j x e=>an o.out (by decide) J.out (by rw [x,e]))
  exact JQ (v:=.agg #[.slice A1 n c1,.slice (some ⟨I.heap.size,0,none⟩) n n]) (by simp [results,Tryz.results47,go_sem,r0,r1]) rfl ⟨A1,c1,_,n,rfl,ab.out,JD _,ad,a6,fun j x e=>by
   have h1:=a1.out j x
   have h2:I.heap.size=j:=by simpa [Value.ownBlock] using e
   omega,R.out.trans (Z.toBelow R.out.size (fun j x=>by omega))⟩
 ·simp only [JT,JU,JV]
  obtain ⟨I,D,X,p⟩:=aP.out H.drew
  have L:=y.out.drew.trans (p.mono y.out.size)
  have O:=(p.block w.heap.size (by simpa using av)).trans HZ.out
  have Q:=ax (base':=w.heap.size) X (by have:=y.out.size;simpa using this)
  have a4:=p.size
  simp only [Kt] at a4 Q D
  obtain ⟨u,a8,ao⟩:=af L O Q;clear p L O X Q
  go_simp
  refine N.out _ _ trivial (fun i=>?_)
  clear N K D
  refine cn (rs:=[1]) (by kernel_rfl) (by simp) ?_
  refine aL.cons rfl (fun K N=>?_) aL.nil
  simp only [JT,JU,JV]
  go_simp
  refine (aM.out _ u.out).mono ?_
  rintro e V ⟨A1,c1,rfl,Y,C,q⟩
  have U:∀j,(Value.slice A1 n c1).ownBlock=some j→I.heap.size≤j:=fun j x=>(C.lt j x).1
  have a1:=aa U;clear U;obtain ⟨T,R,o,J,ab⟩:=ah (ax (base':=w.heap.size) C u.out.size) (u.out.trans (q.mono u.out.size)) ((q.block w.heap.size (by omega)).trans a8.out) (ap ao.out q) Y
  have B:=o.out
  obtain ⟨⟨z0,z1⟩,zf⟩:=bx2 B
  have aR:=JC B
  clear C q B Y
  dsimp only
  refine N.out _ _ trivial (fun i=>?_)
  clear N K
  refine wX 5 i ?_
  simp only [JT,JU,JV,Act.put,JW,JX,J0]
  refine dV (by rfl) (by kernel_rfl) ?_
  simp only [Kc,Ke]
  go_wp2_with fail
  have e1:=KG V w.heap.size 0 _ _ (.slice A1 n c1) o.out
  have e2:=KG _ w.heap.size 1 _ _ (.slice (some ⟨H.heap.size,0,none⟩) n n) e1
  have e3:((V.setCell ⟨w.heap.size,0,none⟩ (.slice A1 n c1)).setCell ⟨w.heap.size,1,none⟩ (.slice (some ⟨H.heap.size,0,none⟩) n n)).heap[w.heap.size]?=some (.cells #[.slice A1 n c1,.slice (some ⟨H.heap.size,0,none⟩) n n] 68 (0,0)):=by simpa using e2
  have Z:Keep (fun j=>j=w.heap.size) V ((V.setCell ⟨w.heap.size,0,none⟩ (.slice A1 n c1)).setCell ⟨w.heap.size,1,none⟩ (.slice (some ⟨H.heap.size,0,none⟩) n n)):=Keep.setCell (S:=fun j=>j=w.heap.size) (Keep.setCell (S:=fun j=>j=w.heap.size) (Keep.refl _ _) ⟨w.heap.size,0,none⟩ (.inr rfl) _) ⟨w.heap.size,1,none⟩ (.inr rfl) _
  obtain ⟨W9,a3⟩:∃W9,W9=(V.setCell ⟨w.heap.size,0,none⟩ (.slice A1 n c1)).setCell ⟨w.heap.size,1,none⟩ (.slice (some ⟨H.heap.size,0,none⟩) n n):=⟨_,rfl⟩
  rw [←a3] at e3 Z ⊢
  obtain ⟨⟨r0,r1⟩,rf⟩:=bx2 e3
  have ad:=Z.own T.out (fun j x e=>an o.out (by decide) T.out (by rw [x,e]))
  have a6:=Z.own J.out (fun j x e=>an o.out (by decide) J.out (by rw [x,e]))
  exact JQ (v:=.agg #[.slice A1 n c1,.slice (some ⟨H.heap.size,0,none⟩) n n]) (by simp [results,Tryz.results47,go_sem,r0,r1]) rfl ⟨A1,c1,_,n,rfl,ab.out,JD _,ad,a6,fun j x e=>by
   have h1:=a1.out j x
   have h2:H.heap.size=j:=by simpa [Value.ownBlock] using e
   have h3:=(ao.out.lt H.heap.size rfl).2
   omega,R.out.trans (Z.toBelow R.out.size (fun j x=>by omega))⟩
theorem xA (S n b steps:Nat) (l:List Int) (w:World) (h:eN w S n b steps l):
  Calls Tryz.prog 212 #[.pointer (some ⟨S,0,none⟩)] w fun e i=>e=.returned (KL steps)∧w=i:=by
 obtain ⟨u,x,H,D,vs,h1,j,q,o,p⟩:=h
 obtain ⟨⟨B,A,v,y⟩,C⟩:=bx4 h1
 clear h1 j q o p
 go_enter Tryz.func212,Tryz.ntmps212
 go_wp2
 go_ret
 exact ⟨rfl,rfl⟩
theorem xD (S n b steps t:Nat) (l:List Int) (w:World) (h:eN w S n b steps l) (hn:n≤1048576) (u:1≤n/b) (D:steps≤1048576) (Y:t<steps):
  Calls Tryz.prog 194 #[.pointer (some ⟨S,0,none⟩),KL t] w fun e v=>e=.returned (.tuple #[KL ((t/(n/b):Nat):Int),KL ((t%(n/b):Nat):Int),.bool true])∧∃d,v=w.drewN d:=by
 have hs:=xA S n b steps l w h
 obtain ⟨Z,cb,Ao,co,vs,h1,B,L,H,I⟩:=h
 have q:=Nat.div_le_self n b
 obtain ⟨nb,hnb'⟩:∃nb,n/b=nb:=⟨_,rfl⟩
 rw [hnb'] at h1 u q ⊢
 obtain ⟨⟨r0,X,r2,V⟩,rf⟩:=bx4 h1
 obtain ⟨o,i⟩:∃o,t/nb=o:=⟨_,rfl⟩
 obtain ⟨p,j⟩:∃p,t%nb=p:=⟨_,rfl⟩
 have y:(t:Int).tdiv (nb:Int)=(o:Int):=by rw [←i];rfl
 have U:(t:Int).tmod (nb:Int)=(p:Int):=by rw [←j];rfl
 have N:o≤t:=by rw [←i];exact Nat.div_le_self _ _
 have A:p≤t:=by rw [←j];exact Nat.mod_le _ _
 have Q:IntKind.i64.wrap (o:Int)=(o:Int):=JI _ (by omega)
 have T:IntKind.i64.wrap (p:Int)=(p:Int):=JI _ (by omega)
 have O:¬(nb=0):=by omega
 have J:(t:Int)<steps:=by omega
 have R:¬((t:Int)<0):=by omega
 have x:¬((steps:Int)≤t):=by omega
 rw [i,j]
 have C:=aa hs;clear hs h1 B L H I hnb' i j
 go_enter Tryz.func194,Tryz.ntmps194
 go_wp2_with fail
 refine C.out.mono ?_
 rintro e v ⟨rfl,rfl⟩
 go_wp2_with fail
 go_quiet (fail)
 go_wp2_with fail
 go_ret3
 exact ⟨rfl,_,rfl⟩
def db (l:List Int) (n b t:Nat):List Int:=((fz l n ((t/(n/b))*(n-1))).drop (t%(n/b)*b)).take b
theorem wJ {n b steps t:Nat} (i:t<steps):t/(n/b)<epN n b steps:=by
 unfold epN cZ
 rw [if_neg (by omega)]
 have:=Nat.div_le_div_right (c:=n/b) (show t≤steps-1 by omega)
 omega
theorem gX (l:List Int) {n b t:Nat} (i:1≤n/b):(db l n b t).length=b:=by
 unfold db
 have h1:=nh n b (t%(n/b)) (Nat.mod_lt _ i)
 rw [Kk,Kn,iN]
 omega
theorem CO (l:List Int) {n b t:Nat} (i:1≤n/b):∀k,k<b→0≤nth (db l n b t) k∧nth (db l n b t) k<n:=fun k j=>by
 have h1:=nh n b (t%(n/b)) (Nat.mod_lt _ i)
 unfold db
 rw [eF j,fj]
 exact D5 l n _ _ (by omega)
theorem dz.keep {w p:World} {base:Nat} {y:List Value} {e:Ex} (h:dz w base y e) {S:Nat→Prop} (k:Keep S w p) (x:∀j,S j→j<base):dz p base y e:=by
 obtain ⟨u,v,rfl,h1,q,A⟩:=h
 exact ⟨u,v,rfl,k.own h1 (fun i o hs=>by have:=x i hs;have:=(h1.lt i o).1;omega),k.own q (fun i o hs=>by have:=x i hs;have:=(q.lt i o).1;omega),A⟩
def pt (base:Nat) (w:World) (l:List Ex) (n:Nat) (v:Value):Prop:=∃i,w.ownsRow base 107 2 v n (List.flatten i)∧i.length=n∧(∀r∈i,r.length=2)∧(∀j x,j<n→l[j]?=some x→dz w base (bq i j) x)
theorem iA.own {w wr:World} {l:List Ex} {k:Nat} {v:Value} (h:iA w wr l k v):pt w.heap.size wr l k v:=by
 obtain ⟨i,h1,j,p,o,_⟩:=h
 exact ⟨i,h1,j,p,o⟩
theorem pt.base {base base':Nat} {w:World} {l:List Ex} {n:Nat} {v:Value} (h:pt base w l n v) (o:base'≤base):pt base' w l n v:=by
 obtain ⟨i,h1,q,y,u⟩:=h
 exact ⟨i,ax h1 o,q,y,fun j x p hx=>(u j x p hx).base o⟩
theorem pt.keep {base:Nat} {w p:World} {l:List Ex} {n:Nat} {v:Value} (h:pt base w l n v) {S:Nat→Prop} (k:Keep S w p) (q:∀j,S j→j<base):pt base p l n v:=by
 obtain ⟨o,h1,y,B,A⟩:=h
 exact ⟨o,k.own h1 (fun i C hs=>by have:=q i hs;have:=(h1.lt i C).1;omega),y,B,fun j x u hx=>(A j x u hx).keep k q⟩
theorem pt.below {base:Nat} {w i:World} {l:List Ex} {n:Nat} {v:Value} (h:pt base w l n v) (j:Below w.heap.size w i):pt base i l n v:=h.keep (S:=fun _=>False) (Keep.below j) (fun _ h=>h.elim)
theorem pt.rd {base:Nat} {w:World} {l:List Ex} {A:Option Addr} {n c:Nat} (h:pt base w l n (.slice A n c)) (hn:l.length=n):cE rEx 2 w A l:=by
 obtain ⟨i,h1,q,p,o⟩:=h
 exact ⟨i,Rd.own h1,by omega,p,fun j x hx=>(o j x (by have:=(Kg.1 hx).1;omega) hx).rd⟩
theorem D4 (c d:Nat) (A B:Option Addr) (l:List Ex) (i:List Int) (w:World) (h:cE rEx 2 w A l) (hl:l.length≤1048576) (hB:Rd w B (aq .i64 i)) (O:i.length≤1048576):
  Calls Tryz.prog 146 #[.slice A l.length c,.slice B i.length d] w fun e x=>Below w.heap.size w x∧
   (((∀k,k<i.length→jn l.length (nth i k))∧∃u p,e=.returned (.tuple #[.slice u i.length p,.bool true])∧pt w.heap.size x (di l i) i.length (.slice u i.length p))∨((¬∀k,k<i.length→jn l.length (nth i k))∧e=.returned (.tuple #[KN,.bool false]))):=by
 have hm:=yJ w.heap.size c d A B l i (w.alloc (.cells #[.slice A l.length c] 25)) (JE w _) (h.below cY ((JG _ w).alloc (JD _) _)) hl (hB.alloc _) O
 have j:=lT l i
 unfold zq at hm
 obtain ⟨n,hn⟩:∃n,i.length=n:=⟨_,rfl⟩
 obtain ⟨N,C⟩:∃N,l.length=N:=⟨_,rfl⟩
 rw [hn,C] at hm ⊢
 rw [hn] at j
 obtain ⟨J,L⟩:=ae hm j;clear hm j hn C h hB
 go_enter Tryz.func146,Tryz.ntmps146
 go_wp2_with fail
 refine J.out.mono ?_
 rintro e I ⟨y,H⟩
 have o:Below w.heap.size w I:=((JG _ w).alloc (JD _) _).trans (y.mono (by first | omega | (simp;done) | (simp;omega)))
 have D:=aa o;clear y o
 rcases H with ⟨hg,v,rfl,hM⟩ | ⟨hg,rfl⟩
 ·obtain ⟨u,p,rfl⟩:=hM.form
  obtain ⟨q,Q⟩:=ae hg hM;clear hg hM
  go_wp2_with fail
  go_ret2
  exact ⟨D.out,.inl ⟨q.out,_,_,rfl,Q.out.own.base (by simp)⟩⟩
 ·have q:=aa hg;clear hg
  go_wp2_with fail
  go_ret2
  exact ⟨D.out,.inr ⟨q.out,rfl⟩⟩
end Go.Proofs.YtaccfnffmbndhaaGreat
