/- No condition. -/
import Derived.Test.YtgmajkppbhiopaaGreatA00
import Derived.Test.YtgmajkppbhiopaaGreatA21
set_option linter.unusedSimpArgs false
set_option linter.unusedVariables false
set_option maxRecDepth 100000
set_option maxHeartbeats 4000000
namespace Go.Proofs.YtgmajkppbhiopaaGreat
open Go.RowKit Go.ChangeShapes Go.WideShapes Go.ChangeAt
theorem nd {w h:World} {o:Obj} (k:Keep (fun j=>j=w.heap.size) (w.alloc o) h):Below w.heap.size w h:=
 ((br w).alloc (EM _) o).trans (k.toBelow (by rw [Fb];omega) (fun j i=>by omega))
theorem lI {H:Type} {b8:TypeId×Value→H} {base:Nat} {v0 v1 v2:Value} {d0 d1 d2:DataW H} {p0 p1 p2:List MemPlace} (W:World)
  (o0:Value.okWide Tryz.prog W .any base 29 v0) (h0:DataW.Trod b8 Tryz.prog W 0 (fun _=>true) true 29 v0 d0 p0) (z0:fH Tryz.prog 29 d0)
  (o1:Value.okWide Tryz.prog W .any base 22 v1) (h1:DataW.Trod b8 Tryz.prog W 0 (fun _=>true) true 22 v1 d1 p1) (z1:fH Tryz.prog 22 d1)
  (o2:Value.okWide Tryz.prog W .any base 5 v2) (h2:DataW.Trod b8 Tryz.prog W 0 (fun _=>true) true 5 v2 d2 p2) (z2:fH Tryz.prog 5 d2):
  Calls Tryz.prog 10 #[v0,v1,v2] W fun e B=>e=.returned (.bool true)∧Below W.heap.size W B:=by
 obtain ⟨A,c,D,cd,T,Y,R,cr,i,rfl,hI,_⟩:=AD o0 h0 z0
 obtain ⟨B0,bl,cj,rfl,b4⟩:=AB o1 h1 z1
 obtain ⟨sh,rfl,_,_,cf⟩:=open_int Tryz.underlying5 o2 h2
 have ds:0≤sh∧sh≤255:=by simpa [Lit.wf,IntKind.min,IntKind.max,IntKind.signed,IntKind.bits] using cf
 clear o0 h0 z0 o1 h1 z1 o2 h2 z2 cf
 have a0:=fun B (q:Below W.heap.size W B)=>tZ A c D cd T Y R cr i B (hI.below q)
 have bV:=fun B (q:Below W.heap.size W B) (hs:ie i)=>(hI.below q).rd hs
 have bw:=fun B (q:Below W.heap.size W B)=>b4.hr.below q
 have dk:=b4.hl
 unfold oq at a0
 obtain ⟨W1,a3⟩:∃W1,W.alloc (.cells (aP A c D cd T Y R cr i) 29)=W1:=⟨_,rfl⟩
 have hx:W1.heap[W.heap.size]?=some (.cells (aP A c D cd T Y R cr i) 29 (0,0)):=by rw [←a3];exact EN W _
 have hB:Below W.heap.size W W1:=by rw [←a3];exact (br W).alloc (EM _) _
 have bh:∀B,Below W1.heap.size W1 B→B.cell? ⟨W.heap.size,13,none⟩=some (.slice T i.start.length Y):=fun B q=>EO B W.heap.size 13 _ _ _ (sb hx B q)
 have tl:=sl hx
 obtain ⟨Q,bO,bA,a8,HB,d4,Hx,a5⟩:=aj hx a3 a0 bV hB bw (fun B (q:Below W1.heap.size W1 B)=>hB.trans (q.mono hB.size)) (fun B (q:Below W1.heap.size W1 B)=>(ww B).mono fun e d5 (h:_∧Below _ _ _)=>(⟨h.1,hB.trans ((q.trans (h.2.mono q.size)).mono hB.size)⟩:e=.returned (.bool true)∧Below W.heap.size W d5));clear a0 bV hI hx hB a3 bw b4
 go_enter Tryz.func10,Tryz.ntmps10
 go_wp2_with (refine cE (aP A c D cd T Y R cr i) (b:=W.heap.size) (by rw [bO.out];exact Q.out) jM rfl rfl rfl rfl ?_)
 rw [bO.out]
 have q1:=br W1
 refine (bA.out W1 (Hx.out _ q1)).mono ?_
 rintro e w2 ⟨⟨b,rfl,a6⟩,k2⟩
 have q2:=bt q1 k2
 clear q1 k2
 rcases cQ b with rfl | rfl
 ·clear a6
  go_wp2_with fail
  refine (a5.out _ q2).mono ?_
  rintro e w3 ⟨rfl,h3⟩
  go_wp2_with fail
  go_ret
  exact ⟨rfl,h3⟩
 have Hs:=aa (a6 rfl);clear a6
 go_wp2_with (refine vr (aP A c D cd T Y R cr i) (sb Q.out _ q2) jM rfl rfl rfl rfl ?_)
 refine (jO A c D cd T Y R cr i w2 (a8.out w2 (Hx.out _ q2) Hs.out.1.1)).mono ?_
 rintro e w3 ⟨rfl,k3⟩
 have q3:=bt q2 k3
 clear q2 k3
 by_cases hc:cF i=0
 rotate_left
 ·have e0:(cF i != 0)=true:=by rw [bne_iff_ne];exact hc
  clear hc
  go_wp2_with fail
  refine (a5.out _ q3).mono ?_
  rintro e w4 ⟨rfl,h3⟩
  go_wp2_with fail
  go_ret
  exact ⟨rfl,h3⟩
 have bi:=Hs.out.1.sm hc
 obtain ⟨Hc,L,O⟩:=ae hc bi (Hs.out.1.bnd hc)
 rw [hc]
 clear hc bi
 obtain ⟨N,Z⟩:∃N,bl.length=N:=⟨_,rfl⟩
 rw [Z] at dk ⊢
 have b2:=aa Z;clear Z
 by_cases dp:100<N
 ·have b7:(100:Int)<N:=by omega
  go_wp2_with fail
  refine (a5.out _ q3).mono ?_
  rintro e w4 ⟨rfl,h3⟩
  go_wp2_with fail
  go_ret
  exact ⟨rfl,h3⟩
 have b7:¬((100:Int)<N):=by omega
 have hW:=L.out.g.c.w
 have dT:=L.out.w
 obtain ⟨C,bz⟩:∃C:Nat,i.cfg.workers=(C:Int):=⟨i.cfg.workers.toNat,by omega⟩
 have bb:(ao i).W=C:=by simp only [ao];omega
 have h3:=sb Q.out _ q3
 have H3:=aa h3;clear h3
 have bv:=O.out.le
 obtain ⟨tt,ad⟩:∃tt,kQ i=tt:=⟨_,rfl⟩
 rw [ad] at bv
 have J:∀B (q:Below W1.heap.size W1 B),Cw A c i.cfg i.start.length B:=fun B q=>pX A c i.cfg i.start.length B (a8.out B (Hx.out _ q) Hs.out.1.1).c O.out.sp
 obtain ⟨bN,a1,a2,cx⟩:=af J ad bz bb
 obtain ⟨y,hy⟩:∃y,tt*C=y:=⟨_,rfl⟩
 have e6:y≤4860000*8:=by rw [←hy];exact Nat.mul_le_mul bv (by omega)
 have d9:IntKind.i64.wrap ((tt:Int)*(C:Int))=(y:Int):=by rw [←hy,ER _ (by rw [←Int.natCast_mul,hy];omega)];push_cast;rfl
 have Hy:=aa hy;clear J ad bz bb hy
 go_upto_region 4 with (first | (refine cE #[.slice A i.cfg.sizes.length c,FQ i.cfg.shift,FQ i.cfg.rate,FQ i.cfg.mom,FQ i.cfg.workers,FQ i.cfg.batch,FQ i.cfg.micros,FQ i.cfg.steps,FQ i.cfg.bucket,FQ i.cfg.chunk,FQ i.cfg.window,FQ i.cfg.cap] (b:=W.heap.size) H3.out zN rfl rfl rfl rfl ?_) | (refine cS (EN _ _) zN rfl rfl rfl rfl rfl rfl rfl ?_;intro W5 e5 k5;obtain ⟨E5,K5⟩:=ab e5 (nd k5);clear e5 k5))
 have q5:=bt q3 K5.out
 have l4:=EL E5.out
 have c4:∀B,Below W5.heap.size W5 B→B.cell? ⟨w3.heap.size,4,none⟩=some (FQ (C:Nat)):=fun B q=>by rw [←a2.out];exact EO B _ 4 _ _ _ (sb E5.out B q)
 have Q5:=aa q5;clear q3 q5
 refine HA.g (fun B:World=>Below W5.heap.size W5 B) ?_
 have s0:=(br W5).drew
 refine HA.ld 0 (aP A c D cd T Y R cr i) (fun B q=>sb Q.out B (bt Q5.out q)) jM s0 ?_
 refine HA.t ?_ [3,4] s0 ?_
 refine HA.c 1 (lU A i.cfg.sizes.length c i.cfg.shift i.cfg.rate i.cfg.mom i.cfg.workers i.cfg.batch i.cfg.micros i.cfg.steps i.cfg.bucket i.cfg.chunk i.cfg.window i.cfg.cap D i.data.length cd T i.start.length Y R i.draws.length cr _) ?_
 rintro _ w6 ⟨rfl,k6⟩
 have s1:=bt s0 k6
 refine ⟨_,rfl,s1,fun _=>?_⟩
 have b1:=(bN.out w6 (bt Q5.out s1)).r w6 (br w6)
 rw [O.out.eq,a1.out] at b1
 refine HA.c 2 b1 ?_
 rintro _ w7 ⟨rfl,k7⟩
 have s2:=bt s1 k7
 refine ⟨_,rfl,s2,fun _=>?_⟩
 refine HA.t ?_ [5,6] s2 ?_
 refine HA.d ?_
 obtain ⟨Q7,bd⟩:=ab (bt Q5.out s2) s2
 have c7:=fun B (q:Below w7.heap.size w7 B)=>c4 B (bt s2 q)
 have l7:=s2.size
 clear b1 k6 k7 s0 s1 s2 c4 d9
 by_cases dG:3000<y
 ·have cb:(3000:Int)<y:=by omega
  go_wp2_with fail
  refine (a5.out _ Q7.out).mono ?_
  rintro e w8 ⟨rfl,h8⟩
  go_wp2_with fail
  go_ret
  exact ⟨rfl,h8⟩
 have cb:¬((3000:Int)<y):=by omega
 have b9:=iU B0 bl cj w7 (d4.out w7 (Hx.out _ Q7.out)) (by rw [b2.out];omega)
 rw [b2.out] at b9
 have da:=aa b9;clear b9
 go_wp2_with fail
 refine da.out.mono ?_
 rintro e w8 ⟨v8,rfl,o8,k8⟩
 obtain ⟨O8,K8⟩:=ab o8 k8
 have l8:=k8.size
 obtain ⟨A8,d8,e8,f8⟩:=av o8
 subst e8
 clear o8 k8
 go_wp2_with fail
 obtain ⟨o,rfl⟩:∃o:Nat,sh=(o:Int):=⟨sh.toNat,by omega⟩
 have dr:¬(C=0):=by have:=a2.out;omega
 have dn:C≤8:=by have:=a2.out;omega
 go_loopw [9,41] (fun v u wr=>∃k:Nat,k≤y∧u=FQ (k:Nat)∧∃A' c',v=.slice A' (N+k) c'∧wr.ownsRow w7.heap.size 3 1 v (N+k) (ar .i64 (bl++eH C o k))∧Below w7.heap.size w7 wr) (fun _ u _=>y-(intOf u).toNat)
 case atStart=>exact ⟨0,EQ _,rfl,A8,d8,rfl,by rw [show eH C o 0=[] from rfl,List.append_nil];exact O8.out,K8.out⟩
 case round=>
  obtain ⟨k,hk,rfl,A',c',rfl,ho,q⟩:=hrel
  obtain ⟨HO,HQ⟩:=ab ho q
  by_cases dw:k<y
  ·have e4:(k:Int)<y:=by omega
   obtain ⟨r,hr⟩:∃r,(k+o)%C=r:=⟨_,rfl⟩
   have e7:r<C:=by rw [←hr];exact Nat.mod_lt _ (by omega)
   have U:((k:Int)+(o:Int)).tmod (C:Int)=(r:Int):=by rw [←hr,Int.tmod_eq_emod_of_nonneg (by omega),Int.natCast_emod];push_cast;rfl
   have b0:((k:Int)+(o:Int))%(C:Int)=(r:Int):=by rw [←Int.tmod_eq_emod_of_nonneg (by omega)];exact U
   have w1:IntKind.i64.wrap ((k:Int)+o)=(k:Int)+o:=ER _ (by omega)
   have w0:IntKind.i64.wrap (o:Int)=(o:Int):=ER _ (by omega)
   have a7:IntKind.i64.wrap (r:Int)=(r:Int):=ER _ (by omega)
   have w5:IntKind.i64.wrap (((k:Int)+o).tmod C)=(r:Int):=by rw [U];exact a7
   have cs:IntKind.i64.wrap (((k:Int)+o)%C)=(r:Int):=by rw [b0];exact a7
   have cq:=c7 wr q
   have cn:=q.size
   have Hr:=aa hr;clear ho q hr
   go_wp2_with (at_builtin;refine be fq _ rfl (.tmp 44) (.tmp 52) rfl w7.heap.size (.slice A' (N+k) c') (N+k) _ rfl HO.out [FQ (r:Nat)] rfl rfl (by simp [Value.oneCell']) (by omega) (by unfold maxLen;omega) cn ?_)
   intro g c6 w6 o6 b6 _
   have R6:w6.ownsRow w7.heap.size 3 1 (.slice (some ⟨g,0,none⟩) (N+(k+1)) c6) (N+(k+1)) (ar .i64 (bl++eH C o (k+1))):=by
    have e1:ar .i64 (bl++eH C o (k+1))=ar .i64 (bl++eH C o k)++[FQ (r:Nat)]:=by
     simp [eH,FF,ar,Hr.out];exact b0
    rw [e1];exact o6
   obtain ⟨cl,cv⟩:=ab R6 (HQ.out.trans b6);clear R6 o6 b6 U b0 w1 w0 a7 w5 cs cq
   go_wp2_with fail
   go_roundw
   case rel=>exact ⟨k+1,by omega,by go_num,some ⟨g,0,none⟩,c6,rfl,cl.out,cv.out⟩
   case measure=>simp [intOf];omega
  ·obtain rfl:k=y:=by omega
   have b5:(bl++eH C o k).length=N+k:=by rw [Fp,b2.out];simp [eH]
   have V:(cK i (ig i) (bl++eH C o k)).1.fin i:=by
    rw [lT]
    obtain ⟨bs,e1,e2,e3⟩:=j9 (W:=C) (s:=o) (by omega) tt
    rw [Hy.out] at e1
    rw [e1]
    have dv:=L.out.g.c.ca
    exact sE L.out (by omega) bs (mp (eF.zero L.out) L.out bl).1 (fun b hb x hx=>e3 b hb x (by rw [←cx.out];exact hx)) (by rw [a1.out];omega)
   have hn:=(zH L.out (bl++eH C o k)).2.1 V
   have qW:=bt Q7.out HQ.out
   have hp:=ta A c D cd T Y R cr i A' (bl++eH C o k) c' wr (a8.out wr (Hx.out _ qW) Hs.out.1.1) L.out O.out (by rw [b5];omega) (Rd.own HO.out) (Bo:=true) ⟨fun _=>V,fun _=>rfl⟩
   rw [hn,a1.out,b5,Int.sub_self] at hp
   obtain ⟨HP,QW⟩:=ab hp qW
   have wz:=HQ.out.size
   clear hp hn V b5 ho q qW
   go_wp2_with (refine cE (aP A c D cd T Y R cr i) (b:=W.heap.size) (sb Q.out _ QW.out) jM rfl rfl rfl rfl ?_)
   refine HP.out.mono ?_
   rintro e w9 ⟨rfl,k9⟩
   have Q9:=aa (bt QW.out k9)
   have c9:=fun B (q:Below w9.heap.size w9 B)=>c7 B (HQ.out.trans ((bt k9 q).mono HQ.out.size))
   have R9:=aa (HQ.out.trans (k9.mono HQ.out.size));clear k9
   go_upto_region 14 with (refine cS (EN _ _) tK rfl rfl rfl rfl rfl rfl rfl ?_;intro d7 bM bI;obtain ⟨d6,bG⟩:=ab bM (nd bI);clear bM bI)
   obtain ⟨ci,bX⟩:=ab (bt Q9.out bG.out) (R9.out.trans (bG.out.mono R9.out.size))
   go_wp2_with fail
   refine (ww d7).mono ?_
   rintro e I ⟨rfl,a4⟩
   obtain ⟨b3,co⟩:=ab (bt ci.out a4) (bX.out.trans (a4.mono bX.out.size))
   have bo:=bd.out.trans (co.out.mono bd.out.size)
   have tE:=bx4 (sb d6.out I a4)
   have dc:=bh I b3.out
   have c8:=((bN.out I b3.out).p I (br I)).mono (fun e B h=>(⟨h.1.trans (by rw [O.out.eq,a1.out,a2.out,←Int.natCast_mul,Hy.out]),h.2⟩:e=.returned (FQ (k:Nat))∧Below I.heap.size I B))
   have d3:=aa c8
   have tC:=fx (sb E5.out I bo)
   clear c8 bo a4 bh c9 c7
   go_wp2_with fail
   refine d3.out.mono ?_
   rintro e e9 ⟨rfl,cc⟩
   have cw:=aa (Hx.out _ (bt b3.out cc));clear cc tE dc
   go_wp2_with fail
   go_ret
   exact ⟨rfl,cw.out⟩
end Go.Proofs.YtgmajkppbhiopaaGreat
