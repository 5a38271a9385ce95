/- No condition. -/
import Derived.Test.YtgmajkppbhiopaaGreatA00
import Derived.Test.YtgmajkppbhiopaaGreatA11
import Derived.Test.YtgmajkppbhiopaaGreatA09
import Derived.Test.YtgmajkppbhiopaaGreatA08
import Derived.Test.YtgmajkppbhiopaaGreatA05
import Derived.Deep.RegionHeld3
import Derived.Test.YtgmajkppbhiopaaGreatA01
set_option linter.unusedSimpArgs false
set_option linter.unusedVariables false
set_option maxRecDepth 100000
set_option maxHeartbeats 4000000
namespace Go.Proofs.YtgmajkppbhiopaaGreat
open Go.RowKit
def fB (i:Inp):Mst:=⟨i.start,List.replicate i.start.length 0,List.replicate i.start.length 0,[(i.start,List.replicate i.start.length 0)],0,0,[]⟩
theorem uU {T:TypeId} {B b:Nat} {w:World} {sz:List Int} (h:aY T (dX B w) b sz):aY T w.drew b sz:=(jq h (Agr.refl B w)).below ((br w).drew)
structure Et (sz:List Int) (L wk bh mi sn bu ch wi ca n Q:Nat) (A:Option Addr) (c:Nat) (sh ra mo:Int) (D:Option Addr) (cd:Nat) (T:Option Addr) (ct:Nat) (R:Option Addr) (cr:Nat) (data:List Ex) (ps draws:List Int) (w:World):Prop where
 inp:∀N,N=data.length→∀w',Below w.heap.size w w'→Calls Tryz.prog 43 #[.agg #[.slice A L c,FQ sh,FQ ra,FQ mo,FQ (wk:Nat),FQ (bh:Nat),FQ (mi:Nat),FQ (sn:Nat),FQ (bu:Nat),FQ (ch:Nat),FQ (wi:Nat),FQ (ca:Nat),.slice D N cd,.slice T n ct,.slice R Q cr]] w' fun e w''=>e=.returned (FQ 0)∧Below w'.heap.size w' w''
 snew:∀w',Below w.heap.size w w'→Calls Tryz.prog 77 #[.slice A L c] w' fun e w''=>∃F,e=.returned (.tuple #[.pointer (some ⟨F,0,none⟩),FQ 0])∧aY 212 (dX w.heap.size w'') F sz∧Below w'.heap.size w' w''
 samp:∀N,N=data.length→∀w',Below w.heap.size w w'→Calls Tryz.prog 81 #[FQ (N:Nat),FQ (bh:Nat),FQ (sn:Nat),.slice R Q cr] w' fun e w''=>∃S,e=.returned (.tuple #[.pointer (some ⟨S,0,none⟩),FQ 0])∧dB (dX w.heap.size w'') S data.length bh sn draws∧Below w'.heap.size w' w''
 cnt:∀F w',aY 212 w' F sz→Calls Tryz.prog 79 #[.pointer (some ⟨F,0,none⟩)] w' fun e w''=>e=.returned (FQ (n:Nat))∧w'=w''
 chk:∀w',Below w.heap.size w w'→Calls Tryz.prog 76 #[.agg #[.slice A L c,FQ sh,FQ ra,FQ mo,FQ (wk:Nat),FQ (bh:Nat),FQ (mi:Nat),FQ (sn:Nat),FQ (bu:Nat),FQ (ch:Nat),FQ (wi:Nat),FQ (ca:Nat)]] w' fun e w''=>e=.returned (FQ 0)∧Below w'.heap.size w' w''
 dat:cZ rEx 2 w D data
 dl:data.length≤1048576
 st:Rd w T (ar .i64 ps)
 sl:ps.length=n
def Win (h:Nat) (o:World) (i:List Nat) (Q:World→Prop):Prop:=∃lo u,h≤lo∧Q (dX lo u)∧Below u.heap.size u o∧∀k∈i,k<lo∨u.heap.size≤k
theorem ms5 {a b c d e lo h:Nat} (u:a<lo∨h≤a) (i:b<lo∨h≤b) (x:c<lo∨h≤c) (o:d<lo∨h≤d) (v:e<lo∨h≤e):∀k∈[a,b,c,d,e],k<lo∨h≤k:=by
 intro k hk
 simp only [List.mem_cons,List.not_mem_nil,or_false] at hk
 rcases hk with rfl | rfl | rfl | rfl | rfl<;>assumption
structure Es (sz:List Int) (x L wk bh mi sn bu ch wi ca N n:Nat) (A:Option Addr) (c:Nat) (sh ra mo:Int) (data:List Ex) (ps draws:List Int) (its:List Itm) (w w':World) (b:Nat) (a:MAd):Prop where
 blk:w'.heap[b]?=some (.cells #[FQ (x:Nat),FQ (wk:Nat),FQ (mi:Nat),.pointer (some ⟨a.F,0,none⟩),.slice a.E N a.ce,.pointer (some ⟨a.S,0,none⟩),.pointer (some ⟨a.PP,0,none⟩),.slice a.BA (Pln.buks ⟨wk,mi,bu,ch,wi,n⟩).length a.bc,FQ ra,FQ mo,FQ sh,.slice (some ⟨a.bp,0,none⟩) n a.cp,.slice (some ⟨a.bm,0,none⟩) n a.cm,.slice (some ⟨a.bg,0,none⟩) n a.cg,.slice (some ⟨a.rb,0,none⟩) 1 a.rc,.slice a.IA its.length a.ic,FQ 0,FQ 0,FR] 179 (0,0))
 fo:Win w.heap.size w' [b,a.bp,a.bm,a.bg,a.rb] fun V=>aY 212 V a.F sz
 sa:Win w.heap.size w' [b,a.bp,a.bm,a.bg,a.rb] fun V=>dB V a.S data.length bh sn draws
 pl:Win w.heap.size w' [b,a.bp,a.bm,a.bg,a.rb] fun V=>db V a.PP ⟨wk,mi,bu,ch,wi,n⟩ (.slice A L c) (FQ sh) (FQ ra) (FQ mo) (FQ (bh:Nat)) (FQ (sn:Nat)) (FQ (ca:Nat))
 ex:Win w.heap.size w' [b,a.bp,a.bm,a.bg,a.rb] fun V=>cZ rEx 2 V a.E data
 bu:Win w.heap.size w' [b,a.bp,a.bm,a.bg,a.rb] fun V=>Rd V a.BA (az (Pln.buks ⟨wk,mi,bu,ch,wi,n⟩))
 it:Win w.heap.size w' [b,a.bp,a.bm,a.bg,a.rb] fun V=>Rd V a.IA (bJ its)
 re:∃A1 c1 A2 c2,n≤c1∧n≤c2∧w'.heap[a.rb]?=some (.cells #[.slice A1 n c1,.slice A2 n c2] 141 (0,0))∧(Win w.heap.size w' [b,a.bp,a.bm,a.bg,a.rb] fun V=>Rd V A1 (ar .i64 ps))∧(Win w.heap.size w' [b,a.bp,a.bm,a.bg,a.rb] fun V=>Rd V A2 (ar .i64 (List.replicate n 0)))
 oP:w'.ownsRow 0 2 1 (.slice (some ⟨a.bp,0,none⟩) n a.cp) n (ar .i64 ps)
 oM:w'.ownsRow 0 2 1 (.slice (some ⟨a.bm,0,none⟩) n a.cm) n (ar .i64 (List.replicate n 0))
 oG:w'.ownsRow 0 2 1 (.slice (some ⟨a.bg,0,none⟩) n a.cg) n (ar .i64 (List.replicate n 0))
 lo:w.heap.size≤b∧w.heap.size≤a.bp∧w.heap.size≤a.bm∧w.heap.size≤a.bg∧w.heap.size≤a.rb
 dj:a.bp≠a.bm∧a.bp≠a.bg∧a.bm≠a.bg
 ov:a.ov=FR
 rc:a.rc=1
 k:Below w.heap.size w w'
theorem xX (sz:List Int) (x L H bh mi sn bu ch wi ca N n Q:Nat) (A:Option Addr) (c:Nat) (sh ra Y:Int) (D:Option Addr) (cd:Nat) (T:Option Addr) (ct:Nat) (R:Option Addr) (cr:Nat) (data:List Ex) (ps draws:List Int) (w:World) (a8:Ending→World→Prop)
  (h:Et sz L H bh mi sn bu ch wi ca n Q A c sh ra Y D cd T ct R cr data ps draws w) (hN:N=data.length) (hx:x<H) (hp:aT ⟨H,mi,bu,ch,wi,n⟩) (hn:1≤n) (d0:bu≤1048576) (cv:wi≤1048576) (O:List Itm)
  (a7:∀P C,db C P ⟨H,mi,bu,ch,wi,n⟩ (.slice A L c) (FQ sh) (FQ ra) (FQ Y) (FQ (bh:Nat)) (FQ (sn:Nat)) (FQ (ca:Nat))→Calls Tryz.prog 87 #[.pointer (some ⟨P,0,none⟩),FQ (x:Nat),FQ 0] C fun e bM=>∃v,e=.returned v∧bM.ownsRow C.heap.size 152 12 v O.length (bJ O)∧Below C.heap.size C bM)
  (a6:∀C b a,Es sz x L H bh mi sn bu ch wi ca N n A c sh ra Y data ps draws O w C b a→a8 (.returned (.tuple #[.pointer (some ⟨b,0,none⟩),FQ 0])) C):Calls Tryz.prog 44 #[.agg #[.slice A L c,FQ sh,FQ ra,FQ Y,FQ (H:Nat),FQ (bh:Nat),FQ (mi:Nat),FQ (sn:Nat),FQ (bu:Nat),FQ (ch:Nat),FQ (wi:Nat),FQ (ca:Nat),.slice D N cd,.slice T n ct,.slice R Q cr],FQ (x:Nat)] w a8:=by
 obtain ⟨W0,a3⟩:∃W0,w.alloc (.cells #[.slice A L c,FQ sh,FQ ra,FQ Y,FQ (H:Nat),FQ (bh:Nat),FQ (mi:Nat),FQ (sn:Nat),FQ (bu:Nat),FQ (ch:Nat),FQ (wi:Nat),FQ (ca:Nat),.slice D N cd,.slice T n ct,.slice R Q cr] 29)=W0:=⟨_,rfl⟩
 have g0:W0.heap[w.heap.size]?=some (.cells #[.slice A L c,FQ sh,FQ ra,FQ Y,FQ (H:Nat),FQ (bh:Nat),FQ (mi:Nat),FQ (sn:Nat),FQ (bu:Nat),FQ (ch:Nat),FQ (wi:Nat),FQ (ca:Nat),.slice D N cd,.slice T n ct,.slice R Q cr] 29 (0,0)):=by rw [←a3];exact EN w _
 have b3:Below w.heap.size w W0:=by rw [←a3];exact (br w).alloc (EM _) _
 have bV:=h.inp N hN W0 b3
 have da:¬((H:Int)≤x):=by omega
 have b7:=hp.n
 dsimp only at b7
 have t0:=fun C q=>hZ (sb g0 C q)
 obtain ⟨d1,bz,ci,Hh,HN,bI,bn,Hl⟩:=aj a3 b3 bV h hN a6 a7 h.sl;have d4:n≤1048576:=by omega
 have q0:=br W0
 clear a3 g0 b3 bV h hN a6 a7
 go_enter Tryz.func44,Tryz.ntmps44
 go_wp2_with fail
 rw [d1.out]
 refine ci.out.mono ?_
 rintro e w1 ⟨rfl,k1⟩
 have q1:=bt q0 k1
 obtain ⟨W2,a2⟩:∃W2,w1.alloc (.cells #[.slice A L c,FQ sh,FQ ra,FQ Y,FQ (H:Nat),FQ (bh:Nat),FQ (mi:Nat),FQ (sn:Nat),FQ (bu:Nat),FQ (ch:Nat),FQ (wi:Nat),FQ (ca:Nat)] 24)=W2:=⟨_,rfl⟩
 have g2:W2.heap[w1.heap.size]?=some (.cells #[.slice A L c,FQ sh,FQ ra,FQ Y,FQ (H:Nat),FQ (bh:Nat),FQ (mi:Nat),FQ (sn:Nat),FQ (bu:Nat),FQ (ch:Nat),FQ (wi:Nat),FQ (ca:Nat)] 24 (0,0)):=by rw [←a2];exact EN w1 _
 have k2:Below w1.heap.size w1 W2:=by rw [←a2];exact (br w1).alloc (EM _) _
 have q2:=bt q1 k2
 have t2:=fun C q=>fx (sb g2 C q)
 have u2:=fun C (q:Below W2.heap.size W2 C)=>t0 C (bt q2 q)
 obtain ⟨c8,Q2⟩:=ab a2 (bz.out.trans (q2.mono bz.out.size));clear a2 g2 k1 k2
 go_wp2_with fail
 rw [c8.out]
 have d2:=br W2
 clear q0 q1 q2 t0
 refine (Hh.out.snew _ Q2.out).mono ?_
 rintro e w3 ⟨F,rfl,hF,k3⟩
 have q3:=bt d2 k3
 obtain ⟨Q3,HF⟩:=ab (Q2.out.trans (k3.mono Q2.out.size)) hF;clear hF k3
 go_wp2_with fail
 refine (Hh.out.samp N HN.out _ Q3.out).mono ?_
 rintro e w4 ⟨S,rfl,hS,k4⟩
 have q4:=bt q3 k4
 obtain ⟨Q4,HS,K4⟩:=ae (Q3.out.trans (k4.mono Q3.out.size)) hS k4
 have bi:=HF.out.below (wR k4)
 have b2:=aa bi;clear hS k4 bi
 go_wp2_with fail
 refine HA.g (fun C:World=>Below W2.heap.size W2 C) ?_
 refine HA.t ?_ [0,1] q4.drew ?_
 refine HA.c 2 (Hh.out.cnt F _ (uU b2.out)) ?_
 rintro e w5 ⟨rfl,rfl⟩
 refine ⟨_,rfl,q4.drew,fun _=>?_⟩
 have b5:=pC ⟨H,mi,bu,ch,wi,n⟩ (.slice A L c) (FQ sh) (FQ ra) (FQ Y) (FQ (bh:Nat)) (FQ (sn:Nat)) (FQ (ca:Nat)) w4.drew hp hn d0 cv (fun C q=>Hh.out.chk C (Q4.out.drew.trans (q.mono Q4.out.size)))
 dsimp only at b5
 refine HA.c 3 b5 ?_
 rintro e w6 ⟨PP,rfl,d9,bd,k6⟩
 have q6:=bt q4.drew k6
 refine ⟨_,rfl,q6,fun _=>?_⟩
 refine HA.t ?_ [4,5,6,7,8] q6 ?_
 refine HA.d ?_
 try simp only [Exit.then]
 have K6:=aa (show Below w4.heap.size w4 w6 from (br w4).drew.trans k6);obtain ⟨Q6,b1⟩:=ab (Q4.out.trans (K6.out.mono Q4.out.size)) bd;clear b5 bd k6 q4 q3
 have bs:=tw T n ct ps w6 (Hh.out.st.below Q6.out) Hh.out.sl (by omega)
 have c6:=aa bs;clear bs
 go_wp2_with fail
 refine c6.out.mono ?_
 rintro e w7 ⟨Ap,cp,Am,cm,rfl,d5,cn,oP,oM,bO,k7⟩
 obtain ⟨bp,dk,e1,bX,b8⟩:=oP.form (by omega)
 obtain ⟨bm,d6,e2,bA,bw⟩:=oM.form (by omega)
 injection e1 with e1 _ e1c
 injection e2 with e2 _ e2c
 subst e1;subst e2;subst e1c;subst e2c
 obtain ⟨W8,a4⟩:∃W8,w7.alloc (.cells #[.slice (some ⟨bp,0,none⟩) n cp,.slice (some ⟨bm,0,none⟩) n cm] 141)=W8:=⟨_,rfl⟩
 have g8:W8.heap[w7.heap.size]?=some (.cells #[.slice (some ⟨bp,0,none⟩) n cp,.slice (some ⟨bm,0,none⟩) n cm] 141 (0,0)):=by rw [←a4];exact EN w7 _
 have k8:Below w7.heap.size w7 W8:=by rw [←a4];exact (br w7).alloc (EM _) _
 have a5:=bt k7 k8
 have q8:=bt q6 a5
 have t8:=fun C q=>bx2 (sb g8 C q)
 have v8:=fun C (q:Below W8.heap.size W8 C)=>u2 C (bt q8 q)
 have x8:=fun C (q:Below W8.heap.size W8 C)=>t2 C (bt q8 q)
 have b6:bp≠bm:=fun e=>bO bp rfl (by rw [e];rfl)
 obtain ⟨cf,Q8,K8,OP,OM,cl⟩:=ah a4 (Q6.out.trans (a5.mono Q6.out.size)) a5 (aq oP k8) (aq oM k8) b6
 have bo:=br W8
 have p1:w6.heap.size≤bp:=bX
 have p2:bp<W8.heap.size:=ET b8 k8.size
 have p3:w6.heap.size≤bm:=bA
 have p4:bm<W8.heap.size:=ET bw k8.size
 clear a4 g8 k7 k8 a5 oP oM bO q6 q8 u2 t2 d5 cn b6
 go_wp2_with fail
 rw [cf.out]
 refine HA.g (fun C:World=>Below W8.heap.size W8 C) ?_
 refine HA.t ?_ [0,1,2,3,4,5,6,7,9,10,11,13,14,15,16,17,18,19,21,22,25,28,29] bo.drew ?_
 have co:cZ rEx 2 W8.drew D data:=Hh.out.dat.below dH (Q8.out.drew)
 have b9:=sL D data cd W8.drew co Hh.out.dl
 rw [←HN.out] at b9
 refine HA.c 8 b9 ?_
 rintro e w9 ⟨E,ce,rfl,hE,k9⟩
 have q9:=bt bo.drew k9
 refine ⟨_,rfl,q9,fun _=>?_⟩
 have bN:db w9 PP ⟨H,mi,bu,ch,wi,n⟩ (.slice A L c) (FQ sh) (FQ ra) (FQ Y) (FQ (bh:Nat)) (FQ (sn:Nat)) (FQ (ca:Nat)):=(b1.out.agr (Agr.refl _ w6)).below (bt K8.out q9)
 refine HA.c 12 (At _ PP _ _ _ _ _ _ _ w9 hp bN) ?_
 rintro e x0 ⟨v10,rfl,ad,a0⟩
 have q0:=bt q9 a0
 obtain ⟨BA,bc,rfl,_⟩:=av ad
 refine ⟨_,rfl,q0,fun _=>?_⟩
 have bv:aY 212 x0 F sz:=(jq b2.out (Agr.refl _ w4)).below (bt (bt (bt K6.out K8.out) q9) a0)
 refine HA.t ?_ [20] q0 ?_
 refine HA.c 23 (Hh.out.cnt F x0 bv) ?_
 rintro e d8 ⟨rfl,rfl⟩
 refine ⟨_,rfl,q0,fun _=>?_⟩
 have cx:w.heap.size≤w4.heap.size:=Q4.out.size
 have d7:w4.heap.size≤w6.heap.size:=K6.out.size
 have dn:w6.heap.size≤W8.heap.size:=K8.out.size
 have dc:W8.heap.size≤w9.heap.size:=k9.size
 have cs:w9.heap.size≤x0.heap.size:=a0.size
 -- BRANCHES
 obtain ⟨x9,b4⟩:∃x9,x9=x0:=⟨_,rfl⟩
 have y:Below x9.heap.size x9 x0:=by rw [b4];exact br _
 rw [←b4] at ad a0 cs
 clear b4
 have q:=q0
 clear q0
 obtain ⟨U,rfl⟩:∃U,U=x0:=⟨_,rfl⟩
 repeat' first
  | (refine HA.three 24 27 30 ?_ ?_ ?_)
  | (refine HA.two 24 26 ?_ ?_)
  | (refine HA.two 27 30 ?_ ?_)
  | (refine HA.two 24 30 ?_ ?_)
  | (refine HA.two 24 27 ?_ ?_)
  | (refine HA.sole 24 ?_)
  | (refine HA.sole 26 ?_)
  | (refine HA.sole 27 ?_)
  | (refine HA.sole 30 ?_)
  | (obtain ⟨V,bG,gG,o⟩:=tI iV U rfl n (by omega) (by unfold maxLen;omega);refine HAS.v (i:=24) V (.slice (some ⟨U.heap.size,0,none⟩) n n) (bt q o) ?_;clear bG;rw [gj] at gG;(try have:=u.size);(try have:=B.size);(try have:=EL I);(try have:G<U.heap.size:=(eg oG _ rfl).2);have:=y.size;(try replace oG:=aq oG o);(try replace I:=sb I _ o);(try replace u:=bt u o);(try replace B:=bt B o);replace y:=bt y o;replace q:=bt q o;have oG:=gG;have tG:U.heap.size<V.heap.size:=(eg oG _ rfl).2;obtain ⟨G,hG⟩:∃G,U.heap.size=G:=⟨_,rfl⟩;rw [hG] at oG ⊢;clear gG o;obtain ⟨U,rfl⟩:∃U,U=V:=⟨_,rfl⟩)
  | (refine HAS.c (i:=26) (lO (some ⟨bp,0,none⟩) (some ⟨bm,0,none⟩) n cp cm ps (List.replicate n 0) U (Rd.own (aq OP.out q)) (Rd.own (aq OM.out q)) Hl.out (Fx ..) d4) ?_;rintro e V ⟨A1,c1,A2,c2,rfl,c7,cb,o1,o2,_,o⟩;(try have:=u.size);(try have:=B.size);(try have:=EL I);(try have:G<U.heap.size:=(eg oG _ rfl).2);have:=y.size;(try replace oG:=aq oG o);(try replace I:=sb I _ o);(try replace u:=bt u o);(try replace B:=bt B o);replace y:=bt y o;replace q:=bt q o;refine ⟨_,rfl,q,fun _=>?_⟩;obtain ⟨a1,cq⟩:∃s,U.heap.size=s:=⟨_,rfl⟩;rw [cq] at o1 o2;have cj:=o.size;obtain ⟨J,hw⟩:∃J,J=V:=⟨_,rfl⟩;have u:Below J.heap.size J V:=(by rw [hw];exact br _);rw [←hw] at o1 o2 cj;clear hw o;obtain ⟨U,rfl⟩:∃U,U=V:=⟨_,rfl⟩)
  | (have o:=(br U).alloc (EM _) (.cells #[.slice A1 n c1,.slice A2 n c2] 141);have nR:=EN U (.cells #[.slice A1 n c1,.slice A2 n c2] 141);refine HAS.v (i:=27) (U.alloc (.cells #[.slice A1 n c1,.slice A2 n c2] 141)) (.slice (some ⟨U.heap.size,0,none⟩) 1 1) (bt q o) ?_;obtain ⟨V,hv⟩:∃V,U.alloc (.cells #[.slice A1 n c1,.slice A2 n c2] 141)=V:=⟨_,rfl⟩;rw [hv] at nR o ⊢;clear hv;(try have:=u.size);(try have:=B.size);(try have:=EL I);(try have:G<U.heap.size:=(eg oG _ rfl).2);have:=y.size;(try replace oG:=aq oG o);(try replace I:=sb I _ o);(try replace u:=bt u o);(try replace B:=bt B o);replace y:=bt y o;replace q:=bt q o;have I:=nR;have tR:=EL I;obtain ⟨Rb,hR⟩:∃r,U.heap.size=r:=⟨_,rfl⟩;rw [hR] at I ⊢;clear nR o;obtain ⟨U,rfl⟩:∃U,U=V:=⟨_,rfl⟩)
  | (refine HAS.c (i:=30) (bn.out PP U ((b1.out.agr (Agr.refl _ w6)).below (bt K8.out q))) ?_;rintro e V ⟨v,rfl,oS,o⟩;obtain ⟨IA,ic,rfl,_⟩:=av oS;(try have:=u.size);(try have:=B.size);(try have:=EL I);(try have:G<U.heap.size:=(eg oG _ rfl).2);have:=y.size;(try replace oG:=aq oG o);(try replace I:=sb I _ o);(try replace u:=bt u o);(try replace B:=bt B o);replace y:=bt y o;replace q:=bt q o;refine ⟨_,rfl,q,fun _=>?_⟩;obtain ⟨b0,d3⟩:∃s,U.heap.size=s:=⟨_,rfl⟩;rw [d3] at oS;have c9:=o.size;obtain ⟨Z,hw⟩:∃Z,Z=V:=⟨_,rfl⟩;have B:Below Z.heap.size Z V:=(by rw [hw];exact br _);rw [←hw] at oS c9;clear hw o;obtain ⟨U,rfl⟩:∃U,U=V:=⟨_,rfl⟩)
  | (refine HA.t ?_ [31] q ?_)
  | fail
 all_goals
  have gB:=EN U (Obj.cells #[FQ (x:Nat),FQ (H:Nat),FQ (mi:Nat),.pointer (some ⟨F,0,none⟩),.slice E N ce,.pointer (some ⟨S,0,none⟩),.pointer (some ⟨PP,0,none⟩),.slice BA (Pln.buks ⟨H,mi,bu,ch,wi,n⟩).length bc,FQ ra,FQ Y,FQ sh,.slice (some ⟨bp,0,none⟩) n cp,.slice (some ⟨bm,0,none⟩) n cm,.slice (some ⟨G,0,none⟩) n n,.slice (some ⟨Rb,0,none⟩) 1 1,.slice IA O.length ic,FQ 0,FQ 0,FR] 179)
  have o:=(br U).alloc (EM _) (Obj.cells #[FQ (x:Nat),FQ (H:Nat),FQ (mi:Nat),.pointer (some ⟨F,0,none⟩),.slice E N ce,.pointer (some ⟨S,0,none⟩),.pointer (some ⟨PP,0,none⟩),.slice BA (Pln.buks ⟨H,mi,bu,ch,wi,n⟩).length bc,FQ ra,FQ Y,FQ sh,.slice (some ⟨bp,0,none⟩) n cp,.slice (some ⟨bm,0,none⟩) n cm,.slice (some ⟨G,0,none⟩) n n,.slice (some ⟨Rb,0,none⟩) 1 1,.slice IA O.length ic,FQ 0,FQ 0,FR] 179)
  refine HA.v 32 (U.alloc (Obj.cells #[FQ (x:Nat),FQ (H:Nat),FQ (mi:Nat),.pointer (some ⟨F,0,none⟩),.slice E N ce,.pointer (some ⟨S,0,none⟩),.pointer (some ⟨PP,0,none⟩),.slice BA (Pln.buks ⟨H,mi,bu,ch,wi,n⟩).length bc,FQ ra,FQ Y,FQ sh,.slice (some ⟨bp,0,none⟩) n cp,.slice (some ⟨bm,0,none⟩) n cm,.slice (some ⟨G,0,none⟩) n n,.slice (some ⟨Rb,0,none⟩) 1 1,.slice IA O.length ic,FQ 0,FQ 0,FR] 179)) (.pointer (some ⟨U.heap.size,0,none⟩)) (bt q o) ?_
  obtain ⟨V,hv⟩:∃V,U.alloc (Obj.cells #[FQ (x:Nat),FQ (H:Nat),FQ (mi:Nat),.pointer (some ⟨F,0,none⟩),.slice E N ce,.pointer (some ⟨S,0,none⟩),.pointer (some ⟨PP,0,none⟩),.slice BA (Pln.buks ⟨H,mi,bu,ch,wi,n⟩).length bc,FQ ra,FQ Y,FQ sh,.slice (some ⟨bp,0,none⟩) n cp,.slice (some ⟨bm,0,none⟩) n cm,.slice (some ⟨G,0,none⟩) n n,.slice (some ⟨Rb,0,none⟩) 1 1,.slice IA O.length ic,FQ 0,FQ 0,FR] 179)=V:=⟨_,rfl⟩
  rw [hv] at gB o ⊢
  clear hv
  refine HA.t ?_ [33] (bt q o) ?_
  refine HA.d ?_
  try simp only [Exit.then]
  (try have:=u.size);(try have:=B.size);(try have:=EL I);(try have:G<U.heap.size:=(eg oG _ rfl).2);have:=y.size
  obtain ⟨bb,hb⟩:∃b,U.heap.size=b:=⟨_,rfl⟩
  rw [hb] at gB ⊢
  have z8:=bt q o;have z6:=bt K8.out z8;have zz:=bt K6.out z6;have z0:=bt y o;have z9:=bt a0 z0;have bl:=bt u o;have cw:=bt B o
  have mF:∀k∈[bb,bp,bm,G,Rb],k<w.heap.size∨w4.heap.size≤k:=by apply ms5<;>omega
  have mP:∀k∈[bb,bp,bm,G,Rb],k<w4.heap.size∨w6.heap.size≤k:=by apply ms5<;>omega
  have mE:∀k∈[bb,bp,bm,G,Rb],k<W8.heap.size∨w9.heap.size≤k:=by apply ms5<;>omega
  have mB:∀k∈[bb,bp,bm,G,Rb],k<w9.heap.size∨x9.heap.size≤k:=by apply ms5<;>omega
  have mI:∀k∈[bb,bp,bm,G,Rb],k<b0∨Z.heap.size≤k:=by apply ms5<;>omega
  have mS:∀k∈[bb,bp,bm,G,Rb],k<a1∨J.heap.size≤k:=by apply ms5<;>omega
  have lS:w.heap.size≤a1∧w.heap.size≤b0∧w.heap.size≤W8.heap.size∧w.heap.size≤w9.heap.size:=by omega
  have l1:w.heap.size≤bb∧w.heap.size≤bp∧w.heap.size≤bm∧w.heap.size≤G∧w.heap.size≤Rb:=by omega
  have l6:bp≠G∧bm≠G:=by omega
  have cc:=bI.out V bb ⟨F,E,ce,S,PP,BA,bc,bp,cp,bm,cm,G,n,Rb,1,IA,ic,FR⟩ ⟨gB,⟨_,w4,EM _,b2.out,zz,mF⟩,⟨_,w4,EM _,HS.out,zz,mF⟩,⟨_,w6,cx,b1.out,z6,mP⟩,⟨W8.heap.size,w9,lS.2.2.1,hE,z9,mE⟩,⟨w9.heap.size,x9,lS.2.2.2,Rd.own (dC ad (EM _)),z0,mB⟩,⟨b0,Z,lS.2.1,Rd.own (dC oS (EM _)),cw,mI⟩,⟨A1,c1,A2,c2,c7,cb,sb I _ o,⟨a1,J,lS.1,Rd.own (dC o1 (EM _)),bl,mS⟩,⟨a1,J,lS.1,Rd.own (dC o2 (EM _)),bl,mS⟩⟩,aA (aq OP.out z8) (EQ _),aA (aq OM.out z8) (EQ _),aA (aq oG o) (EQ _),l1,⟨cl.out,l6.1,l6.2⟩,rfl,rfl,bt Q4.out zz⟩
  go_wp2_with fail
  exact cc
theorem gK {i:Nat} {y o:World} {x:List Nat} {Q:World→Prop} {S:Nat→Prop} (h:Win i y x Q) (I:∀{u v},Q u→Ext u v→Q v) (hk:Keep (fun k=>k<i) y o) (D:∀k,S k→k<i∨k∈x):Q (aQ S o):=by
 obtain ⟨lo,u,J,B,A,C⟩:=h
 refine I B (Bv (fun k hB hl=>(hk.block k (ET hl A.size) (by omega)).trans (A.block k hl)) fun k hB hl H=>?_)
 rcases D k H with h | h
 ·omega
 ·rcases C k h with h | h<;>omega
theorem xV {H:Nat→Prop} {i:Inp} {x L:Nat} {A:Option Addr} {c:Nat} {w O C:World} {b:Nat} {a:MAd} (hr:Es i.cfg.sizes x L i.cfg.workers.toNat i.cfg.batch.toNat i.cfg.micros.toNat i.cfg.steps.toNat i.cfg.bucket.toNat i.cfg.chunk.toNat i.cfg.window.toNat i.cfg.cap.toNat i.data.length i.start.length A c i.cfg.shift i.cfg.rate i.cfg.mom i.data i.start i.draws (bf i x 0) w O b a)
  (hg:fL i.cfg) (hw:W64 i.start) (hl:i.start.length≤1048576) (hx:x<(ao i).W) (hk:Keep (fun k=>k<w.heap.size) O C) (hH:∀k,H k→k<w.heap.size):aC H C b i x a (fB i):=by
 have Q:∀k,Mut b a k→k∈[b,a.bp,a.bm,a.bg,a.rb]:=by
  rintro k (rfl | rfl | rfl | rfl | rfl | h)
  ·simp
  ·simp
  ·simp
  ·simp
  ·simp
  ·rw [hr.ov] at h;exact absurd h (by simp [Value.ownBlock])
 have D:∀k,er H b a k→k<w.heap.size∨k∈[b,a.bp,a.bm,a.bg,a.rb]:=fun k hk=>hk.elim (fun h=>.inr (Q k h)) fun h=>.inl (hH k h)
 have a1:=hr.lo
 have J:∀k,k∈[b,a.bp,a.bm,a.bg,a.rb]→¬k<w.heap.size:=by
  intro k hk
  simp only [List.mem_cons,List.not_mem_nil,or_false] at hk
  rcases hk with rfl | rfl | rfl | rfl | rfl<;>omega
 have B:W64 (List.replicate i.start.length 0):=fun k hk=>by
  rw [cW _ _ hk];simp
 have u:∀{v:Value} {e size n:Nat} {xs:List Value},(∀k,v.ownBlock=some k→Mut b a k)→O.ownsRow 0 e size v n xs→C.ownsRow 0 e size v n xs:=fun hv h=>hk.own h fun k V R=>J k (Q k (hv k V)) R
 have I:∀{k:Nat} {o:Obj},Mut b a k→O.heap[k]?=some o→C.heap[k]?=some o:=fun hm hb=>(hk.block _ (EL hb) (J _ (Q _ hm))).trans hb
 obtain ⟨A1,c1,A2,c2,Y,a0,gR,r1,r2⟩:=hr.re
 have T:=I (.inr (.inr (.inr (.inr (.inl rfl))))) gR
 have U:=hr.rc
 have ew:((i.cfg.workers.toNat:Nat):Int)=i.cfg.workers:=by have:=hg.w;omega
 have em:((i.cfg.micros.toNat:Nat):Int)=i.cfg.micros:=by have:=hg.mi;omega
 have N:=I (.inl rfl) hr.blk
 rw [ew,em] at N
 refine ⟨?_,gK hr.fo dx hk D,gK hr.ex (gu cz) hk D,gK hr.sa eQ hk D,⟨_,_,_,_,_,_,gK hr.pl eR hk D⟩,gK hr.bu aJ hk D,gK hr.it aJ hk D,?_,
  u (fun k e=>by cases e;exact .inr (.inl rfl)) hr.oP,u (fun k e=>by cases e;exact .inr (.inr (.inl rfl))) hr.oM,u (fun k e=>by cases e;exact .inr (.inr (.inr (.inl rfl)))) hr.oG,?_,hr.dj,fun k _ hm hh=>J k (Q k hm) (hH k hh),
  ⟨rfl,hw⟩,⟨by simp [fB],B⟩,⟨by simp [fB],B⟩,?_,hx⟩
 ·have e0:bF i x (fB i)=0:=by simp [bF,fB]
  rw [e0,hr.ov]
  exact N
 ·refine ⟨[[.slice A1 i.start.length c1,.slice A2 i.start.length c2]],⟨rfl,.inr ⟨a.rb,1,_,by rw [U];first | done | rfl,EQ _,T,EM _,by unfold maxLen;omega,by simp,rfl⟩⟩,rfl,by simp,?_⟩
  intro j y Z
  cases j with
  | succ j=>simp [fB] at Z
  | zero=>
   simp [fB] at Z
   subst Z
   exact ⟨A1,c1,A2,c2,by simp [bK],⟨Y,by dsimp only;omega,gK r1 aJ hk D,hw⟩,⟨by rw [Fx];exact a0,by rw [Fx];omega,gK r2 aJ hk D,B⟩⟩
 ·rw [hr.ov];exact EZ _ _ _ _
 ·show (0<(bf i x 0).length)∨_
  unfold bf
  by_cases h:0<i.cfg.steps.toNat
  ·rw [if_pos h];exact .inl (fR _ _ _)
  ·exact .inr ⟨rfl,by show i.cfg.steps.toNat≤0;omega⟩
def ED (i:Inp) (x:Nat) (w:World) (e:Ending) (h:World):Prop:=∃b a,e=.returned (.tuple #[.pointer (some ⟨b,0,none⟩),FQ 0])∧Below w.heap.size w h∧(∀k,Mut b a k→w.heap.size≤k)∧
 ∀(H:Nat→Prop) w'',Keep (fun k=>k<w.heap.size) h w''→(∀k,H k→k<w.heap.size)→aC H w'' b i x a (fB i)
theorem xY (A:Option Addr) (c:Nat) (D:Option Addr) (J:Nat) (T:Option Addr) (I:Nat) (R:Option Addr) (B:Nat) (i:Inp) (x:Nat) (w:World) (h:iC w A c D T I R i) (y:bP i) (O:x<(ao i).W):
  Calls Tryz.prog 44 #[.agg (aP A c D J T I R B i),FQ (x:Nat)] w (ED i x w):=by
 have o:=y.g.c
 have ew:((i.cfg.workers.toNat:Nat):Int)=i.cfg.workers:=by have:=o.w;omega
 have eb:((i.cfg.batch.toNat:Nat):Int)=i.cfg.batch:=by have:=o.ba;have:=o.w;omega
 have em:((i.cfg.micros.toNat:Nat):Int)=i.cfg.micros:=by have:=o.mi;omega
 have es:((i.cfg.steps.toNat:Nat):Int)=i.cfg.steps:=by have:=o.st;omega
 have eu:((i.cfg.bucket.toNat:Nat):Int)=i.cfg.bucket:=by have:=o.bu;omega
 have ec:((i.cfg.chunk.toNat:Nat):Int)=i.cfg.chunk:=by have:=o.ch;omega
 have ei:((i.cfg.window.toNat:Nat):Int)=i.cfg.window:=by have:=o.wi;omega
 have ea:((i.cfg.cap.toNat:Nat):Int)=i.cfg.cap:=by have:=o.ca;omega
 have hv:aP A c D J T I R B i=#[.slice A i.cfg.sizes.length c,FQ i.cfg.shift,FQ i.cfg.rate,FQ i.cfg.mom,FQ (i.cfg.workers.toNat:Nat),FQ (i.cfg.batch.toNat:Nat),FQ (i.cfg.micros.toNat:Nat),FQ (i.cfg.steps.toNat:Nat),FQ (i.cfg.bucket.toNat:Nat),FQ (i.cfg.chunk.toNat:Nat),FQ (i.cfg.window.toNat:Nat),FQ (i.cfg.cap.toNat:Nat),.slice D i.data.length J,.slice T i.start.length I,.slice R i.draws.length B]:=by
  rw [ew,eb,em,es,eu,ec,ei,ea]
 have V:bZ A c i.cfg=#[.slice A i.cfg.sizes.length c,FQ i.cfg.shift,FQ i.cfg.rate,FQ i.cfg.mom,FQ (i.cfg.workers.toNat:Nat),FQ (i.cfg.batch.toNat:Nat),FQ (i.cfg.micros.toNat:Nat),FQ (i.cfg.steps.toNat:Nat),FQ (i.cfg.bucket.toNat:Nat),FQ (i.cfg.chunk.toNat:Nat),FQ (i.cfg.window.toNat:Nat),FQ (i.cfg.cap.toNat:Nat)]:=by
  rw [ew,eb,em,es,eu,ec,ei,ea]
 have L:=y.g.s
 unfold cnt at L
 have Z:Et i.cfg.sizes i.cfg.sizes.length i.cfg.workers.toNat i.cfg.batch.toNat i.cfg.micros.toNat i.cfg.steps.toNat i.cfg.bucket.toNat i.cfg.chunk.toNat i.cfg.window.toNat i.cfg.cap.toNat i.start.length i.draws.length A c i.cfg.shift i.cfg.rate i.cfg.mom D J T I R B i.data i.start i.draws w:=by
  constructor
  ·intro N hN u q
   subst hN
   have:=pR A c D J T I R B i u (h.below q)
   rw [qD.2 y.g,hv] at this
   exact this
  ·intro u q
   refine (mQ A i.cfg.sizes c u (h.c.hr.below q) h.c.hc h.c.hm).mono ?_
   rintro e C ⟨hb,U⟩
   rcases U with ⟨_,S,he,hS,_⟩ | ⟨Q,_⟩
   ·exact ⟨S,he,jq hS (wA q.size),hb⟩
   ·exact absurd o.z Q
  ·intro N hN u q
   subst hN
   have gd:=y.g.d;have gb:=y.g.b;have g1:=o.w;have g2:=o.ba;have g3:=o.st
   unfold jj at gd
   refine (qm R i.draws B i.data.length i.cfg.batch.toNat i.cfg.steps.toNat u (h.r.below q) h.rl h.ru (by omega) (by omega) gb.2 (by omega) gd).mono ?_
   rintro e C ⟨S,he,hS,_,hb⟩
   exact ⟨S,he,zc hS (wA q.size),hb⟩
  ·intro F u hF
   have:=gO F i.cfg.sizes u hF
   rw [←L] at this
   exact this
  ·intro u q
   have:=fU A c i.cfg u (h.c.below q)
   rw [dN.2 o,V] at this
   exact this
  ·exact h.d
  ·exact h.dl
  ·exact h.t.hr
  ·rfl
 rw [hv]
 refine xX i.cfg.sizes x i.cfg.sizes.length _ _ _ _ _ _ _ _ i.data.length i.start.length i.draws.length A c _ _ _ D J T I R B i.data i.start i.draws w _ Z rfl O y.ok y.n1 (by have:=o.bu;omega) (by have:=o.wi;omega) (bf i x 0) ?_ ?_
 ·intro P u hP
  unfold bf
  by_cases Y:0<i.cfg.steps.toNat
  ·rw [if_pos Y]
   exact pA (ao i) P x 0 i.cfg.steps.toNat _ _ _ _ _ _ u y.ok y.n1 O Y hP
  ·rw [if_neg Y]
   refine (pz (ao i) P x 0 i.cfg.steps.toNat _ _ _ _ _ _ u O (by omega) hP).mono ?_
   rintro e C ⟨rfl,rfl⟩
   exact ⟨_,rfl,EZ _ _ _ _,br _⟩
 ·intro u b a hr
  refine ⟨b,a,rfl,hr.k,?_,fun H C hk hH=>xV hr o h.t.hw h.tl O hk hH⟩
  have v:=hr.lo
  rintro k (rfl | rfl | rfl | rfl | rfl | hh)
  ·exact v.1
  ·exact v.2.1
  ·exact v.2.2.1
  ·exact v.2.2.2.1
  ·exact v.2.2.2.2
  ·rw [hr.ov] at hh;exact absurd hh (by simp [Value.ownBlock])
theorem lU (A:Option Addr) (L c:Nat) (sh ra o u x mi sn bu ch wi ca:Int) (D:Option Addr) (N V:Nat) (T:Option Addr) (n Z:Nat) (R:Option Addr) (Q O:Nat) (w:World):
  Calls Tryz.prog 29 #[.agg #[.slice A L c,FQ sh,FQ ra,FQ o,FQ u,FQ x,FQ mi,FQ sn,FQ bu,FQ ch,FQ wi,FQ ca,.slice D N V,.slice T (n:Nat) Z,.slice R Q O]] w fun e B=>e=.returned (.agg #[.slice A L c,FQ sh,FQ ra,FQ o,FQ u,FQ x,FQ mi,FQ sn,FQ bu,FQ ch,FQ wi,FQ ca,FQ (n:Nat)])∧Below w.heap.size w B:=by
 obtain ⟨i,h⟩:∃i,w.alloc (.cells #[.slice A L c,FQ sh,FQ ra,FQ o,FQ u,FQ x,FQ mi,FQ sn,FQ bu,FQ ch,FQ wi,FQ ca,.slice D N V,.slice T (n:Nat) Z,.slice R Q O] 29)=i:=⟨_,rfl⟩
 have I:i.heap[w.heap.size]?=some (.cells #[.slice A L c,FQ sh,FQ ra,FQ o,FQ u,FQ x,FQ mi,FQ sn,FQ bu,FQ ch,FQ wi,FQ ca,.slice D N V,.slice T (n:Nat) Z,.slice R Q O] 29 (0,0)):=by rw [←h];exact EN w _
 have H:Below w.heap.size w i:=by rw [←h];exact (br w).alloc (EM _) _
 have y:i.heap.size=w.heap.size+1:=by rw [←h];exact Array.size_push _
 have g1:(i.alloc (.cells #[.slice A L c,FQ sh,FQ ra,FQ o,FQ u,FQ x,FQ mi,FQ sn,FQ bu,FQ ch,FQ wi,FQ ca,FQ (n:Nat)] 64)).heap[w.heap.size+1]?=some (.cells #[.slice A L c,FQ sh,FQ ra,FQ o,FQ u,FQ x,FQ mi,FQ sn,FQ bu,FQ ch,FQ wi,FQ ca,FQ (n:Nat)] 64 (0,0)):=by rw [←y];exact EN i _
 have HB:=aa (H.alloc H.size (.cells #[.slice A L c,FQ sh,FQ ra,FQ o,FQ u,FQ x,FQ mi,FQ sn,FQ bu,FQ ch,FQ wi,FQ ca,FQ (n:Nat)] 64))
 have t0:=fun B (q:Below i.heap.size i B)=>hZ (sb I B q)
 obtain ⟨C,G1⟩:=ab h g1
 have l0:=EL I
 have p1:=br i
 clear h I g1 H y
 go_enter Tryz.func29,Tryz.ntmps29
 go_wp2_with fail
 rw [C.out]
 obtain ⟨⟨r0,r1,r2,r3,r4,r5,r6,r7,r8,r9,J,U,Y⟩,rf⟩:=oH G1.out
 exact E7 (v:=.agg #[.slice A L c,FQ sh,FQ ra,FQ o,FQ u,FQ x,FQ mi,FQ sn,FQ bu,FQ ch,FQ wi,FQ ca,FQ (n:Nat)]) (by simp [results,Tryz.results29,go_sem,r0,r1,r2,r3,r4,r5,r6,r7,r8,r9,J,U,Y]) rfl ⟨rfl,HB.out⟩
def btB (x lo h:Int):Bool:=decide (lo≤x∧x≤h)
theorem jz (x lo h:Int) (w:World):Calls Tryz.prog 55 #[FQ x,FQ lo,FQ h] w fun e o=>e=.returned (.bool (btB x lo h))∧w=o:=by
 by_cases i:lo≤x
 ·by_cases u:x≤h
  ·go_enter Tryz.func55,Tryz.ntmps55
   go_wp2
   go_ret
   exact ⟨bD (by unfold btB;simp [i,u]),rfl⟩
  ·go_enter Tryz.func55,Tryz.ntmps55
   go_wp2
   go_ret
   exact ⟨bD (by unfold btB;simp;omega),rfl⟩
 ·go_enter Tryz.func55,Tryz.ntmps55
  go_wp2
  go_ret
  exact ⟨bD (by unfold btB;simp;omega),rfl⟩
theorem zP (A:Option Addr) (sz:List Int) (c:Nat) (w:World) (y:Rd w A (ar .i64 sz)) (hl:sz.length≤17592186043904):
  Calls Tryz.prog 92 #[.slice A sz.length c] w fun e o=>e=.returned (FQ (cT sz))∧∃n,o=w.drewN n:=by
 by_cases h:2≤sz.length∧sz.length≤16
 ·refine (rz A sz c w y h).mono fun e o ⟨v,u⟩=>⟨?_,u⟩
  rcases v with ⟨i,rfl⟩ | ⟨i,rfl⟩
  ·refine aF ?_
   unfold pV
   by_cases hc:1048576<aZ sz (sz.length-1)
   ·rw [if_pos hc,je (fun x=>by have:=x.2;omega) i]
   ·rw [if_neg hc,gL ⟨i,by omega⟩]
  ·exact aF (eI i).symm
 ·exact (qs A sz c w hl h).mono fun e o ⟨v,u⟩=>⟨by rw [v,eI (fun hr=>h hr.1)],0,u.symm⟩
theorem zu (a b c d e f:Int) {g:Bool} {l:List Int} (hl:[a,b,c,d,e,f]=l) {k:Nat} (hk:k<5) (h:okB (nth l k)=false):(okB a&&okB b&&okB c&&okB d&&okB e&&g)=false:=by
 subst hl
 match k,hk with
 | 0,_=>simp only [show nth [a,b,c,d,e,f] 0=a from rfl] at h;simp [h]
 | 1,_=>simp only [show nth [a,b,c,d,e,f] 1=b from rfl] at h;simp [h]
 | 2,_=>simp only [show nth [a,b,c,d,e,f] 2=c from rfl] at h;simp [h]
 | 3,_=>simp only [show nth [a,b,c,d,e,f] 3=d from rfl] at h;simp [h]
 | 4,_=>simp only [show nth [a,b,c,d,e,f] 4=e from rfl] at h;simp [h]
theorem wZ (a b c d e f:Int) (g:Bool) {l:List Int} (hl:[a,b,c,d,e,f]=l) (h:∀j,j<5→okB (nth l j)=true) (y:g=true):(okB a&&okB b&&okB c&&okB d&&okB e&&g)=true:=by
 subst hl
 have v:okB a=true:=h 0 (by omega)
 have u:okB b=true:=h 1 (by omega)
 have i:okB c=true:=h 2 (by omega)
 have x:okB d=true:=h 3 (by omega)
 have o:okB e=true:=h 4 (by omega)
 simp [v,u,i,x,o,y]
theorem kj (A:Option Addr) (c:Nat) (k:Cfg) (w:World) (h:fI w A c k):
  Calls Tryz.prog 54 #[.agg (bZ A c k)] w fun e N=>e=.returned (FQ (aM k))∧Below w.heap.size w N:=by
 have Z:=fun N (q:Below w.heap.size w N)=>zP A k.sizes c N (h.hr.below q) h.hl
 have f6:=@BV k;have f9:=@BT k;have fs:=@BS k;have f2:=@BY k;have f7:=@BU k;have f0:=@BZ k
 unfold wkB shB kq baB mN at *
 obtain ⟨Y,D⟩:∃Y,aM k=Y:=⟨_,rfl⟩
 rw [D] at f6 f9 fs f2 f7 f0 ⊢
 clear D h
 obtain ⟨sz,sh,ra,mo,B,ba,mi,st,bu,ch,wi,ca⟩:=k
 dsimp only [bZ] at *
 obtain ⟨L,hL⟩:∃L,sz.length=L:=⟨_,rfl⟩
 obtain ⟨sc,a0⟩:∃sc,cT sz=sc:=⟨_,rfl⟩
 rw [hL,a0] at Z
 rw [a0] at fs f2 f7 f0
 rw [hL] at ⊢
 obtain ⟨a5,F6,F9,Fs,F2,F7,F0⟩:=ai Z f6 f9 fs f2 f7 f0;clear Z f6 f9 fs f2 f7 f0 hL a0
 go_enter Tryz.func54,Tryz.ntmps54
 go_wp2_with fail
 have hz:=EN w (.cells #[.slice A L c,FQ sh,FQ ra,FQ mo,FQ B,FQ ba,FQ mi,FQ st,FQ bu,FQ ch,FQ wi,FQ ca] 24)
 have hB:=(EP _ w).alloc (EM _) (.cells #[.slice A L c,FQ sh,FQ ra,FQ mo,FQ B,FQ ba,FQ mi,FQ st,FQ bu,FQ ch,FQ wi,FQ ca] 24)
 obtain ⟨W0,a3⟩:∃W0,W0=w.alloc (.cells #[.slice A L c,FQ sh,FQ ra,FQ mo,FQ B,FQ ba,FQ mi,FQ st,FQ bu,FQ ch,FQ wi,FQ ca] 24):=⟨_,rfl⟩
 rw [←a3] at hz hB ⊢
 clear a3
 obtain ⟨⟨z0,z1,z2,z3,z4,z5,z6,z7,z8,z9,I,R⟩,zf⟩:=fx hz
 obtain ⟨y,HZ⟩:=ab hB hz;clear hB hz
 refine (jz B 1 64 _).mono ?_
 rintro e N ⟨rfl,rfl⟩
 obtain ⟨b1,v⟩:∃b1,btB B 1 64=b1:=⟨_,rfl⟩
 have V:=aa (show decide (1≤B∧B≤64)=b1 from v)
 rw [v]
 clear v
 rcases cQ b1 with rfl | rfl
 ·go_wp2_with fail
  go_ret
  exact ⟨aF (F6.out V.out).symm,y.out⟩
 go_wp2_with fail
 refine (jz sh 1 62 _).mono ?_
 rintro e N ⟨rfl,rfl⟩
 obtain ⟨b2,a1⟩:∃b2,btB sh 1 62=b2:=⟨_,rfl⟩
 have G2:=aa (show decide (1≤sh∧sh≤62)=b2 from a1)
 rw [a1]
 clear a1
 rcases cQ b2 with rfl | rfl
 ·go_wp2_with fail
  go_ret
  exact ⟨aF (F9.out V.out G2.out).symm,y.out⟩
 go_wp2_with fail
 refine (a5.out _ y.out).mono ?_
 rintro e N ⟨rfl,d,rfl⟩
 have v:=EW y.out d
 have O:(W0.drewN d).heap[w.heap.size]?=some (.cells #[.slice A L c,FQ sh,FQ ra,FQ mo,FQ B,FQ ba,FQ mi,FQ st,FQ bu,FQ ch,FQ wi,FQ ca] 24 (0,0)):=HZ.out
 generalize W0.drewN d=W1 at v O ⊢
 clear z0 z1 z2 z3 z4 z5 z6 z7 z8 z9 I R zf y HZ
 obtain ⟨⟨z0,z1,z2,z3,z4,z5,z6,z7,z8,z9,I,R⟩,zf⟩:=fx O
 obtain ⟨y,HZ⟩:=ab v O;clear v O
 by_cases h3:sc≠0
 ·have hq:(sc != 0)=true:=by rw [bne_iff_ne];exact h3
  have H3:=aa h3;clear h3
  go_wp2_with fail
  go_ret
  exact ⟨aF (Fs.out V.out G2.out H3.out).symm,y.out⟩
 obtain rfl:sc=0:=by omega
 clear h3
 have lz:w.heap.size<W1.heap.size:=EL HZ.out
 by_cases h4:st<0
 ·go_wp2_with fail
  go_ret
  exact ⟨aF (F2.out V.out G2.out trivial (by rw [FK (show ¬(0≤st∧st≤1048576) by omega),Bool.and_false])).symm,y.out.alloc y.out.size _⟩
 by_cases a8:1048576<st
 ·go_wp2_with fail
  go_ret
  exact ⟨aF (F2.out V.out G2.out trivial (by rw [FK (show ¬(0≤st∧st≤1048576) by omega),Bool.and_false])).symm,y.out.alloc y.out.size _⟩
 have GS:=aa (show decide (0≤st∧st≤1048576)=true by rw [FM];omega)
 have a4:=fk W1 (ar .i64 [mi,bu,ch,wi,ca,st+1]) 3 _ rfl
 have H:=(E0 W1 (.cells (ar .i64 [mi,bu,ch,wi,ca,st+1]).toArray 3) _ (EL HZ.out)).trans HZ.out
 obtain ⟨Q,a2⟩:=ab a4 H;clear a4 H
 go_wp2_with fail
 clear z0 z1 z2 z3 z4 z5 z6 z7 z8 z9 I R zf
 have C:=aa (y.out.alloc y.out.size (.cells (ar .i64 [mi,bu,ch,wi,ca,st+1]).toArray 3))
 obtain ⟨l,hl⟩:∃l:List Int,[mi,bu,ch,wi,ca,st+1]=l:=⟨_,rfl⟩
 have HL:=aa hl
 change Code.wp _ _ _ _ (W1.alloc (.cells (ar .i64 [mi,bu,ch,wi,ca,st+1]).toArray 3))
 rw [hl] at Q a2 C ⊢
 clear hl y HZ lz
 obtain ⟨p,hp⟩:∃p,W1.heap.size=p:=⟨_,rfl⟩
 rw [hp] at Q ⊢
 generalize W1.alloc (.cells (ar .i64 l).toArray 3)=W2 at Q a2 C ⊢
 clear hp
 go_loopw [5] (fun i wr=>∃k:Nat,k≤5∧i=FQ k∧Hid (∀j,j<k→okB (nth l j)=true)∧wr=W2) (fun i _=>5-(intOf i).toNat)
 case atStart=>exact ⟨0,EQ _,rfl,Lib.hid fun j hj=>by omega,rfl⟩
 case round=>
  obtain ⟨k,hk,rfl,U,rfl⟩:=hrel
  by_cases a6:k<5
  ·have T:k<l.length:=by rw [←HL.out];simp only [List.length_cons,List.length_nil];omega
   obtain ⟨b',o,e1,hc⟩:=Q.out.num T
   have a7:(k:Int)<5:=by omega
   injection e1 with e1;injection e1 with e1 e2 _;subst e1;subst e2
   obtain ⟨x,hx⟩:∃x,nth l k=x:=⟨_,rfl⟩
   rw [hx,FI] at hc
   have Hx:=aa hx;clear hx T
   go_wp2_with fail
   refine (jz x 1 1048576 _).mono ?_
   rintro e N ⟨rfl,rfl⟩
   obtain ⟨J,u⟩:∃J,btB x 1 1048576=J:=⟨_,rfl⟩
   have G3:=aa (show okB x=J from u)
   rw [u]
   clear u
   rcases cQ J with rfl | rfl
   ·go_wp2_with fail
    go_ret
    exact ⟨aF (F2.out V.out G2.out trivial (zu mi bu ch wi ca _ HL.out a6 (by rw [Hx.out];exact G3.out))).symm,C.out⟩
   go_wp2_with fail
   go_roundw
   case rel=>exact ⟨k+1,by omega,by go_num,Lib.hid (p:=∀j,j<k+1→okB (nth l j)=true) fun j hj=>by
    rcases Fa j k with h | h
    ·exact U.out j h
    ·obtain rfl:j=k:=by omega
     rw [Hx.out];exact G3.out,trivial⟩
   case measure=>simp [intOf];omega
  ·obtain rfl:k=5:=by omega
   have hn:=wZ mi bu ch wi ca _ (decide (0≤st∧st≤1048576)) HL.out U.out GS.out
   have Hn:=aa hn;clear hn
   have H:=a2.out
   obtain ⟨⟨z0,z1,z2,z3,z4,z5,z6,z7,z8,z9,I,R⟩,zf⟩:=fx H
   clear H
   go_wp2_with fail
   refine (jz ba B 1048576 _).mono ?_
   rintro e N ⟨rfl,rfl⟩
   obtain ⟨J,u⟩:∃J,btB ba B 1048576=J:=⟨_,rfl⟩
   have G3:=aa (show decide (B≤ba∧ba≤1048576)=J from u)
   rw [u]
   clear u
   rcases cQ J with rfl | rfl
   ·go_wp2_with fail
    go_ret
    exact ⟨aF (F7.out V.out G2.out trivial Hn.out G3.out).symm,C.out⟩
   go_wp2_with fail
   go_ret
   exact ⟨aF (F0.out V.out G2.out trivial Hn.out G3.out).symm,C.out⟩
theorem tO (n:Nat) (w:World) (hn:1≤n) (i:n≤1048576):Calls Tryz.prog 94 #[FQ n] w fun e h=>e=.returned (FQ ((n-1:Nat):Int))∧w=h:=by
 have o:(0:Int)≤(n:Int)-1:=by omega
 go_enter Tryz.func94,Tryz.ntmps94
 go_wp2
 all_goals
  go_ret
  exact ⟨aF (by omega),rfl⟩
theorem Dm {sn i t:Nat} (o:1≤i) (h:t*i<sn):t<(sn+i-1)/i:=by
 rw [Nat.lt_iff_add_one_le,Nat.le_div_iff_mul_le o,FG];omega
theorem Dl {sn i t:Nat} (o:1≤i) (h:t<(sn+i-1)/i):t*i<sn:=by
 rw [Nat.lt_iff_add_one_le,Nat.le_div_iff_mul_le o,FG] at h;omega
theorem rt (A:Option Addr) (c n:Nat) (k:Cfg) (w:World) (h:fI w A c k) (I:fL k) (hn:k.batch≤n∧(n:Int)≤1048576):
  Calls Tryz.prog 93 #[.agg (bZ A c k),FQ n] w fun e H=>e=.returned (FQ (epN n k.batch.toNat k.steps.toNat:Int))∧Below w.heap.size w H:=by
 have x:=fun H (q:Below w.heap.size w H)=>kj A c k H (h.below q)
 rw [dN.2 I] at x
 have g1:=I.w;have g2:=I.ba;have g3:=I.st
 clear h I
 obtain ⟨sz,sh,ra,mo,wk,ba,mi,st,bu,ch,wi,ca⟩:=k
 dsimp only [bZ] at *
 obtain ⟨bt,rfl⟩:∃bt:Nat,ba=bt:=⟨ba.toNat,by omega⟩
 obtain ⟨sn,rfl⟩:∃sn:Nat,st=sn:=⟨st.toNat,by omega⟩
 rw [Int.toNat_natCast,Int.toNat_natCast]
 obtain ⟨L,hL⟩:∃L,sz.length=L:=⟨_,rfl⟩
 rw [hL] at x ⊢
 obtain ⟨o,u⟩:∃o,n/bt=o:=⟨_,rfl⟩
 have v:1≤o:=by rw [←u];exact Nat.div_pos (by omega) (by omega)
 have T:o≤n:=by rw [←u];exact Nat.div_le_self _ _
 have hE:epN n bt sn=(sn+o-1)/o:=by unfold epN;rw [u,qL _ _ v]
 rw [hE]
 have R:(sn+o-1)/o≤sn+o-1:=Nat.div_le_self _ _
 have C:=fun t=>Dm (sn:=sn) (t:=t) v
 have y:=fun t=>Dl (sn:=sn) (t:=t) v
 obtain ⟨E,O⟩:∃E,(sn+o-1)/o=E:=⟨_,rfl⟩
 rw [O] at R C y ⊢
 have a2:(n:Int).tdiv (bt:Int)=(o:Int):=by rw [←u];rfl
 have a0:(n:Int)/(bt:Int)=(o:Int):=by rw [←u];rfl
 have a4:¬(bt=0):=by omega
 obtain ⟨Q,Z,Y⟩:=ae x C y
 have N:btB (n:Int) (bt:Int) 1048576=true:=by unfold btB;rw [FJ];omega
 have V:=aa N;clear x hL u hE O C y N
 go_enter Tryz.func93,Tryz.ntmps93
 go_wp2_with fail
 have U:=EN w (.cells #[.slice A L c,FQ sh,FQ ra,FQ mo,FQ wk,FQ bt,FQ mi,FQ sn,FQ bu,FQ ch,FQ wi,FQ ca] 24)
 have hB:=(EP _ w).alloc (EM _) (.cells #[.slice A L c,FQ sh,FQ ra,FQ mo,FQ wk,FQ bt,FQ mi,FQ sn,FQ bu,FQ ch,FQ wi,FQ ca] 24)
 refine (Q.out _ hB).mono ?_
 rintro e w1 ⟨rfl,B⟩
 have J:=(B.block _ (EL U)).trans U
 have HB:=aa (hB.trans (B.mono hB.size))
 obtain ⟨⟨z0,z1,z2,z3,z4,z5,z6,z7,z8,z9,a3,a5⟩,zf⟩:=fx J
 clear U hB B J
 go_wp2_with fail
 refine (jz n bt 1048576 _).mono ?_
 rintro e H ⟨rfl,rfl⟩
 rw [V.out]
 go_wp2_with fail
 go_loopw [5,6] (fun t i wr=>∃k m:Nat,k≤E∧t=FQ k∧i=FQ m∧Hid (m=k*o)∧m<sn+o∧wr=w1) (fun _ i _=>sn-(intOf i).toNat)
 case atStart=>exact ⟨0,0,EQ _,rfl,rfl,Lib.hid (by omega),by omega,rfl⟩
 case round=>
  obtain ⟨k,m,hk,rfl,rfl,Hm,hm,rfl⟩:=hrel
  by_cases D:m<sn
  ·have a1:(m:Int)<sn:=by omega
   go_wp2_with fail
   go_roundw
   case rel=>exact ⟨k+1,m+o,Z.out k (by rw [←Hm.out];exact D),by go_num,by go_num,Lib.hid (by rw [Hm.out,FG]),by omega,trivial⟩
   case measure=>simp [intOf];omega
  ·obtain rfl:k=E:=by
    rcases Fa k E with h | h
    ·exact absurd (Y.out k h) (by rw [←Hm.out];exact D)
    ·omega
   go_wp2_with fail
   go_ret
   exact ⟨rfl,HB.out⟩
theorem xp (A:Option Addr) (c n:Nat) (k:Cfg) (w:World) (h:fI w A c k) (x:fL k) (hn:k.batch≤n∧(n:Int)≤1048576):
  Calls Tryz.prog 58 #[.agg (bZ A c k),FQ n] w fun e v=>e=.returned (FQ (jj n k.batch.toNat k.steps.toNat:Int))∧Below w.heap.size w v:=by
 have i:=fun v (q:Below w.heap.size w v)=>rt A c n k v (h.below q) x hn
 have g1:=x.w;have V:=x.ba;have Z:=x.st
 have u:=fun v=>tO n v (by omega) (by omega)
 have o:=rQ (n:=n) (b:=k.batch.toNat) (st:=k.steps.toNat) (by omega) (by omega)
 unfold jj at o ⊢
 clear h x
 obtain ⟨sz,sh,ra,I,J,ba,mi,st,bu,ch,wi,ca⟩:=k
 dsimp only [bZ] at *
 obtain ⟨L,N⟩:∃L,sz.length=L:=⟨_,rfl⟩
 rw [N] at i ⊢
 obtain ⟨E,O⟩:∃E,epN n ba.toNat st.toNat=E:=⟨_,rfl⟩
 obtain ⟨m,hm⟩:∃m,n-1=m:=⟨_,rfl⟩
 rw [O] at i o ⊢
 rw [hm] at u o ⊢
 obtain ⟨y,H⟩:∃y,E*m=y:=⟨_,rfl⟩
 rw [H] at o ⊢
 have Q:(E:Int)*(m:Int)=(y:Int):=by rw [←H];push_cast;rfl
 obtain ⟨C,D⟩:=ab i u;clear i u N O hm H
 go_enter Tryz.func58,Tryz.ntmps58
 go_wp2_with fail
 have T:=EN w (.cells #[.slice A L c,FQ sh,FQ ra,FQ I,FQ J,FQ ba,FQ mi,FQ st,FQ bu,FQ ch,FQ wi,FQ ca] 24)
 have hB:=(EP _ w).alloc (EM _) (.cells #[.slice A L c,FQ sh,FQ ra,FQ I,FQ J,FQ ba,FQ mi,FQ st,FQ bu,FQ ch,FQ wi,FQ ca] 24)
 refine (C.out _ hB).mono ?_
 rintro e U ⟨rfl,B⟩
 have R:=aa (hB.trans (B.mono hB.size));clear T hB B
 go_wp2_with fail
 refine (D.out _).mono ?_
 rintro e Y ⟨rfl,rfl⟩
 go_wp2_with fail
 go_ret
 exact ⟨rfl,R.out⟩
theorem ry (a b c:Nat) (A:Option Addr) (l:List Ex) (w:World) (h:cZ rEx 2 w A l) (hl:l.length≤1048576):
  Calls Tryz.prog 56 #[.slice A l.length c,FQ a,FQ b] w (lH l a b w):=by
 unfold lH
 obtain ⟨n,hn⟩:∃n,l.length=n:=⟨_,rfl⟩
 rw [hn] at hl ⊢
 obtain ⟨H,V⟩:=ab h hn;clear h hn
 go_enter Tryz.func56,Tryz.ntmps56
 go_wp2_with fail
 go_loopw [8] (fun i wr=>∃k:Nat,k≤n∧i=FQ k∧Hid (∀j x,j<k→l[j]?=some x→dK a b x)∧wr=w) (fun i _=>n-(intOf i).toNat)
 case atStart=>exact ⟨0,EQ _,rfl,Lib.hid fun j x L=>by omega,rfl⟩
 case round=>
  obtain ⟨k,hk,rfl,u,rfl⟩:=hrel
  by_cases N:k<n
  ·obtain ⟨x,I⟩:∃x,l[k]?=some x:=⟨_,Fr (by rw [V.out];exact N)⟩
   obtain ⟨b',o,A1,c1,A2,c2,rfl,a0,p1,p2,r1,r2⟩:=iy H.out I
   have O:=aa I
   obtain ⟨C,v⟩:∃C,x.1.length=C:=⟨_,rfl⟩
   obtain ⟨D,B⟩:∃D,x.2.length=D:=⟨_,rfl⟩
   rw [v] at p1
   rw [B] at p2
   have J:dK a b x↔C=a∧D=b:=by unfold dK;rw [v,B]
   have R:=aa J
   have Y:(k:Int)<n:=by omega
   clear r1 r2 I v B J
   by_cases T:C≠a
   ·have hq:((C:Int) != (a:Int))=true:=by rw [bne_iff_ne];omega
    go_wp2_with fail
    go_ret2
    exact ⟨EP _ _,k,.inr ⟨fun h=>T (R.out.1 (h x (List.mem_of_getElem? O.out))).1,rfl⟩⟩
   have Z:((C:Int) != (a:Int))=false:=by rw [bne_eq_false_iff_eq];omega
   by_cases Q:D≠b
   ·have hq:((D:Int) != (b:Int))=true:=by rw [bne_iff_ne];omega
    have E2:=aa Q;clear T Q
    go_wp2_with fail
    go_ret2
    exact ⟨EP _ _,k,.inr ⟨fun h=>E2.out (R.out.1 (h x (List.mem_of_getElem? O.out))).2,rfl⟩⟩
   have a1:((D:Int) != (b:Int))=false:=by rw [bne_eq_false_iff_eq];omega
   have He:=aa (R.out.2 ⟨by omega,by omega⟩)
   clear T Q
   go_wp2_with fail
   go_roundw
   case rel=>exact ⟨k+1,by omega,by go_num,Lib.hid (p:=∀j x,j<k+1→l[j]?=some x→dK a b x) fun j y L U=>by
    rcases Fa j k with h | h
    ·exact u.out j y h U
    ·obtain rfl:j=k:=by omega
     have:=O.out;rw [U] at this;injection this with this;rw [this];exact He.out,trivial⟩
   case measure=>simp [intOf];omega
  ·obtain rfl:n=k:=by omega
   go_wp2_with fail
   go_ret2
   exact ⟨EP _ _,0,.inl ⟨fun x I=>by
    obtain ⟨j,L,e⟩:=List.mem_iff_getElem.1 I
    exact u.out j x (by rw [←V.out];exact L) (by rw [Fr L,e]),rfl⟩⟩
def Dy (q:Prop) (w:World) (e:Ending) (h:World):Prop:=(∃b:Bool,e=.returned (.bool b)∧(b=true→q))∧∃n,h=w.drewN n
theorem Bu {q:Prop} (h:q) (b:Bool) (w:World) (d:Nat):Dy q w (.returned (.bool b)) (w.drewN d):=⟨⟨b,rfl,fun _=>h⟩,d,rfl⟩
theorem we (q:Prop) (w:World) (d:Nat):Dy q w (.returned (.bool false)) (w.drewN d):=⟨⟨false,rfl,fun h=>by cases h⟩,d,rfl⟩
theorem zV (c:Nat) (A:Option Addr) (l:List Ex) (w:World) (h:cZ rEx 2 w A l) (hl:l.length≤17592186043904):
  Calls Tryz.prog 153 #[.slice A l.length c] w (Dy (l.length≤60) w):=by
 obtain ⟨n,hn⟩:∃n,l.length=n:=⟨_,rfl⟩
 rw [hn] at hl ⊢
 obtain ⟨H,Hn⟩:=ab h hn;clear h hn
 go_enter Tryz.func153,Tryz.ntmps153
 go_wp2_with fail
 go_loopw [3,4] (fun v i wr=>∃k:Nat,∃x:Int,k≤n∧i=FQ k∧v=FQ x∧∃d,wr=w.drewN d) (fun _ i _=>n-(intOf i).toNat)
 case atStart=>exact ⟨0,0,EQ _,rfl,rfl,0,rfl⟩
 case round=>
  obtain ⟨k,x,hk,rfl,rfl,d,rfl⟩:=hrel
  by_cases J:k<n
  ·have Y:(k:Int)<n:=by omega
   by_cases T:k<100
   ·have u:(k:Int)<100:=by omega
    obtain ⟨y,V⟩:∃y,l[k]?=some y:=⟨_,Fr (by rw [Hn.out];exact J)⟩
    obtain ⟨R,o,A1,c1,A2,c2,rfl,Z,U,Q,r1,r2⟩:=iy H.out V
    obtain ⟨L,D⟩:∃L,y.1.length=L:=⟨_,rfl⟩
    obtain ⟨N,I⟩:∃N,y.2.length=N:=⟨_,rfl⟩
    rw [D] at U
    rw [I] at Q
    clear r1 r2 V D I
    have q1:(w.drewN d).cell? ⟨R,o+k*2,none⟩=some (.slice A1 L c1):=U
    have q2:(w.drewN d).cell? ⟨R,o+k*2+1,none⟩=some (.slice A2 N c2):=Q
    generalize hW:w.drewN d=W at q1 q2 ⊢
    have HW:=aa hW;clear hW
    go_wp2_with fail
    go_region
    all_goals
     go_wp2_with fail
     go_roundw
     case rel=>exact ⟨k+1,_,by omega,by go_num,rfl,d+1,by rw [←HW.out];rfl⟩
     case measure=>simp [intOf];omega
   ·have u:¬((k:Int)<100):=by omega
    have B:¬((n:Int)≤60):=by omega
    have O:¬(n≤60):=by omega
    go_wp2_with fail
    all_goals
     go_ret
     exact we _ _ _
  ·obtain rfl:n=k:=by omega
   by_cases C:n≤60
   ·have B:(n:Int)≤60:=by omega
    have G:=aa C
    go_wp2_with fail
    all_goals
     go_ret
     exact Bu G.out _ _ _
   ·have B:¬((n:Int)≤60):=by omega
    go_wp2_with fail
    all_goals
     go_ret
     exact we _ _ _
theorem jO (A:Option Addr) (c:Nat) (D:Option Addr) (cd:Nat) (T:Option Addr) (ct:Nat) (R:Option Addr) (cr:Nat) (i:Inp) (w:World) (h:iC w A c D T ct R i):
  Calls Tryz.prog 18 #[.agg (aP A c D cd T ct R cr i)] w fun e v=>e=.returned (FQ (cF i))∧Below w.heap.size w v:=by
 have b5:=fun v (q:Below w.heap.size w v)=>kj A c i.cfg v (h.c.below q)
 have b7:=fun (hR:bE i.cfg.sizes) v (q:Below w.heap.size w v)=>jR A i.cfg.sizes i.cfg.sizes.length c v (h.c.hr.below q) hR (by have:=hR.1;omega) (EM _)
 have b4:=fun a b v (q:Below w.heap.size w v)=>ry a b cd D i.data v (h.d.below dH q) h.dl
 have H:=fun (hg:fL i.cfg) (hb:i.cfg.batch≤i.data.length∧(i.data.length:Int)≤1048576) v (q:Below w.heap.size w v)=>xp A c i.data.length i.cfg v (h.c.below q) hg hb
 have fc:=@DS i;have f7:=@DU i;have Z:=@DV i;have B:=@DT i;have C:=@DW i
 have bi:=@dN i.cfg
 have bA:=h.c.hr
 have co:=h.dl;have cw:=h.tl;have hrl:=h.rl
 unfold lH at b4
 unfold jo at f7 Z B C
 unfold iF DX inN ul cnt at Z B C
 unfold lv at B C
 obtain ⟨bb,ad⟩:∃bb,cF i=bb:=⟨_,rfl⟩
 rw [ad] at fc f7 Z B C ⊢
 clear ad h
 obtain ⟨⟨sz,sh,ra,O,U,ba,mi,st,bu,ch,wi,ca⟩,data,start,draws⟩:=i
 dsimp only [aP,bZ] at *
 obtain ⟨L,hL⟩:∃L,sz.length=L:=⟨_,rfl⟩
 obtain ⟨N,hN⟩:∃N,data.length=N:=⟨_,rfl⟩
 obtain ⟨M,hM⟩:∃M,start.length=M:=⟨_,rfl⟩
 obtain ⟨Q,hQ⟩:∃Q,draws.length=Q:=⟨_,rfl⟩
 obtain ⟨cc,c7⟩:∃cc,aM ⟨sz,sh,ra,O,U,ba,mi,st,bu,ch,wi,ca⟩=cc:=⟨_,rfl⟩
 rw [hL] at b5 b7 H Z B C ⊢
 rw [hN] at b4 H f7 Z B C co ⊢
 rw [hM] at Z B C cw ⊢
 rw [hQ] at B C hrl ⊢
 rw [c7] at b5 fc f7 Z B C bi
 obtain ⟨CN,bn⟩:∃CN,aZ sz (L-1)=CN:=⟨_,rfl⟩
 rw [bn] at b7 Z B C
 obtain ⟨ND,bG⟩:∃ND,jj N ba.toNat st.toNat=ND:=⟨_,rfl⟩
 rw [bG] at H B C
 obtain ⟨cv,cs,d2,cx,Fc,F7,F5,F8⟩:=aj b5 b7 b4 H fc f7 Z B;obtain ⟨F0,cn,bM,HL,d5⟩:=ag C bi bA hL bn;clear b5 b7 b4 H fc f7 Z B C bi bA hL hN hM hQ c7 bn bG
 go_enter Tryz.func18,Tryz.ntmps18
 go_wp2_with fail
 have hz:=(E0 (w.alloc (.cells #[.slice A L c,FQ sh,FQ ra,FQ O,FQ U,FQ ba,FQ mi,FQ st,FQ bu,FQ ch,FQ wi,FQ ca,.slice D N cd,.slice T M ct,.slice R Q cr] 29)) (.cells #[.slice A L c,FQ sh,FQ ra,FQ O,FQ U,FQ ba,FQ mi,FQ st,FQ bu,FQ ch,FQ wi,FQ ca] 24) w.heap.size (by simp)).trans (EN w _)
 have hy:=EN (w.alloc (.cells #[.slice A L c,FQ sh,FQ ra,FQ O,FQ U,FQ ba,FQ mi,FQ st,FQ bu,FQ ch,FQ wi,FQ ca,.slice D N cd,.slice T M ct,.slice R Q cr] 29)) (.cells #[.slice A L c,FQ sh,FQ ra,FQ O,FQ U,FQ ba,FQ mi,FQ st,FQ bu,FQ ch,FQ wi,FQ ca] 24)
 rw [show (w.alloc (.cells #[.slice A L c,FQ sh,FQ ra,FQ O,FQ U,FQ ba,FQ mi,FQ st,FQ bu,FQ ch,FQ wi,FQ ca,.slice D N cd,.slice T M ct,.slice R Q cr] 29)).heap.size=w.heap.size+1 by simp] at hy
 have hB:Below w.heap.size w ((w.alloc (.cells #[.slice A L c,FQ sh,FQ ra,FQ O,FQ U,FQ ba,FQ mi,FQ st,FQ bu,FQ ch,FQ wi,FQ ca,.slice D N cd,.slice T M ct,.slice R Q cr] 29)).alloc (.cells #[.slice A L c,FQ sh,FQ ra,FQ O,FQ U,FQ ba,FQ mi,FQ st,FQ bu,FQ ch,FQ wi,FQ ca] 24)):=((EP _ w).alloc (EM _) _).alloc (by simp) _
 obtain ⟨W0,bN⟩:∃W0,W0=(w.alloc (.cells #[.slice A L c,FQ sh,FQ ra,FQ O,FQ U,FQ ba,FQ mi,FQ st,FQ bu,FQ ch,FQ wi,FQ ca,.slice D N cd,.slice T M ct,.slice R Q cr] 29)).alloc (.cells #[.slice A L c,FQ sh,FQ ra,FQ O,FQ U,FQ ba,FQ mi,FQ st,FQ bu,FQ ch,FQ wi,FQ ca] 24):=⟨_,rfl⟩
 rw [←bN] at hz hy hB ⊢
 clear bN
 refine (cv.out _ hB).mono ?_
 rintro e w1 ⟨rfl,I⟩
 have b8:=(I.block _ (EL hz)).trans hz
 have b3:=(I.block _ (EL hy)).trans hy
 have HB:=aa (hB.trans (I.mono hB.size))
 obtain ⟨⟨z0,z1,z2,z3,z4,z5,z6,z7,z8,z9,a6,b2,J,a7,a3⟩,zf⟩:=hZ b8
 obtain ⟨⟨y0,y1,y2,y3,y4,y5,y6,y7,y8,y9,a0,a2⟩,yf⟩:=fx b3
 have lz:=EL b8;have ly:=EL b3
 obtain ⟨HZ,HY⟩:=ab b8 b3;clear hz hy hB I b8 b3
 by_cases h3:cc≠0
 ·have hq:(cc != 0)=true:=by rw [bne_iff_ne];exact h3
  have H3:=aa h3;clear h3
  go_wp2_with fail
  go_ret
  exact ⟨aF (Fc.out H3.out).symm,HB.out⟩
 obtain rfl:cc=0:=by omega
 clear h3
 have hg:=cn.out.1 rfl
 have g1:=hg.w;have g2:=hg.ba;have g3:=hg.st;have gz:=hg.z
 have HG:=aa hg
 dsimp only at g1 g2 g3 gz
 clear hg
 have bV:=gz.1.1
 rw [HL.out] at bV
 have s0:=gz.1.at (k:=0) (by have:=HL.out;omega)
 have s1:=gz.1.at (k:=L-1) (by have:=HL.out;omega)
 obtain ⟨bz,oz,rfl,p0⟩:=bM.out.num (show 0<sz.length by have:=HL.out;omega)
 obtain ⟨_,_,e',p1⟩:=bM.out.num (show L-1<sz.length by have:=HL.out;omega)
 injection e' with e';injection e' with e1 e2 _;subst e1;subst e2
 rw [s0.2.2,Nat.add_zero] at p0
 rw [s1.2.2] at p1
 obtain ⟨n0,bo⟩:∃n0,szN sz 0=n0:=⟨_,rfl⟩
 obtain ⟨n1,bl⟩:∃n1,szN sz (L-1)=n1:=⟨_,rfl⟩
 have Z:=F5.out;have B:=F8.out;have C:=F0.out
 rw [bo,bl] at Z B C
 rw [bo] at p0 s0
 rw [bl] at p1 s1
 obtain ⟨F5,F8,F0,d0⟩:=af Z B C gz
 have cf:bz<w.heap.size:=au p0
 obtain ⟨P0,P1⟩:=ab p0 p1;clear Z B C gz bo bl p0 p1 s0 s1
 obtain ⟨bt,rfl⟩:∃bt:Nat,ba=bt:=⟨ba.toNat,by omega⟩
 go_wp2_with fail
 refine (jz N bt 1048576 _).mono ?_
 rintro e v ⟨rfl,rfl⟩
 obtain ⟨b1,I⟩:∃b1,btB (N:Int) bt 1048576=b1:=⟨_,rfl⟩
 have G0:=aa (show decide ((bt:Int)≤N∧(N:Int)≤1048576)=b1 from I)
 rw [I]
 clear I
 rcases cQ b1 with rfl | rfl
 ·have d1:=of_decide_eq_false G0.out
  go_wp2_with fail
  go_ret
  exact ⟨aF (F7.out trivial (by rw [FL];omega)).symm,HB.out⟩
 have d1:=of_decide_eq_true G0.out
 have G1:=aa (show decide ((bt:Int)≤N∧N≤1048576)=true by rw [FM];omega)
 have p0:=(HB.out.cell (p:=⟨bz,oz,none⟩) cf).trans P0.out
 have p1:=(HB.out.cell (p:=⟨bz,oz+(L-1),none⟩) cf).trans P1.out
 have ci:IntKind.i64.wrap ((L:Int)-1)=((L-1:Nat):Int):=by rw [ER _ (by omega)];omega
 have d7:((L-1:Nat):Int)<L:=by omega
 have d6:L-1<L:=by omega
 have d4:0<L:=by omega
 have d3:(0:Int)<L:=by omega
 go_wp2_with fail
 have u:(fun v:World=>v.cell? ⟨w.heap.size,12,none⟩=some (.slice D N cd)∧v.cell? ⟨w.heap.size+1,0,none⟩=some (.slice (some ⟨bz,oz,none⟩) L c)∧v.cell? ⟨bz,oz,none⟩=some (FQ n0)∧v.cell? ⟨bz,oz+(L-1),none⟩=some (FQ n1)) w1.drew:=⟨J,y0,p0,p1⟩
 refine HA.g (fun v:World=>v.cell? ⟨w.heap.size,12,none⟩=some (.slice D N cd)∧v.cell? ⟨w.heap.size+1,0,none⟩=some (.slice (some ⟨bz,oz,none⟩) L c)∧v.cell? ⟨bz,oz,none⟩=some (FQ n0)∧v.cell? ⟨bz,oz+(L-1),none⟩=some (FQ n1)) ?_
 refine HA.t ?_ [0,1,2,3,4,5,6,7,8,9,10,11,12,13] u ?_
 refine HA.o 14 (fun K hK=>?_)
 go_simp
 refine (d2.out n0 n1 _ HB.out.drew).mono ?_
 rintro e w3 ⟨a4,d,hd⟩
 have bw:=EU (am a4 u.1) (EU (am a4 u.2.1) (EU (am a4 u.2.2.1) (am a4 u.2.2.2)))
 have Y:Below w1.heap.size w1 w3:=(EP w1.heap.size w1).drew.trans a4
 have a1:=(Y.block _ lz).trans HZ.out
 have a5:=(Y.block _ ly).trans HY.out
 obtain ⟨b0,c8,bI⟩:=ae (HB.out.trans (Y.mono HB.out.size)) a1 a5
 obtain ⟨b6,rfl,bh⟩:∃b6,e=.returned (.tuple #[FQ d,.bool b6])∧decide (∀x∈data,dK n0 n1 x)=b6:=by
  rcases hd with ⟨ha,rfl⟩ | ⟨ha,rfl⟩
  ·exact ⟨true,rfl,FJ ha⟩
  ·exact ⟨false,rfl,FK ha⟩
 have a8:=aa bh;clear a4 Y a1 a5 hd bh u
 dsimp only
 refine hK.out _ _ bw (fun u=>?_)
 clear hK K bw
 refine HA.t ?_ [15,16,17,18,19] u ?_
 refine HA.d ?_
 clear u z0 z1 z2 z3 z4 z5 z6 z7 z8 z9 a6 b2 J a7 a3 zf y0 y1 y2 y3 y4 y5 y6 y7 y8 y9 a0 a2 yf lz ly ci p0 p1
 have a1:=c8.out;have a5:=bI.out
 obtain ⟨⟨z0,z1,z2,z3,z4,z5,z6,z7,z8,z9,a6,b2,J,a7,a3⟩,zf⟩:=hZ a1
 obtain ⟨⟨y0,y1,y2,y3,y4,y5,y6,y7,y8,y9,a0,a2⟩,yf⟩:=fx a5
 have lz:=EL a1;have ly:=EL a5
 clear a1 a5
 rcases cQ b6 with rfl | rfl
 ·go_wp2_with fail
  go_quiet (fail)
  go_wp2_with fail
  go_ret
  exact ⟨aF (F5.out trivial G1.out (by rw [a8.out];rfl)).symm,EW b0.out _⟩
 have b9:=fun v (q:Below w3.heap.size w3 v)=>cs.out d0.out.1 v (b0.out.trans (q.mono b0.out.size))
 have bd:=aa b9;clear b9
 by_cases h5:M≠CN
 ·have hq:((M:Int) != (CN:Int))=true:=by rw [bne_iff_ne];omega
  have H5:=aa h5;clear h5
  go_wp2_with fail
  go_quiet ((go_at_call 57;refine Calls.quiet_of (bd.out _ ?_);exact ak))
  go_wp2_with fail
  go_ret
  exact ⟨aF (F5.out trivial G1.out (by rw [a8.out,FK H5.out];rfl)).symm,EW b0.out _⟩
 have hq:((M:Int) != (CN:Int))=false:=by rw [bne_eq_false_iff_eq];omega
 have G2:=aa (show (decide (∀x∈data,dK n0 n1 x)&&decide (M=CN))=true by rw [a8.out,FJ (show M=CN by omega)];rfl);clear h5
 go_wp2_with fail
 go_quiet ((go_at_call 57;refine Calls.quiet_of (bd.out _ ?_);exact ak))
 go_wp2_with fail
 obtain ⟨V,hV⟩:∃V,V=w3.drewN nq:=⟨_,rfl⟩
 have cb:Below w.heap.size w V:=by rw [hV];exact EW b0.out _
 have bv:V.heap[w.heap.size]?=some (.cells #[.slice (some ⟨bz,oz,none⟩) L c,FQ sh,FQ ra,FQ O,FQ U,FQ bt,FQ mi,FQ st,FQ bu,FQ ch,FQ wi,FQ ca,.slice D N cd,.slice T M ct,.slice R Q cr] 29 (0,0)):=by rw [hV];exact c8.out
 have c9:V.heap[w.heap.size+1]?=some (.cells #[.slice (some ⟨bz,oz,none⟩) L c,FQ sh,FQ ra,FQ O,FQ U,FQ bt,FQ mi,FQ st,FQ bu,FQ ch,FQ wi,FQ ca] 24 (0,0)):=by rw [hV];exact bI.out
 clear z0 z1 z2 z3 z4 z5 z6 z7 z8 z9 a6 b2 J a7 a3 zf y0 y1 y2 y3 y4 y5 y6 y7 y8 y9 a0 a2 yf
 rw [←hV]
 clear hV
 obtain ⟨⟨z0,z1,z2,z3,z4,z5,z6,z7,z8,z9,a6,b2,J,a7,a3⟩,zf⟩:=hZ bv
 obtain ⟨⟨y0,y1,y2,y3,y4,y5,y6,y7,y8,y9,a0,a2⟩,yf⟩:=fx c9
 have bs:=aa cb;clear cb bv c9
 have H:=cx.out HG.out (by omega) V.drew bs.out.drew
 have bO:=aa H;clear H
 have u:(fun v:World=>v.cell? ⟨w.heap.size,14,none⟩=some (.slice R Q cr)∧v.cell? ⟨w.heap.size,12,none⟩=some (.slice D N cd)∧v.cell? ⟨w.heap.size+1,0,none⟩=some (.slice (some ⟨bz,oz,none⟩) L c)∧v.cell? ⟨w.heap.size+1,1,none⟩=some (FQ sh)∧v.cell? ⟨w.heap.size+1,2,none⟩=some (FQ ra)∧v.cell? ⟨w.heap.size+1,3,none⟩=some (FQ O)∧v.cell? ⟨w.heap.size+1,4,none⟩=some (FQ U)∧v.cell? ⟨w.heap.size+1,5,none⟩=some (FQ bt)∧v.cell? ⟨w.heap.size+1,6,none⟩=some (FQ mi)∧v.cell? ⟨w.heap.size+1,7,none⟩=some (FQ st)∧v.cell? ⟨w.heap.size+1,8,none⟩=some (FQ bu)∧v.cell? ⟨w.heap.size+1,9,none⟩=some (FQ ch)∧v.cell? ⟨w.heap.size+1,10,none⟩=some (FQ wi)∧v.cell? ⟨w.heap.size+1,11,none⟩=some (FQ ca)) V.drew:=⟨a3,J,y0,y1,y2,y3,y4,y5,y6,y7,y8,y9,a0,a2⟩
 refine HA.g (fun v:World=>v.cell? ⟨w.heap.size,14,none⟩=some (.slice R Q cr)∧v.cell? ⟨w.heap.size,12,none⟩=some (.slice D N cd)∧v.cell? ⟨w.heap.size+1,0,none⟩=some (.slice (some ⟨bz,oz,none⟩) L c)∧v.cell? ⟨w.heap.size+1,1,none⟩=some (FQ sh)∧v.cell? ⟨w.heap.size+1,2,none⟩=some (FQ ra)∧v.cell? ⟨w.heap.size+1,3,none⟩=some (FQ O)∧v.cell? ⟨w.heap.size+1,4,none⟩=some (FQ U)∧v.cell? ⟨w.heap.size+1,5,none⟩=some (FQ bt)∧v.cell? ⟨w.heap.size+1,6,none⟩=some (FQ mi)∧v.cell? ⟨w.heap.size+1,7,none⟩=some (FQ st)∧v.cell? ⟨w.heap.size+1,8,none⟩=some (FQ bu)∧v.cell? ⟨w.heap.size+1,9,none⟩=some (FQ ch)∧v.cell? ⟨w.heap.size+1,10,none⟩=some (FQ wi)∧v.cell? ⟨w.heap.size+1,11,none⟩=some (FQ ca)) ?_
 refine HA.t ?_ [0,1,2,3,4,5,6] u ?_
 refine HA.o 7 (fun K hK=>?_)
 go_simp
 refine bO.out.mono ?_
 rintro e w4 ⟨rfl,y⟩
 have bX:=aa (bs.out.trans ((EP V.heap.size V).drew.trans y |>.mono bs.out.size))
 have c6:=EU (am y u.1) (EU (am y u.2.1) (EU (am y u.2.2.1) (EU (am y u.2.2.2.1) (EU (am y u.2.2.2.2.1) (EU (am y u.2.2.2.2.2.1) (EU (am y u.2.2.2.2.2.2.1) (EU (am y u.2.2.2.2.2.2.2.1) (EU (am y u.2.2.2.2.2.2.2.2.1) (EU (am y u.2.2.2.2.2.2.2.2.2.1) (EU (am y u.2.2.2.2.2.2.2.2.2.2.1) (EU (am y u.2.2.2.2.2.2.2.2.2.2.2.1) (EU (am y u.2.2.2.2.2.2.2.2.2.2.2.2.1) (am y u.2.2.2.2.2.2.2.2.2.2.2.2.2)))))))))))))
 clear y u
 dsimp only
 refine hK.out _ _ c6 (fun u=>?_)
 clear hK K c6
 refine HA.t ?_ [8] u ?_
 refine HA.d ?_
 clear u z0 z1 z2 z3 z4 z5 z6 z7 z8 z9 a6 b2 J a7 a3 zf y0 y1 y2 y3 y4 y5 y6 y7 y8 y9 a0 a2 yf
 by_cases h8:ND≤Q
 ·have cj:¬((Q:Int)<ND):=by omega
  have cq:decide ((Q:Int)<ND)=false:=by simp;omega
  have cl:decide (Q<ND)=false:=by simp;omega
  have G8:=aa (FJ h8)
  go_wp2_with fail
  go_ret
  exact ⟨aF (F0.out trivial G1.out G2.out G8.out).symm,bX.out⟩
 ·have cj:(Q:Int)<ND:=by omega
  have cq:decide ((Q:Int)<ND)=true:=by simp;omega
  have cl:decide (Q<ND)=true:=by simp;omega
  have G8:=aa (FK h8)
  go_wp2_with fail
  go_ret
  exact ⟨aF (F8.out trivial G1.out G2.out G8.out).symm,bX.out⟩
end Go.Proofs.YtgmajkppbhiopaaGreat
