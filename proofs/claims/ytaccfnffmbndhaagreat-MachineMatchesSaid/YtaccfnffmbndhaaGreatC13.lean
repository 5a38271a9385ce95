/- No condition. -/
import Derived.Test.YtaccfnffmbndhaaGreatC00
import Derived.Test.YtaccfnffmbndhaaGreatC12
import Derived.Test.YtaccfnffmbndhaaGreatC10
import Derived.Test.YtaccfnffmbndhaaGreatC09
import Derived.Test.YtaccfnffmbndhaaGreatC05
import Derived.Test.YtaccfnffmbndhaaGreatC08
import Derived.Deep.RegionHeld3
import Derived.Test.YtaccfnffmbndhaaGreatC02
set_option linter.unusedSimpArgs false
set_option linter.unusedVariables false
set_option maxRecDepth 100000
set_option maxHeartbeats 4000000
namespace Go.Proofs.YtaccfnffmbndhaaGreat
open Go.RowKit
def gw (i:Inp):Mst:=⟨i.start,List.replicate i.start.length 0,List.replicate i.start.length 0,[(i.start,List.replicate i.start.length 0)],0,0,[]⟩
theorem yU {T:TypeId} {B b:Nat} {w:World} {sz:List Int} (h:bY T (fB B w) b sz):bY T w.drew b sz:=(lK h (Agr.refl B w)).below ((br w).drew)
structure Jh (sz:List Int) (L wk bh mi sn bu ch wi ca n Q:Nat) (A:Option Addr) (c:Nat) (sh ra mo:Int) (D:Option Addr) (cd:Nat) (T:Option Addr) (ct:Nat) (R:Option Addr) (cr:Nat) (data:List Ex) (ps draws:List Int) (w:World):Prop where
 inp:∀N,N=data.length→∀w',Below w.heap.size w w'→Calls Tryz.prog 42 #[.agg #[.slice A L c,KL sh,KL ra,KL mo,KL (wk:Nat),KL (bh:Nat),KL (mi:Nat),KL (sn:Nat),KL (bu:Nat),KL (ch:Nat),KL (wi:Nat),KL (ca:Nat),.slice D N cd,.slice T n ct,.slice R Q cr]] w' fun e w''=>e=.returned (KL 0)∧Below w'.heap.size w' w''
 snew:∀w',Below w.heap.size w w'→Calls Tryz.prog 43 #[.slice A L c] w' fun e w''=>∃F,e=.returned (.tuple #[.pointer (some ⟨F,0,none⟩),KL 0])∧bY 186 (fB w.heap.size w'') F sz∧Below w'.heap.size w' w''
 samp:∀N,N=data.length→∀w',Below w.heap.size w w'→Calls Tryz.prog 44 #[KL (N:Nat),KL (bh:Nat),KL (sn:Nat),.slice R Q cr] w' fun e w''=>∃S,e=.returned (.tuple #[.pointer (some ⟨S,0,none⟩),KL 0])∧eN (fB w.heap.size w'') S data.length bh sn draws∧Below w'.heap.size w' w''
 cnt:∀F w',bY 186 w' F sz→Calls Tryz.prog 46 #[.pointer (some ⟨F,0,none⟩)] w' fun e w''=>e=.returned (KL (n:Nat))∧w'=w''
 chk:∀w',Below w.heap.size w w'→Calls Tryz.prog 88 #[.agg #[.slice A L c,KL sh,KL ra,KL mo,KL (wk:Nat),KL (bh:Nat),KL (mi:Nat),KL (sn:Nat),KL (bu:Nat),KL (ch:Nat),KL (wi:Nat),KL (ca:Nat)]] w' fun e w''=>e=.returned (KL 0)∧Below w'.heap.size w' w''
 dat:cE rEx 2 w D data
 dl:data.length≤1048576
 st:Rd w T (aq .i64 ps)
 sl:ps.length=n
def Win (i:Nat) (j:World) (ms:List Nat) (Q:World→Prop):Prop:=∃lo u,i≤lo∧Q (fB lo u)∧Below u.heap.size u j∧∀k∈ms,k<lo∨u.heap.size≤k
theorem ms5 {a b c d e lo i:Nat} (h1:a<lo∨i≤a) (o:b<lo∨i≤b) (u:c<lo∨i≤c) (p:d<lo∨i≤d) (q:e<lo∨i≤e):∀k∈[a,b,c,d,e],k<lo∨i≤k:=by
 intro k j
 simp only [List.mem_cons,List.not_mem_nil,or_false] at j
 rcases j with rfl | rfl | rfl | rfl | rfl<;>assumption
structure Jg (sz:List Int) (x L wk bh mi sn bu ch wi ca N n:Nat) (A:Option Addr) (c:Nat) (sh ra mo:Int) (data:List Ex) (ps draws:List Int) (its:List Itm) (w w':World) (b:Nat) (a:MAd):Prop where
 blk:w'.heap[b]?=some (.cells #[KL (x:Nat),KL (wk:Nat),KL (mi:Nat),.pointer (some ⟨a.F,0,none⟩),.slice a.E N a.ce,.pointer (some ⟨a.S,0,none⟩),.pointer (some ⟨a.PP,0,none⟩),.slice a.BA (Pln.buks ⟨wk,mi,bu,ch,wi,n⟩).length a.bc,KL ra,KL mo,KL sh,.slice (some ⟨a.bp,0,none⟩) n a.cp,.slice (some ⟨a.bm,0,none⟩) n a.cm,.slice (some ⟨a.bg,0,none⟩) n a.cg,.slice (some ⟨a.rb,0,none⟩) 1 a.rc,.slice a.IA its.length a.ic,KL 0,KL 0,KN] 130 (0,0))
 fo:Win w.heap.size w' [b,a.bp,a.bm,a.bg,a.rb] fun V=>bY 186 V a.F sz
 sa:Win w.heap.size w' [b,a.bp,a.bm,a.bg,a.rb] fun V=>eN V a.S data.length bh sn draws
 pl:Win w.heap.size w' [b,a.bp,a.bm,a.bg,a.rb] fun V=>et V a.PP ⟨wk,mi,bu,ch,wi,n⟩ (.slice A L c) (KL sh) (KL ra) (KL mo) (KL (bh:Nat)) (KL (sn:Nat)) (KL (ca:Nat))
 ex:Win w.heap.size w' [b,a.bp,a.bm,a.bg,a.rb] fun V=>cE rEx 2 V a.E data
 bu:Win w.heap.size w' [b,a.bp,a.bm,a.bg,a.rb] fun V=>Rd V a.BA (aF (Pln.buks ⟨wk,mi,bu,ch,wi,n⟩))
 it:Win w.heap.size w' [b,a.bp,a.bm,a.bg,a.rb] fun V=>Rd V a.IA (bH its)
 re:∃A1 c1 A2 c2,n≤c1∧n≤c2∧w'.heap[a.rb]?=some (.cells #[.slice A1 n c1,.slice A2 n c2] 68 (0,0))∧(Win w.heap.size w' [b,a.bp,a.bm,a.bg,a.rb] fun V=>Rd V A1 (aq .i64 ps))∧(Win w.heap.size w' [b,a.bp,a.bm,a.bg,a.rb] fun V=>Rd V A2 (aq .i64 (List.replicate n 0)))
 oP:w'.ownsRow 0 2 1 (.slice (some ⟨a.bp,0,none⟩) n a.cp) n (aq .i64 ps)
 oM:w'.ownsRow 0 2 1 (.slice (some ⟨a.bm,0,none⟩) n a.cm) n (aq .i64 (List.replicate n 0))
 oG:w'.ownsRow 0 2 1 (.slice (some ⟨a.bg,0,none⟩) n a.cg) n (aq .i64 (List.replicate n 0))
 lo:w.heap.size≤b∧w.heap.size≤a.bp∧w.heap.size≤a.bm∧w.heap.size≤a.bg∧w.heap.size≤a.rb
 dj:a.bp≠a.bm∧a.bp≠a.bg∧a.bm≠a.bg
 ov:a.ov=KN
 rc:a.rc=1
 k:Below w.heap.size w w'
theorem BW (sz:List Int) (x L B bh mi sn bu ch wi ca N n Q:Nat) (A:Option Addr) (c:Nat) (sh ra J:Int) (D:Option Addr) (cd:Nat) (T:Option Addr) (ct:Nat) (R:Option Addr) (cr:Nat) (data:List Ex) (ps draws:List Int) (w:World) (a6:Ending→World→Prop)
  (h:Jh sz L B bh mi sn bu ch wi ca n Q A c sh ra J D cd T ct R cr data ps draws w) (hN:N=data.length) (hx:x<B) (hp:cN ⟨B,mi,bu,ch,wi,n⟩) (hn:1≤n) (cc:bu≤1048576) (c8:wi≤1048576) (I:List Itm)
  (a5:∀P u,et u P ⟨B,mi,bu,ch,wi,n⟩ (.slice A L c) (KL sh) (KL ra) (KL J) (KL (bh:Nat)) (KL (sn:Nat)) (KL (ca:Nat))→Calls Tryz.prog 51 #[.pointer (some ⟨P,0,none⟩),KL (x:Nat),KL 0] u fun e bi=>∃v,e=.returned v∧bi.ownsRow u.heap.size 56 12 v I.length (bH I)∧Below u.heap.size u bi)
  (a4:∀u b a,Jg sz x L B bh mi sn bu ch wi ca N n A c sh ra J data ps draws I w u b a→a6 (.returned (.tuple #[.pointer (some ⟨b,0,none⟩),KL 0])) u):Calls Tryz.prog 12 #[.agg #[.slice A L c,KL sh,KL ra,KL J,KL (B:Nat),KL (bh:Nat),KL (mi:Nat),KL (sn:Nat),KL (bu:Nat),KL (ch:Nat),KL (wi:Nat),KL (ca:Nat),.slice D N cd,.slice T n ct,.slice R Q cr],KL (x:Nat)] w a6:=by
 obtain ⟨W0,hW0⟩:∃W0,w.alloc (.cells #[.slice A L c,KL sh,KL ra,KL J,KL (B:Nat),KL (bh:Nat),KL (mi:Nat),KL (sn:Nat),KL (bu:Nat),KL (ch:Nat),KL (wi:Nat),KL (ca:Nat),.slice D N cd,.slice T n ct,.slice R Q cr] 29)=W0:=⟨_,rfl⟩
 have g0:W0.heap[w.heap.size]?=some (.cells #[.slice A L c,KL sh,KL ra,KL J,KL (B:Nat),KL (bh:Nat),KL (mi:Nat),KL (sn:Nat),KL (bu:Nat),KL (ch:Nat),KL (wi:Nat),KL (ca:Nat),.slice D N cd,.slice T n ct,.slice R Q cr] 29 (0,0)):=by rw [←hW0];exact JE w _
 have ao:Below w.heap.size w W0:=by rw [←hW0];exact (br w).alloc (JD _) _
 have bo:=h.inp N hN W0 ao
 have cy:¬((B:Int)≤x):=by omega
 have aP:=hp.n
 dsimp only at aP
 have t0:=fun u q=>jM (sb g0 u q)
 obtain ⟨cf,b9,bN,Hh,HN,bf,b4,Hl⟩:=ak hW0 ao bo h hN a4 a5 h.sl;have cl:n≤1048576:=by omega
 have q0:=br W0
 clear hW0 g0 ao bo h hN a4 a5
 go_enter Tryz.func12,Tryz.ntmps12
 go_wp2_with fail
 rw [cf.out]
 refine bN.out.mono ?_
 rintro e w1 ⟨rfl,k1⟩
 have q1:=bt q0 k1
 obtain ⟨W2,a1⟩:∃W2,w1.alloc (.cells #[.slice A L c,KL sh,KL ra,KL J,KL (B:Nat),KL (bh:Nat),KL (mi:Nat),KL (sn:Nat),KL (bu:Nat),KL (ch:Nat),KL (wi:Nat),KL (ca:Nat)] 24)=W2:=⟨_,rfl⟩
 have g2:W2.heap[w1.heap.size]?=some (.cells #[.slice A L c,KL sh,KL ra,KL J,KL (B:Nat),KL (bh:Nat),KL (mi:Nat),KL (sn:Nat),KL (bu:Nat),KL (ch:Nat),KL (wi:Nat),KL (ca:Nat)] 24 (0,0)):=by rw [←a1];exact JE w1 _
 have k2:Below w1.heap.size w1 W2:=by rw [←a1];exact (br w1).alloc (JD _) _
 have q2:=bt q1 k2
 have t2:=fun u q=>jN (sb g2 u q)
 have u2:=fun u (q:Below W2.heap.size W2 u)=>t0 u (bt q2 q)
 obtain ⟨bz,Q2⟩:=ae a1 (b9.out.trans (q2.mono b9.out.size));clear a1 g2 k1 k2
 go_wp2_with fail
 rw [bz.out]
 have ci:=br W2
 clear q0 q1 q2 t0
 refine (Hh.out.snew _ Q2.out).mono ?_
 rintro e w3 ⟨F,rfl,hF,k3⟩
 have q3:=bt ci k3
 obtain ⟨Q3,HF⟩:=ae (Q2.out.trans (k3.mono Q2.out.size)) hF;clear hF k3
 go_wp2_with fail
 refine (Hh.out.samp N HN.out _ Q3.out).mono ?_
 rintro e Y ⟨S,rfl,hS,k4⟩
 have q4:=bt q3 k4
 obtain ⟨Q4,HS,K4⟩:=af (Q3.out.trans (k4.mono Q3.out.size)) hS k4
 have b2:=HF.out.below (AG k4)
 have ad:=aa b2;clear hS k4 b2
 go_wp2_with fail
 refine HA.g (fun u:World=>Below W2.heap.size W2 u) ?_
 refine HA.t ?_ [0,1] q4.drew ?_
 refine HA.c 2 (Hh.out.cnt F _ (yU ad.out)) ?_
 rintro e w5 ⟨rfl,rfl⟩
 refine ⟨_,rfl,q4.drew,fun _=>?_⟩
 have aG:=Bs ⟨B,mi,bu,ch,wi,n⟩ (.slice A L c) (KL sh) (KL ra) (KL J) (KL (bh:Nat)) (KL (sn:Nat)) (KL (ca:Nat)) Y.drew hp hn cc c8 (fun u q=>Hh.out.chk u (Q4.out.drew.trans (q.mono Q4.out.size)))
 dsimp only at aG
 refine HA.c 3 aG ?_
 rintro e w6 ⟨PP,rfl,cx,b1,k6⟩
 have q6:=bt q4.drew k6
 refine ⟨_,rfl,q6,fun _=>?_⟩
 refine HA.t ?_ [4,5,6,7,8] q6 ?_
 refine HA.d ?_
 try simp only [Exit.then]
 have K6:=aa (show Below Y.heap.size Y w6 from (br Y).drew.trans k6);obtain ⟨Q6,ab⟩:=ae (Q4.out.trans (K6.out.mono Q4.out.size)) b1;clear aG b1 k6 q4 q3
 have b6:=xz T n ct ps w6 (Hh.out.st.below Q6.out) Hh.out.sl (by omega)
 have bv:=aa b6;clear b6
 go_wp2_with fail
 refine bv.out.mono ?_
 rintro e w7 ⟨Ap,cp,Am,cm,rfl,co,bV,oP,oM,bn,k7⟩
 obtain ⟨bp,cO,e1,bs,aR⟩:=oP.form (by omega)
 obtain ⟨bm,cs,e2,bd,b8⟩:=oM.form (by omega)
 injection e1 with e1 _ e1c
 injection e2 with e2 _ e2c
 subst e1;subst e2;subst e1c;subst e2c
 obtain ⟨W8,a2⟩:∃W8,w7.alloc (.cells #[.slice (some ⟨bp,0,none⟩) n cp,.slice (some ⟨bm,0,none⟩) n cm] 68)=W8:=⟨_,rfl⟩
 have g8:W8.heap[w7.heap.size]?=some (.cells #[.slice (some ⟨bp,0,none⟩) n cp,.slice (some ⟨bm,0,none⟩) n cm] 68 (0,0)):=by rw [←a2];exact JE w7 _
 have k8:Below w7.heap.size w7 W8:=by rw [←a2];exact (br w7).alloc (JD _) _
 have a3:=bt k7 k8
 have q8:=bt q6 a3
 have t8:=fun u q=>bx2 (sb g8 u q)
 have v8:=fun u (q:Below W8.heap.size W8 u)=>u2 u (bt q8 q)
 have x8:=fun u (q:Below W8.heap.size W8 u)=>t2 u (bt q8 q)
 have aM:bp≠bm:=fun e=>bn bp rfl (by rw [e];rfl)
 obtain ⟨bM,Q8,K8,OP,OM,bU⟩:=ai a2 (Q6.out.trans (a3.mono Q6.out.size)) a3 (ap oP k8) (ap oM k8) aM
 have b5:=br W8
 have p1:w6.heap.size≤bp:=bs
 have p2:bp<W8.heap.size:=JK aR k8.size
 have p3:w6.heap.size≤bm:=bd
 have p4:bm<W8.heap.size:=JK b8 k8.size
 clear a2 g8 k7 k8 a3 oP oM bn q6 q8 u2 t2 co bV aM
 go_wp2_with fail
 rw [bM.out]
 refine HA.g (fun u:World=>Below W8.heap.size W8 u) ?_
 refine HA.t ?_ [0,1,2,3,4,5,6,7,9,10,11,13,14,15,16,17,18,19,21,22,25,28,29] b5.drew ?_
 have bX:cE rEx 2 W8.drew D data:=Hh.out.dat.below cY (Q8.out.drew)
 have b0:=wO D data cd W8.drew bX Hh.out.dl
 rw [←HN.out] at b0
 refine HA.c 8 b0 ?_
 rintro e w9 ⟨E,ce,rfl,hE,k9⟩
 have q9:=bt b5.drew k9
 refine ⟨_,rfl,q9,fun _=>?_⟩
 have bl:et w9 PP ⟨B,mi,bu,ch,wi,n⟩ (.slice A L c) (KL sh) (KL ra) (KL J) (KL (bh:Nat)) (KL (sn:Nat)) (KL (ca:Nat)):=(ab.out.agr (Agr.refl _ w6)).below (bt K8.out q9)
 refine HA.c 12 (D6 _ PP _ _ _ _ _ _ _ w9 hp bl) ?_
 rintro e x0 ⟨v10,rfl,a7,Z⟩
 have q0:=bt q9 Z
 obtain ⟨BA,bc,rfl,_⟩:=aw a7
 refine ⟨_,rfl,q0,fun _=>?_⟩
 have b7:bY 186 x0 F sz:=(lK ad.out (Agr.refl _ Y)).below (bt (bt (bt K6.out K8.out) q9) Z)
 refine HA.t ?_ [20] q0 ?_
 refine HA.c 23 (Hh.out.cnt F x0 b7) ?_
 rintro e cw ⟨rfl,rfl⟩
 refine ⟨_,rfl,q0,fun _=>?_⟩
 have cb:w.heap.size≤Y.heap.size:=Q4.out.size
 have cv:Y.heap.size≤w6.heap.size:=K6.out.size
 have d0:w6.heap.size≤W8.heap.size:=K8.out.size
 have cA:W8.heap.size≤w9.heap.size:=k9.size
 have c7:w9.heap.size≤x0.heap.size:=Z.size
 -- BRANCHES
 obtain ⟨x9,av⟩:∃x9,x9=x0:=⟨_,rfl⟩
 have y:Below x9.heap.size x9 x0:=by rw [av];exact br _
 rw [←av] at a7 Z c7
 clear av
 have q:=q0
 clear q0
 obtain ⟨U,rfl⟩:∃U,U=x0:=⟨_,rfl⟩
 repeat' first
  | (refine HA.three 24 27 30 ?_ ?_ ?_)
  | (refine HA.two 24 26 ?_ ?_)
  | (refine HA.two 27 30 ?_ ?_)
  | (refine HA.two 24 30 ?_ ?_)
  | (refine HA.two 24 27 ?_ ?_)
  | (refine HA.sole 24 ?_)
  | (refine HA.sole 26 ?_)
  | (refine HA.sole 27 ?_)
  | (refine HA.sole 30 ?_)
  | (obtain ⟨V,be,gG,j⟩:=j8 kD U rfl n (by omega) (by unfold maxLen;omega);refine HAS.v (i:=24) V (.slice (some ⟨U.heap.size,0,none⟩) n n) (bt q j) ?_;clear be;rw [dS] at gG;(try have:=o.size);(try have:=p.size);(try have:=JC C);(try have:G<U.heap.size:=(fG oG _ rfl).2);have:=y.size;(try replace oG:=ap oG j);(try replace C:=sb C _ j);(try replace o:=bt o j);(try replace p:=bt p j);replace y:=bt y j;replace q:=bt q j;have oG:=gG;have tG:U.heap.size<V.heap.size:=(fG oG _ rfl).2;obtain ⟨G,hG⟩:∃G,U.heap.size=G:=⟨_,rfl⟩;rw [hG] at oG ⊢;clear gG j;obtain ⟨U,rfl⟩:∃U,U=V:=⟨_,rfl⟩)
  | (refine HAS.c (i:=26) (jt (some ⟨bp,0,none⟩) (some ⟨bm,0,none⟩) n cp cm ps (List.replicate n 0) U (Rd.own (ap OP.out q)) (Rd.own (ap OM.out q)) Hl.out (Km ..) cl) ?_;rintro e V ⟨A1,c1,A2,c2,rfl,bw,bG,o1,o2,_,j⟩;(try have:=o.size);(try have:=p.size);(try have:=JC C);(try have:G<U.heap.size:=(fG oG _ rfl).2);have:=y.size;(try replace oG:=ap oG j);(try replace C:=sb C _ j);(try replace o:=bt o j);(try replace p:=bt p j);replace y:=bt y j;replace q:=bt q j;refine ⟨_,rfl,q,fun _=>?_⟩;obtain ⟨a0,c6⟩:∃s,U.heap.size=s:=⟨_,rfl⟩;rw [c6] at o1 o2;have bO:=j.size;obtain ⟨H,hw⟩:∃H,H=V:=⟨_,rfl⟩;have o:Below H.heap.size H V:=(by rw [hw];exact br _);rw [←hw] at o1 o2 bO;clear hw j;obtain ⟨U,rfl⟩:∃U,U=V:=⟨_,rfl⟩)
  | (have j:=(br U).alloc (JD _) (.cells #[.slice A1 n c1,.slice A2 n c2] 68);have nR:=JE U (.cells #[.slice A1 n c1,.slice A2 n c2] 68);refine HAS.v (i:=27) (U.alloc (.cells #[.slice A1 n c1,.slice A2 n c2] 68)) (.slice (some ⟨U.heap.size,0,none⟩) 1 1) (bt q j) ?_;obtain ⟨V,hv⟩:∃V,U.alloc (.cells #[.slice A1 n c1,.slice A2 n c2] 68)=V:=⟨_,rfl⟩;rw [hv] at nR j ⊢;clear hv;(try have:=o.size);(try have:=p.size);(try have:=JC C);(try have:G<U.heap.size:=(fG oG _ rfl).2);have:=y.size;(try replace oG:=ap oG j);(try replace C:=sb C _ j);(try replace o:=bt o j);(try replace p:=bt p j);replace y:=bt y j;replace q:=bt q j;have C:=nR;have tR:=JC C;obtain ⟨X,hR⟩:∃r,U.heap.size=r:=⟨_,rfl⟩;rw [hR] at C ⊢;clear nR j;obtain ⟨U,rfl⟩:∃U,U=V:=⟨_,rfl⟩)
  | (refine HAS.c (i:=30) (b4.out PP U ((ab.out.agr (Agr.refl _ w6)).below (bt K8.out q))) ?_;rintro e V ⟨v,rfl,oS,j⟩;obtain ⟨IA,ic,rfl,_⟩:=aw oS;(try have:=o.size);(try have:=p.size);(try have:=JC C);(try have:G<U.heap.size:=(fG oG _ rfl).2);have:=y.size;(try replace oG:=ap oG j);(try replace C:=sb C _ j);(try replace o:=bt o j);(try replace p:=bt p j);replace y:=bt y j;replace q:=bt q j;refine ⟨_,rfl,q,fun _=>?_⟩;obtain ⟨a8,cj⟩:∃s,U.heap.size=s:=⟨_,rfl⟩;rw [cj] at oS;have bA:=j.size;obtain ⟨O,hw⟩:∃O,O=V:=⟨_,rfl⟩;have p:Below O.heap.size O V:=(by rw [hw];exact br _);rw [←hw] at oS bA;clear hw j;obtain ⟨U,rfl⟩:∃U,U=V:=⟨_,rfl⟩)
  | (refine HA.t ?_ [31] q ?_)
  | fail
 all_goals
  have gB:=JE U (Obj.cells #[KL (x:Nat),KL (B:Nat),KL (mi:Nat),.pointer (some ⟨F,0,none⟩),.slice E N ce,.pointer (some ⟨S,0,none⟩),.pointer (some ⟨PP,0,none⟩),.slice BA (Pln.buks ⟨B,mi,bu,ch,wi,n⟩).length bc,KL ra,KL J,KL sh,.slice (some ⟨bp,0,none⟩) n cp,.slice (some ⟨bm,0,none⟩) n cm,.slice (some ⟨G,0,none⟩) n n,.slice (some ⟨X,0,none⟩) 1 1,.slice IA I.length ic,KL 0,KL 0,KN] 130)
  have j:=(br U).alloc (JD _) (Obj.cells #[KL (x:Nat),KL (B:Nat),KL (mi:Nat),.pointer (some ⟨F,0,none⟩),.slice E N ce,.pointer (some ⟨S,0,none⟩),.pointer (some ⟨PP,0,none⟩),.slice BA (Pln.buks ⟨B,mi,bu,ch,wi,n⟩).length bc,KL ra,KL J,KL sh,.slice (some ⟨bp,0,none⟩) n cp,.slice (some ⟨bm,0,none⟩) n cm,.slice (some ⟨G,0,none⟩) n n,.slice (some ⟨X,0,none⟩) 1 1,.slice IA I.length ic,KL 0,KL 0,KN] 130)
  refine HA.v 32 (U.alloc (Obj.cells #[KL (x:Nat),KL (B:Nat),KL (mi:Nat),.pointer (some ⟨F,0,none⟩),.slice E N ce,.pointer (some ⟨S,0,none⟩),.pointer (some ⟨PP,0,none⟩),.slice BA (Pln.buks ⟨B,mi,bu,ch,wi,n⟩).length bc,KL ra,KL J,KL sh,.slice (some ⟨bp,0,none⟩) n cp,.slice (some ⟨bm,0,none⟩) n cm,.slice (some ⟨G,0,none⟩) n n,.slice (some ⟨X,0,none⟩) 1 1,.slice IA I.length ic,KL 0,KL 0,KN] 130)) (.pointer (some ⟨U.heap.size,0,none⟩)) (bt q j) ?_
  obtain ⟨V,hv⟩:∃V,U.alloc (Obj.cells #[KL (x:Nat),KL (B:Nat),KL (mi:Nat),.pointer (some ⟨F,0,none⟩),.slice E N ce,.pointer (some ⟨S,0,none⟩),.pointer (some ⟨PP,0,none⟩),.slice BA (Pln.buks ⟨B,mi,bu,ch,wi,n⟩).length bc,KL ra,KL J,KL sh,.slice (some ⟨bp,0,none⟩) n cp,.slice (some ⟨bm,0,none⟩) n cm,.slice (some ⟨G,0,none⟩) n n,.slice (some ⟨X,0,none⟩) 1 1,.slice IA I.length ic,KL 0,KL 0,KN] 130)=V:=⟨_,rfl⟩
  rw [hv] at gB j ⊢
  clear hv
  refine HA.t ?_ [33] (bt q j) ?_
  refine HA.d ?_
  try simp only [Exit.then]
  (try have:=o.size);(try have:=p.size);(try have:=JC C);(try have:G<U.heap.size:=(fG oG _ rfl).2);have:=y.size
  obtain ⟨bb,hb⟩:∃b,U.heap.size=b:=⟨_,rfl⟩
  rw [hb] at gB ⊢
  have z8:=bt q j;have z6:=bt K8.out z8;have zz:=bt K6.out z6;have z0:=bt y j;have z9:=bt Z z0;have b3:=bt o j;have c9:=bt p j
  have mF:∀k∈[bb,bp,bm,G,X],k<w.heap.size∨Y.heap.size≤k:=by apply ms5<;>omega
  have mP:∀k∈[bb,bp,bm,G,X],k<Y.heap.size∨w6.heap.size≤k:=by apply ms5<;>omega
  have mE:∀k∈[bb,bp,bm,G,X],k<W8.heap.size∨w9.heap.size≤k:=by apply ms5<;>omega
  have mB:∀k∈[bb,bp,bm,G,X],k<w9.heap.size∨x9.heap.size≤k:=by apply ms5<;>omega
  have mI:∀k∈[bb,bp,bm,G,X],k<a8∨O.heap.size≤k:=by apply ms5<;>omega
  have mS:∀k∈[bb,bp,bm,G,X],k<a0∨H.heap.size≤k:=by apply ms5<;>omega
  have lS:w.heap.size≤a0∧w.heap.size≤a8∧w.heap.size≤W8.heap.size∧w.heap.size≤w9.heap.size:=by omega
  have l1:w.heap.size≤bb∧w.heap.size≤bp∧w.heap.size≤bm∧w.heap.size≤G∧w.heap.size≤X:=by omega
  have l6:bp≠G∧bm≠G:=by omega
  have bI:=bf.out V bb ⟨F,E,ce,S,PP,BA,bc,bp,cp,bm,cm,G,n,X,1,IA,ic,KN⟩ ⟨gB,⟨_,Y,JD _,ad.out,zz,mF⟩,⟨_,Y,JD _,HS.out,zz,mF⟩,⟨_,w6,cb,ab.out,z6,mP⟩,⟨W8.heap.size,w9,lS.2.2.1,hE,z9,mE⟩,⟨w9.heap.size,x9,lS.2.2.2,Rd.own (eO a7 (JD _)),z0,mB⟩,⟨a8,O,lS.2.1,Rd.own (eO oS (JD _)),c9,mI⟩,⟨A1,c1,A2,c2,bw,bG,sb C _ j,⟨a0,H,lS.1,Rd.own (eO o1 (JD _)),b3,mS⟩,⟨a0,H,lS.1,Rd.own (eO o2 (JD _)),b3,mS⟩⟩,ax (ap OP.out z8) (JH _),ax (ap OM.out z8) (JH _),ax (ap oG j) (JH _),l1,⟨bU.out,l6.1,l6.2⟩,rfl,rfl,bt Q4.out zz⟩
  go_wp2_with fail
  exact bI
theorem jr {i:Nat} {o j:World} {ms:List Nat} {Q:World→Prop} {S:Nat→Prop} (h:Win i o ms Q) (B:∀{u v},Q u→Ext u v→Q v) (q:Keep (fun k=>k<i) o j) (A:∀k,S k→k<i∨k∈ms):Q (ay S j):=by
 obtain ⟨lo,u,h1,x,p,y⟩:=h
 refine B x (EQ (fun k hB hl=>(q.block k (JK hl p.size) (by omega)).trans (p.block k hl)) fun k hB hl hs=>?_)
 rcases A k hs with h | h
 ·omega
 ·rcases y k h with h | h<;>omega
theorem BN {H:Nat→Prop} {i:Inp} {x L:Nat} {A:Option Addr} {c:Nat} {w N B:World} {b:Nat} {a:MAd} (hr:Jg i.cfg.sizes x L i.cfg.workers.toNat i.cfg.batch.toNat i.cfg.micros.toNat i.cfg.steps.toNat i.cfg.bucket.toNat i.cfg.chunk.toNat i.cfg.window.toNat i.cfg.cap.toNat i.data.length i.start.length A c i.cfg.shift i.cfg.rate i.cfg.mom i.data i.start i.draws (bZ i x 0) w N b a)
  (hg:iL i.cfg) (hw:W64 i.start) (hl:i.start.length≤1048576) (hx:x<(aE i).W) (p:Keep (fun k=>k<w.heap.size) N B) (hH:∀k,H k→k<w.heap.size):aI H B b i x a (gw i):=by
 have O:∀k,Mut b a k→k∈[b,a.bp,a.bm,a.bg,a.rb]:=by
  rintro k (rfl | rfl | rfl | rfl | rfl | h)
  ·simp
  ·simp
  ·simp
  ·simp
  ·simp
  ·rw [hr.ov] at h;exact absurd h (by simp [Value.ownBlock])
 have C:∀k,fL H b a k→k<w.heap.size∨k∈[b,a.bp,a.bm,a.bg,a.rb]:=fun k p=>p.elim (fun h=>.inr (O k h)) fun h=>.inl (hH k h)
 have a0:=hr.lo
 have I:∀k,k∈[b,a.bp,a.bm,a.bg,a.rb]→¬k<w.heap.size:=by
  intro k p
  simp only [List.mem_cons,List.not_mem_nil,or_false] at p
  rcases p with rfl | rfl | rfl | rfl | rfl<;>omega
 have u:W64 (List.replicate i.start.length 0):=fun k p=>by
  rw [dI _ _ p];simp
 have q:∀{v:Value} {e size n:Nat} {xs:List Value},(∀k,v.ownBlock=some k→Mut b a k)→N.ownsRow 0 e size v n xs→B.ownsRow 0 e size v n xs:=fun hv h=>p.own h fun k T Q=>I k (O k (hv k T)) Q
 have D:∀{k:Nat} {o:Obj},Mut b a k→N.heap[k]?=some o→B.heap[k]?=some o:=fun hm Y=>(p.block _ (JC Y) (I _ (O _ hm))).trans Y
 obtain ⟨A1,c1,Z,c2,U,X,gR,r1,r2⟩:=hr.re
 have R:=D (.inr (.inr (.inr (.inr (.inl rfl))))) gR
 have hrc:=hr.rc
 have ew:((i.cfg.workers.toNat:Nat):Int)=i.cfg.workers:=by have:=hg.w;omega
 have em:((i.cfg.micros.toNat:Nat):Int)=i.cfg.micros:=by have:=hg.mi;omega
 have J:=D (.inl rfl) hr.blk
 rw [ew,em] at J
 refine ⟨?_,jr hr.fo eK p C,jr hr.ex (dJ bW) p C,jr hr.sa gi p C,⟨_,_,_,_,_,_,jr hr.pl gj p C⟩,jr hr.bu aU p C,jr hr.it aU p C,?_,
  q (fun k e=>by cases e;exact .inr (.inl rfl)) hr.oP,q (fun k e=>by cases e;exact .inr (.inr (.inl rfl))) hr.oM,q (fun k e=>by cases e;exact .inr (.inr (.inr (.inl rfl)))) hr.oG,?_,hr.dj,fun k _ hm hh=>I k (O k hm) (hH k hh),
  ⟨rfl,hw⟩,⟨by simp [gw],u⟩,⟨by simp [gw],u⟩,?_,hx⟩
 ·have e0:aW i x (gw i)=0:=by simp [aW,gw]
  rw [e0,hr.ov]
  exact J
 ·refine ⟨[[.slice A1 i.start.length c1,.slice Z i.start.length c2]],⟨rfl,.inr ⟨a.rb,1,_,by rw [hrc];first | done | rfl,JH _,R,JD _,by unfold maxLen;omega,by simp,rfl⟩⟩,rfl,by simp,?_⟩
  intro j y V
  cases j with
  | succ j=>simp [gw] at V
  | zero=>
   simp [gw] at V
   subst V
   exact ⟨A1,c1,Z,c2,by simp [bq],⟨U,by dsimp only;omega,jr r1 aU p C,hw⟩,⟨by rw [Km];exact X,by rw [Km];omega,jr r2 aU p C,u⟩⟩
 ·rw [hr.ov];exact JO _ _ _ _
 ·show (0<(bZ i x 0).length)∨_
  unfold bZ
  by_cases h:0<i.cfg.steps.toNat
  ·rw [if_pos h];exact .inl (iT _ _ _)
  ·exact .inr ⟨rfl,by show i.cfg.steps.toNat≤0;omega⟩
def Ju (i:Inp) (x:Nat) (w:World) (e:Ending) (j:World):Prop:=∃b a,e=.returned (.tuple #[.pointer (some ⟨b,0,none⟩),KL 0])∧Below w.heap.size w j∧(∀k,Mut b a k→w.heap.size≤k)∧
 ∀(H:Nat→Prop) w'',Keep (fun k=>k<w.heap.size) j w''→(∀k,H k→k<w.heap.size)→aI H w'' b i x a (gw i)
theorem sY (A:Option Addr) (c:Nat) (D:Option Addr) (y:Nat) (T:Option Addr) (v:Nat) (R:Option Addr) (p:Nat) (i:Inp) (x:Nat) (w:World) (h:gF w A c D T v R i) (hs:cU i) (hx:x<(aE i).W):
  Calls Tryz.prog 12 #[.agg (aH A c D y T v R p i),KL (x:Nat)] w (Ju i x w):=by
 have hg:=hs.g.c
 have ew:((i.cfg.workers.toNat:Nat):Int)=i.cfg.workers:=by have:=hg.w;omega
 have eb:((i.cfg.batch.toNat:Nat):Int)=i.cfg.batch:=by have:=hg.ba;have:=hg.w;omega
 have em:((i.cfg.micros.toNat:Nat):Int)=i.cfg.micros:=by have:=hg.mi;omega
 have es:((i.cfg.steps.toNat:Nat):Int)=i.cfg.steps:=by have:=hg.st;omega
 have eu:((i.cfg.bucket.toNat:Nat):Int)=i.cfg.bucket:=by have:=hg.bu;omega
 have X:((i.cfg.chunk.toNat:Nat):Int)=i.cfg.chunk:=by have:=hg.ch;omega
 have Z:((i.cfg.window.toNat:Nat):Int)=i.cfg.window:=by have:=hg.wi;omega
 have ea:((i.cfg.cap.toNat:Nat):Int)=i.cfg.cap:=by have:=hg.ca;omega
 have hv:aH A c D y T v R p i=#[.slice A i.cfg.sizes.length c,KL i.cfg.shift,KL i.cfg.rate,KL i.cfg.mom,KL (i.cfg.workers.toNat:Nat),KL (i.cfg.batch.toNat:Nat),KL (i.cfg.micros.toNat:Nat),KL (i.cfg.steps.toNat:Nat),KL (i.cfg.bucket.toNat:Nat),KL (i.cfg.chunk.toNat:Nat),KL (i.cfg.window.toNat:Nat),KL (i.cfg.cap.toNat:Nat),.slice D i.data.length y,.slice T i.start.length v,.slice R i.draws.length p]:=by
  rw [ew,eb,em,es,eu,X,Z,ea]
 have J:cS A c i.cfg=#[.slice A i.cfg.sizes.length c,KL i.cfg.shift,KL i.cfg.rate,KL i.cfg.mom,KL (i.cfg.workers.toNat:Nat),KL (i.cfg.batch.toNat:Nat),KL (i.cfg.micros.toNat:Nat),KL (i.cfg.steps.toNat:Nat),KL (i.cfg.bucket.toNat:Nat),KL (i.cfg.chunk.toNat:Nat),KL (i.cfg.window.toNat:Nat),KL (i.cfg.cap.toNat:Nat)]:=by
  rw [ew,eb,em,es,eu,X,Z,ea]
 have B:=hs.g.s
 unfold cnt at B
 have Q:Jh i.cfg.sizes i.cfg.sizes.length i.cfg.workers.toNat i.cfg.batch.toNat i.cfg.micros.toNat i.cfg.steps.toNat i.cfg.bucket.toNat i.cfg.chunk.toNat i.cfg.window.toNat i.cfg.cap.toNat i.start.length i.draws.length A c i.cfg.shift i.cfg.rate i.cfg.mom D y T v R p i.data i.start i.draws w:=by
  constructor
  ·intro N V j q
   subst V
   have:=Cu A c D y T v R p i j (h.below q)
   rw [qe.2 hs.g,hv] at this
   exact this
  ·intro j q
   refine (qy A i.cfg.sizes c j (h.c.hr.below q) h.c.hc h.c.hm).mono ?_
   rintro e u ⟨O,I⟩
   rcases I with ⟨_,S,he,U,_⟩ | ⟨C,_⟩
   ·exact ⟨S,he,lK U (Az q.size),O⟩
   ·exact absurd hg.z C
  ·intro N V j q
   subst V
   have Y:=hs.g.d;have gb:=hs.g.b;have g1:=hg.w;have g2:=hg.ba;have g3:=hg.st
   unfold lj at Y
   refine (tU R i.draws p i.data.length i.cfg.batch.toNat i.cfg.steps.toNat j (h.r.below q) h.rl h.ru (by omega) (by omega) gb.2 (by omega) Y).mono ?_
   rintro e u ⟨S,he,U,_,O⟩
   exact ⟨S,he,Dd U (Az q.size),O⟩
  ·intro F j hF
   have:=jv F i.cfg.sizes j hF
   rw [←B] at this
   exact this
  ·intro j q
   have:=oY A c i.cfg j (h.c.below q)
   rw [gu.2 hg,J] at this
   exact this
  ·exact h.d
  ·exact h.dl
  ·exact h.t.hr
  ·rfl
 rw [hv]
 refine BW i.cfg.sizes x i.cfg.sizes.length _ _ _ _ _ _ _ _ i.data.length i.start.length i.draws.length A c _ _ _ D y T v R p i.data i.start i.draws w _ Q rfl hx hs.ok hs.n1 (by have:=hg.bu;omega) (by have:=hg.wi;omega) (bZ i x 0) ?_ ?_
 ·intro P j hP
  unfold bZ
  by_cases L:0<i.cfg.steps.toNat
  ·rw [if_pos L]
   exact sJ (aE i) P x 0 i.cfg.steps.toNat _ _ _ _ _ _ j hs.ok hs.n1 hx L hP
  ·rw [if_neg L]
   refine (sI (aE i) P x 0 i.cfg.steps.toNat _ _ _ _ _ _ j hx (by omega) hP).mono ?_
   rintro e u ⟨rfl,rfl⟩
   exact ⟨_,rfl,JO _ _ _ _,br _⟩
 ·intro j b a hr
  refine ⟨b,a,rfl,hr.k,?_,fun H u hk hH=>BN hr hg h.t.hw h.tl hx hk hH⟩
  have o:=hr.lo
  rintro k (rfl | rfl | rfl | rfl | rfl | hh)
  ·exact o.1
  ·exact o.2.1
  ·exact o.2.2.1
  ·exact o.2.2.2.1
  ·exact o.2.2.2.2
  ·rw [hr.ov] at hh;exact absurd hh (by simp [Value.ownBlock])
theorem jw (A:Option Addr) (L c:Nat) (sh ra j o p mi sn bu ch wi ca:Int) (D:Option Addr) (N J:Nat) (T:Option Addr) (n U:Nat) (R:Option Addr) (Q H:Nat) (w:World):
  Calls Tryz.prog 27 #[.agg #[.slice A L c,KL sh,KL ra,KL j,KL o,KL p,KL mi,KL sn,KL bu,KL ch,KL wi,KL ca,.slice D N J,.slice T (n:Nat) U,.slice R Q H]] w fun e x=>e=.returned (.agg #[.slice A L c,KL sh,KL ra,KL j,KL o,KL p,KL mi,KL sn,KL bu,KL ch,KL wi,KL ca,KL (n:Nat)])∧Below w.heap.size w x:=by
 obtain ⟨i,hW0⟩:∃i,w.alloc (.cells #[.slice A L c,KL sh,KL ra,KL j,KL o,KL p,KL mi,KL sn,KL bu,KL ch,KL wi,KL ca,.slice D N J,.slice T (n:Nat) U,.slice R Q H] 29)=i:=⟨_,rfl⟩
 have g0:i.heap[w.heap.size]?=some (.cells #[.slice A L c,KL sh,KL ra,KL j,KL o,KL p,KL mi,KL sn,KL bu,KL ch,KL wi,KL ca,.slice D N J,.slice T (n:Nat) U,.slice R Q H] 29 (0,0)):=by rw [←hW0];exact JE w _
 have B:Below w.heap.size w i:=by rw [←hW0];exact (br w).alloc (JD _) _
 have u:i.heap.size=w.heap.size+1:=by rw [←hW0];exact Array.size_push _
 have V:(i.alloc (.cells #[.slice A L c,KL sh,KL ra,KL j,KL o,KL p,KL mi,KL sn,KL bu,KL ch,KL wi,KL ca,KL (n:Nat)] 79)).heap[w.heap.size+1]?=some (.cells #[.slice A L c,KL sh,KL ra,KL j,KL o,KL p,KL mi,KL sn,KL bu,KL ch,KL wi,KL ca,KL (n:Nat)] 79 (0,0)):=by rw [←u];exact JE i _
 have HB:=aa (B.alloc B.size (.cells #[.slice A L c,KL sh,KL ra,KL j,KL o,KL p,KL mi,KL sn,KL bu,KL ch,KL wi,KL ca,KL (n:Nat)] 79))
 have t0:=fun x (q:Below i.heap.size i x)=>jM (sb g0 x q)
 obtain ⟨y,G1⟩:=ae hW0 V
 have l0:=JC g0
 have p1:=br i
 clear hW0 g0 V B u
 go_enter Tryz.func27,Tryz.ntmps27
 go_wp2_with fail
 rw [y.out]
 obtain ⟨⟨r0,Y,r2,X,r4,r5,Z,r7,r8,r9,C,I,O⟩,rf⟩:=uC G1.out
 exact JQ (v:=.agg #[.slice A L c,KL sh,KL ra,KL j,KL o,KL p,KL mi,KL sn,KL bu,KL ch,KL wi,KL ca,KL (n:Nat)]) (by simp [results,Tryz.results27,go_sem,r0,Y,r2,X,r4,r5,Z,r7,r8,r9,C,I,O]) rfl ⟨rfl,HB.out⟩
def btB (x lo i:Int):Bool:=decide (lo≤x∧x≤i)
theorem mg (x lo i:Int) (w:World):Calls Tryz.prog 60 #[KL x,KL lo,KL i] w fun e j=>e=.returned (.bool (btB x lo i))∧w=j:=by
 by_cases h1:lo≤x
 ·by_cases o:x≤i
  ·go_enter Tryz.func60,Tryz.ntmps60
   go_wp2
   go_ret
   exact ⟨cP (by unfold btB;simp [h1,o]),rfl⟩
  ·go_enter Tryz.func60,Tryz.ntmps60
   go_wp2
   go_ret
   exact ⟨cP (by unfold btB;simp;omega),rfl⟩
 ·go_enter Tryz.func60,Tryz.ntmps60
  go_wp2
  go_ret
  exact ⟨cP (by unfold btB;simp;omega),rfl⟩
theorem DF (A:Option Addr) (sz:List Int) (c:Nat) (w:World) (hA:Rd w A (aq .i64 sz)) (hl:sz.length≤17592186043904):
  Calls Tryz.prog 107 #[.slice A sz.length c] w fun e i=>e=.returned (KL (dQ sz))∧∃n,i=w.drewN n:=by
 by_cases h:2≤sz.length∧sz.length≤16
 ·refine (vr A sz c w hA h).mono fun e i ⟨h1,j⟩=>⟨?_,j⟩
  rcases h1 with ⟨hR,rfl⟩ | ⟨hR,rfl⟩
  ·refine aV ?_
   unfold tw
   by_cases hc:1048576<aZ sz (sz.length-1)
   ·rw [if_pos hc,kY (fun hg=>by have:=hg.2;omega) hR]
   ·rw [if_neg hc,js ⟨hR,by omega⟩]
  ·exact aV (fT hR).symm
 ·exact (ud A sz c w hl h).mono fun e i ⟨h1,j⟩=>⟨by rw [h1,fT (fun hr=>h hr.1)],0,j.symm⟩
theorem Dr (a b c d e f:Int) {g:Bool} {l:List Int} (hl:[a,b,c,d,e,f]=l) {k:Nat} (i:k<5) (h:okB (nth l k)=false):(okB a&&okB b&&okB c&&okB d&&okB e&&g)=false:=by
 subst hl
 match k,i with
 | 0,_=>simp only [show nth [a,b,c,d,e,f] 0=a from rfl] at h;simp [h]
 | 1,_=>simp only [show nth [a,b,c,d,e,f] 1=b from rfl] at h;simp [h]
 | 2,_=>simp only [show nth [a,b,c,d,e,f] 2=c from rfl] at h;simp [h]
 | 3,_=>simp only [show nth [a,b,c,d,e,f] 3=d from rfl] at h;simp [h]
 | 4,_=>simp only [show nth [a,b,c,d,e,f] 4=e from rfl] at h;simp [h]
theorem AM (a b c d e f:Int) (g:Bool) {l:List Int} (hl:[a,b,c,d,e,f]=l) (h:∀j,j<5→okB (nth l j)=true) (hg:g=true):(okB a&&okB b&&okB c&&okB d&&okB e&&g)=true:=by
 subst hl
 have i:okB a=true:=h 0 (by omega)
 have h1:okB b=true:=h 1 (by omega)
 have o:okB c=true:=h 2 (by omega)
 have q:okB d=true:=h 3 (by omega)
 have p:okB e=true:=h 4 (by omega)
 simp [i,h1,o,q,p,hg]
theorem nD (A:Option Addr) (c:Nat) (k:Cfg) (w:World) (h:jG w A c k):
  Calls Tryz.prog 59 #[.agg (cS A c k)] w fun e J=>e=.returned (KL (bQ k))∧Below w.heap.size w J:=by
 have X:=fun J (q:Below w.heap.size w J)=>DF A k.sizes c J (h.hr.below q) h.hl
 have f6:=@Fq k;have f9:=@Fo k;have fs:=@Fm k;have f2:=@Fr k;have f7:=@Fp k;have f0:=@Ft k
 unfold wkB shB nI baB qv at *
 obtain ⟨R,D⟩:∃R,bQ k=R:=⟨_,rfl⟩
 rw [D] at f6 f9 fs f2 f7 f0 ⊢
 clear D h
 obtain ⟨sz,sh,ra,mo,B,ba,mi,st,bu,ch,wi,ca⟩:=k
 dsimp only [cS] at *
 obtain ⟨L,hL⟩:∃L,sz.length=L:=⟨_,rfl⟩
 obtain ⟨sc,a1⟩:∃sc,dQ sz=sc:=⟨_,rfl⟩
 rw [hL,a1] at X
 rw [a1] at fs f2 f7 f0
 rw [hL] at ⊢
 obtain ⟨a4,F6,F9,Fs,F2,F7,F0⟩:=aj X f6 f9 fs f2 f7 f0;clear X f6 f9 fs f2 f7 f0 hL a1
 go_enter Tryz.func59,Tryz.ntmps59
 go_wp2_with fail
 have hz:=JE w (.cells #[.slice A L c,KL sh,KL ra,KL mo,KL B,KL ba,KL mi,KL st,KL bu,KL ch,KL wi,KL ca] 24)
 have hB:=(JG _ w).alloc (JD _) (.cells #[.slice A L c,KL sh,KL ra,KL mo,KL B,KL ba,KL mi,KL st,KL bu,KL ch,KL wi,KL ca] 24)
 obtain ⟨W0,hW0⟩:∃W0,W0=w.alloc (.cells #[.slice A L c,KL sh,KL ra,KL mo,KL B,KL ba,KL mi,KL st,KL bu,KL ch,KL wi,KL ca] 24):=⟨_,rfl⟩
 rw [←hW0] at hz hB ⊢
 clear hW0
 obtain ⟨⟨z0,z1,z2,z3,z4,z5,z6,z7,z8,z9,I,Q⟩,zf⟩:=jN hz
 obtain ⟨y,HZ⟩:=ae hB hz;clear hB hz
 refine (mg B 1 64 _).mono ?_
 rintro e J ⟨rfl,rfl⟩
 obtain ⟨b1,u⟩:∃b1,btB B 1 64=b1:=⟨_,rfl⟩
 have V:=aa (show decide (1≤B∧B≤64)=b1 from u)
 rw [u]
 clear u
 rcases dB b1 with rfl | rfl
 ·go_wp2_with fail
  go_ret
  exact ⟨aV (F6.out V.out).symm,y.out⟩
 go_wp2_with fail
 refine (mg sh 1 62 _).mono ?_
 rintro e J ⟨rfl,rfl⟩
 obtain ⟨b2,Z⟩:∃b2,btB sh 1 62=b2:=⟨_,rfl⟩
 have Y:=aa (show decide (1≤sh∧sh≤62)=b2 from Z)
 rw [Z]
 clear Z
 rcases dB b2 with rfl | rfl
 ·go_wp2_with fail
  go_ret
  exact ⟨aV (F9.out V.out Y.out).symm,y.out⟩
 go_wp2_with fail
 refine (a4.out _ y.out).mono ?_
 rintro e J ⟨rfl,d,rfl⟩
 have u:=JN y.out d
 have N:(W0.drewN d).heap[w.heap.size]?=some (.cells #[.slice A L c,KL sh,KL ra,KL mo,KL B,KL ba,KL mi,KL st,KL bu,KL ch,KL wi,KL ca] 24 (0,0)):=HZ.out
 generalize W0.drewN d=W1 at u N ⊢
 clear z0 z1 z2 z3 z4 z5 z6 z7 z8 z9 I Q zf y HZ
 obtain ⟨⟨z0,z1,z2,z3,z4,z5,z6,z7,z8,z9,I,Q⟩,zf⟩:=jN N
 obtain ⟨y,HZ⟩:=ae u N;clear u N
 by_cases h3:sc≠0
 ·have hq:(sc != 0)=true:=by rw [bne_iff_ne];exact h3
  have H3:=aa h3;clear h3
  go_wp2_with fail
  go_ret
  exact ⟨aV (Fs.out V.out Y.out H3.out).symm,y.out⟩
 obtain rfl:sc=0:=by omega
 clear h3
 have lz:w.heap.size<W1.heap.size:=JC HZ.out
 by_cases h4:st<0
 ·go_wp2_with fail
  go_ret
  exact ⟨aV (F2.out V.out Y.out trivial (by rw [KD (show ¬(0≤st∧st≤1048576) by omega),Bool.and_false])).symm,y.out.alloc y.out.size _⟩
 by_cases a6:1048576<st
 ·go_wp2_with fail
  go_ret
  exact ⟨aV (F2.out V.out Y.out trivial (by rw [KD (show ¬(0≤st∧st≤1048576) by omega),Bool.and_false])).symm,y.out.alloc y.out.size _⟩
 have GS:=aa (show decide (0≤st∧st≤1048576)=true by rw [KF];omega)
 have a2:=dZ W1 (aq .i64 [mi,bu,ch,wi,ca,st+1]) 3 _ rfl
 have H:=(JP W1 (.cells (aq .i64 [mi,bu,ch,wi,ca,st+1]).toArray 3) _ (JC HZ.out)).trans HZ.out
 obtain ⟨O,a0⟩:=ae a2 H;clear a2 H
 go_wp2_with fail
 clear z0 z1 z2 z3 z4 z5 z6 z7 z8 z9 I Q zf
 have C:=aa (y.out.alloc y.out.size (.cells (aq .i64 [mi,bu,ch,wi,ca,st+1]).toArray 3))
 obtain ⟨l,hl⟩:∃l:List Int,[mi,bu,ch,wi,ca,st+1]=l:=⟨_,rfl⟩
 have HL:=aa hl
 change Code.wp _ _ _ _ (W1.alloc (.cells (aq .i64 [mi,bu,ch,wi,ca,st+1]).toArray 3))
 rw [hl] at O a0 C ⊢
 clear hl y HZ lz
 obtain ⟨p,hp⟩:∃p,W1.heap.size=p:=⟨_,rfl⟩
 rw [hp] at O ⊢
 generalize W1.alloc (.cells (aq .i64 l).toArray 3)=W2 at O a0 C ⊢
 clear hp
 go_loopw [5] (fun i wr=>∃k:Nat,k≤5∧i=KL k∧Hid (∀j,j<k→okB (nth l j)=true)∧wr=W2) (fun i _=>5-(intOf i).toNat)
 case atStart=>exact ⟨0,JH _,rfl,Lib.hid fun j hj=>by omega,rfl⟩
 case round=>
  obtain ⟨k,hk,rfl,U,rfl⟩:=hrel
  by_cases a3:k<5
  ·have T:k<l.length:=by rw [←HL.out];simp only [List.length_cons,List.length_nil];omega
   obtain ⟨b',o,e1,hc⟩:=O.out.num T
   have a5:(k:Int)<5:=by omega
   injection e1 with e1;injection e1 with e1 e2 _;subst e1;subst e2
   obtain ⟨x,hx⟩:∃x,nth l k=x:=⟨_,rfl⟩
   rw [hx,Kz] at hc
   have Hx:=aa hx;clear hx T
   go_wp2_with fail
   refine (mg x 1 1048576 _).mono ?_
   rintro e J ⟨rfl,rfl⟩
   obtain ⟨b3,v⟩:∃b3,btB x 1 1048576=b3:=⟨_,rfl⟩
   have G3:=aa (show okB x=b3 from v)
   rw [v]
   clear v
   rcases dB b3 with rfl | rfl
   ·go_wp2_with fail
    go_ret
    exact ⟨aV (F2.out V.out Y.out trivial (Dr mi bu ch wi ca _ HL.out a3 (by rw [Hx.out];exact G3.out))).symm,C.out⟩
   go_wp2_with fail
   go_roundw
   case rel=>exact ⟨k+1,by omega,by go_num,Lib.hid (p:=∀j,j<k+1→okB (nth l j)=true) fun j hj=>by
    rcases JR j k with h | h
    ·exact U.out j h
    ·obtain rfl:j=k:=by omega
     rw [Hx.out];exact G3.out,trivial⟩
   case measure=>simp [intOf];omega
  ·obtain rfl:k=5:=by omega
   have hn:=AM mi bu ch wi ca _ (decide (0≤st∧st≤1048576)) HL.out U.out GS.out
   have Hn:=aa hn;clear hn
   have H:=a0.out
   obtain ⟨⟨z0,z1,z2,z3,z4,z5,z6,z7,z8,z9,I,Q⟩,zf⟩:=jN H
   clear H
   go_wp2_with fail
   refine (mg ba B 1048576 _).mono ?_
   rintro e J ⟨rfl,rfl⟩
   obtain ⟨b3,v⟩:∃b3,btB ba B 1048576=b3:=⟨_,rfl⟩
   have G3:=aa (show decide (B≤ba∧ba≤1048576)=b3 from v)
   rw [v]
   clear v
   rcases dB b3 with rfl | rfl
   ·go_wp2_with fail
    go_ret
    exact ⟨aV (F7.out V.out Y.out trivial Hn.out G3.out).symm,C.out⟩
   go_wp2_with fail
   go_ret
   exact ⟨aV (F0.out V.out Y.out trivial Hn.out G3.out).symm,C.out⟩
theorem mM (n:Nat) (w:World) (hn:1≤n) (j:n≤1048576):Calls Tryz.prog 109 #[KL n] w fun e i=>e=.returned (KL ((n-1:Nat):Int))∧w=i:=by
 have h1:(0:Int)≤(n:Int)-1:=by omega
 go_enter Tryz.func109,Tryz.ntmps109
 go_wp2
 all_goals
  go_ret
  exact ⟨aV (by omega),rfl⟩
theorem An {sn i t:Nat} (j:1≤i) (h:t*i<sn):t<(sn+i-1)/i:=by
 rw [Nat.lt_iff_add_one_le,Nat.le_div_iff_mul_le j,Kx];omega
theorem Ai {sn i t:Nat} (j:1≤i) (h:t<(sn+i-1)/i):t*i<sn:=by
 rw [Nat.lt_iff_add_one_le,Nat.le_div_iff_mul_le j,Kx] at h;omega
theorem vh (A:Option Addr) (c n:Nat) (k:Cfg) (w:World) (h:jG w A c k) (hg:iL k) (hn:k.batch≤n∧(n:Int)≤1048576):
  Calls Tryz.prog 108 #[.agg (cS A c k),KL n] w fun e C=>e=.returned (KL (epN n k.batch.toNat k.steps.toNat:Int))∧Below w.heap.size w C:=by
 have u:=fun C (q:Below w.heap.size w C)=>nD A c k C (h.below q)
 rw [gu.2 hg] at u
 have g1:=hg.w;have g2:=hg.ba;have g3:=hg.st
 clear h hg
 obtain ⟨sz,sh,ra,X,Y,ba,mi,st,bu,ch,wi,ca⟩:=k
 dsimp only [cS] at *
 obtain ⟨bt,rfl⟩:∃bt:Nat,ba=bt:=⟨ba.toNat,by omega⟩
 obtain ⟨sn,rfl⟩:∃sn:Nat,st=sn:=⟨st.toNat,by omega⟩
 rw [Int.toNat_natCast,Int.toNat_natCast]
 obtain ⟨L,hL⟩:∃L,sz.length=L:=⟨_,rfl⟩
 rw [hL] at u ⊢
 obtain ⟨j,o⟩:∃j,n/bt=j:=⟨_,rfl⟩
 have p:1≤j:=by rw [←o];exact Nat.div_pos (by omega) (by omega)
 have O:j≤n:=by rw [←o];exact Nat.div_le_self _ _
 have Z:epN n bt sn=(sn+j-1)/j:=by unfold epN;rw [o,qj _ _ p]
 rw [Z]
 have N:(sn+j-1)/j≤sn+j-1:=Nat.div_le_self _ _
 have y:=fun t=>An (sn:=sn) (t:=t) p
 have v:=fun t=>Ai (sn:=sn) (t:=t) p
 obtain ⟨E,I⟩:∃E,(sn+j-1)/j=E:=⟨_,rfl⟩
 rw [I] at N y v ⊢
 have a2:(n:Int).tdiv (bt:Int)=(j:Int):=by rw [←o];rfl
 have a0:(n:Int)/(bt:Int)=(j:Int):=by rw [←o];rfl
 have a4:¬(bt=0):=by omega
 obtain ⟨J,U,T⟩:=af u y v
 have H:btB (n:Int) (bt:Int) 1048576=true:=by unfold btB;rw [KA];omega
 have R:=aa H;clear u hL o Z I y v H
 go_enter Tryz.func108,Tryz.ntmps108
 go_wp2_with fail
 have Q:=JE w (.cells #[.slice A L c,KL sh,KL ra,KL X,KL Y,KL bt,KL mi,KL sn,KL bu,KL ch,KL wi,KL ca] 24)
 have hB:=(JG _ w).alloc (JD _) (.cells #[.slice A L c,KL sh,KL ra,KL X,KL Y,KL bt,KL mi,KL sn,KL bu,KL ch,KL wi,KL ca] 24)
 refine (J.out _ hB).mono ?_
 rintro e w1 ⟨rfl,x⟩
 have D:=(x.block _ (JC Q)).trans Q
 have HB:=aa (hB.trans (x.mono hB.size))
 obtain ⟨⟨z0,z1,z2,z3,z4,z5,z6,z7,z8,z9,a3,a5⟩,zf⟩:=jN D
 clear Q hB x D
 go_wp2_with fail
 refine (mg n bt 1048576 _).mono ?_
 rintro e C ⟨rfl,rfl⟩
 rw [R.out]
 go_wp2_with fail
 go_loopw [5,6] (fun t i wr=>∃k m:Nat,k≤E∧t=KL k∧i=KL m∧Hid (m=k*j)∧m<sn+j∧wr=w1) (fun _ i _=>sn-(intOf i).toNat)
 case atStart=>exact ⟨0,0,JH _,rfl,rfl,Lib.hid (by omega),by omega,rfl⟩
 case round=>
  obtain ⟨k,m,hk,rfl,rfl,V,hm,rfl⟩:=hrel
  by_cases B:m<sn
  ·have a1:(m:Int)<sn:=by omega
   go_wp2_with fail
   go_roundw
   case rel=>exact ⟨k+1,m+j,U.out k (by rw [←V.out];exact B),by go_num,by go_num,Lib.hid (by rw [V.out,Kx]),by omega,trivial⟩
   case measure=>simp [intOf];omega
  ·obtain rfl:k=E:=by
    rcases JR k E with h | h
    ·exact absurd (T.out k h) (by rw [←V.out];exact B)
    ·omega
   go_wp2_with fail
   go_ret
   exact ⟨rfl,HB.out⟩
theorem Bb (A:Option Addr) (c n:Nat) (k:Cfg) (w:World) (h:jG w A c k) (hg:iL k) (hn:k.batch≤n∧(n:Int)≤1048576):
  Calls Tryz.prog 63 #[.agg (cS A c k),KL n] w fun e p=>e=.returned (KL (lj n k.batch.toNat k.steps.toNat:Int))∧Below w.heap.size w p:=by
 have i:=fun p (q:Below w.heap.size w p)=>vh A c n k p (h.below q) hg hn
 have R:=hg.w;have Q:=hg.ba;have U:=hg.st
 have o:=fun p=>mM n p (by omega) (by omega)
 have j:=vO (n:=n) (b:=k.batch.toNat) (st:=k.steps.toNat) (by omega) (by omega)
 unfold lj at j ⊢
 clear h hg
 obtain ⟨sz,sh,ra,C,D,ba,mi,st,bu,ch,wi,ca⟩:=k
 dsimp only [cS] at *
 obtain ⟨L,hL⟩:∃L,sz.length=L:=⟨_,rfl⟩
 rw [hL] at i ⊢
 obtain ⟨E,H⟩:∃E,epN n ba.toNat st.toNat=E:=⟨_,rfl⟩
 obtain ⟨m,hm⟩:∃m,n-1=m:=⟨_,rfl⟩
 rw [H] at i j ⊢
 rw [hm] at o j ⊢
 obtain ⟨y,B⟩:∃y,E*m=y:=⟨_,rfl⟩
 rw [B] at j ⊢
 have I:(E:Int)*(m:Int)=(y:Int):=by rw [←B];push_cast;rfl
 obtain ⟨v,x⟩:=ae i o;clear i o hL H hm B
 go_enter Tryz.func63,Tryz.ntmps63
 go_wp2_with fail
 have N:=JE w (.cells #[.slice A L c,KL sh,KL ra,KL C,KL D,KL ba,KL mi,KL st,KL bu,KL ch,KL wi,KL ca] 24)
 have hB:=(JG _ w).alloc (JD _) (.cells #[.slice A L c,KL sh,KL ra,KL C,KL D,KL ba,KL mi,KL st,KL bu,KL ch,KL wi,KL ca] 24)
 refine (v.out _ hB).mono ?_
 rintro e O ⟨rfl,u⟩
 have J:=aa (hB.trans (u.mono hB.size));clear N hB u
 go_wp2_with fail
 refine (x.out _).mono ?_
 rintro e T ⟨rfl,rfl⟩
 go_wp2_with fail
 go_ret
 exact ⟨rfl,J.out⟩
theorem vm (a b c:Nat) (A:Option Addr) (l:List Ex) (w:World) (h:cE rEx 2 w A l) (hl:l.length≤1048576):
  Calls Tryz.prog 61 #[.slice A l.length c,KL a,KL b] w (pw l a b w):=by
 unfold pw
 obtain ⟨n,hn⟩:∃n,l.length=n:=⟨_,rfl⟩
 rw [hn] at hl ⊢
 obtain ⟨H,T⟩:=ae h hn;clear h hn
 go_enter Tryz.func61,Tryz.ntmps61
 go_wp2_with fail
 go_loopw [8] (fun i wr=>∃k:Nat,k≤n∧i=KL k∧Hid (∀j x,j<k→l[j]?=some x→eH a b x)∧wr=w) (fun i _=>n-(intOf i).toNat)
 case atStart=>exact ⟨0,JH _,rfl,Lib.hid fun j x I=>by omega,rfl⟩
 case round=>
  obtain ⟨k,hk,rfl,q,rfl⟩:=hrel
  by_cases J:k<n
  ·obtain ⟨x,hx⟩:∃x,l[k]?=some x:=⟨_,Kh (by rw [T.out];exact J)⟩
   obtain ⟨b',o,A1,c1,A2,c2,rfl,X,p1,Y,Z,r2⟩:=fl H.out hx
   have L:=aa hx
   obtain ⟨B,u⟩:∃B,x.1.length=B:=⟨_,rfl⟩
   obtain ⟨C,v⟩:∃C,x.2.length=C:=⟨_,rfl⟩
   rw [u] at p1
   rw [v] at Y
   have D:eH a b x↔B=a∧C=b:=by unfold eH;rw [u,v]
   have O:=aa D
   have U:(k:Int)<n:=by omega
   clear Z r2 hx u v D
   by_cases Q:B≠a
   ·have hq:((B:Int) != (a:Int))=true:=by rw [bne_iff_ne];omega
    go_wp2_with fail
    go_ret2
    exact ⟨JG _ _,k,.inr ⟨fun h=>Q (O.out.1 (h x (List.mem_of_getElem? L.out))).1,rfl⟩⟩
   have V:((B:Int) != (a:Int))=false:=by rw [bne_eq_false_iff_eq];omega
   by_cases N:C≠b
   ·have hq:((C:Int) != (b:Int))=true:=by rw [bne_iff_ne];omega
    have E2:=aa N;clear Q N
    go_wp2_with fail
    go_ret2
    exact ⟨JG _ _,k,.inr ⟨fun h=>E2.out (O.out.1 (h x (List.mem_of_getElem? L.out))).2,rfl⟩⟩
   have a0:((C:Int) != (b:Int))=false:=by rw [bne_eq_false_iff_eq];omega
   have He:=aa (O.out.2 ⟨by omega,by omega⟩)
   clear Q N
   go_wp2_with fail
   go_roundw
   case rel=>exact ⟨k+1,by omega,by go_num,Lib.hid (p:=∀j x,j<k+1→l[j]?=some x→eH a b x) fun j y I R=>by
    rcases JR j k with h | h
    ·exact q.out j y h R
    ·obtain rfl:j=k:=by omega
     have:=L.out;rw [R] at this;injection this with this;rw [this];exact He.out,trivial⟩
   case measure=>simp [intOf];omega
  ·obtain rfl:n=k:=by omega
   go_wp2_with fail
   go_ret2
   exact ⟨JG _ _,0,.inl ⟨fun x hx=>by
    obtain ⟨j,I,e⟩:=List.mem_iff_getElem.1 hx
    exact q.out j x (by rw [←T.out];exact I) (by rw [Kh I,e]),rfl⟩⟩
def Ih (q:Prop) (w:World) (e:Ending) (i:World):Prop:=(∃b:Bool,e=.returned (.bool b)∧(b=true→q))∧∃n,i=w.drewN n
theorem EP {q:Prop} (i:q) (b:Bool) (w:World) (d:Nat):Ih q w (.returned (.bool b)) (w.drewN d):=⟨⟨b,rfl,fun _=>i⟩,d,rfl⟩
theorem Af (q:Prop) (w:World) (d:Nat):Ih q w (.returned (.bool false)) (w.drewN d):=⟨⟨false,rfl,fun h=>by cases h⟩,d,rfl⟩
theorem DN (c:Nat) (A:Option Addr) (l:List Ex) (w:World) (h:cE rEx 2 w A l) (hl:l.length≤17592186043904):
  Calls Tryz.prog 131 #[.slice A l.length c] w (Ih (l.length≤60) w):=by
 obtain ⟨n,hn⟩:∃n,l.length=n:=⟨_,rfl⟩
 rw [hn] at hl ⊢
 obtain ⟨H,Y⟩:=ae h hn;clear h hn
 go_enter Tryz.func131,Tryz.ntmps131
 go_wp2_with fail
 go_loopw [3,4] (fun v i wr=>∃k:Nat,∃x:Int,k≤n∧i=KL k∧v=KL x∧∃d,wr=w.drewN d) (fun _ i _=>n-(intOf i).toNat)
 case atStart=>exact ⟨0,0,JH _,rfl,rfl,0,rfl⟩
 case round=>
  obtain ⟨k,x,hk,rfl,rfl,d,rfl⟩:=hrel
  by_cases C:k<n
  ·have T:(k:Int)<n:=by omega
   by_cases O:k<100
   ·have j:(k:Int)<100:=by omega
    obtain ⟨y,R⟩:∃y,l[k]?=some y:=⟨_,Kh (by rw [Y.out];exact C)⟩
    obtain ⟨N,o,A1,c1,A2,c2,rfl,U,Q,L,V,Z⟩:=fl H.out R
    obtain ⟨D,u⟩:∃D,y.1.length=D:=⟨_,rfl⟩
    obtain ⟨I,B⟩:∃I,y.2.length=I:=⟨_,rfl⟩
    rw [u] at Q
    rw [B] at L
    clear V Z R u B
    have q1:(w.drewN d).cell? ⟨N,o+k*2,none⟩=some (.slice A1 D c1):=Q
    have q2:(w.drewN d).cell? ⟨N,o+k*2+1,none⟩=some (.slice A2 I c2):=L
    generalize hW:w.drewN d=W at q1 q2 ⊢
    have X:=aa hW;clear hW
    go_wp2_with fail
    go_region
    all_goals
     go_wp2_with fail
     go_roundw
     case rel=>exact ⟨k+1,_,by omega,by go_num,rfl,d+1,by rw [←X.out];rfl⟩
     case measure=>simp [intOf];omega
   ·have j:¬((k:Int)<100):=by omega
    have p:¬((n:Int)≤60):=by omega
    have J:¬(n≤60):=by omega
    go_wp2_with fail
    all_goals
     go_ret
     exact Af _ _ _
  ·obtain rfl:n=k:=by omega
   by_cases q:n≤60
   ·have p:(n:Int)≤60:=by omega
    have G:=aa q
    go_wp2_with fail
    all_goals
     go_ret
     exact EP G.out _ _ _
   ·have p:¬((n:Int)≤60):=by omega
    go_wp2_with fail
    all_goals
     go_ret
     exact Af _ _ _
theorem kg (A:Option Addr) (c:Nat) (D:Option Addr) (cd:Nat) (T:Option Addr) (ct:Nat) (R:Option Addr) (cr:Nat) (i:Inp) (w:World) (h:gF w A c D T ct R i):
  Calls Tryz.prog 15 #[.agg (aH A c D cd T ct R cr i)] w fun e u=>e=.returned (KL (dd i))∧Below w.heap.size w u:=by
 have av:=fun u (q:Below w.heap.size w u)=>nD A c i.cfg u (h.c.below q)
 have aM:=fun (hR:cG i.cfg.sizes) u (q:Below w.heap.size w u)=>i9 A i.cfg.sizes i.cfg.sizes.length c u (h.c.hr.below q) hR (by have:=hR.1;omega) (JD _)
 have ao:=fun a b u (q:Below w.heap.size w u)=>vm a b cd D i.data u (h.d.below cY q) h.dl
 have C:=fun (hg:iL i.cfg) (hb:i.cfg.batch≤i.data.length∧(i.data.length:Int)≤1048576) u (q:Below w.heap.size w u)=>Bb A c i.data.length i.cfg u (h.c.below q) hg hb
 have fc:=@II i;have f7:=@IK i;have X:=@IL i;have y:=@IJ i;have B:=@IM i
 have b4:=@gu i.cfg
 have bd:=h.c.hr
 have bV:=h.dl;have c8:=h.tl;have bU:=h.rl
 unfold pw at ao
 unfold lH at f7 X y B
 unfold j5 IN inN ug cnt at X y B
 unfold oW at y B
 obtain ⟨b0,a7⟩:∃b0,dd i=b0:=⟨_,rfl⟩
 rw [a7] at fc f7 X y B ⊢
 clear a7 h
 obtain ⟨⟨sz,sh,ra,J,O,ba,mi,st,bu,ch,wi,ca⟩,data,start,draws⟩:=i
 dsimp only [aH,cS] at *
 obtain ⟨L,hL⟩:∃L,sz.length=L:=⟨_,rfl⟩
 obtain ⟨N,hN⟩:∃N,data.length=N:=⟨_,rfl⟩
 obtain ⟨M,hM⟩:∃M,start.length=M:=⟨_,rfl⟩
 obtain ⟨Q,hQ⟩:∃Q,draws.length=Q:=⟨_,rfl⟩
 obtain ⟨cc,bs⟩:∃cc,bQ ⟨sz,sh,ra,J,O,ba,mi,st,bu,ch,wi,ca⟩=cc:=⟨_,rfl⟩
 rw [hL] at av aM C X y B ⊢
 rw [hN] at ao C f7 X y B bV ⊢
 rw [hM] at X y B c8 ⊢
 rw [hQ] at y B bU ⊢
 rw [bs] at av fc f7 X y B b4
 obtain ⟨CN,b6⟩:∃CN,aZ sz (L-1)=CN:=⟨_,rfl⟩
 rw [b6] at aM X y B
 obtain ⟨ND,be⟩:∃ND,lj N ba.toNat st.toNat=ND:=⟨_,rfl⟩
 rw [be] at C y B
 obtain ⟨c7,c6,ci,c9,Fc,F7,F5,F8⟩:=ak av aM ao C fc f7 X y;obtain ⟨F0,bO,bh,HL,co⟩:=ah B b4 bd hL b6;clear av aM ao C fc f7 X y B b4 bd hL hN hM hQ bs b6 be
 go_enter Tryz.func15,Tryz.ntmps15
 go_wp2_with fail
 have hz:=(JP (w.alloc (.cells #[.slice A L c,KL sh,KL ra,KL J,KL O,KL ba,KL mi,KL st,KL bu,KL ch,KL wi,KL ca,.slice D N cd,.slice T M ct,.slice R Q cr] 29)) (.cells #[.slice A L c,KL sh,KL ra,KL J,KL O,KL ba,KL mi,KL st,KL bu,KL ch,KL wi,KL ca] 24) w.heap.size (by simp)).trans (JE w _)
 have hy:=JE (w.alloc (.cells #[.slice A L c,KL sh,KL ra,KL J,KL O,KL ba,KL mi,KL st,KL bu,KL ch,KL wi,KL ca,.slice D N cd,.slice T M ct,.slice R Q cr] 29)) (.cells #[.slice A L c,KL sh,KL ra,KL J,KL O,KL ba,KL mi,KL st,KL bu,KL ch,KL wi,KL ca] 24)
 rw [show (w.alloc (.cells #[.slice A L c,KL sh,KL ra,KL J,KL O,KL ba,KL mi,KL st,KL bu,KL ch,KL wi,KL ca,.slice D N cd,.slice T M ct,.slice R Q cr] 29)).heap.size=w.heap.size+1 by simp] at hy
 have hB:Below w.heap.size w ((w.alloc (.cells #[.slice A L c,KL sh,KL ra,KL J,KL O,KL ba,KL mi,KL st,KL bu,KL ch,KL wi,KL ca,.slice D N cd,.slice T M ct,.slice R Q cr] 29)).alloc (.cells #[.slice A L c,KL sh,KL ra,KL J,KL O,KL ba,KL mi,KL st,KL bu,KL ch,KL wi,KL ca] 24)):=((JG _ w).alloc (JD _) _).alloc (by simp) _
 obtain ⟨W0,hW0⟩:∃W0,W0=(w.alloc (.cells #[.slice A L c,KL sh,KL ra,KL J,KL O,KL ba,KL mi,KL st,KL bu,KL ch,KL wi,KL ca,.slice D N cd,.slice T M ct,.slice R Q cr] 29)).alloc (.cells #[.slice A L c,KL sh,KL ra,KL J,KL O,KL ba,KL mi,KL st,KL bu,KL ch,KL wi,KL ca] 24):=⟨_,rfl⟩
 rw [←hW0] at hz hy hB ⊢
 clear hW0
 refine (c7.out _ hB).mono ?_
 rintro e w1 ⟨rfl,H⟩
 have aP:=(H.block _ (JC hz)).trans hz
 have ad:=(H.block _ (JC hy)).trans hy
 have HB:=aa (hB.trans (H.mono hB.size))
 obtain ⟨⟨z0,z1,z2,z3,z4,z5,z6,z7,z8,z9,a4,ab,I,a5,a1⟩,zf⟩:=jM aP
 obtain ⟨⟨y0,y1,y2,y3,y4,y5,y6,y7,y8,y9,Y,a0⟩,yf⟩:=jN ad
 have lz:=JC aP;have ly:=JC ad
 obtain ⟨HZ,HY⟩:=ae aP ad;clear hz hy hB H aP ad
 by_cases h3:cc≠0
 ·have hq:(cc != 0)=true:=by rw [bne_iff_ne];exact h3
  have H3:=aa h3;clear h3
  go_wp2_with fail
  go_ret
  exact ⟨aV (Fc.out H3.out).symm,HB.out⟩
 obtain rfl:cc=0:=by omega
 clear h3
 have hg:=bO.out.1 rfl
 have g1:=hg.w;have g2:=hg.ba;have g3:=hg.st;have gz:=hg.z
 have HG:=aa hg
 dsimp only at g1 g2 g3 gz
 clear hg
 have bl:=gz.1.1
 rw [HL.out] at bl
 have s0:=gz.1.at (k:=0) (by have:=HL.out;omega)
 have s1:=gz.1.at (k:=L-1) (by have:=HL.out;omega)
 obtain ⟨bz,oz,rfl,p0⟩:=bh.out.num (show 0<sz.length by have:=HL.out;omega)
 obtain ⟨_,_,e',p1⟩:=bh.out.num (show L-1<sz.length by have:=HL.out;omega)
 injection e' with e';injection e' with e1 e2 _;subst e1;subst e2
 rw [s0.2.2,Nat.add_zero] at p0
 rw [s1.2.2] at p1
 obtain ⟨n0,b7⟩:∃n0,szN sz 0=n0:=⟨_,rfl⟩
 obtain ⟨n1,b5⟩:∃n1,szN sz (L-1)=n1:=⟨_,rfl⟩
 have X:=F5.out;have y:=F8.out;have B:=F0.out
 rw [b7,b5] at X y B
 rw [b7] at p0 s0
 rw [b5] at p1 s1
 obtain ⟨F5,F8,F0,cb⟩:=ag X y B gz
 have bG:bz<w.heap.size:=ar p0
 obtain ⟨P0,P1⟩:=ae p0 p1;clear X y B gz b7 b5 p0 p1 s0 s1
 obtain ⟨bt,rfl⟩:∃bt:Nat,ba=bt:=⟨ba.toNat,by omega⟩
 go_wp2_with fail
 refine (mg N bt 1048576 _).mono ?_
 rintro e u ⟨rfl,rfl⟩
 obtain ⟨b1,H⟩:∃b1,btB (N:Int) bt 1048576=b1:=⟨_,rfl⟩
 have G0:=aa (show decide ((bt:Int)≤N∧(N:Int)≤1048576)=b1 from H)
 rw [H]
 clear H
 rcases dB b1 with rfl | rfl
 ·have cf:=of_decide_eq_false G0.out
  go_wp2_with fail
  go_ret
  exact ⟨aV (F7.out trivial (by rw [KE];omega)).symm,HB.out⟩
 have cf:=of_decide_eq_true G0.out
 have G1:=aa (show decide ((bt:Int)≤N∧N≤1048576)=true by rw [KF];omega)
 have p0:=(HB.out.cell (p:=⟨bz,oz,none⟩) bG).trans P0.out
 have p1:=(HB.out.cell (p:=⟨bz,oz+(L-1),none⟩) bG).trans P1.out
 have bI:IntKind.i64.wrap ((L:Int)-1)=((L-1:Nat):Int):=by rw [JI _ (by omega)];omega
 have cv:((L-1:Nat):Int)<L:=by omega
 have cs:L-1<L:=by omega
 have cl:0<L:=by omega
 have cj:(0:Int)<L:=by omega
 go_wp2_with fail
 have j:(fun u:World=>u.cell? ⟨w.heap.size,12,none⟩=some (.slice D N cd)∧u.cell? ⟨w.heap.size+1,0,none⟩=some (.slice (some ⟨bz,oz,none⟩) L c)∧u.cell? ⟨bz,oz,none⟩=some (KL n0)∧u.cell? ⟨bz,oz+(L-1),none⟩=some (KL n1)) w1.drew:=⟨I,y0,p0,p1⟩
 refine HA.g (fun u:World=>u.cell? ⟨w.heap.size,12,none⟩=some (.slice D N cd)∧u.cell? ⟨w.heap.size+1,0,none⟩=some (.slice (some ⟨bz,oz,none⟩) L c)∧u.cell? ⟨bz,oz,none⟩=some (KL n0)∧u.cell? ⟨bz,oz+(L-1),none⟩=some (KL n1)) ?_
 refine HA.t ?_ [0,1,2,3,4,5,6,7,8,9,10,11,12,13] j ?_
 refine HA.o 14 (fun K hK=>?_)
 go_simp
 refine (ci.out n0 n1 _ HB.out.drew).mono ?_
 rintro e w3 ⟨a2,d,hd⟩
 have bb:=JL (am a2 j.1) (JL (am a2 j.2.1) (JL (am a2 j.2.2.1) (am a2 j.2.2.2)))
 have U:Below w1.heap.size w1 w3:=(JG w1.heap.size w1).drew.trans a2
 have Z:=(U.block _ lz).trans HZ.out
 have a3:=(U.block _ ly).trans HY.out
 obtain ⟨a8,bv,bf⟩:=af (HB.out.trans (U.mono HB.out.size)) Z a3
 obtain ⟨aG,rfl,b3⟩:∃aG,e=.returned (.tuple #[KL d,.bool aG])∧decide (∀x∈data,eH n0 n1 x)=aG:=by
  rcases hd with ⟨ha,rfl⟩ | ⟨ha,rfl⟩
  ·exact ⟨true,rfl,KA ha⟩
  ·exact ⟨false,rfl,KD ha⟩
 have a6:=aa b3;clear a2 U Z a3 hd b3 j
 dsimp only
 refine hK.out _ _ bb (fun j=>?_)
 clear hK K bb
 refine HA.t ?_ [15,16,17,18,19] j ?_
 refine HA.d ?_
 clear j z0 z1 z2 z3 z4 z5 z6 z7 z8 z9 a4 ab I a5 a1 zf y0 y1 y2 y3 y4 y5 y6 y7 y8 y9 Y a0 yf lz ly bI p0 p1
 have Z:=bv.out;have a3:=bf.out
 obtain ⟨⟨z0,z1,z2,z3,z4,z5,z6,z7,z8,z9,a4,ab,I,a5,a1⟩,zf⟩:=jM Z
 obtain ⟨⟨y0,y1,y2,y3,y4,y5,y6,y7,y8,y9,Y,a0⟩,yf⟩:=jN a3
 have lz:=JC Z;have ly:=JC a3
 clear Z a3
 rcases dB aG with rfl | rfl
 ·go_wp2_with fail
  go_quiet (fail)
  go_wp2_with fail
  go_ret
  exact ⟨aV (F5.out trivial G1.out (by rw [a6.out];rfl)).symm,JN a8.out _⟩
 have aR:=fun u (q:Below w3.heap.size w3 u)=>c6.out cb.out.1 u (a8.out.trans (q.mono a8.out.size))
 have b2:=aa aR;clear aR
 by_cases h5:M≠CN
 ·have hq:((M:Int) != (CN:Int))=true:=by rw [bne_iff_ne];omega
  have H5:=aa h5;clear h5
  go_wp2_with fail
  go_quiet ((go_at_call 62;refine Calls.quiet_of (b2.out _ ?_);exact al))
  go_wp2_with fail
  go_ret
  exact ⟨aV (F5.out trivial G1.out (by rw [a6.out,KD H5.out];rfl)).symm,JN a8.out _⟩
 have hq:((M:Int) != (CN:Int))=false:=by rw [bne_eq_false_iff_eq];omega
 have G2:=aa (show (decide (∀x∈data,eH n0 n1 x)&&decide (M=CN))=true by rw [a6.out,KA (show M=CN by omega)];rfl);clear h5
 go_wp2_with fail
 go_quiet ((go_at_call 62;refine Calls.quiet_of (b2.out _ ?_);exact al))
 go_wp2_with fail
 obtain ⟨V,hV⟩:∃V,V=w3.drewN nq:=⟨_,rfl⟩
 have bA:Below w.heap.size w V:=by rw [hV];exact JN a8.out _
 have b9:V.heap[w.heap.size]?=some (.cells #[.slice (some ⟨bz,oz,none⟩) L c,KL sh,KL ra,KL J,KL O,KL bt,KL mi,KL st,KL bu,KL ch,KL wi,KL ca,.slice D N cd,.slice T M ct,.slice R Q cr] 29 (0,0)):=by rw [hV];exact bv.out
 have bw:V.heap[w.heap.size+1]?=some (.cells #[.slice (some ⟨bz,oz,none⟩) L c,KL sh,KL ra,KL J,KL O,KL bt,KL mi,KL st,KL bu,KL ch,KL wi,KL ca] 24 (0,0)):=by rw [hV];exact bf.out
 clear z0 z1 z2 z3 z4 z5 z6 z7 z8 z9 a4 ab I a5 a1 zf y0 y1 y2 y3 y4 y5 y6 y7 y8 y9 Y a0 yf
 rw [←hV]
 clear hV
 obtain ⟨⟨z0,z1,z2,z3,z4,z5,z6,z7,z8,z9,a4,ab,I,a5,a1⟩,zf⟩:=jM b9
 obtain ⟨⟨y0,y1,y2,y3,y4,y5,y6,y7,y8,y9,Y,a0⟩,yf⟩:=jN bw
 have b8:=aa bA;clear bA b9 bw
 have C:=c9.out HG.out (by omega) V.drew b8.out.drew
 have bi:=aa C;clear C
 have j:(fun u:World=>u.cell? ⟨w.heap.size,14,none⟩=some (.slice R Q cr)∧u.cell? ⟨w.heap.size,12,none⟩=some (.slice D N cd)∧u.cell? ⟨w.heap.size+1,0,none⟩=some (.slice (some ⟨bz,oz,none⟩) L c)∧u.cell? ⟨w.heap.size+1,1,none⟩=some (KL sh)∧u.cell? ⟨w.heap.size+1,2,none⟩=some (KL ra)∧u.cell? ⟨w.heap.size+1,3,none⟩=some (KL J)∧u.cell? ⟨w.heap.size+1,4,none⟩=some (KL O)∧u.cell? ⟨w.heap.size+1,5,none⟩=some (KL bt)∧u.cell? ⟨w.heap.size+1,6,none⟩=some (KL mi)∧u.cell? ⟨w.heap.size+1,7,none⟩=some (KL st)∧u.cell? ⟨w.heap.size+1,8,none⟩=some (KL bu)∧u.cell? ⟨w.heap.size+1,9,none⟩=some (KL ch)∧u.cell? ⟨w.heap.size+1,10,none⟩=some (KL wi)∧u.cell? ⟨w.heap.size+1,11,none⟩=some (KL ca)) V.drew:=⟨a1,I,y0,y1,y2,y3,y4,y5,y6,y7,y8,y9,Y,a0⟩
 refine HA.g (fun u:World=>u.cell? ⟨w.heap.size,14,none⟩=some (.slice R Q cr)∧u.cell? ⟨w.heap.size,12,none⟩=some (.slice D N cd)∧u.cell? ⟨w.heap.size+1,0,none⟩=some (.slice (some ⟨bz,oz,none⟩) L c)∧u.cell? ⟨w.heap.size+1,1,none⟩=some (KL sh)∧u.cell? ⟨w.heap.size+1,2,none⟩=some (KL ra)∧u.cell? ⟨w.heap.size+1,3,none⟩=some (KL J)∧u.cell? ⟨w.heap.size+1,4,none⟩=some (KL O)∧u.cell? ⟨w.heap.size+1,5,none⟩=some (KL bt)∧u.cell? ⟨w.heap.size+1,6,none⟩=some (KL mi)∧u.cell? ⟨w.heap.size+1,7,none⟩=some (KL st)∧u.cell? ⟨w.heap.size+1,8,none⟩=some (KL bu)∧u.cell? ⟨w.heap.size+1,9,none⟩=some (KL ch)∧u.cell? ⟨w.heap.size+1,10,none⟩=some (KL wi)∧u.cell? ⟨w.heap.size+1,11,none⟩=some (KL ca)) ?_
 refine HA.t ?_ [0,1,2,3,4,5,6] j ?_
 refine HA.o 7 (fun K hK=>?_)
 go_simp
 refine bi.out.mono ?_
 rintro e w4 ⟨rfl,v⟩
 have bn:=aa (b8.out.trans ((JG V.heap.size V).drew.trans v |>.mono b8.out.size))
 have bo:=JL (am v j.1) (JL (am v j.2.1) (JL (am v j.2.2.1) (JL (am v j.2.2.2.1) (JL (am v j.2.2.2.2.1) (JL (am v j.2.2.2.2.2.1) (JL (am v j.2.2.2.2.2.2.1) (JL (am v j.2.2.2.2.2.2.2.1) (JL (am v j.2.2.2.2.2.2.2.2.1) (JL (am v j.2.2.2.2.2.2.2.2.2.1) (JL (am v j.2.2.2.2.2.2.2.2.2.2.1) (JL (am v j.2.2.2.2.2.2.2.2.2.2.2.1) (JL (am v j.2.2.2.2.2.2.2.2.2.2.2.2.1) (am v j.2.2.2.2.2.2.2.2.2.2.2.2.2)))))))))))))
 clear v j
 dsimp only
 refine hK.out _ _ bo (fun j=>?_)
 clear hK K bo
 refine HA.t ?_ [8] j ?_
 refine HA.d ?_
 clear j z0 z1 z2 z3 z4 z5 z6 z7 z8 z9 a4 ab I a5 a1 zf y0 y1 y2 y3 y4 y5 y6 y7 y8 y9 Y a0 yf
 by_cases h8:ND≤Q
 ·have bM:¬((Q:Int)<ND):=by omega
  have bX:decide ((Q:Int)<ND)=false:=by simp;omega
  have bN:decide (Q<ND)=false:=by simp;omega
  have G8:=aa (KA h8)
  go_wp2_with fail
  go_ret
  exact ⟨aV (F0.out trivial G1.out G2.out G8.out).symm,bn.out⟩
 ·have bM:(Q:Int)<ND:=by omega
  have bX:decide ((Q:Int)<ND)=true:=by simp;omega
  have bN:decide (Q<ND)=true:=by simp;omega
  have G8:=aa (KD h8)
  go_wp2_with fail
  go_ret
  exact ⟨aV (F8.out trivial G1.out G2.out G8.out).symm,bn.out⟩
end Go.Proofs.YtaccfnffmbndhaaGreat
