/- No condition. -/
import Derived.Test.YtgmajkppbhiopaaGreatE06
set_option linter.unusedSimpArgs false
set_option linter.unusedVariables false
set_option maxRecDepth 100000
set_option maxHeartbeats 4000000
namespace Go.Proofs.YtgmajkppbhiopaaGreat
open Go.RowKit
open Tryz
def fB (i:Inp):Mst:=⟨i.start,List.replicate i.start.length 0,List.replicate i.start.length 0,[(i.start,List.replicate i.start.length 0)],0,0,[]⟩
theorem zQ {T:TypeId} {B b:Nat} {w:World} {sz:List Int} (h:cF T (fL B w) b sz):cF T w.drew b sz:=(mz h (Agr.refl B w)).below ((br w).drew)
structure Lq (sz:List Int) (L wk bh mi sn bu ch wi ca n Q:Nat) (A:Option Addr) (c:Nat) (sh ra mo:Int) (D:Option Addr) (cd:Nat) (T:Option Addr) (ct:Nat) (R:Option Addr) (cr:Nat) (data:List Ex) (ps draws:List Int) (w:World):Prop where
 inp:∀N,N=data.length->∀w',aq w w'->Calls prog 43 #[.agg #[.slice A L c,MO sh,MO ra,MO mo,MO (wk:Nat),MO (bh:Nat),MO (mi:Nat),MO (sn:Nat),MO (bu:Nat),MO (ch:Nat),MO (wi:Nat),MO (ca:Nat),.slice D N cd,.slice T n ct,.slice R Q cr]] w' fun e w''=>e=.returned (MO 0)/\aq w' w''
 snew:∀w',aq w w'->Calls prog 77 #[.slice A L c] w' fun e w''=>∃F,e=.returned (.tuple #[(au F),MO 0])/\cF 212 (fL w.heap.size w'') F sz/\aq w' w''
 samp:∀N,N=data.length->∀w',aq w w'->Calls prog 81 #[MO (N:Nat),MO (bh:Nat),MO (sn:Nat),.slice R Q cr] w' fun e w''=>∃S,e=.returned (.tuple #[(au S),MO 0])/\fO (fL w.heap.size w'') S data.length bh sn draws/\aq w' w''
 cnt:∀F w',cF 212 w' F sz->Calls prog 79 #[(au F)] w' fun e w''=>e=.returned (MO (n:Nat))/\w'=w''
 chk:∀w',aq w w'->Calls prog 76 #[.agg #[.slice A L c,MO sh,MO ra,MO mo,MO (wk:Nat),MO (bh:Nat),MO (mi:Nat),MO (sn:Nat),MO (bu:Nat),MO (ch:Nat),MO (wi:Nat),MO (ca:Nat)]] w' fun e w''=>e=.returned (MO 0)/\aq w' w''
 dat:dA rEx 2 w D data
 dl:data.length<=1048576
 st:Rd w T (aA .i64 ps)
 sl:ps.length=n
def Win (h:Nat) (i:World) (ms:List Nat) (Q:World->Prop):Prop:=∃lo u,h<=lo/\Q (fL lo u)/\aq u i/\∀k∈ms,k<lo\/u.heap.size<=k
theorem ms5 {a b c d e lo h:Nat} (h1:a<lo\/h<=a) (i:b<lo\/h<=b) (u:c<lo\/h<=c) (o:d<lo\/h<=d) (p:e<lo\/h<=e):∀k∈[a,b,c,d,e],k<lo\/h<=k:=by
 intro k hk
 simp only [List.mem_cons,List.not_mem_nil,or_false] at hk
 rcases hk with rfl | rfl | rfl | rfl | rfl<;>assumption
structure Lp (sz:List Int) (x L wk bh mi sn bu ch wi ca N n:Nat) (A:Option Addr) (c:Nat) (sh ra mo:Int) (data:List Ex) (ps draws:List Int) (its:List Itm) (w w':World) (b:Nat) (a:MAd):Prop where
 blk:w'.heap[b]?=some (.cells #[MO (x:Nat),MO (wk:Nat),MO (mi:Nat),(au a.F),.slice a.E N a.ce,(au a.S),(au a.PP),.slice a.BA (Pln.buks ⟨wk,mi,bu,ch,wi,n⟩).length a.bc,MO ra,MO mo,MO sh,.slice (some (ar a.bp 0)) n a.cp,.slice (some (ar a.bm 0)) n a.cm,.slice (some (ar a.bg 0)) n a.cg,.slice (some (ar a.rb 0)) 1 a.rc,.slice a.IA its.length a.ic,MO 0,MO 0,MP] 179 (0,0))
 fo:Win w.heap.size w' [b,a.bp,a.bm,a.bg,a.rb] fun V=>cF 212 V a.F sz
 sa:Win w.heap.size w' [b,a.bp,a.bm,a.bg,a.rb] fun V=>fO V a.S data.length bh sn draws
 pl:Win w.heap.size w' [b,a.bp,a.bm,a.bg,a.rb] fun V=>eQ V a.PP ⟨wk,mi,bu,ch,wi,n⟩ (.slice A L c) (MO sh) (MO ra) (MO mo) (MO (bh:Nat)) (MO (sn:Nat)) (MO (ca:Nat))
 ex:Win w.heap.size w' [b,a.bp,a.bm,a.bg,a.rb] fun V=>dA rEx 2 V a.E data
 bu:Win w.heap.size w' [b,a.bp,a.bm,a.bg,a.rb] fun V=>Rd V a.BA (aN (Pln.buks ⟨wk,mi,bu,ch,wi,n⟩))
 it:Win w.heap.size w' [b,a.bp,a.bm,a.bg,a.rb] fun V=>Rd V a.IA (cu its)
 re:∃A1 c1 A2 c2,n<=c1/\n<=c2/\w'.heap[a.rb]?=some (.cells #[.slice A1 n c1,.slice A2 n c2] 141 (0,0))/\(Win w.heap.size w' [b,a.bp,a.bm,a.bg,a.rb] fun V=>Rd V A1 (aA .i64 ps))/\(Win w.heap.size w' [b,a.bp,a.bm,a.bg,a.rb] fun V=>Rd V A2 (aA .i64 (List.replicate n 0)))
 oP:w'.ownsRow 0 2 1 (.slice (some (ar a.bp 0)) n a.cp) n (aA .i64 ps)
 oM:w'.ownsRow 0 2 1 (.slice (some (ar a.bm 0)) n a.cm) n (aA .i64 (List.replicate n 0))
 oG:w'.ownsRow 0 2 1 (.slice (some (ar a.bg 0)) n a.cg) n (aA .i64 (List.replicate n 0))
 lo:w.heap.size<=b/\w.heap.size<=a.bp/\w.heap.size<=a.bm/\w.heap.size<=a.bg/\w.heap.size<=a.rb
 dj:a.bp≠a.bm/\a.bp≠a.bg/\a.bm≠a.bg
 ov:a.ov=MP
 rc:a.rc=1
 k:aq w w'
theorem Dl (sz:List Int) (x L H bh mi sn bu ch wi ca N n Q:Nat) (A:Option Addr) (c:Nat) (sh ra O:Int) (D:Option Addr) (cd:Nat) (T:Option Addr) (ct:Nat) (R:Option Addr) (cr:Nat) (data:List Ex) (ps draws:List Int) (w:World) (a9:Ending->World->Prop)
  (h:Lq sz L H bh mi sn bu ch wi ca n Q A c sh ra O D cd T ct R cr data ps draws w) (hN:N=data.length) (hx:x<H) (hp:db ⟨H,mi,bu,ch,wi,n⟩) (hn:1<=n) (cj:bu<=1048576) (cc:wi<=1048576) (J:List Itm)
  (a8:∀P C,eQ C P ⟨H,mi,bu,ch,wi,n⟩ (.slice A L c) (MO sh) (MO ra) (MO O) (MO (bh:Nat)) (MO (sn:Nat)) (MO (ca:Nat))->Calls prog 87 #[(au P),MO (x:Nat),MO 0] C fun e bn=>∃v,e=.returned v/\bn.ownsRow C.heap.size 152 12 v J.length (cu J)/\aq C bn)
  (a7:∀C b a,Lp sz x L H bh mi sn bu ch wi ca N n A c sh ra O data ps draws J w C b a->a9 (.returned (.tuple #[(au b),MO 0])) C):Calls prog 44 #[.agg #[.slice A L c,MO sh,MO ra,MO O,MO (H:Nat),MO (bh:Nat),MO (mi:Nat),MO (sn:Nat),MO (bu:Nat),MO (ch:Nat),MO (wi:Nat),MO (ca:Nat),.slice D N cd,.slice T n ct,.slice R Q cr],MO (x:Nat)] w a9:=by
 obtain ⟨W0,a4⟩:∃W0,w.alloc (.cells #[.slice A L c,MO sh,MO ra,MO O,MO (H:Nat),MO (bh:Nat),MO (mi:Nat),MO (sn:Nat),MO (bu:Nat),MO (ch:Nat),MO (wi:Nat),MO (ca:Nat),.slice D N cd,.slice T n ct,.slice R Q cr] 29)=W0:=⟨_,rfl⟩
 have g0:W0.heap[w.heap.size]?=some (.cells #[.slice A L c,MO sh,MO ra,MO O,MO (H:Nat),MO (bh:Nat),MO (mi:Nat),MO (sn:Nat),MO (bu:Nat),MO (ch:Nat),MO (wi:Nat),MO (ca:Nat),.slice D N cd,.slice T n ct,.slice R Q cr] 29 (0,0)):=by rw [<-a4];exact LP w _
 have aG:aq w W0:=by rw [<-a4];exact (br w).alloc (LO _) _
 have bv:=h.inp N hN W0 aG
 have cL:¬((H:Int)<=x):=ap
 have b0:=hp.n
 dsimp only at b0
 have t0:=fun C q=>ki (sb g0 C q)
 obtain ⟨cl,be,bV,Hh,HN,bl,b6,Hl⟩:=ak a4 aG bv h hN a7 a8 h.sl;have cs:n<=1048576:=ap
 have q0:=br W0
 clear a4 g0 aG bv h hN a7 a8
 go_enter func44,ntmps44
 go_wp2_with fail
 rw [cl.o]
 refine bV.o.mono ?_
 rintro e w1 ⟨rfl,k1⟩
 have q1:=bt q0 k1
 obtain ⟨W2,a3⟩:∃W2,w1.alloc (.cells #[.slice A L c,MO sh,MO ra,MO O,MO (H:Nat),MO (bh:Nat),MO (mi:Nat),MO (sn:Nat),MO (bu:Nat),MO (ch:Nat),MO (wi:Nat),MO (ca:Nat)] 24)=W2:=⟨_,rfl⟩
 have g2:W2.heap[w1.heap.size]?=some (.cells #[.slice A L c,MO sh,MO ra,MO O,MO (H:Nat),MO (bh:Nat),MO (mi:Nat),MO (sn:Nat),MO (bu:Nat),MO (ch:Nat),MO (wi:Nat),MO (ca:Nat)] 24 (0,0)):=by rw [<-a3];exact LP w1 _
 have k2:aq w1 W2:=by rw [<-a3];exact (br w1).alloc (LO _) _
 have q2:=bt q1 k2
 have t2:=fun C q=>kl (sb g2 C q)
 have u2:=fun C (q:aq W2 C)=>t0 C (bt q2 q)
 obtain ⟨bG,Q2⟩:=ae a3 (be.o.trans (q2.mono be.o.size));clear a3 g2 k1 k2
 go_wp2_with fail
 rw [bG.o]
 have cn:=br W2
 clear q0 q1 q2 t0
 refine (Hh.o.snew _ Q2.o).mono ?_
 rintro e w3 ⟨F,rfl,hF,k3⟩
 have q3:=bt cn k3
 obtain ⟨Q3,HF⟩:=ae (Q2.o.trans (k3.mono Q2.o.size)) hF;clear hF k3
 go_wp2_with fail
 refine (Hh.o.samp N HN.o _ Q3.o).mono ?_
 rintro e w4 ⟨S,rfl,hS,k4⟩
 have q4:=bt q3 k4
 obtain ⟨Q4,HS,K4⟩:=af (Q3.o.trans (k4.mono Q3.o.size)) hS k4
 have b4:=HF.o.below (BU k4)
 have av:=aa b4;clear hS k4 b4
 go_wp2_with fail
 refine HA.g (fun C:World=>aq W2 C) ?_
 refine HA.t ?_ [0,1] q4.drew ?_
 refine HA.c 2 (Hh.o.cnt F _ (zQ av.o)) ?_
 rintro e w5 ⟨rfl,rfl⟩
 refine ⟨_,rfl,q4.drew,fun _=>?_⟩
 have aP:=CU ⟨H,mi,bu,ch,wi,n⟩ (.slice A L c) (MO sh) (MO ra) (MO O) (MO (bh:Nat)) (MO (sn:Nat)) (MO (ca:Nat)) w4.drew hp hn cj cc (fun C q=>Hh.o.chk C (Q4.o.drew.trans (q.mono Q4.o.size)))
 dsimp only at aP
 refine HA.c 3 aP ?_
 rintro e w6 ⟨PP,rfl,cA,b3,k6⟩
 have q6:=bt q4.drew k6
 refine ⟨_,rfl,q6,fun _=>?_⟩
 refine HA.t ?_ [4,5,6,7,8] q6 ?_
 refine HA.d ?_
 try simp only [Exit.then]
 have K6:=aa (show aq w4 w6 from (br w4).drew.trans k6);obtain ⟨Q6,ao⟩:=ae (Q4.o.trans (K6.o.mono Q4.o.size)) b3;clear aP b3 k6 q4 q3
 have b8:=yv T n ct ps w6 (Hh.o.st.below Q6.o) Hh.o.sl ap
 have bz:=aa b8;clear b8
 go_wp2_with fail
 refine bz.o.mono ?_
 rintro e w7 ⟨Ap,cp,Am,cm,rfl,cv,c7,oP,oM,bs,k7⟩
 obtain ⟨bp,cO,e1,bw,b1⟩:=oP.form ap
 obtain ⟨bm,cw,e2,bf,bd⟩:=oM.form ap
 injection e1 with e1 _ e1c
 injection e2 with e2 _ e2c
 subst e1;subst e2;subst e1c;subst e2c
 obtain ⟨W8,a5⟩:∃W8,w7.alloc (.cells #[.slice (some (ar bp 0)) n cp,.slice (some (ar bm 0)) n cm] 141)=W8:=⟨_,rfl⟩
 have g8:W8.heap[w7.heap.size]?=some (.cells #[.slice (some (ar bp 0)) n cp,.slice (some (ar bm 0)) n cm] 141 (0,0)):=by rw [<-a5];exact LP w7 _
 have k8:aq w7 W8:=by rw [<-a5];exact (br w7).alloc (LO _) _
 have a6:=bt k7 k8
 have q8:=bt q6 a6
 have t8:=fun C q=>bx2 (sb g8 C q)
 have v8:=fun C (q:aq W8 C)=>u2 C (bt q8 q)
 have x8:=fun C (q:aq W8 C)=>t2 C (bt q8 q)
 have aR:bp≠bm:=fun e=>bs bp rfl (by rw [e];rfl)
 obtain ⟨bO,Q8,K8,OP,OM,c6⟩:=ai a5 (Q6.o.trans (a6.mono Q6.o.size)) a6 (ay oP k8) (ay oM k8) aR
 have b7:=br W8
 have p1:w6.heap.size<=bp:=bw
 have p2:bp<W8.heap.size:=LV b1 k8.size
 have p3:w6.heap.size<=bm:=bf
 have p4:bm<W8.heap.size:=LV bd k8.size
 clear a5 g8 k7 k8 a6 oP oM bs q6 q8 u2 t2 cv c7 aR
 go_wp2_with fail
 rw [bO.o]
 refine HA.g (fun C:World=>aq W8 C) ?_
 refine HA.t ?_ [0,1,2,3,4,5,6,7,9,10,11,13,14,15,16,17,18,19,21,22,25,28,29] b7.drew ?_
 have c8:dA rEx 2 W8.drew D data:=Hh.o.dat.below eU (Q8.o.drew)
 have b2:=xQ D data cd W8.drew c8 Hh.o.dl
 rw [<-HN.o] at b2
 refine HA.c 8 b2 ?_
 rintro e w9 ⟨E,ce,rfl,hE,k9⟩
 have q9:=bt b7.drew k9
 refine ⟨_,rfl,q9,fun _=>?_⟩
 have bo:eQ w9 PP ⟨H,mi,bu,ch,wi,n⟩ (.slice A L c) (MO sh) (MO ra) (MO O) (MO (bh:Nat)) (MO (sn:Nat)) (MO (ca:Nat)):=(ao.o.agr (Agr.refl _ w6)).below (bt K8.o q9)
 refine HA.c 12 (Fw _ PP _ _ _ _ _ _ _ w9 hp bo) ?_
 rintro e x0 ⟨v10,rfl,ab,a0⟩
 have q0:=bt q9 a0
 obtain ⟨BA,bc,rfl,_⟩:=aD ab
 refine ⟨_,rfl,q0,fun _=>?_⟩
 have b9:cF 212 x0 F sz:=(mz av.o (Agr.refl _ w4)).below (bt (bt (bt K6.o K8.o) q9) a0)
 refine HA.t ?_ [20] q0 ?_
 refine HA.c 23 (Hh.o.cnt F x0 b9) ?_
 rintro e cy ⟨rfl,rfl⟩
 refine ⟨_,rfl,q0,fun _=>?_⟩
 have ci:w.heap.size<=w4.heap.size:=Q4.o.size
 have cx:w4.heap.size<=w6.heap.size:=K6.o.size
 have cP:w6.heap.size<=W8.heap.size:=K8.o.size
 have cM:W8.heap.size<=w9.heap.size:=k9.size
 have cb:w9.heap.size<=x0.heap.size:=a0.size
 -- BRANCHES
 obtain ⟨x9,aM⟩:∃x9,x9=x0:=⟨_,rfl⟩
 have y:aq x9 x0:=by rw [aM];exact br _
 rw [<-aM] at ab a0 cb
 clear aM
 have q:=q0
 clear q0
 obtain ⟨U,rfl⟩:∃U,U=x0:=⟨_,rfl⟩
 repeat' first
  | (refine HA.three 24 27 30 ?_ ?_ ?_)
  | (refine HA.two 24 26 ?_ ?_)
  | (refine HA.two 27 30 ?_ ?_)
  | (refine HA.two 24 30 ?_ ?_)
  | (refine HA.two 24 27 ?_ ?_)
  | (refine HA.sole 24 ?_)
  | (refine HA.sole 26 ?_)
  | (refine HA.sole 27 ?_)
  | (refine HA.sole 30 ?_)
  | (obtain ⟨V,bi,gG,p⟩:=lV lE U rfl n ap (by unfold maxLen;omega);refine HAS.v (i:=24) V (.slice (some (ar U.heap.size 0)) n n) (bt q p) ?_;clear bi;rw [eZ] at gG;(try have:=u.size);(try have:=B.size);(try have:=LN I);(try have:G<U.heap.size:=(fR oG _ rfl).2);have:=y.size;(try replace oG:=ay oG p);(try replace I:=sb I _ p);(try replace u:=bt u p);(try replace B:=bt B p);replace y:=bt y p;replace q:=bt q p;have oG:=gG;have tG:U.heap.size<V.heap.size:=(fR oG _ rfl).2;obtain ⟨G,hG⟩:∃G,U.heap.size=G:=⟨_,rfl⟩;rw [hG] at oG ⊢;clear gG p;obtain ⟨U,rfl⟩:∃U,U=V:=⟨_,rfl⟩)
  | (refine HAS.c (i:=26) (jS (some (ar bp 0)) (some (ar bm 0)) n cp cm ps (List.replicate n 0) U (Rd.own (ay OP.o q)) (Rd.own (ay OM.o q)) Hl.o (Mv ..) cs) ?_;rintro e V ⟨A1,c1,A2,c2,rfl,bA,bM,o1,o2,_,p⟩;(try have:=u.size);(try have:=B.size);(try have:=LN I);(try have:G<U.heap.size:=(fR oG _ rfl).2);have:=y.size;(try replace oG:=ay oG p);(try replace I:=sb I _ p);(try replace u:=bt u p);(try replace B:=bt B p);replace y:=bt y p;replace q:=bt q p;refine ⟨_,rfl,q,fun _=>?_⟩;obtain ⟨a2,c9⟩:∃s,U.heap.size=s:=⟨_,rfl⟩;rw [c9] at o1 o2;have bX:=p.size;obtain ⟨Y,hw⟩:∃Y,Y=V:=⟨_,rfl⟩;have u:aq Y V:=(by rw [hw];exact br _);rw [<-hw] at o1 o2 bX;clear hw p;obtain ⟨U,rfl⟩:∃U,U=V:=⟨_,rfl⟩)
  | (have p:=(br U).alloc (LO _) (.cells #[.slice A1 n c1,.slice A2 n c2] 141);have nR:=LP U (.cells #[.slice A1 n c1,.slice A2 n c2] 141);refine HAS.v (i:=27) (U.alloc (.cells #[.slice A1 n c1,.slice A2 n c2] 141)) (.slice (some (ar U.heap.size 0)) 1 1) (bt q p) ?_;obtain ⟨V,hv⟩:∃V,U.alloc (.cells #[.slice A1 n c1,.slice A2 n c2] 141)=V:=⟨_,rfl⟩;rw [hv] at nR p ⊢;clear hv;(try have:=u.size);(try have:=B.size);(try have:=LN I);(try have:G<U.heap.size:=(fR oG _ rfl).2);have:=y.size;(try replace oG:=ay oG p);(try replace I:=sb I _ p);(try replace u:=bt u p);(try replace B:=bt B p);replace y:=bt y p;replace q:=bt q p;have I:=nR;have tR:=LN I;obtain ⟨Z,hR⟩:∃r,U.heap.size=r:=⟨_,rfl⟩;rw [hR] at I ⊢;clear nR p;obtain ⟨U,rfl⟩:∃U,U=V:=⟨_,rfl⟩)
  | (refine HAS.c (i:=30) (b6.o PP U ((ao.o.agr (Agr.refl _ w6)).below (bt K8.o q))) ?_;rintro e V ⟨v,rfl,oS,p⟩;obtain ⟨IA,ic,rfl,_⟩:=aD oS;(try have:=u.size);(try have:=B.size);(try have:=LN I);(try have:G<U.heap.size:=(fR oG _ rfl).2);have:=y.size;(try replace oG:=ay oG p);(try replace I:=sb I _ p);(try replace u:=bt u p);(try replace B:=bt B p);replace y:=bt y p;replace q:=bt q p;refine ⟨_,rfl,q,fun _=>?_⟩;obtain ⟨ad,co⟩:∃s,U.heap.size=s:=⟨_,rfl⟩;rw [co] at oS;have bI:=p.size;obtain ⟨a1,hw⟩:∃a1,a1=V:=⟨_,rfl⟩;have B:aq a1 V:=(by rw [hw];exact br _);rw [<-hw] at oS bI;clear hw p;obtain ⟨U,rfl⟩:∃U,U=V:=⟨_,rfl⟩)
  | (refine HA.t ?_ [31] q ?_)
  | fail
 all_goals
  have gB:=LP U (Obj.cells #[MO (x:Nat),MO (H:Nat),MO (mi:Nat),(au F),.slice E N ce,(au S),(au PP),.slice BA (Pln.buks ⟨H,mi,bu,ch,wi,n⟩).length bc,MO ra,MO O,MO sh,.slice (some (ar bp 0)) n cp,.slice (some (ar bm 0)) n cm,.slice (some (ar G 0)) n n,.slice (some (ar Z 0)) 1 1,.slice IA J.length ic,MO 0,MO 0,MP] 179)
  have p:=(br U).alloc (LO _) (Obj.cells #[MO (x:Nat),MO (H:Nat),MO (mi:Nat),(au F),.slice E N ce,(au S),(au PP),.slice BA (Pln.buks ⟨H,mi,bu,ch,wi,n⟩).length bc,MO ra,MO O,MO sh,.slice (some (ar bp 0)) n cp,.slice (some (ar bm 0)) n cm,.slice (some (ar G 0)) n n,.slice (some (ar Z 0)) 1 1,.slice IA J.length ic,MO 0,MO 0,MP] 179)
  refine HA.v 32 (U.alloc (Obj.cells #[MO (x:Nat),MO (H:Nat),MO (mi:Nat),(au F),.slice E N ce,(au S),(au PP),.slice BA (Pln.buks ⟨H,mi,bu,ch,wi,n⟩).length bc,MO ra,MO O,MO sh,.slice (some (ar bp 0)) n cp,.slice (some (ar bm 0)) n cm,.slice (some (ar G 0)) n n,.slice (some (ar Z 0)) 1 1,.slice IA J.length ic,MO 0,MO 0,MP] 179)) ((au U.heap.size)) (bt q p) ?_
  obtain ⟨V,hv⟩:∃V,U.alloc (Obj.cells #[MO (x:Nat),MO (H:Nat),MO (mi:Nat),(au F),.slice E N ce,(au S),(au PP),.slice BA (Pln.buks ⟨H,mi,bu,ch,wi,n⟩).length bc,MO ra,MO O,MO sh,.slice (some (ar bp 0)) n cp,.slice (some (ar bm 0)) n cm,.slice (some (ar G 0)) n n,.slice (some (ar Z 0)) 1 1,.slice IA J.length ic,MO 0,MO 0,MP] 179)=V:=⟨_,rfl⟩
  rw [hv] at gB p ⊢
  clear hv
  refine HA.t ?_ [33] (bt q p) ?_
  refine HA.d ?_
  try simp only [Exit.then]
  (try have:=u.size);(try have:=B.size);(try have:=LN I);(try have:G<U.heap.size:=(fR oG _ rfl).2);have:=y.size
  obtain ⟨bb,hb⟩:∃b,U.heap.size=b:=⟨_,rfl⟩
  rw [hb] at gB ⊢
  have z8:=bt q p;have z6:=bt K8.o z8;have zz:=bt K6.o z6;have z0:=bt y p;have z9:=bt a0 z0;have b5:=bt u p;have cf:=bt B p
  have mF:∀k∈[bb,bp,bm,G,Z],k<w.heap.size\/w4.heap.size<=k:=by apply ms5<;>omega
  have mP:∀k∈[bb,bp,bm,G,Z],k<w4.heap.size\/w6.heap.size<=k:=by apply ms5<;>omega
  have mE:∀k∈[bb,bp,bm,G,Z],k<W8.heap.size\/w9.heap.size<=k:=by apply ms5<;>omega
  have mB:∀k∈[bb,bp,bm,G,Z],k<w9.heap.size\/x9.heap.size<=k:=by apply ms5<;>omega
  have mI:∀k∈[bb,bp,bm,G,Z],k<ad\/a1.heap.size<=k:=by apply ms5<;>omega
  have mS:∀k∈[bb,bp,bm,G,Z],k<a2\/Y.heap.size<=k:=by apply ms5<;>omega
  have lS:w.heap.size<=a2/\w.heap.size<=ad/\w.heap.size<=W8.heap.size/\w.heap.size<=w9.heap.size:=ap
  have l1:w.heap.size<=bb/\w.heap.size<=bp/\w.heap.size<=bm/\w.heap.size<=G/\w.heap.size<=Z:=ap
  have l6:bp≠G/\bm≠G:=ap
  have bN:=bl.o V bb ⟨F,E,ce,S,PP,BA,bc,bp,cp,bm,cm,G,n,Z,1,IA,ic,MP⟩ ⟨gB,⟨_,w4,LO _,av.o,zz,mF⟩,⟨_,w4,LO _,HS.o,zz,mF⟩,⟨_,w6,ci,ao.o,z6,mP⟩,⟨W8.heap.size,w9,lS.2.2.1,hE,z9,mE⟩,⟨w9.heap.size,x9,lS.2.2.2,Rd.own (fq ab (LO _)),z0,mB⟩,⟨ad,a1,lS.2.1,Rd.own (fq oS (LO _)),cf,mI⟩,⟨A1,c1,A2,c2,bA,bM,sb I _ p,⟨a2,Y,lS.1,Rd.own (fq o1 (LO _)),b5,mS⟩,⟨a2,Y,lS.1,Rd.own (fq o2 (LO _)),b5,mS⟩⟩,aE (ay OP.o z8) (LS _),aE (ay OM.o z8) (LS _),aE (ay oG p) (LS _),l1,⟨c6.o,l6.1,l6.2⟩,rfl,rfl,bt Q4.o zz⟩
  go_wp2_with fail
  exact bN
theorem jP {i:Nat} {p o:World} {ms:List Nat} {Q:World->Prop} {S:Nat->Prop} (h:Win i p ms Q) (C:∀{u v},Q u->Ext u v->Q v) (hk:Keep (fun k=>k<i) p o) (B:∀k,S k->k<i\/k∈ms):Q (aF S o):=by
 obtain ⟨lo,u,h1,y,x,A⟩:=h
 refine C y (Gy (fun k hB hl=>(hk.block k (LV hl x.size) ap).trans (x.block k hl)) fun k hB hl hs=>?_)
 rcases B k hs with h | h
 ·omega
 ·rcases A k h with h | h<;>omega
theorem De {H:Nat->Prop} {i:Inp} {x L:Nat} {A:Option Addr} {c:Nat} {w N B:World} {b:Nat} {a:MAd} (hr:Lp i.cfg.sizes x L i.cfg.workers.toNat i.cfg.batch.toNat i.cfg.micros.toNat i.cfg.steps.toNat i.cfg.bucket.toNat i.cfg.chunk.toNat i.cfg.window.toNat i.cfg.cap.toNat i.data.length i.start.length A c i.cfg.shift i.cfg.rate i.cfg.mom i.data i.start i.draws (cR i x 0) w N b a)
  (hg:iZ i.cfg) (hw:W64 i.start) (hl:i.start.length<=1048576) (hx:x<(aB i).W) (hk:Keep (fun k=>k<w.heap.size) N B) (hH:∀k,H k->k<w.heap.size):aT H B b i x a (fB i):=by
 have O:∀k,Mut b a k->k∈[b,a.bp,a.bm,a.bg,a.rb]:=by
  rintro k (rfl | rfl | rfl | rfl | rfl | h)
  ·simp
  ·simp
  ·simp
  ·simp
  ·simp
  ·rw [hr.ov] at h;exact absurd h (by simp [Value.ownBlock])
 have C:∀k,fT H b a k->k<w.heap.size\/k∈[b,a.bp,a.bm,a.bg,a.rb]:=fun k hk=>hk.elim (fun h=>.inr (O k h)) fun h=>.inl (hH k h)
 have a0:=hr.lo
 have I:∀k,k∈[b,a.bp,a.bm,a.bg,a.rb]->¬k<w.heap.size:=by
  intro k hk
  simp only [List.mem_cons,List.not_mem_nil,or_false] at hk
  rcases hk with rfl | rfl | rfl | rfl | rfl<;>omega
 have u:W64 (List.replicate i.start.length 0):=fun k hk=>by
  rw [dE _ _ hk];simp
 have p:∀{v:Value} {e size n:Nat} {xs:List Value},(∀k,v.ownBlock=some k->Mut b a k)->N.ownsRow 0 e size v n xs->B.ownsRow 0 e size v n xs:=fun hv h=>hk.own h fun k U Q=>I k (O k (hv k U)) Q
 have D:∀{k:Nat} {o:Obj},Mut b a k->N.heap[k]?=some o->B.heap[k]?=some o:=fun hm hb=>(hk.block _ (LN hb) (I _ (O _ hm))).trans hb
 obtain ⟨A1,c1,A2,c2,V,Z,gR,r1,r2⟩:=hr.re
 have R:=D (.inr (.inr (.inr (.inr (.inl rfl))))) gR
 have T:=hr.rc
 have ew:((i.cfg.workers.toNat:Nat):Int)=i.cfg.workers:=by have:=hg.w;omega
 have em:((i.cfg.micros.toNat:Nat):Int)=i.cfg.micros:=by have:=hg.mi;omega
 have J:=D (.inl rfl) hr.blk
 rw [ew,em] at J
 refine ⟨?_,jP hr.fo fl hk C,jP hr.ex (eA cJ) hk C,jP hr.sa gE hk C,⟨_,_,_,_,_,_,jP hr.pl gF hk C⟩,jP hr.bu aV hk C,jP hr.it aV hk C,?_,
  p (fun k e=>by cases e;exact .inr (.inl rfl)) hr.oP,p (fun k e=>by cases e;exact .inr (.inr (.inl rfl))) hr.oM,p (fun k e=>by cases e;exact .inr (.inr (.inr (.inl rfl)))) hr.oG,?_,hr.dj,fun k _ hm hh=>I k (O k hm) (hH k hh),
  ⟨rfl,hw⟩,⟨by simp [fB],u⟩,⟨by simp [fB],u⟩,?_,hx⟩
 ·have e0:bD i x (fB i)=0:=by simp [bD,fB]
  rw [e0,hr.ov]
  exact J
 ·refine ⟨[[.slice A1 i.start.length c1,.slice A2 i.start.length c2]],⟨rfl,.inr ⟨a.rb,1,_,by rw [T];first | done | rfl,LS _,R,LO _,by unfold maxLen;omega,by simp,rfl⟩⟩,rfl,by simp,?_⟩
  intro j y Y
  cases j with
  | succ j=>simp [fB] at Y
  | zero=>
   simp [fB] at Y
   subst Y
   exact ⟨A1,c1,A2,c2,by simp [cq],⟨V,by dsimp only;omega,jP r1 aV hk C,hw⟩,⟨by rw [Mv];exact Z,by rw [Mv];omega,jP r2 aV hk C,u⟩⟩
 ·rw [hr.ov];exact LZ _ _ _ _
 ·show (0<(cR i x 0).length)\/_
  unfold cR
  by_cases h:0<i.cfg.steps.toNat
  ·rw [if_pos h];exact .inl (ji _ _ _)
  ·exact .inr ⟨rfl,by show i.cfg.steps.toNat<=0;omega⟩
def LG (i:Inp) (x:Nat) (w:World) (e:Ending) (h:World):Prop:=∃b a,e=.returned (.tuple #[(au b),MO 0])/\aq w h/\(∀k,Mut b a k->w.heap.size<=k)/\
 ∀(H:Nat->Prop) w'',Keep (fun k=>k<w.heap.size) h w''->(∀k,H k->k<w.heap.size)->aT H w'' b i x a (fB i)
theorem Dm (A:Option Addr) (c:Nat) (D:Option Addr) (B:Nat) (T:Option Addr) (y:Nat) (R:Option Addr) (u:Nat) (i:Inp) (x:Nat) (w:World) (h:ge w A c D T y R i) (hs:cK i) (I:x<(aB i).W):
  Calls prog 44 #[.agg (aO A c D B T y R u i),MO (x:Nat)] w (LG i x w):=by
 have hg:=hs.g.c
 have ew:((i.cfg.workers.toNat:Nat):Int)=i.cfg.workers:=by have:=hg.w;omega
 have eb:((i.cfg.batch.toNat:Nat):Int)=i.cfg.batch:=by have:=hg.ba;have:=hg.w;omega
 have em:((i.cfg.micros.toNat:Nat):Int)=i.cfg.micros:=by have:=hg.mi;omega
 have es:((i.cfg.steps.toNat:Nat):Int)=i.cfg.steps:=by have:=hg.st;omega
 have eu:((i.cfg.bucket.toNat:Nat):Int)=i.cfg.bucket:=by have:=hg.bu;omega
 have Z:((i.cfg.chunk.toNat:Nat):Int)=i.cfg.chunk:=by have:=hg.ch;omega
 have ei:((i.cfg.window.toNat:Nat):Int)=i.cfg.window:=by have:=hg.wi;omega
 have ea:((i.cfg.cap.toNat:Nat):Int)=i.cfg.cap:=by have:=hg.ca;omega
 have hv:aO A c D B T y R u i=#[.slice A i.cfg.sizes.length c,MO i.cfg.shift,MO i.cfg.rate,MO i.cfg.mom,MO (i.cfg.workers.toNat:Nat),MO (i.cfg.batch.toNat:Nat),MO (i.cfg.micros.toNat:Nat),MO (i.cfg.steps.toNat:Nat),MO (i.cfg.bucket.toNat:Nat),MO (i.cfg.chunk.toNat:Nat),MO (i.cfg.window.toNat:Nat),MO (i.cfg.cap.toNat:Nat),.slice D i.data.length B,.slice T i.start.length y,.slice R i.draws.length u]:=by
  rw [ew,eb,em,es,eu,Z,ei,ea]
 have O:dh A c i.cfg=#[.slice A i.cfg.sizes.length c,MO i.cfg.shift,MO i.cfg.rate,MO i.cfg.mom,MO (i.cfg.workers.toNat:Nat),MO (i.cfg.batch.toNat:Nat),MO (i.cfg.micros.toNat:Nat),MO (i.cfg.steps.toNat:Nat),MO (i.cfg.bucket.toNat:Nat),MO (i.cfg.chunk.toNat:Nat),MO (i.cfg.window.toNat:Nat),MO (i.cfg.cap.toNat:Nat)]:=by
  rw [ew,eb,em,es,eu,Z,ei,ea]
 have C:=hs.g.s
 unfold cnt at C
 have U:Lq i.cfg.sizes i.cfg.sizes.length i.cfg.workers.toNat i.cfg.batch.toNat i.cfg.micros.toNat i.cfg.steps.toNat i.cfg.bucket.toNat i.cfg.chunk.toNat i.cfg.window.toNat i.cfg.cap.toNat i.start.length i.draws.length A c i.cfg.shift i.cfg.rate i.cfg.mom D B T y R u i.data i.start i.draws w:=by
  constructor
  ·intro N Y o q
   subst Y
   have:=um A c D B T y R u i o (h.below q)
   rw [oV.2 hs.g,hv] at this
   exact this
  ·intro o q
   refine (rh A i.cfg.sizes c o (h.c.hr.below q) h.c.hc h.c.hm).mono ?_
   rintro e v ⟨hb,L⟩
   rcases L with ⟨_,S,he,V,_⟩ | ⟨J,_⟩
   ·exact ⟨S,he,mz V (BG q.size),hb⟩
   ·exact absurd hg.z J
  ·intro N Y o q
   subst Y
   have gd:=hs.g.d;have gb:=hs.g.b;have g1:=hg.w;have g2:=hg.ba;have g3:=hg.st
   unfold mg at gd
   refine (uW R i.draws u i.data.length i.cfg.batch.toNat i.cfg.steps.toNat o (h.r.below q) h.rl h.ru ap ap gb.2 ap gd).mono ?_
   rintro e v ⟨S,he,V,_,hb⟩
   exact ⟨S,he,Eb V (BG q.size),hb⟩
  ·intro F o hF
   have:=jU F i.cfg.sizes o hF
   rw [<-C] at this
   exact this
  ·intro o q
   have:=pS A c i.cfg o (h.c.below q)
   rw [gM.2 hg,O] at this
   exact this
  ·exact h.d
  ·exact h.dl
  ·exact h.t.hr
  ·rfl
 rw [hv]
 refine Dl i.cfg.sizes x i.cfg.sizes.length _ _ _ _ _ _ _ _ i.data.length i.start.length i.draws.length A c _ _ _ D B T y R u i.data i.start i.draws w _ U rfl I hs.ok hs.n1 (by have:=hg.bu;omega) (by have:=hg.wi;omega) (cR i x 0) ?_ ?_
 ·intro P o hP
  unfold cR
  by_cases Q:0<i.cfg.steps.toNat
  ·rw [if_pos Q]
   exact tO (aB i) P x 0 i.cfg.steps.toNat _ _ _ _ _ _ o hs.ok hs.n1 I Q hP
  ·rw [if_neg Q]
   refine (tM (aB i) P x 0 i.cfg.steps.toNat _ _ _ _ _ _ o I ap hP).mono ?_
   rintro e v ⟨rfl,rfl⟩
   exact ⟨_,rfl,LZ _ _ _ _,br _⟩
 ·intro o b a hr
  refine ⟨b,a,rfl,hr.k,?_,fun H v hk hH=>De hr hg h.t.hw h.tl I hk hH⟩
  have p:=hr.lo
  rintro k (rfl | rfl | rfl | rfl | rfl | hh)
  ·exact p.1
  ·exact p.2.1
  ·exact p.2.2.1
  ·exact p.2.2.2.1
  ·exact p.2.2.2.2
  ·rw [hr.ov] at hh;exact absurd hh (by simp [Value.ownBlock])
theorem lX (A:Option Addr) (L c:Nat) (sh ra p u x mi sn bu ch wi ca:Int) (D:Option Addr) (N V:Nat) (T:Option Addr) (n Z:Nat) (R:Option Addr) (Q O:Nat) (w:World):
  Calls prog 29 #[.agg #[.slice A L c,MO sh,MO ra,MO p,MO u,MO x,MO mi,MO sn,MO bu,MO ch,MO wi,MO ca,.slice D N V,.slice T (n:Nat) Z,.slice R Q O]] w fun e B=>e=.returned (.agg #[.slice A L c,MO sh,MO ra,MO p,MO u,MO x,MO mi,MO sn,MO bu,MO ch,MO wi,MO ca,MO (n:Nat)])/\aq w B:=by
 obtain ⟨i,h⟩:∃i,w.alloc (.cells #[.slice A L c,MO sh,MO ra,MO p,MO u,MO x,MO mi,MO sn,MO bu,MO ch,MO wi,MO ca,.slice D N V,.slice T (n:Nat) Z,.slice R Q O] 29)=i:=⟨_,rfl⟩
 have I:i.heap[w.heap.size]?=some (.cells #[.slice A L c,MO sh,MO ra,MO p,MO u,MO x,MO mi,MO sn,MO bu,MO ch,MO wi,MO ca,.slice D N V,.slice T (n:Nat) Z,.slice R Q O] 29 (0,0)):=by rw [<-h];exact LP w _
 have H:aq w i:=by rw [<-h];exact (br w).alloc (LO _) _
 have y:i.heap.size=w.heap.size+1:=by rw [<-h];exact Array.size_push _
 have g1:(i.alloc (.cells #[.slice A L c,MO sh,MO ra,MO p,MO u,MO x,MO mi,MO sn,MO bu,MO ch,MO wi,MO ca,MO (n:Nat)] 64)).heap[w.heap.size+1]?=some (.cells #[.slice A L c,MO sh,MO ra,MO p,MO u,MO x,MO mi,MO sn,MO bu,MO ch,MO wi,MO ca,MO (n:Nat)] 64 (0,0)):=by rw [<-y];exact LP i _
 have HB:=aa (H.alloc H.size (.cells #[.slice A L c,MO sh,MO ra,MO p,MO u,MO x,MO mi,MO sn,MO bu,MO ch,MO wi,MO ca,MO (n:Nat)] 64))
 have t0:=fun B (q:aq i B)=>ki (sb I B q)
 obtain ⟨C,G1⟩:=ae h g1
 have l0:=LN I
 have p1:=br i
 clear h I g1 H y
 go_enter func29,ntmps29
 go_wp2_with fail
 rw [C.o]
 obtain ⟨⟨r0,r1,r2,r3,r4,r5,r6,r7,r8,r9,J,U,Y⟩,rf⟩:=vA G1.o
 exact L7 (v:=.agg #[.slice A L c,MO sh,MO ra,MO p,MO u,MO x,MO mi,MO sn,MO bu,MO ch,MO wi,MO ca,MO (n:Nat)]) (by simp [results,results29,go_sem,r0,r1,r2,r3,r4,r5,r6,r7,r8,r9,J,U,Y]) rfl ⟨rfl,HB.o⟩
def btB (x lo h:Int):Bool:=decide (lo<=x/\x<=h)
theorem mV (x lo h:Int) (w:World):Calls prog 55 #[MO x,MO lo,MO h] w fun e i=>e=.returned (.bool (btB x lo h))/\w=i:=by
 by_cases h1:lo<=x
 ·by_cases o:x<=h
  ·go_enter func55,ntmps55
   go_wp2
   go_ret
   exact ⟨dW (by unfold btB;simp [h1,o]),rfl⟩
  ·go_enter func55,ntmps55
   go_wp2
   go_ret
   exact ⟨dW (by unfold btB;simp;omega),rfl⟩
 ·go_enter func55,ntmps55
  go_wp2
  go_ret
  exact ⟨dW (by unfold btB;simp;omega),rfl⟩
theorem EL (A:Option Addr) (sz:List Int) (c:Nat) (w:World) (hA:Rd w A (aA .i64 sz)) (hl:sz.length<=17592186043904):
  Calls prog 92 #[.slice A sz.length c] w fun e o=>e=.returned (MO (eq sz))/\∃n,o=w.drewN n:=by
 by_cases h:2<=sz.length/\sz.length<=16
 ·refine (wD A sz c w hA h).mono fun e o ⟨h1,p⟩=>⟨?_,p⟩
  rcases h1 with ⟨i,rfl⟩ | ⟨i,rfl⟩
  ·refine bj ?_
   unfold uy
   by_cases hc:1048576<bQ sz (sz.length-1)
   ·rw [if_pos hc,lT (fun hg=>by have:=hg.2;omega) i]
   ·rw [if_neg hc,jQ ⟨i,by omega⟩]
  ·exact bj (gn i).symm
 ·exact (ve A sz c w hl h).mono fun e o ⟨h1,p⟩=>⟨by rw [h1,gn (fun hr=>h hr.1)],0,p.symm⟩
theorem Es (a b c d e f:Int) {g:Bool} {l:List Int} (hl:[a,b,c,d,e,f]=l) {k:Nat} (hk:k<5) (h:okB (nth l k)=false):(okB a&&okB b&&okB c&&okB d&&okB e&&g)=false:=by
 subst hl
 match k,hk with
 | 0,_=>simp only [show nth [a,b,c,d,e,f] 0=a from rfl] at h;simp [h]
 | 1,_=>simp only [show nth [a,b,c,d,e,f] 1=b from rfl] at h;simp [h]
 | 2,_=>simp only [show nth [a,b,c,d,e,f] 2=c from rfl] at h;simp [h]
 | 3,_=>simp only [show nth [a,b,c,d,e,f] 3=d from rfl] at h;simp [h]
 | 4,_=>simp only [show nth [a,b,c,d,e,f] 4=e from rfl] at h;simp [h]
theorem Cj (a b c d e f:Int) (g:Bool) {l:List Int} (hl:[a,b,c,d,e,f]=l) (h:∀j,j<5->okB (nth l j)=true) (hg:g=true):(okB a&&okB b&&okB c&&okB d&&okB e&&g)=true:=by
 subst hl
 have p:okB a=true:=h 0 ap
 have h1:okB b=true:=h 1 ap
 have i:okB c=true:=h 2 ap
 have u:okB d=true:=h 3 ap
 have o:okB e=true:=h 4 ap
 simp [p,h1,i,u,o,hg]
theorem ot (A:Option Addr) (c:Nat) (k:Cfg) (w:World) (h:ka w A c k):
  Calls prog 54 #[.agg (dh A c k)] w fun e J=>e=.returned (MO (cB k))/\aq w J:=by
 have Y:=fun J (q:aq w J)=>EL A k.sizes c J (h.hr.below q) h.hl
 have f6:=@Ib k;have f9:=@H9 k;have fs:=@HU k;have f2:=@Ic k;have f7:=@Ia k;have f0:=@Id k
 unfold wkB shB oJ baB qZ at *
 obtain ⟨R,D⟩:∃R,cB k=R:=⟨_,rfl⟩
 rw [D] at f6 f9 fs f2 f7 f0 ⊢
 clear D h
 obtain ⟨sz,sh,ra,mo,B,ba,mi,st,bu,ch,wi,ca⟩:=k
 dsimp only [dh] at *
 obtain ⟨L,hL⟩:∃L,sz.length=L:=⟨_,rfl⟩
 obtain ⟨sc,a2⟩:∃sc,eq sz=sc:=⟨_,rfl⟩
 rw [hL,a2] at Y
 rw [a2] at fs f2 f7 f0
 rw [hL] at ⊢
 obtain ⟨a6,F6,F9,Fs,F2,F7,F0⟩:=aj Y f6 f9 fs f2 f7 f0;clear Y f6 f9 fs f2 f7 f0 hL a2
 go_enter func54,ntmps54
 go_wp2_with fail
 have hz:=LP w (.cells #[.slice A L c,MO sh,MO ra,MO mo,MO B,MO ba,MO mi,MO st,MO bu,MO ch,MO wi,MO ca] 24)
 have hB:=(LR _ w).alloc (LO _) (.cells #[.slice A L c,MO sh,MO ra,MO mo,MO B,MO ba,MO mi,MO st,MO bu,MO ch,MO wi,MO ca] 24)
 obtain ⟨W0,a3⟩:∃W0,W0=w.alloc (.cells #[.slice A L c,MO sh,MO ra,MO mo,MO B,MO ba,MO mi,MO st,MO bu,MO ch,MO wi,MO ca] 24):=⟨_,rfl⟩
 rw [<-a3] at hz hB ⊢
 clear a3
 obtain ⟨⟨z0,z1,z2,z3,z4,z5,z6,z7,z8,z9,I,Q⟩,zf⟩:=kl hz
 obtain ⟨y,HZ⟩:=ae hB hz;clear hB hz
 refine (mV B 1 64 _).mono ?_
 rintro e J ⟨rfl,rfl⟩
 obtain ⟨b1,u⟩:∃b1,btB B 1 64=b1:=⟨_,rfl⟩
 have V:=aa (show decide (1<=B/\B<=64)=b1 from u)
 rw [u]
 clear u
 rcases eh b1 with rfl | rfl
 ·go_wp2_with fail
  go_ret
  exact ⟨bj (F6.o V.o).symm,y.o⟩
 go_wp2_with fail
 refine (mV sh 1 62 _).mono ?_
 rintro e J ⟨rfl,rfl⟩
 obtain ⟨b2,a0⟩:∃b2,btB sh 1 62=b2:=⟨_,rfl⟩
 have Z:=aa (show decide (1<=sh/\sh<=62)=b2 from a0)
 rw [a0]
 clear a0
 rcases eh b2 with rfl | rfl
 ·go_wp2_with fail
  go_ret
  exact ⟨bj (F9.o V.o Z.o).symm,y.o⟩
 go_wp2_with fail
 refine (a6.o _ y.o).mono ?_
 rintro e J ⟨rfl,d,rfl⟩
 have u:=LY y.o d
 have N:(W0.drewN d).heap[w.heap.size]?=some (.cells #[.slice A L c,MO sh,MO ra,MO mo,MO B,MO ba,MO mi,MO st,MO bu,MO ch,MO wi,MO ca] 24 (0,0)):=HZ.o
 generalize W0.drewN d=W1 at u N ⊢
 clear z0 z1 z2 z3 z4 z5 z6 z7 z8 z9 I Q zf y HZ
 obtain ⟨⟨z0,z1,z2,z3,z4,z5,z6,z7,z8,z9,I,Q⟩,zf⟩:=kl N
 obtain ⟨y,HZ⟩:=ae u N;clear u N
 by_cases h3:sc≠0
 ·have hq:(sc != 0)=true:=by rw [bne_iff_ne];exact h3
  have H3:=aa h3;clear h3
  go_wp2_with fail
  go_ret
  exact ⟨bj (Fs.o V.o Z.o H3.o).symm,y.o⟩
 obtain rfl:sc=0:=ap
 clear h3
 have lz:w.heap.size<W1.heap.size:=LN HZ.o
 by_cases h4:st<0
 ·go_wp2_with fail
  go_ret
  exact ⟨bj (F2.o V.o Z.o trivial (by rw [MJ (show ¬(0<=st/\st<=1048576) by omega),Bool.and_false])).symm,y.o.alloc y.o.size _⟩
 by_cases a8:1048576<st
 ·go_wp2_with fail
  go_ret
  exact ⟨bj (F2.o V.o Z.o trivial (by rw [MJ (show ¬(0<=st/\st<=1048576) by omega),Bool.and_false])).symm,y.o.alloc y.o.size _⟩
 have GS:=aa (show decide (0<=st/\st<=1048576)=true by rw [ML];omega)
 have a4:=dD W1 (aA .i64 [mi,bu,ch,wi,ca,st+1]) 3 _ rfl
 have H:=(L0 W1 (.cells (aA .i64 [mi,bu,ch,wi,ca,st+1]).toArray 3) _ (LN HZ.o)).trans HZ.o
 obtain ⟨O,a1⟩:=ae a4 H;clear a4 H
 go_wp2_with fail
 clear z0 z1 z2 z3 z4 z5 z6 z7 z8 z9 I Q zf
 have C:=aa (y.o.alloc y.o.size (.cells (aA .i64 [mi,bu,ch,wi,ca,st+1]).toArray 3))
 obtain ⟨l,hl⟩:∃l:List Int,[mi,bu,ch,wi,ca,st+1]=l:=⟨_,rfl⟩
 have HL:=aa hl
 change Code.wp _ _ _ _ (W1.alloc (.cells (aA .i64 [mi,bu,ch,wi,ca,st+1]).toArray 3))
 rw [hl] at O a1 C ⊢
 clear hl y HZ lz
 obtain ⟨p,hp⟩:∃p,W1.heap.size=p:=⟨_,rfl⟩
 rw [hp] at O ⊢
 generalize W1.alloc (.cells (aA .i64 l).toArray 3)=W2 at O a1 C ⊢
 clear hp
 go_loopw [5] (fun i wr=>∃k:Nat,k<=5/\i=MO k/\an (∀j,j<k->okB (nth l j)=true)/\wr=W2) (fun i _=>5-(intOf i).toNat)
 case atStart=>exact ⟨0,LS _,rfl,aa fun j hj=>ap,rfl⟩
 case round=>
  obtain ⟨k,hk,rfl,U,rfl⟩:=hrel
  by_cases a5:k<5
  ·have T:k<l.length:=by rw [<-HL.o];simp only [List.length_cons,List.length_nil];omega
   obtain ⟨b',o,e1,hc⟩:=O.o.num T
   have a7:(k:Int)<5:=ap
   injection e1 with e1;injection e1 with e1 e2 _;subst e1;subst e2
   obtain ⟨x,hx⟩:∃x,nth l k=x:=⟨_,rfl⟩
   rw [hx,MH] at hc
   have Hx:=aa hx;clear hx T
   go_wp2_with fail
   refine (mV x 1 1048576 _).mono ?_
   rintro e J ⟨rfl,rfl⟩
   obtain ⟨b3,v⟩:∃b3,btB x 1 1048576=b3:=⟨_,rfl⟩
   have G3:=aa (show okB x=b3 from v)
   rw [v]
   clear v
   rcases eh b3 with rfl | rfl
   ·go_wp2_with fail
    go_ret
    exact ⟨bj (F2.o V.o Z.o trivial (Es mi bu ch wi ca _ HL.o a5 (by rw [Hx.o];exact G3.o))).symm,C.o⟩
   go_wp2_with fail
   go_roundw
   case rel=>exact ⟨k+1,by omega,by go_num,aa (p:=∀j,j<k+1->okB (nth l j)=true) fun j hj=>by
    rcases Ma j k with h | h
    ·exact U.out j h
    ·obtain rfl:j=k:=ap
     rw [Hx.o];exact G3.o,trivial⟩
   case measure=>simp [intOf];omega
  ·obtain rfl:k=5:=ap
   have hn:=Cj mi bu ch wi ca _ (decide (0<=st/\st<=1048576)) HL.o U.out GS.o
   have Hn:=aa hn;clear hn
   have H:=a1.o
   obtain ⟨⟨z0,z1,z2,z3,z4,z5,z6,z7,z8,z9,I,Q⟩,zf⟩:=kl H
   clear H
   go_wp2_with fail
   refine (mV ba B 1048576 _).mono ?_
   rintro e J ⟨rfl,rfl⟩
   obtain ⟨b3,v⟩:∃b3,btB ba B 1048576=b3:=⟨_,rfl⟩
   have G3:=aa (show decide (B<=ba/\ba<=1048576)=b3 from v)
   rw [v]
   clear v
   rcases eh b3 with rfl | rfl
   ·go_wp2_with fail
    go_ret
    exact ⟨bj (F7.o V.o Z.o trivial Hn.o G3.o).symm,C.o⟩
   go_wp2_with fail
   go_ret
   exact ⟨bj (F0.o V.o Z.o trivial Hn.o G3.o).symm,C.o⟩
theorem np (n:Nat) (w:World) (hn:1<=n) (i:n<=1048576):Calls prog 94 #[MO n] w fun e h=>e=.returned (MO ((n-1:Nat):Int))/\w=h:=by
 have h1:(0:Int)<=(n:Int)-1:=ap
 go_enter func94,ntmps94
 go_wp2
 all_goals
  go_ret
  exact ⟨bj ap,rfl⟩
theorem Bw {sn i t:Nat} (o:1<=i) (h:t*i<sn):t<(sn+i-1)/i:=by
 rw [Nat.lt_iff_add_one_le,Nat.le_div_iff_mul_le o,MF];omega
theorem Bv {sn i t:Nat} (o:1<=i) (h:t<(sn+i-1)/i):t*i<sn:=by
 rw [Nat.lt_iff_add_one_le,Nat.le_div_iff_mul_le o,MF] at h;omega
theorem wt (A:Option Addr) (c n:Nat) (k:Cfg) (w:World) (h:ka w A c k) (hg:iZ k) (hn:k.batch<=n/\(n:Int)<=1048576):
  Calls prog 93 #[.agg (dh A c k),MO n] w fun e H=>e=.returned (MO (epN n k.batch.toNat k.steps.toNat:Int))/\aq w H:=by
 have x:=fun H (q:aq w H)=>ot A c k H (h.below q)
 rw [gM.2 hg] at x
 have g1:=hg.w;have g2:=hg.ba;have g3:=hg.st
 clear h hg
 obtain ⟨sz,sh,ra,mo,wk,ba,mi,st,bu,ch,wi,ca⟩:=k
 dsimp only [dh] at *
 obtain ⟨bt,rfl⟩:∃bt:Nat,ba=bt:=⟨ba.toNat,by omega⟩
 obtain ⟨sn,rfl⟩:∃sn:Nat,st=sn:=⟨st.toNat,by omega⟩
 rw [Int.toNat_natCast,Int.toNat_natCast]
 obtain ⟨L,hL⟩:∃L,sz.length=L:=⟨_,rfl⟩
 rw [hL] at x ⊢
 obtain ⟨p,u⟩:∃p,n/bt=p:=⟨_,rfl⟩
 have v:1<=p:=by rw [<-u];exact Nat.div_pos ap ap
 have R:p<=n:=by rw [<-u];exact Nat.div_le_self _ _
 have hE:epN n bt sn=(sn+p-1)/p:=by unfold epN;rw [u,qL _ _ v]
 rw [hE]
 have Q:(sn+p-1)/p<=sn+p-1:=Nat.div_le_self _ _
 have C:=fun t=>Bw (sn:=sn) (t:=t) v
 have y:=fun t=>Bv (sn:=sn) (t:=t) v
 obtain ⟨E,N⟩:∃E,(sn+p-1)/p=E:=⟨_,rfl⟩
 rw [N] at Q C y ⊢
 have a2:(n:Int).tdiv (bt:Int)=(p:Int):=by rw [<-u];rfl
 have a0:(n:Int)/(bt:Int)=(p:Int):=by rw [<-u];rfl
 have a4:¬(bt=0):=ap
 obtain ⟨O,Y,V⟩:=af x C y
 have J:btB (n:Int) (bt:Int) 1048576=true:=by unfold btB;rw [MI];omega
 have U:=aa J;clear x hL u hE N C y J
 go_enter func93,ntmps93
 go_wp2_with fail
 have T:=LP w (.cells #[.slice A L c,MO sh,MO ra,MO mo,MO wk,MO bt,MO mi,MO sn,MO bu,MO ch,MO wi,MO ca] 24)
 have hB:=(LR _ w).alloc (LO _) (.cells #[.slice A L c,MO sh,MO ra,MO mo,MO wk,MO bt,MO mi,MO sn,MO bu,MO ch,MO wi,MO ca] 24)
 refine (O.o _ hB).mono ?_
 rintro e w1 ⟨rfl,B⟩
 have I:=(B.block _ (LN T)).trans T
 have HB:=aa (hB.trans (B.mono hB.size))
 obtain ⟨⟨z0,z1,z2,z3,z4,z5,z6,z7,z8,z9,a3,a5⟩,zf⟩:=kl I
 clear T hB B I
 go_wp2_with fail
 refine (mV n bt 1048576 _).mono ?_
 rintro e H ⟨rfl,rfl⟩
 rw [U.o]
 go_wp2_with fail
 go_loopw [5,6] (fun t i wr=>∃k m:Nat,k<=E/\t=MO k/\i=MO m/\an (m=k*p)/\m<sn+p/\wr=w1) (fun _ i _=>sn-(intOf i).toNat)
 case atStart=>exact ⟨0,0,LS _,rfl,rfl,aa ap,by omega,rfl⟩
 case round=>
  obtain ⟨k,m,hk,rfl,rfl,Z,hm,rfl⟩:=hrel
  by_cases D:m<sn
  ·have a1:(m:Int)<sn:=ap
   go_wp2_with fail
   go_roundw
   case rel=>exact ⟨k+1,m+p,Y.o k (by rw [<-Z.out];exact D),by go_num,by go_num,aa (by rw [Z.out,MF]),by omega,trivial⟩
   case measure=>simp [intOf];omega
  ·obtain rfl:k=E:=by
    rcases Ma k E with h | h
    ·exact absurd (V.o k h) (by rw [<-Z.out];exact D)
    ·omega
   go_wp2_with fail
   go_ret
   exact ⟨rfl,HB.o⟩
theorem CE (A:Option Addr) (c n:Nat) (k:Cfg) (w:World) (h:ka w A c k) (hg:iZ k) (hn:k.batch<=n/\(n:Int)<=1048576):
  Calls prog 58 #[.agg (dh A c k),MO n] w fun e v=>e=.returned (MO (mg n k.batch.toNat k.steps.toNat:Int))/\aq w v:=by
 have i:=fun v (q:aq w v)=>wt A c n k v (h.below q) hg hn
 have g1:=hg.w;have U:=hg.ba;have Y:=hg.st
 have u:=fun v=>np n v ap ap
 have p:=xc (n:=n) (b:=k.batch.toNat) (st:=k.steps.toNat) ap ap
 unfold mg at p ⊢
 clear h hg
 obtain ⟨sz,sh,ra,H,I,ba,mi,st,bu,ch,wi,ca⟩:=k
 dsimp only [dh] at *
 obtain ⟨L,J⟩:∃L,sz.length=L:=⟨_,rfl⟩
 rw [J] at i ⊢
 obtain ⟨E,N⟩:∃E,epN n ba.toNat st.toNat=E:=⟨_,rfl⟩
 obtain ⟨m,hm⟩:∃m,n-1=m:=⟨_,rfl⟩
 rw [N] at i p ⊢
 rw [hm] at u p ⊢
 obtain ⟨y,D⟩:∃y,E*m=y:=⟨_,rfl⟩
 rw [D] at p ⊢
 have O:(E:Int)*(m:Int)=(y:Int):=by rw [<-D];push_cast;rfl
 obtain ⟨B,C⟩:=ae i u;clear i u J N hm D
 go_enter func58,ntmps58
 go_wp2_with fail
 have R:=LP w (.cells #[.slice A L c,MO sh,MO ra,MO H,MO I,MO ba,MO mi,MO st,MO bu,MO ch,MO wi,MO ca] 24)
 have hB:=(LR _ w).alloc (LO _) (.cells #[.slice A L c,MO sh,MO ra,MO H,MO I,MO ba,MO mi,MO st,MO bu,MO ch,MO wi,MO ca] 24)
 refine (B.o _ hB).mono ?_
 rintro e T ⟨rfl,x⟩
 have Q:=aa (hB.trans (x.mono hB.size));clear R hB x
 go_wp2_with fail
 refine (C.o _).mono ?_
 rintro e V ⟨rfl,rfl⟩
 go_wp2_with fail
 go_ret
 exact ⟨rfl,Q.o⟩
theorem wz (a b c:Nat) (A:Option Addr) (l:List Ex) (w:World) (h:dA rEx 2 w A l) (hl:l.length<=1048576):
  Calls prog 56 #[.slice A l.length c,MO a,MO b] w (pZ l a b w):=by
 unfold pZ
 obtain ⟨n,hn⟩:∃n,l.length=n:=⟨_,rfl⟩
 rw [hn] at hl ⊢
 obtain ⟨H,V⟩:=ae h hn;clear h hn
 go_enter func56,ntmps56
 go_wp2_with fail
 go_loopw [8] (fun i wr=>∃k:Nat,k<=n/\i=MO k/\an (∀j x,j<k->l[j]?=some x->fh a b x)/\wr=w) (fun i _=>n-(intOf i).toNat)
 case atStart=>exact ⟨0,LS _,rfl,aa fun j x L=>ap,rfl⟩
 case round=>
  obtain ⟨k,hk,rfl,u,rfl⟩:=hrel
  by_cases N:k<n
  ·obtain ⟨x,I⟩:∃x,l[k]?=some x:=⟨_,Mq (by rw [V.o];exact N)⟩
   obtain ⟨b',o,A1,c1,A2,c2,rfl,a0,p1,p2,r1,r2⟩:=iH H.o I
   have O:=aa I
   obtain ⟨C,v⟩:∃C,x.1.length=C:=⟨_,rfl⟩
   obtain ⟨D,B⟩:∃D,x.2.length=D:=⟨_,rfl⟩
   rw [v] at p1
   rw [B] at p2
   have J:fh a b x↔C=a/\D=b:=by unfold fh;rw [v,B]
   have R:=aa J
   have Y:(k:Int)<n:=ap
   clear r1 r2 I v B J
   by_cases T:C≠a
   ·have hq:((C:Int) != (a:Int))=true:=by rw [bne_iff_ne];omega
    go_wp2_with fail
    go_ret2
    exact ⟨LR _ _,k,.inr ⟨fun h=>T (R.o.1 (h x (List.mem_of_getElem? O.o))).1,rfl⟩⟩
   have Z:((C:Int) != (a:Int))=false:=by rw [bne_eq_false_iff_eq];omega
   by_cases Q:D≠b
   ·have hq:((D:Int) != (b:Int))=true:=by rw [bne_iff_ne];omega
    have E2:=aa Q;clear T Q
    go_wp2_with fail
    go_ret2
    exact ⟨LR _ _,k,.inr ⟨fun h=>E2.o (R.o.1 (h x (List.mem_of_getElem? O.o))).2,rfl⟩⟩
   have a1:((D:Int) != (b:Int))=false:=by rw [bne_eq_false_iff_eq];omega
   have He:=aa (R.o.2 ⟨by omega,by omega⟩)
   clear T Q
   go_wp2_with fail
   go_roundw
   case rel=>exact ⟨k+1,by omega,by go_num,aa (p:=∀j x,j<k+1->l[j]?=some x->fh a b x) fun j y L U=>by
    rcases Ma j k with h | h
    ·exact u.out j y h U
    ·obtain rfl:j=k:=ap
     have:=O.o;rw [U] at this;injection this with this;rw [this];exact He.o,trivial⟩
   case measure=>simp [intOf];omega
  ·obtain rfl:n=k:=ap
   go_wp2_with fail
   go_ret2
   exact ⟨LR _ _,0,.inl ⟨fun x I=>by
    obtain ⟨j,L,e⟩:=List.mem_iff_getElem.1 I
    exact u.out j x (by rw [<-V.o];exact L) (by rw [Mq L,e]),rfl⟩⟩
def JI (q:Prop) (w:World) (e:Ending) (h:World):Prop:=(∃b:Bool,e=.returned (.bool b)/\(b=true->q))/\∃n,h=w.drewN n
theorem Gx {q:Prop} (h:q) (b:Bool) (w:World) (d:Nat):JI q w (.returned (.bool b)) (w.drewN d):=⟨⟨b,rfl,fun _=>h⟩,d,rfl⟩
theorem Br (q:Prop) (w:World) (d:Nat):JI q w (.returned (.bool false)) (w.drewN d):=⟨⟨false,rfl,fun h=>by cases h⟩,d,rfl⟩
theorem EZ (c:Nat) (A:Option Addr) (l:List Ex) (w:World) (h:dA rEx 2 w A l) (hl:l.length<=17592186043904):
  Calls prog 153 #[.slice A l.length c] w (JI (l.length<=60) w):=by
 obtain ⟨n,hn⟩:∃n,l.length=n:=⟨_,rfl⟩
 rw [hn] at hl ⊢
 obtain ⟨H,Hn⟩:=ae h hn;clear h hn
 go_enter func153,ntmps153
 go_wp2_with fail
 go_loopw [3,4] (fun v i wr=>∃k:Nat,∃x:Int,k<=n/\i=MO k/\v=MO x/\∃d,wr=w.drewN d) (fun _ i _=>n-(intOf i).toNat)
 case atStart=>exact ⟨0,0,LS _,rfl,rfl,0,rfl⟩
 case round=>
  obtain ⟨k,x,hk,rfl,rfl,d,rfl⟩:=hrel
  by_cases I:k<n
  ·have V:(k:Int)<n:=ap
   by_cases R:k<100
   ·have p:(k:Int)<100:=ap
    obtain ⟨y,U⟩:∃y,l[k]?=some y:=⟨_,Mq (by rw [Hn.o];exact I)⟩
    obtain ⟨Q,o,A1,c1,A2,c2,rfl,Y,T,O,Z,r2⟩:=iH H.o U
    obtain ⟨J,C⟩:∃J,y.1.length=J:=⟨_,rfl⟩
    obtain ⟨L,D⟩:∃L,y.2.length=L:=⟨_,rfl⟩
    rw [C] at T
    rw [D] at O
    clear Z r2 U C D
    have q1:(w.drewN d).cell? (ar Q (o+k*2))=some (.slice A1 J c1):=T
    have q2:(w.drewN d).cell? (ar Q (o+k*2+1))=some (.slice A2 L c2):=O
    generalize hW:w.drewN d=W at q1 q2 ⊢
    have HW:=aa hW;clear hW
    go_wp2_with fail
    go_region
    all_goals
     go_wp2_with fail
     go_roundw
     case rel=>exact ⟨k+1,_,by omega,by go_num,rfl,d+1,by rw [<-HW.o];rfl⟩
     case measure=>simp [intOf];omega
   ·have p:¬((k:Int)<100):=ap
    have u:¬((n:Int)<=60):=ap
    have N:¬(n<=60):=ap
    go_wp2_with fail
    all_goals
     go_ret
     exact Br _ _ _
  ·obtain rfl:n=k:=ap
   by_cases B:n<=60
   ·have u:(n:Int)<=60:=ap
    have G:=aa B
    go_wp2_with fail
    all_goals
     go_ret
     exact Gx G.o _ _ _
   ·have u:¬((n:Int)<=60):=ap
    go_wp2_with fail
    all_goals
     go_ret
     exact Br _ _ _
theorem jr (A:Option Addr) (c:Nat) (D:Option Addr) (cd:Nat) (T:Option Addr) (ct:Nat) (R:Option Addr) (cr:Nat) (i:Inp) (w:World) (h:ge w A c D T ct R i):
  Calls prog 18 #[.agg (aO A c D cd T ct R cr i)] w fun e v=>e=.returned (MO (dV i))/\aq w v:=by
 have aG:=fun v (q:aq w v)=>ot A c i.cfg v (h.c.below q)
 have aP:=fun (hR:cS i.cfg.sizes) v (q:aq w v)=>js A i.cfg.sizes i.cfg.sizes.length c v (h.c.hr.below q) hR (by have:=hR.1;omega) (LO _)
 have av:=fun a b v (q:aq w v)=>wz a b cd D i.data v (h.d.below eU q) h.dl
 have H:=fun (hg:iZ i.cfg) (hb:i.cfg.batch<=i.data.length/\(i.data.length:Int)<=1048576) v (q:aq w v)=>CE A c i.data.length i.cfg v (h.c.below q) hg hb
 have fc:=@Kk i;have f7:=@Km i;have Z:=@Kn i;have B:=@Kl i;have C:=@Ko i
 have b5:=@gM i.cfg
 have be:=h.c.hr
 have c6:=h.dl;have cb:=h.tl;have hrl:=h.rl
 unfold pZ at av
 unfold mw at f7 Z B C
 unfold kR Kr inN vg cnt at Z B C
 unfold pR at B C
 obtain ⟨b2,a9⟩:∃b2,dV i=b2:=⟨_,rfl⟩
 rw [a9] at fc f7 Z B C ⊢
 clear a9 h
 obtain ⟨⟨sz,sh,ra,O,U,ba,mi,st,bu,ch,wi,ca⟩,data,start,draws⟩:=i
 dsimp only [aO,dh] at *
 obtain ⟨L,hL⟩:∃L,sz.length=L:=⟨_,rfl⟩
 obtain ⟨N,hN⟩:∃N,data.length=N:=⟨_,rfl⟩
 obtain ⟨M,hM⟩:∃M,start.length=M:=⟨_,rfl⟩
 obtain ⟨Q,hQ⟩:∃Q,draws.length=Q:=⟨_,rfl⟩
 obtain ⟨cc,bw⟩:∃cc,cB ⟨sz,sh,ra,O,U,ba,mi,st,bu,ch,wi,ca⟩=cc:=⟨_,rfl⟩
 rw [hL] at aG aP H Z B C ⊢
 rw [hN] at av H f7 Z B C c6 ⊢
 rw [hM] at Z B C cb ⊢
 rw [hQ] at B C hrl ⊢
 rw [bw] at aG fc f7 Z B C b5
 obtain ⟨CN,b7⟩:∃CN,bQ sz (L-1)=CN:=⟨_,rfl⟩
 rw [b7] at aP Z B C
 obtain ⟨ND,bf⟩:∃ND,mg N ba.toNat st.toNat=ND:=⟨_,rfl⟩
 rw [bf] at H B C
 obtain ⟨c9,c8,cl,cf,Fc,F7,F5,F8⟩:=ak aG aP av H fc f7 Z B;obtain ⟨F0,bX,bi,HL,cs⟩:=ah C b5 be hL b7;clear aG aP av H fc f7 Z B C b5 be hL hN hM hQ bw b7 bf
 go_enter func18,ntmps18
 go_wp2_with fail
 have hz:=(L0 (w.alloc (.cells #[.slice A L c,MO sh,MO ra,MO O,MO U,MO ba,MO mi,MO st,MO bu,MO ch,MO wi,MO ca,.slice D N cd,.slice T M ct,.slice R Q cr] 29)) (.cells #[.slice A L c,MO sh,MO ra,MO O,MO U,MO ba,MO mi,MO st,MO bu,MO ch,MO wi,MO ca] 24) w.heap.size (by simp)).trans (LP w _)
 have hy:=LP (w.alloc (.cells #[.slice A L c,MO sh,MO ra,MO O,MO U,MO ba,MO mi,MO st,MO bu,MO ch,MO wi,MO ca,.slice D N cd,.slice T M ct,.slice R Q cr] 29)) (.cells #[.slice A L c,MO sh,MO ra,MO O,MO U,MO ba,MO mi,MO st,MO bu,MO ch,MO wi,MO ca] 24)
 rw [show (w.alloc (.cells #[.slice A L c,MO sh,MO ra,MO O,MO U,MO ba,MO mi,MO st,MO bu,MO ch,MO wi,MO ca,.slice D N cd,.slice T M ct,.slice R Q cr] 29)).heap.size=w.heap.size+1 by simp] at hy
 have hB:aq w ((w.alloc (.cells #[.slice A L c,MO sh,MO ra,MO O,MO U,MO ba,MO mi,MO st,MO bu,MO ch,MO wi,MO ca,.slice D N cd,.slice T M ct,.slice R Q cr] 29)).alloc (.cells #[.slice A L c,MO sh,MO ra,MO O,MO U,MO ba,MO mi,MO st,MO bu,MO ch,MO wi,MO ca] 24)):=((LR _ w).alloc (LO _) _).alloc (by simp) _
 obtain ⟨W0,bl⟩:∃W0,W0=(w.alloc (.cells #[.slice A L c,MO sh,MO ra,MO O,MO U,MO ba,MO mi,MO st,MO bu,MO ch,MO wi,MO ca,.slice D N cd,.slice T M ct,.slice R Q cr] 29)).alloc (.cells #[.slice A L c,MO sh,MO ra,MO O,MO U,MO ba,MO mi,MO st,MO bu,MO ch,MO wi,MO ca] 24):=⟨_,rfl⟩
 rw [<-bl] at hz hy hB ⊢
 clear bl
 refine (c9.o _ hB).mono ?_
 rintro e w1 ⟨rfl,I⟩
 have aR:=(I.block _ (LN hz)).trans hz
 have ao:=(I.block _ (LN hy)).trans hy
 have HB:=aa (hB.trans (I.mono hB.size))
 obtain ⟨⟨z0,z1,z2,z3,z4,z5,z6,z7,z8,z9,a6,ad,J,a7,a3⟩,zf⟩:=ki aR
 obtain ⟨⟨y0,y1,y2,y3,y4,y5,y6,y7,y8,y9,a0,a2⟩,yf⟩:=kl ao
 have lz:=LN aR;have ly:=LN ao
 obtain ⟨HZ,HY⟩:=ae aR ao;clear hz hy hB I aR ao
 by_cases h3:cc≠0
 ·have hq:(cc != 0)=true:=by rw [bne_iff_ne];exact h3
  have H3:=aa h3;clear h3
  go_wp2_with fail
  go_ret
  exact ⟨bj (Fc.o H3.o).symm,HB.o⟩
 obtain rfl:cc=0:=ap
 clear h3
 have hg:=bX.o.1 rfl
 have g1:=hg.w;have g2:=hg.ba;have g3:=hg.st;have gz:=hg.z
 have HG:=aa hg
 dsimp only at g1 g2 g3 gz
 clear hg
 have bo:=gz.1.1
 rw [HL.o] at bo
 have s0:=gz.1.at (k:=0) (by have:=HL.o;omega)
 have s1:=gz.1.at (k:=L-1) (by have:=HL.o;omega)
 obtain ⟨bz,oz,rfl,p0⟩:=bi.o.num (show 0<sz.length by have:=HL.o;omega)
 obtain ⟨_,_,e',p1⟩:=bi.o.num (show L-1<sz.length by have:=HL.o;omega)
 injection e' with e';injection e' with e1 e2 _;subst e1;subst e2
 rw [s0.2.2,Nat.add_zero] at p0
 rw [s1.2.2] at p1
 obtain ⟨n0,b8⟩:∃n0,szN sz 0=n0:=⟨_,rfl⟩
 obtain ⟨n1,b6⟩:∃n1,szN sz (L-1)=n1:=⟨_,rfl⟩
 have Z:=F5.o;have B:=F8.o;have C:=F0.o
 rw [b8,b6] at Z B C
 rw [b8] at p0 s0
 rw [b6] at p1 s1
 obtain ⟨F5,F8,F0,ci⟩:=ag Z B C gz
 have bM:bz<w.heap.size:=az p0
 obtain ⟨P0,P1⟩:=ae p0 p1;clear Z B C gz b8 b6 p0 p1 s0 s1
 obtain ⟨bt,rfl⟩:∃bt:Nat,ba=bt:=⟨ba.toNat,by omega⟩
 go_wp2_with fail
 refine (mV N bt 1048576 _).mono ?_
 rintro e v ⟨rfl,rfl⟩
 obtain ⟨b1,I⟩:∃b1,btB (N:Int) bt 1048576=b1:=⟨_,rfl⟩
 have G0:=aa (show decide ((bt:Int)<=N/\(N:Int)<=1048576)=b1 from I)
 rw [I]
 clear I
 rcases eh b1 with rfl | rfl
 ·have cj:=of_decide_eq_false G0.o
  go_wp2_with fail
  go_ret
  exact ⟨bj (F7.o trivial (by rw [MK];omega)).symm,HB.o⟩
 have cj:=of_decide_eq_true G0.o
 have G1:=aa (show decide ((bt:Int)<=N/\N<=1048576)=true by rw [ML];omega)
 have p0:=(HB.o.cell (p:=(ar bz oz)) bM).trans P0.o
 have p1:=(HB.o.cell (p:=⟨bz,oz+(L-1),none⟩) bM).trans P1.o
 have bN:IntKind.i64.wrap ((L:Int)-1)=((L-1:Nat):Int):=by rw [LT _ ap];omega
 have cw:((L-1:Nat):Int)<L:=ap
 have cv:L-1<L:=ap
 have co:0<L:=ap
 have cn:(0:Int)<L:=ap
 go_wp2_with fail
 have u:(fun v:World=>v.cell? (ar w.heap.size 12)=some (.slice D N cd)/\v.cell? (ar (w.heap.size+1) 0)=some (.slice (some (ar bz oz)) L c)/\v.cell? (ar bz oz)=some (MO n0)/\v.cell? ⟨bz,oz+(L-1),none⟩=some (MO n1)) w1.drew:=⟨J,y0,p0,p1⟩
 refine HA.g (fun v:World=>v.cell? (ar w.heap.size 12)=some (.slice D N cd)/\v.cell? (ar (w.heap.size+1) 0)=some (.slice (some (ar bz oz)) L c)/\v.cell? (ar bz oz)=some (MO n0)/\v.cell? ⟨bz,oz+(L-1),none⟩=some (MO n1)) ?_
 refine HA.t ?_ [0,1,2,3,4,5,6,7,8,9,10,11,12,13] u ?_
 refine HA.o 14 (fun K hK=>?_)
 go_simp
 refine (cl.o n0 n1 _ HB.o.drew).mono ?_
 rintro e w3 ⟨a4,d,hd⟩
 have bd:=LW (aw a4 u.1) (LW (aw a4 u.2.1) (LW (aw a4 u.2.2.1) (aw a4 u.2.2.2)))
 have Y:aq w1 w3:=(LR w1.heap.size w1).drew.trans a4
 have a1:=(Y.block _ lz).trans HZ.o
 have a5:=(Y.block _ ly).trans HY.o
 obtain ⟨ab,bA,bh⟩:=af (HB.o.trans (Y.mono HB.o.size)) a1 a5
 obtain ⟨aM,rfl,b4⟩:∃aM,e=.returned (.tuple #[MO d,.bool aM])/\decide (∀x∈data,fh n0 n1 x)=aM:=by
  rcases hd with ⟨ha,rfl⟩ | ⟨ha,rfl⟩
  ·exact ⟨true,rfl,MI ha⟩
  ·exact ⟨false,rfl,MJ ha⟩
 have a8:=aa b4;clear a4 Y a1 a5 hd b4 u
 dsimp only
 refine hK.out _ _ bd (fun u=>?_)
 clear hK K bd
 refine HA.t ?_ [15,16,17,18,19] u ?_
 refine HA.d ?_
 clear u z0 z1 z2 z3 z4 z5 z6 z7 z8 z9 a6 ad J a7 a3 zf y0 y1 y2 y3 y4 y5 y6 y7 y8 y9 a0 a2 yf lz ly bN p0 p1
 have a1:=bA.o;have a5:=bh.o
 obtain ⟨⟨z0,z1,z2,z3,z4,z5,z6,z7,z8,z9,a6,ad,J,a7,a3⟩,zf⟩:=ki a1
 obtain ⟨⟨y0,y1,y2,y3,y4,y5,y6,y7,y8,y9,a0,a2⟩,yf⟩:=kl a5
 have lz:=LN a1;have ly:=LN a5
 clear a1 a5
 rcases eh aM with rfl | rfl
 ·go_wp2_with fail
  go_quiet (fail)
  go_wp2_with fail
  go_ret
  exact ⟨bj (F5.o trivial G1.o (by rw [a8.o];rfl)).symm,LY ab.o _⟩
 have b0:=fun v (q:aq w3 v)=>c8.o ci.o.1 v (ab.o.trans (q.mono ab.o.size))
 have b3:=aa b0;clear b0
 by_cases h5:M≠CN
 ·have hq:((M:Int) != (CN:Int))=true:=by rw [bne_iff_ne];omega
  have H5:=aa h5;clear h5
  go_wp2_with fail
  go_quiet ((go_at_call 57;refine Calls.quiet_of (b3.o _ ?_);exact am))
  go_wp2_with fail
  go_ret
  exact ⟨bj (F5.o trivial G1.o (by rw [a8.o,MJ H5.o];rfl)).symm,LY ab.o _⟩
 have hq:((M:Int) != (CN:Int))=false:=by rw [bne_eq_false_iff_eq];omega
 have G2:=aa (show (decide (∀x∈data,fh n0 n1 x)&&decide (M=CN))=true by rw [a8.o,MI (show M=CN by omega)];rfl);clear h5
 go_wp2_with fail
 go_quiet ((go_at_call 57;refine Calls.quiet_of (b3.o _ ?_);exact am))
 go_wp2_with fail
 obtain ⟨V,hV⟩:∃V,V=w3.drewN nq:=⟨_,rfl⟩
 have bI:aq w V:=by rw [hV];exact LY ab.o _
 have bb:V.heap[w.heap.size]?=some (.cells #[.slice (some (ar bz oz)) L c,MO sh,MO ra,MO O,MO U,MO bt,MO mi,MO st,MO bu,MO ch,MO wi,MO ca,.slice D N cd,.slice T M ct,.slice R Q cr] 29 (0,0)):=by rw [hV];exact bA.o
 have bG:V.heap[w.heap.size+1]?=some (.cells #[.slice (some (ar bz oz)) L c,MO sh,MO ra,MO O,MO U,MO bt,MO mi,MO st,MO bu,MO ch,MO wi,MO ca] 24 (0,0)):=by rw [hV];exact bh.o
 clear z0 z1 z2 z3 z4 z5 z6 z7 z8 z9 a6 ad J a7 a3 zf y0 y1 y2 y3 y4 y5 y6 y7 y8 y9 a0 a2 yf
 rw [<-hV]
 clear hV
 obtain ⟨⟨z0,z1,z2,z3,z4,z5,z6,z7,z8,z9,a6,ad,J,a7,a3⟩,zf⟩:=ki bb
 obtain ⟨⟨y0,y1,y2,y3,y4,y5,y6,y7,y8,y9,a0,a2⟩,yf⟩:=kl bG
 have b9:=aa bI;clear bI bb bG
 have H:=cf.o HG.o ap V.drew b9.o.drew
 have bn:=aa H;clear H
 have u:(fun v:World=>v.cell? (ar w.heap.size 14)=some (.slice R Q cr)/\v.cell? (ar w.heap.size 12)=some (.slice D N cd)/\v.cell? (ar (w.heap.size+1) 0)=some (.slice (some (ar bz oz)) L c)/\v.cell? (ar (w.heap.size+1) 1)=some (MO sh)/\v.cell? (ar (w.heap.size+1) 2)=some (MO ra)/\v.cell? (ar (w.heap.size+1) 3)=some (MO O)/\v.cell? (ar (w.heap.size+1) 4)=some (MO U)/\v.cell? (ar (w.heap.size+1) 5)=some (MO bt)/\v.cell? (ar (w.heap.size+1) 6)=some (MO mi)/\v.cell? (ar (w.heap.size+1) 7)=some (MO st)/\v.cell? (ar (w.heap.size+1) 8)=some (MO bu)/\v.cell? (ar (w.heap.size+1) 9)=some (MO ch)/\v.cell? (ar (w.heap.size+1) 10)=some (MO wi)/\v.cell? (ar (w.heap.size+1) 11)=some (MO ca)) V.drew:=⟨a3,J,y0,y1,y2,y3,y4,y5,y6,y7,y8,y9,a0,a2⟩
 refine HA.g (fun v:World=>v.cell? (ar w.heap.size 14)=some (.slice R Q cr)/\v.cell? (ar w.heap.size 12)=some (.slice D N cd)/\v.cell? (ar (w.heap.size+1) 0)=some (.slice (some (ar bz oz)) L c)/\v.cell? (ar (w.heap.size+1) 1)=some (MO sh)/\v.cell? (ar (w.heap.size+1) 2)=some (MO ra)/\v.cell? (ar (w.heap.size+1) 3)=some (MO O)/\v.cell? (ar (w.heap.size+1) 4)=some (MO U)/\v.cell? (ar (w.heap.size+1) 5)=some (MO bt)/\v.cell? (ar (w.heap.size+1) 6)=some (MO mi)/\v.cell? (ar (w.heap.size+1) 7)=some (MO st)/\v.cell? (ar (w.heap.size+1) 8)=some (MO bu)/\v.cell? (ar (w.heap.size+1) 9)=some (MO ch)/\v.cell? (ar (w.heap.size+1) 10)=some (MO wi)/\v.cell? (ar (w.heap.size+1) 11)=some (MO ca)) ?_
 refine HA.t ?_ [0,1,2,3,4,5,6] u ?_
 refine HA.o 7 (fun K hK=>?_)
 go_simp
 refine bn.o.mono ?_
 rintro e w4 ⟨rfl,y⟩
 have bs:=aa (b9.o.trans ((LR V.heap.size V).drew.trans y |>.mono b9.o.size))
 have bv:=LW (aw y u.1) (LW (aw y u.2.1) (LW (aw y u.2.2.1) (LW (aw y u.2.2.2.1) (LW (aw y u.2.2.2.2.1) (LW (aw y u.2.2.2.2.2.1) (LW (aw y u.2.2.2.2.2.2.1) (LW (aw y u.2.2.2.2.2.2.2.1) (LW (aw y u.2.2.2.2.2.2.2.2.1) (LW (aw y u.2.2.2.2.2.2.2.2.2.1) (LW (aw y u.2.2.2.2.2.2.2.2.2.2.1) (LW (aw y u.2.2.2.2.2.2.2.2.2.2.2.1) (LW (aw y u.2.2.2.2.2.2.2.2.2.2.2.2.1) (aw y u.2.2.2.2.2.2.2.2.2.2.2.2.2)))))))))))))
 clear y u
 dsimp only
 refine hK.out _ _ bv (fun u=>?_)
 clear hK K bv
 refine HA.t ?_ [8] u ?_
 refine HA.d ?_
 clear u z0 z1 z2 z3 z4 z5 z6 z7 z8 z9 a6 ad J a7 a3 zf y0 y1 y2 y3 y4 y5 y6 y7 y8 y9 a0 a2 yf
 by_cases h8:ND<=Q
 ·have bO:¬((Q:Int)<ND):=ap
  have c7:decide ((Q:Int)<ND)=false:=by simp;omega
  have bV:decide (Q<ND)=false:=by simp;omega
  have G8:=aa (MI h8)
  go_wp2_with fail
  go_ret
  exact ⟨bj (F0.o trivial G1.o G2.o G8.o).symm,bs.o⟩
 ·have bO:(Q:Int)<ND:=ap
  have c7:decide ((Q:Int)<ND)=true:=by simp;omega
  have bV:decide (Q<ND)=true:=by simp;omega
  have G8:=aa (MJ h8)
  go_wp2_with fail
  go_ret
  exact ⟨bj (F8.o trivial G1.o G2.o G8.o).symm,bs.o⟩
structure jK (w:World) (A:Option Addr) (c:Nat) (D:Option Addr) (T:Option Addr) (ct:Nat) (R:Option Addr) (i:Inp):Prop where
 c:ka w A c i.cfg
 d:dA rEx 2 w D i.data
 dl:i.data.length<=17592186043904
 t:cH w T i.start ct
 r:Rd w R (aA .u64 i.draws)
 rl:i.draws.length<=17592186043904
 ru:U64 i.draws
 ra: -9223372036854775808<=i.cfg.rate/\i.cfg.rate<=9223372036854775807
 rm: -9223372036854775808<=i.cfg.mom/\i.cfg.mom<=9223372036854775807
theorem jK.below {w p:World} {A:Option Addr} {c:Nat} {D T R:Option Addr} {o:Nat} {i:Inp} (h:jK w A c D T o R i) (hb:aq w p):jK p A c D T o R i:=
 ⟨h.c.below hb,h.d.below eU hb,h.dl,h.t.below hb,h.r.below hb,h.rl,h.ru,h.ra,h.rm⟩
def km (i:Inp):Prop:=i.data.length<=60/\i.start.length<=600/\i.draws.length<=2000/\i.cfg.sizes.length<=40
theorem jK.rd {w:World} {A:Option Addr} {c:Nat} {D T R:Option Addr} {o:Nat} {i:Inp} (h:jK w A c D T o R i) (hs:km i):ge w A c D T o R i:=
 ⟨h.c,h.d,by have:=hs.1;omega,h.t,by have:=hs.2.1;omega,h.r,by have:=hs.2.2.1;omega,h.ru,h.ra,h.rm⟩
def sR (q:Prop) (w:World) (e:Ending) (h:World):Prop:=(∃b:Bool,e=.returned (.bool b)/\(b=true->q))/\aq w h
theorem sj {q:Prop} {w h:World} (b:Bool) (i:q) (hb:aq w h):sR q w (.returned (.bool b)) h:=⟨⟨b,rfl,fun _=>i⟩,hb⟩
theorem vu {q:Prop} {w i:World} (hb:aq w i):sR q w (.returned (.bool false)) i:=⟨⟨false,rfl,fun h=>by cases h⟩,hb⟩
theorem Gw {p:Prop} [Decidable p] {q:Prop} {w i:World} (o:p->q) (hb:aq w i):sR q w (.returned (.bool (decide p))) i:=⟨⟨_,rfl,fun h=>o (of_decide_eq_true h)⟩,hb⟩
theorem Gn (A:Option Addr) (c:Nat) (D:Option Addr) (x:Nat) (T:Option Addr) (B:Nat) (R:Option Addr) (C:Nat) (i:Inp) (w:World) (h:jK w A c D T B R i):
  Calls prog 110 #[.agg (aO A c D x T B R C i)] w (sR (km i) w):=by
 have hf:=fun w' (q:aq w w')=>EZ x D i.data w' (h.d.below eU q) h.dl
 have hq:i.data.length<=60->i.start.length<=600->i.draws.length<=2000->i.cfg.sizes.length<=40->km i:=fun a b c d=>⟨a,b,c,d⟩
 generalize km i=Q at hq ⊢
 clear h
 unfold JI at hf
 obtain ⟨⟨sz,sh,ra,H,V,ba,mi,st,bu,ch,wi,ca⟩,data,start,draws⟩:=i
 dsimp only [aO,dh] at *
 obtain ⟨L,hL⟩:∃L,sz.length=L:=⟨_,rfl⟩
 obtain ⟨N,hN⟩:∃N,data.length=N:=⟨_,rfl⟩
 obtain ⟨M,hM⟩:∃M,start.length=M:=⟨_,rfl⟩
 obtain ⟨P,hP⟩:∃P,draws.length=P:=⟨_,rfl⟩
 rw [hL,hN,hM,hP] at hq
 rw [hN] at hf
 rw [hL,hN,hM,hP]
 obtain ⟨Hf,Hq⟩:=ae hf hq;clear hf hq hL hN hM hP
 have U:¬(L<=40)->¬((L:Int)<=40):=ap
 have J:L<=40->(L:Int)<=40:=ap
 have Z:¬(M<=600)->¬((M:Int)<=600):=ap
 have O:M<=600->(M:Int)<=600:=ap
 have Y:¬(P<=2000)->¬((P:Int)<=2000):=ap
 have I:P<=2000->(P:Int)<=2000:=ap
 obtain ⟨NL,YL,NM,YM,NP,YP⟩:=ai U J Z O Y I;clear U J Z O Y I
 by_cases h1:¬(L<=40)
 ·have k1:=NL.o h1
  go_enter func110,ntmps110
  go_wp2_with fail
  all_goals
   go_ret
   exact vu ((LR _ w).alloc (LO _) _)
 have y:L<=40:=ap
 have k1:=YL.o y
 have G1:=aa y;clear h1 y
 go_enter func110,ntmps110
 go_wp2_with fail
 have hz:=LP w (.cells #[.slice A L c,MO sh,MO ra,MO H,MO V,MO ba,MO mi,MO st,MO bu,MO ch,MO wi,MO ca,.slice D N x,.slice T M B,.slice R P C] 29)
 have hB:=(LR _ w).alloc (LO _) (.cells #[.slice A L c,MO sh,MO ra,MO H,MO V,MO ba,MO mi,MO st,MO bu,MO ch,MO wi,MO ca,.slice D N x,.slice T M B,.slice R P C] 29)
 refine (Hf.o _ hB).mono ?_
 rintro e w' ⟨⟨b,rfl,hb⟩,d,rfl⟩
 have u:((w.alloc (.cells #[.slice A L c,MO sh,MO ra,MO H,MO V,MO ba,MO mi,MO st,MO bu,MO ch,MO wi,MO ca,.slice D N x,.slice T M B,.slice R P C] 29)).drewN d).heap[w.heap.size]?=some (.cells #[.slice A L c,MO sh,MO ra,MO H,MO V,MO ba,MO mi,MO st,MO bu,MO ch,MO wi,MO ca,.slice D N x,.slice T M B,.slice R P C] 29 (0,0)):=hz
 have p:=LY hB d
 have Hb:=aa hb;clear hz hB hb
 generalize (w.alloc (.cells #[.slice A L c,MO sh,MO ra,MO H,MO V,MO ba,MO mi,MO st,MO bu,MO ch,MO wi,MO ca,.slice D N x,.slice T M B,.slice R P C] 29)).drewN d=W1 at u p ⊢
 have HB:=aa p
 obtain ⟨⟨z0,z1,z2,z3,z4,z5,z6,z7,z8,z9,a0,a4,a3,a1,a2⟩,zf⟩:=ki u
 clear u p
 rcases eh b with rfl | rfl
 ·go_wp2_with fail
  all_goals
   go_ret
   exact vu HB.o
 by_cases h2:¬(M<=600)
 ·have k2:=NM.o h2
  go_wp2_with fail
  all_goals
   go_ret
   exact vu HB.o
 have v:M<=600:=ap
 have k2:=YM.o v
 have G2:=aa v;clear h2 v;clear NL YL NM YM YP
 go_wp2_with fail
 all_goals
  go_ret
  exact Gw (fun h=>Hq.o (Hb.o trivial) G2.o ap G1.o) HB.o
theorem zP (A:Option Addr) (c:Nat) (D:Option Addr) (cd:Nat) (T:Option Addr) (U:Nat) (R:Option Addr) (Z:Nat) (i:Inp) (w:World) (h:jK w A c D T U R i):
  Calls prog 74 #[.agg (aO A c D cd T U R Z i)] w (sR (km i) w):=by
 have p:=fun u (q:aq w u)=>Gn A c D cd T U R Z i u (h.below q)
 have J:=fun u (q:aq w u)=>ot A c i.cfg u (h.c.below q)
 have V:=fun (hR:cS i.cfg.sizes) u (q:aq w u)=>js A i.cfg.sizes i.cfg.sizes.length c u (h.c.hr.below q) hR (by have:=hR.1;omega) (LO _)
 have a0:=@gM i.cfg
 generalize km i=QQ at p ⊢
 clear h
 have p:∀u,aq w u->Calls prog 110 #[.agg (aO A c D cd T U R Z i)] u (fun e aR=>∃b:Bool,e=.returned (.bool b)/\(b=true->QQ)/\aq u aR):=fun u q=>(p u q).mono fun e aR ⟨⟨b,h1,h2⟩,h3⟩=>⟨b,h1,h2,h3⟩
 obtain ⟨⟨sz,sh,ra,H,I,ba,mi,st,bu,ch,wi,ca⟩,data,start,draws⟩:=i
 dsimp only [aO,dh] at *
 obtain ⟨cc,b0⟩:∃cc,cB ⟨sz,sh,ra,H,I,ba,mi,st,bu,ch,wi,ca⟩=cc:=⟨_,rfl⟩
 rw [b0] at J a0
 have av:cc=0->cS sz:=fun e=>(a0.1 e).z.1
 obtain ⟨L,hL⟩:∃L,sz.length=L:=⟨_,rfl⟩
 obtain ⟨N,hN⟩:∃N,data.length=N:=⟨_,rfl⟩
 obtain ⟨M,hM⟩:∃M,start.length=M:=⟨_,rfl⟩
 obtain ⟨Q,hQ⟩:∃Q,draws.length=Q:=⟨_,rfl⟩
 rw [hL] at J V p ⊢
 rw [hN,hM,hQ] at p ⊢
 obtain ⟨CN,aM⟩:∃CN,bQ sz (L-1)=CN:=⟨_,rfl⟩
 rw [aM] at V
 obtain ⟨b4,b3,ad,b2⟩:=ag J V p av;clear J V p a0 hL hN hM hQ b0 aM av
 go_enter func74,ntmps74
 go_wp2_with fail
 have hz:=(L0 (w.alloc (.cells #[.slice A L c,MO sh,MO ra,MO H,MO I,MO ba,MO mi,MO st,MO bu,MO ch,MO wi,MO ca,.slice D N cd,.slice T M U,.slice R Q Z] 29)) (.cells #[.slice A L c,MO sh,MO ra,MO H,MO I,MO ba,MO mi,MO st,MO bu,MO ch,MO wi,MO ca] 24) w.heap.size (by simp)).trans (LP w _)
 have hy:=LP (w.alloc (.cells #[.slice A L c,MO sh,MO ra,MO H,MO I,MO ba,MO mi,MO st,MO bu,MO ch,MO wi,MO ca,.slice D N cd,.slice T M U,.slice R Q Z] 29)) (.cells #[.slice A L c,MO sh,MO ra,MO H,MO I,MO ba,MO mi,MO st,MO bu,MO ch,MO wi,MO ca] 24)
 rw [show (w.alloc (.cells #[.slice A L c,MO sh,MO ra,MO H,MO I,MO ba,MO mi,MO st,MO bu,MO ch,MO wi,MO ca,.slice D N cd,.slice T M U,.slice R Q Z] 29)).heap.size=w.heap.size+1 by simp] at hy
 have hB:aq w ((w.alloc (.cells #[.slice A L c,MO sh,MO ra,MO H,MO I,MO ba,MO mi,MO st,MO bu,MO ch,MO wi,MO ca,.slice D N cd,.slice T M U,.slice R Q Z] 29)).alloc (.cells #[.slice A L c,MO sh,MO ra,MO H,MO I,MO ba,MO mi,MO st,MO bu,MO ch,MO wi,MO ca] 24)):=((LR _ w).alloc (LO _) _).alloc (by simp) _
 obtain ⟨W0,aP⟩:∃W0,W0=(w.alloc (.cells #[.slice A L c,MO sh,MO ra,MO H,MO I,MO ba,MO mi,MO st,MO bu,MO ch,MO wi,MO ca,.slice D N cd,.slice T M U,.slice R Q Z] 29)).alloc (.cells #[.slice A L c,MO sh,MO ra,MO H,MO I,MO ba,MO mi,MO st,MO bu,MO ch,MO wi,MO ca] 24):=⟨_,rfl⟩
 rw [<-aP] at hz hy hB ⊢
 clear aP
 refine (ad.o _ hB).mono ?_
 rintro e w1 ⟨b,rfl,hb,Y⟩
 have y:=(Y.block _ (LN hz)).trans hz
 have v:=(Y.block _ (LN hy)).trans hy
 obtain ⟨HB,Hb⟩:=ae (hB.trans (Y.mono hB.size)) hb
 obtain ⟨⟨z0,z1,z2,z3,z4,z5,z6,z7,z8,z9,a1,ao,ab,a3,a6⟩,zf⟩:=ki y
 obtain ⟨⟨y0,y1,y2,y3,y4,y5,y6,y7,y8,y9,a2,a4⟩,yf⟩:=kl v
 obtain ⟨HZ,HY⟩:=ae y v;clear hz hy hB Y hb
 rcases eh b with rfl | rfl
 ·clear y v
  go_wp2_with fail
  refine (ad.o _ HB.o).mono ?_
  rintro e w2 ⟨b',rfl,C,B⟩
  obtain ⟨a7,a8⟩:=ae (HB.o.trans (B.mono HB.o.size)) C;clear B C
  go_wp2_with fail
  go_ret
  exact ⟨⟨b',rfl,a8.o⟩,a7.o⟩
 have HQ:=aa (Hb.o rfl)
 go_wp2_with fail
 refine (b4.o _ HB.o).mono ?_
 rintro e w3 ⟨rfl,O⟩
 have aG:=(O.block _ (LN y)).trans y
 have b1:=(O.block _ (LN v)).trans v
 have x:=aa (HB.o.trans (O.mono HB.o.size));clear z0 z1 z2 z3 z4 z5 z6 z7 z8 z9 a1 ao ab a3 a6 zf y0 y1 y2 y3 y4 y5 y6 y7 y8 y9 a2 a4 yf y v O HZ HY
 obtain ⟨⟨z0,z1,z2,z3,z4,z5,z6,z7,z8,z9,a1,ao,ab,a3,a6⟩,zf⟩:=ki aG
 obtain ⟨⟨y0,y1,y2,y3,y4,y5,y6,y7,y8,y9,a2,a4⟩,yf⟩:=kl b1
 clear aG b1
 by_cases h3:cc≠0
 ·have hq:(cc != 0)=true:=by rw [bne_iff_ne];exact h3
  go_wp2_with fail
  refine (ad.o _ x.o).mono ?_
  rintro e w2 ⟨b',rfl,C,B⟩
  obtain ⟨a7,a8⟩:=ae (x.o.trans (B.mono x.o.size)) C;clear B C
  go_wp2_with fail
  go_ret
  exact ⟨⟨b',rfl,a8.o⟩,a7.o⟩
 obtain rfl:cc=0:=ap
 clear h3
 have HR:=aa (b2.o rfl)
 by_cases h4:12<st
 ·have hq:¬(st<=12):=ap
  go_wp2_with fail
  all_goals
   go_ret
   exact sj _ HQ.o x.o
 have hq:st<=12:=ap
 go_wp2_with fail
 refine (b3.o HR.o _ x.o).mono ?_
 rintro e w4 ⟨rfl,d,rfl⟩
 have a9:=aa (LY x.o d)
 obtain ⟨W4,a5⟩:∃W4,W4=w3.drewN d:=⟨_,rfl⟩
 have b5:W4.cell? (ar (w.heap.size+1) 5)=some (MO ba):=by rw [a5];exact y5
 rw [<-a5] at a9 ⊢
 clear a5 z0 z1 z2 z3 z4 z5 z6 z7 z8 z9 a1 ao ab a3 a6 zf y0 y1 y2 y3 y4 y5 y6 y7 y8 y9 a2 a4 yf
 by_cases h5:CN<=150
 ·have k5:(CN:Int)<=150:=ap
  go_wp2_with fail
  all_goals
   go_ret
   exact sj _ HQ.o a9.o
 ·have k5:¬((CN:Int)<=150):=ap
  go_wp2_with fail
  all_goals
   go_ret
   exact sj _ HQ.o a9.o
theorem im:dt prog 104 191 (.agg MT) 12 88:=⟨underlying104,info_parts (by kernel_rfl),rfl,by decide⟩
def iQ (w:World) (v:Value) (h:World) (v':Value):Prop:=Keep (fun j=>v.ownBlock=some j) w h/\(v'.ownBlock=v.ownBlock\/∀k,v'.ownBlock=some k->w.heap.size<=k)
theorem iQ.trans {a b c:World} {v v' i:Value} (h:iQ a v b v') (k:iQ b v' c i):iQ a v c i:=by
 refine ⟨⟨k.1.os.trans h.1.os,k.1.tape.trans h.1.tape,k.1.output.trans h.1.output,LU h.1.size k.1.size,fun j o hn=>(k.1.block j (LV o h.1.size) fun x=>?_).trans (h.1.block j o hn)⟩,?_⟩
 ·rcases h.2 with u | u
  ·exact hn (u▸x)
  ·have:=u j x;omega
 ·rcases k.2 with p | p
  ·rw [p];exact h.2
  ·exact .inr fun j o=>LU h.1.size (p j o)
theorem iQ.below {b c:World} {v:Value} (h:aq b c):iQ b v c v:=⟨Keep.below h,.inl rfl⟩
theorem iQ.refl (w:World) (v:Value):iQ w v w v:=⟨Keep.refl _ _,.inl rfl⟩
theorem gj {P:Program} {t e:TypeId} {z:Value} {size i:Nat} (T:dt P t e z size i) (w:World) {ops:Array Oper} {rest:List Oper} {o:Oper} {a:Act} {Q:Exit->Act->World->Prop}
  (B:o.guard=none) (s x:Operand) (C:o.op=.call {callee:=.builtin .append,args:=#[s,x],argTypes:=#[t,t]})
  (base:Nat) (v:Value) (n:Nat) (xs:List Value) (hs:a.eval s=v) (hown:w.ownsRow base e size v n xs)
  (us:List Value) (hx:a.eval x=.slice (some (ar w.heap.size 0)) 1 1) (hus:us.length=size) (h1:∀u∈us,u.oneCell'=true)
  (hb:(n+1)*i<=140737488355328) (h63:n+1<=maxLen) (hbase:base<=w.heap.size)
  (h:∀A y p,p.ownsRow base e size (.slice A (n+1) y) (n+1) (xs++us)->iQ w v p (.slice A (n+1) y)->
   wpList P ops Q rest (a.put o.dst (.slice A (n+1) y)) p):wpList P ops Q (o::rest) a (w.alloc (.cells us.toArray e)):=by
 refine dy T (w:=w.alloc (.cells us.toArray e)) B s x C base v n xs hs (hown.alloc _) (some (ar w.heap.size 0)) 1 1 us hx (dD w us e w.heap.size rfl) ap h1 hb h63 (by simp;omega) ?_
 intro A y p D _ hg hn
 refine h A y p D ⟨((Keep.refl _ w).alloc _).grown hg (fun k hk=>.inr hk),?_⟩
 rcases hn with hn | hn
 ·exact .inl hn
 ·exact .inr fun k hk=>by rw [hn] at hk;simp at hk;omega
theorem ss6 {w:World} {b:Nat} {t:TypeId} {x p i v o u v0 v1 v2 v3 v4 v5:Value} (h:w.heap[b]?=some (.cells #[x,p,i,v,o,u] t (0,0))):
  ((((((w.setCell (ar b 0) v0).setCell (ar b 1) v1).setCell (ar b 2) v2).setCell (ar b 3) v3).setCell (ar b 4) v4).setCell (ar b 5) v5).heap[b]?=some (.cells #[v0,v1,v2,v3,v4,v5] t (0,0)):=
 ss (ss (ss3 (ss h rfl) rfl) rfl) (by simp)
theorem rz (p:Pln) (R a1 T J L Q I u x:Value) (w:World) (O:db p) (B:p.bu<=1048576):
  Calls prog 91 #[.agg #[R,a1,T,J,MO (p.W:Nat),L,Q,I,MO (p.bu:Nat),MO (p.ck:Nat),u,x,MO (p.n:Nat)]] w fun e H=>∃v,e=.returned v/\H.ownsRow w.heap.size 187 2 v p.buks.length (aN p.buks)/\aq w H:=by
 obtain ⟨A,i⟩:∃A,w.alloc (.cells #[R,a1,T,J,MO (p.W:Nat),L,Q,I,MO (p.bu:Nat),MO (p.ck:Nat),u,x,MO (p.n:Nat)] 64)=A:=⟨_,rfl⟩
 have y:aq w A:=by rw [<-i];exact (br w).alloc (LO _) _
 have hb:=zc p.n p.bu A (by have:=O.n;omega) O.bu B
 obtain ⟨C,h,V⟩:=af i y hb;clear i y hb
 go_enter func91,ntmps91
 go_wp2_with fail
 rw [C.o]
 refine V.o.mono ?_
 rintro e Z ⟨v,rfl,N,D⟩
 obtain ⟨Y,U⟩:=ae (aE (base':=w.heap.size) N h.o.size) (h.o.trans (D.mono h.o.size));clear N D
 go_wp2_with fail
 go_ret
 exact ⟨_,rfl,Y.o,U.o⟩
theorem EU (p:Pln) (Y a1 Z Q R V N u x:Value) (st j:Nat) (w:World) (hp:db p) (a4:p.bu<=1048576) (hj:j<p.buks.length):
  Calls prog 150 #[.agg #[Y,a1,Z,Q,MO (p.W:Nat),R,V,N,MO (p.bu:Nat),MO (p.ck:Nat),u,x,MO (p.n:Nat)],MO (st:Nat),MO (j:Nat)] w fun e L=>e=.returned (.agg #[MO (st:Nat),MO (j:Nat),MO ((aL p.buks j).1:Nat),MO ((aL p.buks j).2:Nat),MO (p.W:Nat),MO (p.ck:Nat)])/\aq w L:=by
 obtain ⟨h,i⟩:∃h,(w.alloc (.cells #[Y,a1,Z,Q,MO (p.W:Nat),R,V,N,MO (p.bu:Nat),MO (p.ck:Nat),u,x,MO (p.n:Nat)] 64)).alloc (.cells MV 261)=h:=⟨_,rfl⟩
 have g0:h.heap[w.heap.size]?=some (.cells #[Y,a1,Z,Q,MO (p.W:Nat),R,V,N,MO (p.bu:Nat),MO (p.ck:Nat),u,x,MO (p.n:Nat)] 64 (0,0)):=by
  rw [<-i,L0 _ _ _ (by simp)];exact LP w _
 have g1:h.heap[w.heap.size+1]?=some (.cells MV 261 (0,0)):=by
  rw [<-i];have:=LP (w.alloc (.cells #[Y,a1,Z,Q,MO (p.W:Nat),R,V,N,MO (p.bu:Nat),MO (p.ck:Nat),u,x,MO (p.n:Nat)] 64)) (.cells MV 261);simpa using this
 have U:aq w h:=by rw [<-i];exact ((br w).alloc (LO _) _).alloc (by simp) _
 have t0:=fun L (q:Keep (fun j=>j=w.heap.size+1) h L)=>vA ((q.block _ (LN g0) ap).trans g0)
 have ao:(j:Int)<p.buks.length:=ap
 obtain ⟨a9,J,G1⟩:=af i U g1
 have q0:Keep (fun j=>j=w.heap.size+1) h h.drew:=(Keep.refl _ _).drew
 clear i g0 g1 U
 go_enter func150,ntmps150
 go_wp2_with fail
 rw [a9.o]
 refine HA.g (fun L:World=>Keep (fun j=>j=w.heap.size+1) h L) ?_
 refine HA.t ?_ [0,1,2,4,7,8,9,10,11,12] q0 ?_
 refine HA.c 3 (rz p Y a1 Z Q R V N u x _ hp a4) ?_
 rintro e D ⟨v2,rfl,o2,k2⟩
 have b2:=bt (br h).drew k2
 have H:Keep (fun j=>j=w.heap.size+1) h D:=Keep.below b2
 obtain ⟨g,c2,rfl,_⟩:=o2.form ap
 obtain ⟨d0,d1⟩:=iw o2 hj
 obtain ⟨I,C⟩:∃b,(aL p.buks j).1=b:=⟨_,rfl⟩
 obtain ⟨T,A⟩:∃b,(aL p.buks j).2=b:=⟨_,rfl⟩
 rw [C] at d0
 rw [A] at d1
 refine ⟨_,rfl,H,fun _=>?_⟩
 refine HA.v 5 D (.pointer (some (ar g (j*2)))) H ?_
 refine HA.v 6 D (.agg #[MO (I:Nat),MO (T:Nat)]) H ?_
 refine HA.v 13 D (.agg #[MO (st:Nat),MO (j:Nat),MO (I:Nat),MO (T:Nat),MO (p.W:Nat),MO (p.ck:Nat)]) H ?_
 have h2:=sb G1.o D b2
 have u2:=bx6 h2
 have O:=ss6 (v0:=MO (st:Nat)) (v1:=MO (j:Nat)) (v2:=MO (I:Nat)) (v3:=MO (T:Nat)) (v4:=MO (p.W:Nat)) (v5:=MO (p.ck:Nat)) h2
 have a8:=LN h2
 obtain ⟨W9,y⟩:∃W9,((((((D.setCell (ar (w.heap.size+1) 0) (MO (st:Nat))).setCell (ar (w.heap.size+1) 1) (MO (j:Nat))).setCell (ar (w.heap.size+1) 2) (MO (I:Nat))).setCell (ar (w.heap.size+1) 3) (MO (T:Nat))).setCell (ar (w.heap.size+1) 4) (MO (p.W:Nat))).setCell (ar (w.heap.size+1) 5) (MO (p.ck:Nat)))=W9:=⟨_,rfl⟩
 have k9:Keep (fun j=>j=w.heap.size+1) D W9:=by rw [<-y];exact Keep.setCell (S:=fun j=>j=w.heap.size+1) (Keep.setCell (S:=fun j=>j=w.heap.size+1) (Keep.setCell (S:=fun j=>j=w.heap.size+1) (Keep.setCell (S:=fun j=>j=w.heap.size+1) (Keep.setCell (S:=fun j=>j=w.heap.size+1) (Keep.setCell (S:=fun j=>j=w.heap.size+1) (Keep.refl _ _) _ (.inr rfl) _) _ (.inr rfl) _) _ (.inr rfl) _) _ (.inr rfl) _) _ (.inr rfl) _) _ (.inr rfl) _
 refine HA.s 14 W9 (H.trans k9) ?_ (he:=by subst y;go_simp)
 refine HA.d ?_
 rw [y] at O
 obtain ⟨E6,HB⟩:=ae O (J.o.trans ((H.trans k9).toBelow (B:=w.heap.size) J.o.size (fun j hj=>ap)))
 obtain ⟨⟨r0,r1,r2,r3,r4,r5⟩,rf⟩:=bx6 O
 have av:=LN O
 obtain ⟨ad,ab⟩:=ae C A;clear O h2 u2 a8 q0 H b2 k9 k2 t0 o2 d0 d1 C A
 go_wp2_with fail
 rw [ad.o,ab.o]
 exact L7 (v:=.agg #[MO (st:Nat),MO (j:Nat),MO (I:Nat),MO (T:Nat),MO (p.W:Nat),MO (p.ck:Nat)]) (by simp [results,results150,go_sem,r0,r1,r2,r3,r4,r5]) rfl ⟨rfl,HB.o⟩
abbrev fX (w:World) (base:Nat) (v:Value) (l:List Itm):Prop:=w.ownsRow base 191 12 v l.length (cu l)
theorem yS (p:Pln) (base st x lo u:Nat) (a0 a1 a2 a3 a5 a6 a7 a4 a8:Value) (v:Value) (l:List Itm) (w:World)
  (hp:db p) (dk:p.bu<=1048576) (hl:fX w base v l) (hb:base<=w.heap.size) (hx:x<p.W) (bi:lo<=u) (hg:u<=p.buks.length) (dn:l.length<=8000000):
  Calls prog 103 #[v,.agg #[a0,a1,a2,a3,MO (p.W:Nat),a5,a6,a7,MO (p.bu:Nat),MO (p.ck:Nat),a4,a8,MO (p.n:Nat)],MO x,MO (st:Nat),.agg #[MO (lo:Nat),MO (u:Nat)]] w fun e A=>∃v',e=.returned v'/\fX A base v' (l++dg p x st (lo,u))/\iQ w v A v':=by
 obtain ⟨J,ab⟩:∃J,(w.alloc (.cells #[a0,a1,a2,a3,MO (p.W:Nat),a5,a6,a7,MO (p.bu:Nat),MO (p.ck:Nat),a4,a8,MO (p.n:Nat)] 64)).alloc (.cells #[MO (lo:Nat),MO (u:Nat)] 187)=J:=⟨_,rfl⟩
 have g0:J.heap[w.heap.size]?=some (.cells #[a0,a1,a2,a3,MO (p.W:Nat),a5,a6,a7,MO (p.bu:Nat),MO (p.ck:Nat),a4,a8,MO (p.n:Nat)] 64 (0,0)):=by
  rw [<-ab,L0 _ _ _ (by simp)];exact LP w _
 have g1:J.heap[w.heap.size+1]?=some (.cells #[MO (lo:Nat),MO (u:Nat)] 187 (0,0)):=by
  rw [<-ab];have:=LP (w.alloc (.cells #[a0,a1,a2,a3,MO (p.W:Nat),a5,a6,a7,MO (p.bu:Nat),MO (p.ck:Nat),a4,a8,MO (p.n:Nat)] 64)) (.cells #[MO (lo:Nat),MO (u:Nat)] 187);simpa using this
 have av:aq w J:=by rw [<-ab];exact ((br w).alloc (LO _) _).alloc (by simp) _
 have aP:fX J base v l:=ay hl av
 have kP:=fun A (q:Keep (fun j=>v.ownBlock=some j) J A)=>(q.block _ (LN g0) (fun h=>ax g0 (by decide) aP h.symm)).trans g0
 have kG:=fun A (q:Keep (fun j=>v.ownBlock=some j) J A)=>(q.block _ (LN g1) (fun h=>ax g1 (by decide) aP h.symm)).trans g1
 obtain ⟨m,hm⟩:∃m,p.W-1=m:=⟨_,rfl⟩
 have d8:=hp.W1;have e4:=hp.W8;have cO:=hp.ck;have cj:=hp.ck2;have e7:=hp.buks
 have cb:=fun j=>hp.buk j
 have hrl:=fun ph r j=>hp.round x st ph r j
 have e6:(p.W:Int)-1=(m:Int):=ap
 have e3:IntKind.i64.wrap (m:Int)=m:=LT _ ap
 have bo:=uq p x st lo u
 rw [hm] at bo
 have bX:=LU hb av.size
 have d5:=av.size
 obtain ⟨dr,d6,cA,HP,HG,d2,b6,Hm⟩:=ak ab av aP kP kG cb hrl hm;obtain ⟨ds,b0⟩:=ae bo bX
 have tG:=fun A (q:aq J A)=>bx2 (kG A (Keep.below q))
 have q0:=br J
 clear ab g0 g1 av aP hl kP kG cb hrl hm bX bo d5
 go_enter func103,ntmps103
 go_wp2_with fail
 rw [dr.o]
 clear tG q0
 have cn:=aa dn
 go_loopw [0,11] (fun H y wr=>∃j:Nat,lo<=j/\j<=u/\y=MO j/\fX wr base H (l++dd st lo (j-lo) 2)/\iQ J v wr H) (fun _ y _=>u-(intOf y).toNat)
 case atStart=>exact ⟨lo,LO _,bi,rfl,by simpa [dd] using cA.o,iQ.refl _ _⟩
 case round=>
  obtain ⟨j,hj,ct,rfl,l3,L⟩:=hrel
  have uR:=fun A (q:aq wr A)=>bx2 (sb (HG.o wr L.1) A q)
  have q1:=br wr
  have B:(l++dd st lo (j-lo) 2).length<=8388608:=by
   have:=cn.o
   simp only [Mo,jh]
   omega
  obtain ⟨Av,cv,rfl,_⟩:=aD l3
  obtain ⟨n,hn⟩:∃n,(l++dd st lo (j-lo) 2).length=n:=⟨_,rfl⟩
  have T:wr.ownsRow base 191 12 (.slice Av n cv) n (cu (l++dd st lo (j-lo) 2)):=by rw [<-hn];exact l3
  rw [hn] at B L ⊢
  have Z:=L.1.size
  by_cases bG:j<u
  ·have ao:(j:Int)<u:=ap
   have cM:IntKind.i64.wrap ((j:Int)+1)=((j+1:Nat):Int):=by rw [LT _ ap];push_cast;rfl
   have e:l++dd st lo (j+1-lo) 2=(l++dd st lo (j-lo) 2)++[(⟨2,st,j,none⟩:Itm)]:=by rw [show j+1-lo=(j-lo)+1 by omega,lw,show lo+(j-lo)=j by omega];simp only [Mu]
   obtain ⟨Q,L3,He,V⟩:=ag L T e hn;clear l3 T L e hn
   go_wp2_with (at_builtin;refine gj im _ rfl (.tmp 27) (.tmp 31) rfl base (.slice Av n cv) n _ rfl L3.o [MO 2,MO (st:Nat),MO (j:Nat),.bool false,.bool false,MO 0,MO 0,MO 0,MO 0,MO 0,MO 0,MO 0] rfl rfl (by simp [Value.oneCell']) ap (by unfold maxLen;omega) (LU b0.o Z) ?_)
   intro g6 c6 w6 C D
   obtain ⟨R,U⟩:=ae C (Q.o.trans D);clear C D
   go_wp2_with fail
   go_roundw
   case rel=>exact ⟨j+1,by omega,by omega,by go_num,by unfold fX;rw [He.o,Mo,V.o,fy];exact R.o,U.o⟩
   case measure=>simp [intOf];omega
  ·have ao:¬((j:Int)<u):=ap
   obtain rfl:u=j:=ap
   obtain ⟨L3,Q,V⟩:=af l3 L hn;clear l3 T L B hn
   obtain ⟨l1,b4⟩:∃l1,l++dd st lo (u-lo) 2=l1:=⟨_,rfl⟩
   have bb:l1.length<=8000060:=by
    have:=cn.o
    rw [<-b4]
    simp only [Mo,jh]
    omega
   rw [V.o] at L3
   have L4:an (wr.ownsRow base 191 12 (.slice Av n cv) l1.length (cu l1)):=aa (by have:=L3.o;unfold fX at this;rw [V.o] at this;rw [<-b4,V.o];exact this)
   obtain ⟨d3,b9⟩:=ae b4 bb;clear b4 bb L3
   go_wp2_with fail
   clear uR q1
   go_loopw [0,12] (fun H y wr=>∃ph:Nat,ph<=2/\y=MO ph/\fX wr base H (l1++cD p x st (lo,u) (ph*m))/\iQ J v wr H) (fun _ y _=>2-(intOf y).toNat)
   case atStart=>exact ⟨0,LS _,rfl,by simpa [cD] using L4.out,Q.o⟩
   case round=>
    obtain ⟨ph,e5,rfl,l2,A2⟩:=hrel
    by_cases d9:ph<2
    ·have d7:(ph:Int)<2:=ap
     have dT:IntKind.i64.wrap ((ph:Int)+1)=((ph+1:Nat):Int):=by rw [LT _ ap];push_cast;rfl
     obtain ⟨L2,O⟩:=ae l2 A2;clear l2 A2
     go_wp2_with fail
     go_loopw [0,13] (fun H y wr=>∃r:Nat,r<=m/\y=MO r/\fX wr base H (l1++cD p x st (lo,u) (ph*m+r))/\iQ J v wr H) (fun _ y _=>m-(intOf y).toNat)
     case atStart=>exact ⟨0,LS _,rfl,L2.o,O.o⟩
     case round=>
      obtain ⟨r,hr,rfl,l2,A2⟩:=hrel
      have uP:=fun A (q:aq wr A)=>vA (sb (HP.o wr A2.1) A q)
      have uR:=fun A (q:aq wr A)=>bx2 (sb (HG.o wr A2.1) A q)
      have q1:=br wr
      by_cases hrl:r<m
      ·have cY:(r:Int)<m:=ap
       have e2:IntKind.i64.wrap ((r:Int)+1)=((r+1:Nat):Int):=by rw [LT _ ap];push_cast;rfl
       obtain ⟨k,hk⟩:∃k,ph*m+r=k:=⟨_,rfl⟩
       have cd:k/m=ph:=by rw [<-hk,Nat.mul_comm,Nat.mul_add_div ap,Nat.div_eq_of_lt hrl,Nat.add_zero]
       have bA:k%m=r:=by rw [<-hk,Nat.mul_comm,Nat.mul_add_mod,Nat.mod_eq_of_lt hrl]
       have bO:k<=14:=by
        have:ph*m<=1*7:=Nat.mul_le_mul ap (by have:=Hm.o;omega)
        omega
       rw [hk] at l2
       obtain ⟨L2,O,Hk,dp,cy⟩:=ah l2 A2 hk cd bA;clear l2 A2 hk cd bA
       go_wp2_with fail
       clear uP uR q1
       go_loopw [0,14] (fun H y wr=>∃j:Nat,lo<=j/\j<=u/\y=MO j/\fX wr base H (l1++cD p x st (lo,u) k++fW p x st k lo (j-lo))/\iQ J v wr H) (fun _ y _=>u-(intOf y).toNat)
       case atStart=>exact ⟨lo,LO _,bi,rfl,by simpa [fW] using L2.o,O.o⟩
       case round=>
        obtain ⟨j,hj,ct,rfl,I,A4⟩:=hrel
        have uP:=fun A (q:aq wr A)=>vA (sb (HP.o wr A4.1) A q)
        have uR:=fun A (q:aq wr A)=>bx2 (sb (HG.o wr A4.1) A q)
        have q1:=br wr
        by_cases bG:j<u
        ·have ao:(j:Int)<u:=ap
         have da:j<p.buks.length:=ap
         obtain ⟨wj,rfl⟩:∃wj:World,wj=wr:=⟨_,rfl⟩
         obtain ⟨Aw,cw,rfl,_⟩:=aD I
         obtain ⟨l4,b5⟩:∃l4,l1++cD p x st (lo,u) k++fW p x st k lo (j-lo)=l4:=⟨_,rfl⟩
         have b7:l4.length<=8200000:=by
          have h1:=jp (w:=x) (st:=st) (k:=k) (g:=(lo,u)) (M:=120) (p:=p) (fun ph r j=>b6.o ph r j)
          have h2:=rU (w:=x) (st:=st) (k:=k) (lo:=lo) (n:=j-lo) (M:=120) (p:=p) (fun ph r j=>b6.o ph r j)
          have h4:k*((u-lo)*120)<=14*(60*120):=Nat.mul_le_mul bO (Nat.mul_le_mul ap (LO _))
          have h5:(j-lo)*120<=60*120:=Nat.mul_le_mul ap (LO _)
          have h6:=b9.o
          rw [<-b5]
          simp only [Mo]
          dsimp only at h1
          omega
         rw [b5] at I A4 ⊢
         obtain ⟨v4,bV⟩:∃v4,Value.slice Aw l4.length cw=v4:=⟨_,rfl⟩
         rw [bV] at I A4 ⊢
         have bh:=d2.o j
         have e8:bY p x st (k/(p.W-1)) (k%(p.W-1)) j=(df st j (aL p.buks j) p.W p.ck x ph r).map (gC st):=by
          unfold bY
          rw [Hm.o,dp.o,cy.o]
         have aM:=b6.o (k/(p.W-1)) (k%(p.W-1)) j
         rw [e8,List.length_map] at aM
         obtain ⟨b1,b2,bM⟩:∃b1 b2,aL p.buks j=(b1,b2):=⟨_,_,rfl⟩
         have Y:=EU p a0 a1 a2 a3 a5 a6 a7 a4 a8 st j wj hp dk da
         rw [bM] at bh e8 aM Y
         dsimp only at bh Y
         obtain ⟨ci,E8,aR,a9,b3,cP,cx⟩:=aj Y e8 aM I A4 b5 b7;clear Y e8 aM I A4 b5 b7 bM bV
         go_wp2_with fail
         refine ci.o.mono ?_
         rintro e w7 ⟨rfl,k7⟩
         have q7:=bt q1 k7
         go_wp2_with fail
         refine (yJ st j b1 b2 p.W p.ck x ph r w7 d8 ap hx d9 (by have:=Hm.o;omega) bh.1 ap cO cj).mono ?_
         rintro e w8 ⟨v8,rfl,o8,k8⟩
         have q8:=bt q7 k8
         obtain ⟨A8,c8,rfl,_⟩:=aD o8
         obtain ⟨X,hX⟩:∃X,df st j (b1,b2) p.W p.ck x ph r=X:=⟨_,rfl⟩
         rw [hX] at E8 aR o8 ⊢
         obtain ⟨N,hN⟩:∃N,X.length=N:=⟨_,rfl⟩
         rw [hN] at aR o8 ⊢
         have l8:fX w8 base v4 l4:=ay a9.o q8
         have bI:iQ J v w8 v4:=b3.o.trans (iQ.below q8)
         have cl:=fun A (q:Keep (fun j=>v4.ownBlock=some j) w8 A)=>q.own o8 (fun k hk e=>by
          have h1:=(o8.lt k hk).1
          have h5:k<wj.heap.size:=(a9.o.lt k e).2
          have h6:=q7.size
          omega)
         obtain ⟨L8,be,d4,HN⟩:=ag l8 bI cl hN;clear o8 l8 bI cl k8 k7 q8 q7 q1 hX hN uP uR a9 b3
         go_wp2_with fail
         go_loopw [0,16] (fun H y wr=>∃i:Nat,i<=N/\y=MO i/\fX wr base H (l4++(X.take i).map (gC st))/\iQ w8 v4 wr H) (fun _ y _=>N-(intOf y).toNat)
         case atStart=>exact ⟨0,LS _,rfl,by simpa using L8.o,iQ.refl _ _⟩
         case round=>
          obtain ⟨i,e0,rfl,l5,A5⟩:=hrel
          by_cases dw:i<N
          ·have dv:(i:Int)<N:=ap
           have e1:IntKind.i64.wrap ((i:Int)+1)=((i+1:Nat):Int):=by rw [LT _ (by have:=aR.o;omega)];push_cast;rfl
           have oX:=d4.o wr A5.1
           obtain ⟨ga,rfl⟩:∃ga,A8=some (ar ga 0):=by
            obtain ⟨g,e,hv,_⟩:=oX.form ap
            simp only [MC] at hv
            exact ⟨g,hv.1⟩
           have dc:i<X.length:=by rw [HN.o];exact dw
           obtain ⟨a,ha⟩:∃a,X[i]=a:=⟨_,rfl⟩
           have cs:X[i]?=some a:=by rw [<-ha];simp
           have cf:=yg oX cs HN.o
           have co:X.take (i+1)=X.take i++[a]:=by rw [List.take_succ_eq_append_getElem dc,ha]
           have B:(l4++(X.take i).map (gC st)).length<=8388607:=by
            have:=cx.o
            have:=aR.o
            simp only [Mo,List.length_map,Mt]
            omega
           obtain ⟨snd,ad,bn,bw,bd,bf,bs,bv,bl⟩:=a
           have c0:wr.cell? (ar ga (i*9))=some (.bool snd):=cf 0 ap
           have c1:wr.cell? (ar ga (i*9+1))=some (.bool ad):=cf 1 ap
           have c2:wr.cell? (ar ga (i*9+2))=some (MO (bn:Nat)):=cf 2 ap
           have c3:wr.cell? (ar ga (i*9+3))=some (MO (bw:Nat)):=cf 3 ap
           have c4:wr.cell? (ar ga (i*9+4))=some (MO (bd:Nat)):=cf 4 ap
           have c5:wr.cell? (ar ga (i*9+5))=some (MO (bf:Nat)):=cf 5 ap
           have c6:wr.cell? (ar ga (i*9+6))=some (MO (bs:Nat)):=cf 6 ap
           have c7:wr.cell? (ar ga (i*9+7))=some (MO (bv:Nat)):=cf 7 ap
           have c8:wr.cell? (ar ga (i*9+8))=some (MO (bl:Nat)):=cf 8 ap
           obtain ⟨Av,cv,rfl,_⟩:=aD l5
           obtain ⟨n,hn⟩:∃n,(l4++(X.take i).map (gC st)).length=n:=⟨_,rfl⟩
           have cr:wr.ownsRow base 191 12 (.slice Av n cv) n (cu (l4++(X.take i).map (gC st))):=by rw [<-hn];exact l5
           rw [hn] at B A5 ⊢
           have Z:=A5.1.size
           obtain ⟨bN,L5,cc,V⟩:=ag A5 cr co hn;clear oX cf l5 cr A5 co cs hn ha
           cases snd
           ·go_wp2_with (at_builtin;refine gj im _ rfl (.tmp 72) (.tmp 80) rfl base (.slice Av n cv) n _ rfl L5.o [MO 4,MO (st:Nat),MO 0,.bool false,.bool ad,MO (bn:Nat),MO (bw:Nat),MO (bd:Nat),MO (bf:Nat),MO (bs:Nat),MO (bv:Nat),MO (bl:Nat)] rfl rfl (by simp [Value.oneCell']) ap (by unfold maxLen;omega) (LU (LU b0.o be.o.1.size) Z) ?_)
            intro g6 cL w6 C D
            obtain ⟨R,U⟩:=ae C (bN.o.trans D);clear C D
            go_wp2_with fail
            go_roundw
            case rel=>exact ⟨i+1,by omega,by go_num,by unfold fX;rw [cc.o,List.map_append,<-Mu,Mo,V.o,List.map_cons,List.map_nil,fy,List.map_take];exact R.o,U.o⟩
            case measure=>simp [intOf];omega
           ·go_wp2_with (at_builtin;refine gj im _ rfl (.tmp 72) (.tmp 80) rfl base (.slice Av n cv) n _ rfl L5.o [MO 3,MO (st:Nat),MO 0,.bool true,.bool ad,MO (bn:Nat),MO (bw:Nat),MO (bd:Nat),MO (bf:Nat),MO (bs:Nat),MO (bv:Nat),MO (bl:Nat)] rfl rfl (by simp [Value.oneCell']) ap (by unfold maxLen;omega) (LU (LU b0.o be.o.1.size) Z) ?_)
            intro g6 cL w6 C D
            obtain ⟨R,U⟩:=ae C (bN.o.trans D);clear C D
            go_wp2_with fail
            go_roundw
            case rel=>exact ⟨i+1,by omega,by go_num,by unfold fX;rw [cc.o,List.map_append,<-Mu,Mo,V.o,List.map_cons,List.map_nil,fy,List.map_take];exact R.o,U.o⟩
            case measure=>simp [intOf];omega
          ·obtain rfl:N=i:=ap
           have dv:¬((N:Int)<N):=ap
           have dG:IntKind.i64.wrap ((j:Int)+1)=((j+1:Nat):Int):=by rw [LT _ ap];push_cast;rfl
           rw [List.take_of_length_le (by rw [HN.o];exact LO _),<-E8.o,<-cP.o,Mu,show fW p x st k lo (j-lo)++bY p x st (k/(p.W-1)) (k%(p.W-1)) j=fW p x st k lo (j+1-lo) from by rw [show j+1-lo=(j-lo)+1 by omega,nF,show lo+(j-lo)=j by omega]] at l5
           obtain ⟨L5,B5⟩:=ae l5 (be.o.trans A5);clear l5 A5
           go_wp2_with fail
           go_roundw
           case rel=>exact ⟨j+1,by omega,by omega,by go_num,L5.o,B5.o⟩
           case measure=>simp [intOf];omega
        ·have ao:¬((j:Int)<u):=ap
         obtain rfl:u=j:=ap
         have e:=gr p x st (lo,u) k
         dsimp only at e
         rw [Mu,<-e,<-Hk.o,MG] at I
         obtain ⟨a9,b3⟩:=ae I A4;clear I A4 e uP
         go_wp2_with fail
         go_roundw
         case rel=>exact ⟨r+1,by omega,by go_num,a9.o,b3.o⟩
         case measure=>simp [intOf];omega
      ·have cY:¬((r:Int)<m):=ap
       obtain rfl:m=r:=ap
       rw [<-MF] at l2
       obtain ⟨L2,O⟩:=ae l2 A2;clear l2 A2 uR
       go_wp2_with fail
       go_roundw
       case rel=>exact ⟨ph+1,by omega,by go_num,L2.o,O.o⟩
       case measure=>simp [intOf];omega
    ·have d7:¬((ph:Int)<2):=ap
     obtain rfl:ph=2:=ap
     have hrl:(cD p x st (lo,u) (2*m)).length<=100800:=by
      have h1:=jp (w:=x) (st:=st) (k:=2*m) (g:=(lo,u)) (M:=120) (p:=p) (fun ph r j=>b6.o ph r j)
      have h4:2*m*((u-lo)*120)<=14*(60*120):=Nat.mul_le_mul (by have:=Hm.o;omega) (Nat.mul_le_mul ap (LO _))
      dsimp only at h1
      omega
     have aG:(l1++cD p x st (lo,u) (2*m)).length<=8200000:=by
      have:=b9.o
      rw [Mo];omega
     obtain ⟨l9,bz⟩:∃l9,l1++cD p x st (lo,u) (2*m)=l9:=⟨_,rfl⟩
     rw [bz] at l2 aG
     have uR:=fun A (q:aq wr A)=>bx2 (sb (HG.o wr A2.1) A q)
     have q1:=br wr
     obtain ⟨L2,O,d1,c9⟩:=ag l2 A2 bz aG;clear l2 A2 bz aG hrl
     go_wp2_with fail
     clear uR q1
     go_loopw [0,18] (fun H y wr=>∃j:Nat,lo<=j/\j<=u/\y=MO j/\fX wr base H (l9++dd st lo (j-lo) 5)/\iQ J v wr H) (fun _ y _=>u-(intOf y).toNat)
     case atStart=>exact ⟨lo,LO _,bi,rfl,by simpa [dd] using L2.o,O.o⟩
     case round=>
      obtain ⟨j,hj,ct,rfl,l3,L⟩:=hrel
      have uR:=fun A (q:aq wr A)=>bx2 (sb (HG.o wr L.1) A q)
      have q1:=br wr
      have B:(l9++dd st lo (j-lo) 5).length<=8388608:=by
       have:=c9.o
       simp only [Mo,jh]
       omega
      obtain ⟨Av,cv,rfl,_⟩:=aD l3
      obtain ⟨n,hn⟩:∃n,(l9++dd st lo (j-lo) 5).length=n:=⟨_,rfl⟩
      have T:wr.ownsRow base 191 12 (.slice Av n cv) n (cu (l9++dd st lo (j-lo) 5)):=by rw [<-hn];exact l3
      rw [hn] at B L ⊢
      have Z:=L.1.size
      by_cases bG:j<u
      ·have ao:(j:Int)<u:=ap
       have cM:IntKind.i64.wrap ((j:Int)+1)=((j+1:Nat):Int):=by rw [LT _ ap];push_cast;rfl
       have e:l9++dd st lo (j+1-lo) 5=(l9++dd st lo (j-lo) 5)++[(⟨5,st,j,none⟩:Itm)]:=by rw [show j+1-lo=(j-lo)+1 by omega,lw,show lo+(j-lo)=j by omega];simp only [Mu]
       obtain ⟨Q,L3,He,V⟩:=ag L T e hn;clear l3 T L e hn
       go_wp2_with (at_builtin;refine gj im _ rfl (.tmp 90) (.tmp 94) rfl base (.slice Av n cv) n _ rfl L3.o [MO 5,MO (st:Nat),MO (j:Nat),.bool false,.bool false,MO 0,MO 0,MO 0,MO 0,MO 0,MO 0,MO 0] rfl rfl (by simp [Value.oneCell']) ap (by unfold maxLen;omega) (LU b0.o Z) ?_)
       intro g6 c6 w6 C D
       obtain ⟨R,U⟩:=ae C (Q.o.trans D);clear C D
       go_wp2_with fail
       go_roundw
       case rel=>exact ⟨j+1,by omega,by omega,by go_num,by unfold fX;rw [He.o,Mo,V.o,fy];exact R.o,U.o⟩
       case measure=>simp [intOf];omega
      ·have ao:¬((j:Int)<u):=ap
       obtain rfl:u=j:=ap
       obtain ⟨L3,Q,V⟩:=af l3 L hn;clear l3 T L B hn
       rw [V.o] at L3
       have b8:l9++dd st lo (u-lo) 5=l++dg p x st (lo,u):=by
        rw [<-d1.o,<-d3.o,ds.o];simp only [Mu]
       have L9:an (fX wr base (.slice Av n cv) (l++dg p x st (lo,u))):=aa (by have:=L3.o;unfold fX at this ⊢;rw [V.o] at this;rw [<-b8,V.o];exact this)
       have d0:=aa ((iQ.below (v:=v) d6.o).trans Q.o);clear b8 L3
       go_wp2_with fail
       go_ret
       exact ⟨_,rfl,L9.out,d0.o⟩
def zw (st k:Nat):List Itm:=(List.range k).map (fun a=>(⟨1,st,a,none⟩:Itm))
theorem Dr (st k:Nat):zw st (k+1)=zw st k++[(⟨1,st,k,none⟩:Itm)]:=qt st k
theorem FV (st k:Nat):(zw st k).length=k:=by simp [zw]
theorem yR (p:Pln) (st x:Nat) (a0 a1 a2 a3 a5 a7 C:Value) (w:World) (V:db p) (b6:p.bu<=1048576) (bn:p.wi<=1048576) (hx:x<p.W):
  Calls prog 67 #[.agg #[a0,a1,a2,a3,MO (p.W:Nat),a5,MO (p.mi:Nat),a7,MO (p.bu:Nat),MO (p.ck:Nat),MO (p.wi:Nat),C,MO (p.n:Nat)],MO x,MO (st:Nat)] w fun e u=>∃v,e=.returned v/\u.ownsRow w.heap.size 191 12 v (aI p x st).length (cu (aI p x st))/\aq w u:=by
 obtain ⟨i,N⟩:∃i,w.alloc (.cells #[a0,a1,a2,a3,MO (p.W:Nat),a5,MO (p.mi:Nat),a7,MO (p.bu:Nat),MO (p.ck:Nat),MO (p.wi:Nat),C,MO (p.n:Nat)] 64)=i:=⟨_,rfl⟩
 have g0:i.heap[w.heap.size]?=some (.cells #[a0,a1,a2,a3,MO (p.W:Nat),a5,MO (p.mi:Nat),a7,MO (p.bu:Nat),MO (p.ck:Nat),MO (p.wi:Nat),C,MO (p.n:Nat)] 64 (0,0)):=by rw [<-N];exact LP w _
 have b5:aq w i:=by rw [<-N];exact (br w).alloc (LO _) _
 have bO:¬((p.W:Int)<=x):=ap
 have bN:=V.buks;have bI:=V.grps;have bV:=V.mi;have aM:=V.wi
 have bM:w.heap.size<i.heap.size:=LN g0
 have T:p.grps=fp p.buks.length p.wi:=rfl
 obtain ⟨bA,ad,G0,b0⟩:=ag N b5 g0 T
 have tP:=fun u (q:aq i u)=>vA (sb g0 u q)
 have q0:=br i
 clear N g0 b5 T
 go_enter func67,ntmps67
 go_wp2_with fail
 rw [bA.o]
 clear q0
 go_loopw [7,8] (fun vv y wr=>∃k:Nat,k<=p.mi/\y=MO k/\wr.ownsRow i.heap.size 191 12 vv k (cu (zw st k))/\aq i wr) (fun _ y _=>p.mi-(intOf y).toNat)
 case atStart=>exact ⟨0,LS _,rfl,LZ _ _ _ _,br i⟩
 case round=>
  obtain ⟨k,hk,rfl,ho,q⟩:=hrel
  obtain ⟨Av,cv,rfl,_⟩:=aD ho
  have J:=q.size
  by_cases L:k<p.mi
  ·have a6:(k:Int)<p.mi:=ap
   have bh:IntKind.i64.wrap ((k:Int)+1)=((k+1:Nat):Int):=by rw [LT _ ap];push_cast;rfl
   obtain ⟨Ho,Hq⟩:=ae ho q;clear ho
   go_wp2_with (at_builtin;refine aY im _ rfl (.tmp 27) (.tmp 31) rfl i.heap.size (.slice Av k cv) k _ rfl Ho.o [MO 1,MO (st:Nat),MO (k:Nat),.bool false,.bool false,MO 0,MO 0,MO 0,MO 0,MO 0,MO 0,MO 0] rfl rfl (by simp [Value.oneCell']) ap (by unfold maxLen;omega) J ?_)
   intro g6 c6 w6 I b3 bz
   obtain ⟨bw,a4⟩:=ae I (Hq.o.trans b3);clear I b3 bz q
   go_wp2_with fail
   go_roundw
   case rel=>exact ⟨k+1,by omega,by go_num,by rw [Dr,fy];exact bw.o,a4.o⟩
   case measure=>simp [intOf];omega
  ·obtain rfl:p.mi=k:=ap
   have a6:¬((p.mi:Int)<p.mi):=ap
   have Ho:=aa ho;clear ho
   go_wp2_with fail
   refine HA.g (fun u:World=>aq i u) ?_
   refine HA.t ?_ [0,3,4,5] q.drew ?_
   refine HA.c 1 (rz p a0 a1 a2 a3 a5 (MO (p.mi:Nat)) a7 (MO (p.wi:Nat)) C _ V b6) ?_
   rintro e w2 ⟨v2,rfl,o2,k2⟩
   have q2:=bt q.drew k2
   obtain ⟨D,c2,rfl,_⟩:=aD o2
   refine ⟨_,rfl,q2,fun _=>?_⟩
   refine HA.t ?_ [2] q2 ?_
   refine HA.c 6 (we p.buks.length p.wi w2 ap aM bn) ?_
   rintro e w3 ⟨v3,rfl,o3,k3⟩
   have q3:=bt q2 k3
   obtain ⟨A3,c3,rfl,_⟩:=aD o3
   rw [<-b0.o] at o3 ⊢
   refine ⟨_,rfl,q3,fun _=>?_⟩
   refine HA.t ?_ [7] q3 ?_
   refine HA.d ?_
   try simp only [Exit.then]
   have b1:=Rd.own o3
   have l3:fX w3 i.heap.size (.slice Av p.mi cv) (zw st p.mi):=by
    unfold fX
    rw [FV]
    exact ay (ay (bT Ho.o 1) k2) k3
   have aR:∀y,A3=some y->w2.heap.size<=y.block/\y.block<w3.heap.size:=fun y hy=>jw o3 y hy
   have b7:∀k,(Value.slice Av p.mi cv).ownBlock=some k->k<w2.heap.size:=fun k hk=>by
    have:=(Ho.o.lt k hk).2
    have:=k2.size
    have e:wr.drew.heap.size=wr.heap.size:=rfl
    omega
   obtain ⟨bv,L3,b9,a9,Q3⟩:=ah b1 l3 aR b7 q3;clear b1 l3 aR b7 o2 o3 k2 k3 q q2
   go_wp2_with fail
   obtain ⟨v3,b4⟩:∃v,Value.slice Av p.mi cv=v:=⟨_,rfl⟩
   rw [b4] at L3 a9 ⊢
   clear b4
   go_loopw [7,10] (fun vv y wr=>∃k:Nat,k<=p.grps.length/\y=MO k/\fX wr i.heap.size vv (dz p x st k)/\iQ w3 v3 wr vv) (fun _ y _=>p.grps.length-(intOf y).toNat)
   case atStart=>exact ⟨0,LS _,rfl,by simpa [dz,zw] using L3.o,iQ.refl _ _⟩
   case round=>
    obtain ⟨k,hk,rfl,U,D⟩:=hrel
    obtain ⟨Aw,cw,rfl,_⟩:=aD U
    have R:=mq V x st hk
    have J:=LU Q3.o.size D.1.size
    by_cases L:k<p.grps.length
    ·have a6:(k:Int)<p.grps.length:=ap
     have bh:IntKind.i64.wrap ((k:Int)+1)=((k+1:Nat):Int):=by rw [LT _ ap];push_cast;rfl
     have ao:=D.1.rd bv.o (fun y hy e=>by
      have h1:=(b9.o y hy).1
      have h2:=a9.o _ e
      omega)
     have Y:=dY L
     obtain ⟨bb,bo,rfl,O⟩:=ao _ _ Y.1
     obtain ⟨av,bG,e',H⟩:=ao _ _ Y.2
     obtain ⟨rfl,rfl⟩:av=bb/\bG=bo:=by simpa using e'.symm
     rw [<-MG] at H
     have Q:=V.grp L
     have A:=nH (p:=p) x st L
     obtain ⟨lo,hi,bf⟩:∃lo hi,aL p.grps k=(lo,hi):=⟨_,_,rfl⟩
     rw [bf] at Q O H A
     dsimp only at Q O H
     obtain ⟨lk,aP⟩:∃lk,dz p x st k=lk:=⟨_,rfl⟩
     rw [aP] at U D A R ⊢
     obtain ⟨v2,b2⟩:∃v,Value.slice Aw lk.length cw=v:=⟨_,rfl⟩
     rw [b2] at U D ⊢
     have kP:wr.heap[w.heap.size]?=some (.cells #[a0,a1,a2,a3,MO (p.W:Nat),a5,MO (p.mi:Nat),a7,MO (p.bu:Nat),MO (p.ck:Nat),MO (p.wi:Nat),C,MO (p.n:Nat)] 64 (0,0)):=(D.1.block _ (by have:=Q3.o.size;omega) (fun e=>by have:=(L3.o.lt _ e).1;omega)).trans (sb G0.o w3 Q3.o)
     have nP:¬v2.ownBlock=some w.heap.size:=fun e=>by have:=(U.lt _ e).1;omega
     have nB:¬v2.ownBlock=some av:=fun e=>by
      have h1:=b9.o _ rfl
      dsimp only at h1
      rcases D.2 with h | h
      ·rw [h] at e
       have h2:=a9.o _ e
       omega
      ·have h2:=h _ e
       omega
     have uP:=fun u (q':Keep (fun j=>v2.ownBlock=some j) wr u)=>vA ((q'.block _ (LN kP) nP).trans kP)
     have d0:=fun u (q':Keep (fun j=>v2.ownBlock=some j) wr u)=>q'.cell O nB
     have d1:=fun u (q':Keep (fun j=>v2.ownBlock=some j) wr u)=>q'.cell H nB
     have Z:=yS p i.heap.size st x lo hi a0 a1 a2 a3 a5 (MO (p.mi:Nat)) a7 (MO (p.wi:Nat)) C v2 lk wr.drew V b6 (bT U 1) J hx Q.1 Q.2 ap
     rw [<-A] at Z
     obtain ⟨bl,ab⟩:=ae Z D
     have q1:Keep (fun j=>v2.ownBlock=some j) wr wr.drew:=(Keep.refl _ _).drew
     clear Z U D A aP b2 kP O H ao Y e' bf
     go_wp2_with fail
     refine HA.g (fun u:World=>Keep (fun j=>v2.ownBlock=some j) wr u) ?_
     refine HA.t ?_ [0,1,2,3,4,5,6,7] q1 ?_
     refine HA.c 8 bl.o ?_
     rintro e w8 ⟨v8,rfl,l8,aG⟩
     have A8:iQ wr v2 w8 v8:=(iQ.below (br wr).drew).trans aG
     have q8:Keep (fun j=>v2.ownBlock=some j) wr w8:=A8.1
     refine ⟨_,rfl,q8,fun _=>?_⟩
     refine HA.t ?_ [9] q8 ?_
     refine HA.d ?_
     try simp only [Exit.then]
     obtain ⟨L8,B8⟩:=ae l8 (ab.o.trans A8);clear l8 A8 aG q8 q1 uP d0 d1 nP nB
     go_wp2_with fail
     go_roundw
     case rel=>exact ⟨k+1,by omega,by go_num,L8.o,B8.o⟩
     case measure=>simp [intOf];omega
    ·have a6:¬((p.grps.length:Int)<p.grps.length):=ap
     have bi:k=p.grps.length:=ap
     subst bi
     obtain ⟨n,hn⟩:∃n,(dz p x st p.grps.length).length=n:=⟨_,rfl⟩
     have be:wr.ownsRow i.heap.size 191 12 (.slice Aw n cw) n (cu (dz p x st p.grps.length)):=by rw [<-hn];exact U
     rw [hn] at D R ⊢
     have e:cu (dz p x st p.grps.length)++[MO 6,MO (st:Nat),MO 0,.bool false,.bool false,MO 0,MO 0,MO 0,MO 0,MO 0,MO 0,MO 0]=cu (aI p x st):=by
      have:aI p x st=dz p x st p.grps.length++[(⟨6,st,0,none⟩:Itm)]:=by
       unfold dz aI
       rw [Mz]
      rw [this,fy];rfl
     have bd:n+1=(aI p x st).length:=by
      rw [<-hn]
      unfold dz aI
      rw [Mz];simp only [Mo,List.length_cons,List.length_nil]
     obtain ⟨ab,L2,He,bs⟩:=ag D be e bd;clear U be D hn e bd
     go_wp2_with (at_builtin;refine gj im _ rfl (.tmp 55) (.tmp 58) rfl i.heap.size (.slice Aw n cw) n _ rfl L2.o [MO 6,MO (st:Nat),MO 0,.bool false,.bool false,MO 0,MO 0,MO 0,MO 0,MO 0,MO 0,MO 0] rfl rfl (by simp [Value.oneCell']) ap (by unfold maxLen;omega) J ?_)
     intro g6 c6 w6 I b8
     have a8:w6.ownsRow i.heap.size 191 12 (.slice g6 (n+1) c6) (n+1) (cu (dz p x st p.grps.length)++[MO 6,MO (st:Nat),MO 0,.bool false,.bool false,MO 0,MO 0,MO 0,MO 0,MO 0,MO 0,MO 0]):=I
     rw [He.o] at a8
     have B6:=(ab.o.trans b8).1.toBelow (B:=i.heap.size) Q3.o.size (fun j hj=>(L3.o.lt j hj).1)
     have O6:an (w6.ownsRow w.heap.size 191 12 (.slice g6 (n+1) c6) (aI p x st).length (cu (aI p x st))):=aa (by rw [<-bs.o];exact aE a8 ad.o.size)
     have a4:=aa (ad.o.trans ((Q3.o.trans B6).mono ad.o.size));clear I a8 b8 B6
     go_wp2_with fail
     go_ret
     exact ⟨_,rfl,O6.out,a4.o⟩
def yr (p:Pln) (k:Nat):Nat:=((p.buks.take k).map fun b=>4*(p.W-1)*lQ b p.W p.ck).sum
theorem B7 {p:Pln} {k:Nat} (hk:k<p.buks.length):yr p (k+1)=yr p k+4*(p.W-1)*lQ (aL p.buks k) p.W p.ck:=by
 unfold yr
 rw [List.take_succ_eq_append_getElem hk,<-cN _ _ hk]
 simp
theorem FN {p:Pln} (i:db p) (k:Nat):lQ (aL p.buks k) p.W p.ck<=480:=by
 rw [xe]
 have h:∀n,bK n (fun s=>(chR (aL (dU (aL p.buks k) p.W) s) p.ck).length)<=n*60:=by
  intro n
  induction n with
  | zero=>simp [bK]
  | succ n ih=>
   rw [eN]
   have:=sH (c:=p.ck) (s:=n) i.W1 (i.buk k).1 (i.buk k).2
   omega
 have:=h p.W
 have:=i.W8
 omega
theorem AC {p:Pln} (h:db p):∀{k:Nat},k<=p.buks.length->yr p k<=k*13440
 | 0,_=>by simp [yr]
 | k+1,hk=>by
  rw [B7 ap]
  have h1:=AC h (k:=k) ap
  have i:=FN h k
  have o:4*(p.W-1)*lQ (aL p.buks k) p.W p.ck<=28*480:=Nat.mul_le_mul (by have:=h.W8;omega) i
  omega
def vI (p:Pln):Nat:=p.W*(p.mi+2*p.buks.length+1)+yr p p.buks.length
theorem IH {p:Pln} (h:db p) (st:Nat):bK p.W (fun w=>(aI p w st).length)=vI p:=by
 rw [DA p st h.wi,vI,yr,Mz]
noncomputable def pK (k:Cfg) (n:Int):Bool:=decide (cB k=0)&&(decide (1<=n)&&decide (n<=1048576))
theorem va (A:Option Addr) (c:Nat) (k:Cfg) (n:Int) (w:World) (h:ka w A c k):
  Calls prog 73 #[.agg #[.slice A k.sizes.length c,MO k.shift,MO k.rate,MO k.mom,MO k.workers,MO k.batch,MO k.micros,MO k.steps,MO k.bucket,MO k.chunk,MO k.window,MO k.cap,MO n]] w fun e N=>e=.returned (.bool (pK k n))/\aq w N:=by
 obtain ⟨H,y⟩:∃H,w.alloc (.cells #[.slice A k.sizes.length c,MO k.shift,MO k.rate,MO k.mom,MO k.workers,MO k.batch,MO k.micros,MO k.steps,MO k.bucket,MO k.chunk,MO k.window,MO k.cap,MO n] 64)=H:=⟨_,rfl⟩
 have O:H.heap[w.heap.size]?=some (.cells #[.slice A k.sizes.length c,MO k.shift,MO k.rate,MO k.mom,MO k.workers,MO k.batch,MO k.micros,MO k.steps,MO k.bucket,MO k.chunk,MO k.window,MO k.cap,MO n] 64 (0,0)):=by rw [<-y];exact LP w _
 have D:aq w H:=by rw [<-y];exact (br w).alloc (LO _) _
 have hc:=ot A c k H (h.below D)
 have t0:=fun N q=>vA (sb O N q)
 obtain ⟨x,i,I⟩:=af y D hc
 have J:=br H
 clear y O D hc h
 unfold pK
 obtain ⟨v,u⟩:∃v,cB k=v:=⟨_,rfl⟩
 rw [u] at I ⊢
 clear u
 by_cases h1:v=0
 ·by_cases Q:1<=n
  ·by_cases R:n<=1048576
   ·go_enter func73,ntmps73
    go_wp2_with fail
    rw [x.o]
    refine I.o.mono ?_
    rintro e L ⟨rfl,p⟩
    have C:=bt J p
    have B:=aa (i.o.trans (C.mono i.o.size));clear p
    go_wp2_with fail
    go_ret
    exact ⟨by simp [h1,Q,R],B.o⟩
   ·go_enter func73,ntmps73
    go_wp2_with fail
    rw [x.o]
    refine I.o.mono ?_
    rintro e L ⟨rfl,p⟩
    have C:=bt J p
    have B:=aa (i.o.trans (C.mono i.o.size));clear p
    go_wp2_with fail
    go_ret
    exact ⟨by rw [show decide (n<=1048576)=false from MJ ap];simp,B.o⟩
  ·go_enter func73,ntmps73
   go_wp2_with fail
   rw [x.o]
   refine I.o.mono ?_
   rintro e L ⟨rfl,p⟩
   have C:=bt J p
   have B:=aa (i.o.trans (C.mono i.o.size));clear p
   go_wp2_with fail
   go_ret
   exact ⟨by rw [show decide (1<=n)=false from MJ ap];simp,B.o⟩
 ·go_enter func73,ntmps73
  go_wp2_with fail
  rw [x.o]
  refine I.o.mono ?_
  rintro e L ⟨rfl,p⟩
  have C:=bt J p
  have B:=aa (i.o.trans (C.mono i.o.size));clear p
  go_wp2_with fail
  go_ret
  exact ⟨by simp [h1],B.o⟩
def Ax (k:Cfg) (n:Int) (r:Bool):Prop:=r=true->n<=60/\k.workers<=8/\k.micros<=20/\k.steps<=12
def LK (q:Prop) (w:World) (e:Ending) (h:World):Prop:=(∃b:Bool,e=.returned (.bool b)/\(b=true->q))/\aq w h
theorem yW (A:Option Addr) (c:Nat) (k:Cfg) (n:Int) (w:World) (h:ka w A c k):
  Calls prog 75 #[.agg #[.slice A k.sizes.length c,MO k.shift,MO k.rate,MO k.mom,MO k.workers,MO k.batch,MO k.micros,MO k.steps,MO k.bucket,MO k.chunk,MO k.window,MO k.cap,MO n]] w (LK (Ax k n (pK k n)) w):=by
 obtain ⟨D,x⟩:∃D,w.alloc (.cells #[.slice A k.sizes.length c,MO k.shift,MO k.rate,MO k.mom,MO k.workers,MO k.batch,MO k.micros,MO k.steps,MO k.bucket,MO k.chunk,MO k.window,MO k.cap,MO n] 64)=D:=⟨_,rfl⟩
 have R:D.heap[w.heap.size]?=some (.cells #[.slice A k.sizes.length c,MO k.shift,MO k.rate,MO k.mom,MO k.workers,MO k.batch,MO k.micros,MO k.steps,MO k.bucket,MO k.chunk,MO k.window,MO k.cap,MO n] 64 (0,0)):=by rw [<-x];exact LP w _
 have C:aq w D:=by rw [<-x];exact (br w).alloc (LO _) _
 have hc:=va A c k n D (h.below C)
 have t0:=fun V q=>vA (sb R V q)
 obtain ⟨p,i,B⟩:=af x C hc
 have H:=br D
 clear x R C hc h
 obtain ⟨r,hr⟩:∃r,pK k n=r:=⟨_,rfl⟩
 rw [hr] at B ⊢
 clear hr
 obtain ⟨L,T⟩:∃L,k.sizes.length=L:=⟨_,rfl⟩
 rw [T] at p B t0 ⊢
 clear T
 by_cases hl:(L:Int)<=40
 ·have N:¬(40<(L:Int)):=ap
  cases r with
  | false=>
   go_enter func75,ntmps75
   go_wp2_with fail
   rw [p.o]
   refine B.o.mono ?_
   rintro e J ⟨rfl,u⟩
   have y:=bt H u
   have v:=aa (i.o.trans (y.mono i.o.size));clear u
   go_wp2_with fail
   go_ret
   exact ⟨⟨_,rfl,fun _ h=>by cases h⟩,v.o⟩
  | true=>
   have I:∀b:Bool,(b=true->n<=60/\k.workers<=8/\k.micros<=20/\k.steps<=12)->b=true->Ax k n true:=fun b hb O _=>hb O
   have Fin:=aa I;clear I
   by_cases h1:n<=60
   ·by_cases Q:k.workers<=8
    ·by_cases U:k.micros<=20
     ·go_enter func75,ntmps75
      go_wp2_with fail
      rw [p.o]
      refine B.o.mono ?_
      rintro e J ⟨rfl,u⟩
      have y:=bt H u
      have v:=aa (i.o.trans (y.mono i.o.size));clear u
      go_wp2_with fail
      go_ret
      exact ⟨⟨_,rfl,Fin.o _ (fun hb=>⟨h1,Q,U,by simpa using hb⟩)⟩,v.o⟩
     ·go_enter func75,ntmps75
      go_wp2_with fail
      rw [p.o]
      refine B.o.mono ?_
      rintro e J ⟨rfl,u⟩
      have y:=bt H u
      have v:=aa (i.o.trans (y.mono i.o.size));clear u
      go_wp2_with fail
      go_ret
      exact ⟨⟨_,rfl,fun hb=>by simp [U] at hb⟩,v.o⟩
    ·go_enter func75,ntmps75
     go_wp2_with fail
     rw [p.o]
     refine B.o.mono ?_
     rintro e J ⟨rfl,u⟩
     have y:=bt H u
     have v:=aa (i.o.trans (y.mono i.o.size));clear u
     go_wp2_with fail
     go_ret
     exact ⟨⟨_,rfl,fun hb=>by simp [Q] at hb⟩,v.o⟩
   ·go_enter func75,ntmps75
    go_wp2_with fail
    rw [p.o]
    refine B.o.mono ?_
    rintro e J ⟨rfl,u⟩
    have y:=bt H u
    have v:=aa (i.o.trans (y.mono i.o.size));clear u
    go_wp2_with fail
    go_ret
    exact ⟨⟨_,rfl,fun hb=>by simp [h1] at hb⟩,v.o⟩
 ·have N:40<(L:Int):=ap
  go_enter func75,ntmps75
  go_wp2_with fail
  rw [p.o]
  try go_wp2_with fail
  go_ret
  exact ⟨⟨_,rfl,fun hb=>by simp at hb⟩,i.o⟩
theorem mQ {p:Pln} (h:db p) (x st:Nat):(aI p x st).length<=8000000:=by
 have h1:=mq h x st (LO p.grps.length)
 have i:=h.grps
 have:(aI p x st).length=(dz p x st p.grps.length).length+1:=by simp [aI,dz];omega
 omega
def IC (i:Inp):Prop:=km i/\(dV i=0->Ax i.cfg i.start.length (pK i.cfg i.start.length)/\i.cfg.steps<=6/\i.data.length<=40)
theorem IC.sm {i:Inp} (h:IC i) (o:dV i=0):cK i:=by
 have hg:=oV.1 o
 obtain ⟨hs,hr⟩:=h
 obtain ⟨h1,x,y⟩:=hr o
 have hc:=gM.2 hg.c
 have p:=Bu hg.c.z
 have he:=hg.s
 have hn:1<=i.start.length:=by rw [he];exact p
 have hm:=hs.2.1
 obtain ⟨A,u,v,_⟩:=h1 (by simp only [pK,hc,Bool.and_eq_true,ML];exact ⟨trivial,by omega,by omega⟩)
 exact ⟨hg,by omega,u,v,x,y⟩
theorem yV (A:Option Addr) (c:Nat) (D:Option Addr) (L:Nat) (T:Option Addr) (I:Nat) (R:Option Addr) (J:Nat) (i:Inp) (w:World) (h:jK w A c D T I R i):
  Calls prog 42 #[.agg (aO A c D L T I R J i)] w (sR (IC i) w):=by
 obtain ⟨v,u⟩:∃v,w.alloc (.cells (aO A c D L T I R J i) 29)=v:=⟨_,rfl⟩
 have g0:v.heap[w.heap.size]?=some (.cells (aO A c D L T I R J i) 29 (0,0)):=by rw [<-u];exact LP w _
 have p:aq w v:=by rw [<-u];exact (br w).alloc (LO _) _
 have hf:=zP A c D L T I R J i v (h.below p)
 have V:=fun (hs:km i) x (q:aq v x)=>jr A c D L T I R J i x (((h.rd hs).below p).below q)
 have O:=lX A i.cfg.sizes.length c i.cfg.shift i.cfg.rate i.cfg.mom i.cfg.workers i.cfg.batch i.cfg.micros i.cfg.steps i.cfg.bucket i.cfg.chunk i.cfg.window i.cfg.cap D i.data.length L T i.start.length I R i.draws.length J
 have U:=fun x (q:aq v x)=>yW A c i.cfg i.start.length x ((h.c.below p).below q)
 unfold sR IC
 dsimp only [aO] at *
 have t0:=fun x q=>ki (sb g0 x q)
 obtain ⟨a1,N,Hf,a4,a3,a0⟩:=ai u p hf V O U
 have q0:=br v
 clear u g0 p hf V O U h
 go_enter func42,ntmps42
 go_wp2_with fail
 rw [a1.o]
 refine Hf.o.mono ?_
 rintro e w1 ⟨⟨b,rfl,hb⟩,Z⟩
 have q1:=bt q0 Z
 obtain ⟨y,Hb⟩:=ae (N.o.trans (Z.mono N.o.size)) hb;clear hb Z q0
 cases b with
 | false=>
  go_wp2_with fail
  go_ret
  exact ⟨⟨false,rfl,fun h=>by cases h⟩,y.o⟩
 | true=>
  go_wp2_with fail
  refine (a4.o (Hb.o (by trivial)) w1 q1).mono ?_
  rintro e w2 ⟨rfl,k2⟩
  have q2:=bt q1 k2
  have B:=aa (y.o.trans (k2.mono y.o.size));clear k2 q1
  obtain ⟨C,hC⟩:∃C,dV i=C:=⟨_,rfl⟩
  rw [hC]
  have HC:=aa hC;clear hC
  by_cases h0:C=0
  ·subst h0
   go_wp2_with fail
   refine (a3.o w2).mono ?_
   rintro e w3 ⟨rfl,k3⟩
   have q3:=bt q2 k3
   have Q:=aa (B.o.trans (k3.mono B.o.size));clear k3 q2
   go_wp2_with fail
   refine (a0.o w3 q3).mono ?_
   rintro e w4 ⟨⟨b2,rfl,Y⟩,k4⟩
   have q4:=bt q3 k4
   obtain ⟨H,a2⟩:=ae (Q.o.trans (k4.mono Q.o.size)) Y;clear Y k4 q3
   cases b2 with
   | false=>
    go_wp2_with fail
    go_ret
    exact ⟨⟨false,rfl,fun h=>by cases h⟩,H.o⟩
   | true=>
    by_cases h6:i.cfg.steps<=6
    ·go_wp2_with fail
     go_ret
     exact ⟨⟨_,rfl,fun h=>⟨Hb.o (by trivial),fun _=>⟨a2.o (by trivial),h6,by simp at h;omega⟩⟩⟩,H.o⟩
    ·go_wp2_with fail
     go_ret
     exact ⟨.inl rfl,H.o⟩
  ·go_wp2_with fail
   go_ret
   exact ⟨⟨true,rfl,fun _=>⟨Hb.o (by trivial),fun h=>absurd (HC.o.symm.trans h) h0⟩⟩,B.o⟩
theorem Cu (p:Pln) (st h x:Nat) (A:Option Addr) (N c:Nat) (L J O I u:Int) (w:World) (hp:db p) (R:p.bu<=1048576) (Q:p.wi<=1048576) (hx:x<p.W) (a0:st<h):
  Calls prog 88 #[.agg #[.slice A N c,MO L,MO J,MO O,MO (p.W:Nat),MO I,MO (p.mi:Nat),MO (h:Nat),MO (p.bu:Nat),MO (p.ck:Nat),MO (p.wi:Nat),MO u,MO (p.n:Nat)],MO (x:Nat),MO (st:Nat)] w fun e H=>∃v,e=.returned v/\H.ownsRow w.heap.size 191 12 v (aI p x st).length (cu (aI p x st))/\aq w H:=by
 obtain ⟨B,i⟩:∃B,w.alloc (.cells #[.slice A N c,MO L,MO J,MO O,MO (p.W:Nat),MO I,MO (p.mi:Nat),MO (h:Nat),MO (p.bu:Nat),MO (p.ck:Nat),MO (p.wi:Nat),MO u,MO (p.n:Nat)] 64)=B:=⟨_,rfl⟩
 have Z:B.heap[w.heap.size]?=some (.cells #[.slice A N c,MO L,MO J,MO O,MO (p.W:Nat),MO I,MO (p.mi:Nat),MO (h:Nat),MO (p.bu:Nat),MO (p.ck:Nat),MO (p.wi:Nat),MO u,MO (p.n:Nat)] 64 (0,0)):=by rw [<-i];exact LP w _
 have D:aq w B:=by rw [<-i];exact (br w).alloc (LO _) _
 have hc:=yR p st x (.slice A N c) (MO L) (MO J) (MO O) (MO I) (MO (h:Nat)) (MO u) B hp R Q hx
 have h1:¬((st:Int)<0):=ap
 have h2:¬((h:Int)<=st):=ap
 have t0:=fun H q=>vA (sb Z H q)
 obtain ⟨T,y,Hc⟩:=af i D hc
 have q0:=br B
 clear i Z D hc
 go_enter func88,ntmps88
 go_wp2_with fail
 rw [T.o]
 refine Hc.o.mono ?_
 rintro e w1 ⟨v,rfl,ho,V⟩
 have C:=aE ho y.o.size
 have Y:=y.o.trans (V.mono y.o.size)
 obtain ⟨Fin,U⟩:=ae C Y;clear C Y ho V
 go_wp2_with fail
 go_ret
 exact ⟨v,rfl,Fin.o,U.o⟩
theorem ib:cW prog 29 15:=⟨⟨_,underlying29,rfl⟩,by kernel_rfl⟩
theorem dO:cW prog 106 22:=⟨⟨_,underlying106,rfl⟩,by kernel_rfl⟩
theorem fQ (w:World) (X Z:Array Value) (t u:TypeId):∃h W1,w.alloc (.cells X t)=h/\h.alloc (.cells Z u)=W1/\W1.heap[w.heap.size]?=some (.cells X t (0,0))/\W1.heap[w.heap.size+1]?=some (.cells Z u (0,0))/\aq w W1/\W1.heap.size=w.heap.size+1+1:=by
 refine ⟨_,_,rfl,rfl,?_,?_,?_,?_⟩
 ·exact sb (LP w _) _ ((br _).alloc (LO _) _)
 ·have:=LP (w.alloc (.cells X t)) (.cells Z u)
  rwa [show (w.alloc (.cells X t)).heap.size=w.heap.size+1 from Array.size_push _] at this
 ·exact ((br w).alloc (LO _) _).alloc (by simp) _
 ·simp
end Go.Proofs.YtgmajkppbhiopaaGreat
