/- No condition. -/
import Derived.Test.YtgmajkppbhiopaaGreatK02
import Derived.Laws.CopyOwn
set_option linter.unusedSimpArgs false
set_option linter.unusedVariables false
set_option maxRecDepth 100000
set_option maxHeartbeats 4000000
namespace Go.Proofs.YtgmajkppbhiopaaGreat
open Go.RowKit Tryz
variable {x:Ex} {Q:Exit->Ro->R8->Prop} {f:FuncId} {i:Inp} {rows:List (R7)} {ms:List Nat} {rest:List Oper} {a:MAd} {m:Mst} {A D R T V Z:N_} {B N U b c ct g j k lo n rb size sn:Nat} {H S:Nat->Prop} {X:Obj} {p:Pln} {P:Program} {E q:Prop} {l s zs:Q_} {vs xs:R7} {h o w y:R8} {e t:R9} {ops:Rn} {K:Ro->R8->Prop} {a1 u v v' z:Value}
def StL (base:Nat) (w:R8) (l:Rl) (v:Value):Prop:=∃rows:List (R7),w.ownsRow base 141 2 v l.length (List.flatten rows)/\rows.length=l.length/\(∀r∈rows,r.length=2)/\∀j x,l[j]?=some x->eA w base (bS rows j) x
theorem StL.form {base:Nat} {l:Rl} (h:StL base w l v):∃A c,v=.slice A l.length c/\l.length<=c:=by
 obtain ⟨rows,h1,_⟩:=h;exact aC h1
theorem StL.below {base:Nat} {i:R8} {l:Rl} (h:StL base w l v) (hb:aq w i):StL base i l v:=by
 obtain ⟨rows,h1,o,u,p⟩:=h;exact ⟨rows,az h1 hb,o,u,λj x y=>(p j x y).keep (S:=λ_=>False) (Keep.below hb) (λ_ h=>h.elim)⟩
theorem StL.rd {base:Nat} {l:Rl} (h:StL base w l (.slice A n c)):dx rEx 2 w A l:=by
 obtain ⟨rows,h1,i,p,o⟩:=h;obtain ⟨y,v,e,_⟩:=aC h1;injection e with e1 e2 e3
 subst e2;exact ⟨rows,Rd.own h1,i,p,λj x u=>(o j x u).rd⟩
theorem StL.nil (base:Nat) (w:R8):StL base w [] (Ra):=⟨[],Qb _ _ _ _,rfl,by simp,by simp⟩
theorem StL.push {base:Nat} {u:R8} {l:Rl} {o i:Value} (h1:w.ownsRow base 141 2 v l.length (List.flatten rows)) (A:rows.length=l.length) (I:∀r∈rows,r.length=2) (D:∀j x,l[j]?=some x->eA w base (bS rows j) x) (H:eA w base [o,i] x) (B:u.ownsRow base 141 2 v' (l.length+1) (List.flatten rows++[o,i])) (hg:w.grownBy u v.ownBlock):StL base u (l++[x]) v':=by
 refine ⟨rows++[[o,i]],?_,by simp [A],?_,?_⟩
 .rw [Qt,QE,List.flatten_cons,List.flatten_nil,List.append_nil];exact B
 .intro r hr;rcases QI.1 hr with hr | hr
  .exact I r hr
  .rw [List.mem_singleton.1 hr];rfl
 .intro j y p;rcases Qf j l.length with h | h
  .rw [Qw h] at p;have e:bS (rows++[[o,i]]) j=bS rows j:=by simp [bS,Qw (show j<rows.length by omega)]
   rw [e];exact (D j y p).pushed h1 hg V0
  .have C:j=l.length:=by have:=(Qu.1 p).1;simp at this;omega
   subst C;simp at p;subst p;have e:bS (rows++[[o,i]]) l.length=[o,i]:=by rw [<-A];simp [bS]
   rw [e];exact H.pushed h1 hg V0
theorem xz.rd {x:Nat} (h:aU H w b i x a m):dx rEx 2 w (some (ar a.rb 0)) m.rc:=by
 obtain ⟨rows,h1,o,u,p⟩:=h.re;exact ⟨rows,Rd.own h1,o,u,λj x v=>cX (p j x v) (dO _ w)⟩
theorem Na {l:Rl} (h:l[k]?=some x):l.take (k+1)=l.take k++[x]:=by
 obtain ⟨hk,e⟩:=Qu.1 h;rw [List.take_succ_eq_append_getElem hk,e]
theorem Gi {x:Nat} (h:aU H w b i x a m) (hn:∀y∈m.rc,y.1.length=i.start.length/\y.2.length=i.start.length) (hi:i.start.length<=60) (hl:m.rc.length<=100):Vj 220 #[(au b)] w λe w'=>∃v,Vi e v/\StL w.heap.size w' m.rc v/\aq w w':=by
 have tb:=Ng h.blk;have lb:=PU h.blk;have hr:=xz.rd h;obtain ⟨N,hN⟩:=Vb m.rc.length;obtain ⟨n,Q⟩:=Vb i.start.length;rw [hN] at tb hl;rw [Q] at hn hi;obtain ⟨Hr,HN,Hn⟩:=af hr hN hn;clear hr h hN hn Q;go_enter func220,ntmps220;go_wp2_with fail;clear tb
 go_loopw [3,13] (λv y wr=>∃k:Nat,k<=N/\y=QZ k/\StL w.heap.size wr (m.rc.take k) v/\aq w wr) (λ_ y _=>N-(intOf y).toNat)
 .exact ⟨0,PZ _,rfl,StL.nil _ _,PY _ _⟩
 case round=>
  obtain ⟨k,hk,rfl,hs,q⟩:=hrel;by_cases a4:k<N
  .have a6:(k:Int)<N:=ap;have aR:IntKind.i64.wrap ((k:Int)+1)=((k+1:Nat):Int):=by rw [P3 _ ap];push_cast;rfl
   obtain ⟨y,hx⟩:∃x,m.rc[k]?=some x:=⟨_,Qv (by rw [HN.o];exact a4)⟩;have u:=Hn.o y (List.mem_of_getElem? hx);have a0:=Na hx;obtain ⟨bb,o,A1,c1,A2,c2,e,T,p1,p2,r1,r2⟩:=fS Hr.o hx;injection e with e
   injection e with e1 e2
   subst e1;subst e2;rw [u.1] at p1;rw [u.2] at p2;have q1:=(q.cell (p:=(ar a.rb (0+k*2))) T).trans p1;have q2:=(q.cell (p:=(ar a.rb (0+k*2+1))) T).trans p2;rw [QP] at q1 q2;obtain ⟨W1,B⟩:=Vb (wr.alloc (.cells #[.slice A1 n c1,.slice A2 n c2] 141));have g1:Vg W1 wr.heap.size #[.slice A1 n c1,.slice A2 n c2] 141:=by rw [<-B];exact PW wr _
   have k1:aq wr W1:=by rw [<-B];exact (br wr).alloc (PV _) _
   have qW:aq w W1:=q.trans (k1.mono q.size);have a1:=kY A1 A2 n c1 c2 y.1 y.2 W1 (r1.hr.below qW) (r2.hr.below qW) u.1 u.2 ap;have C:=P7 r1.hw r2.hw;have V:=hs.below k1;have lr:=q.size;have tg:=bx2 g1;obtain ⟨aP,aM,QW,av,ao,O,D⟩:=aj a1 B qW V a0 u C;clear a1 B qW V a0 u C g1 k1 r1 r2 p1 p2 hx q;have b0:a.rb<wr.heap.size:=ap;have J:(m.rc.take k).length=k:=by rw [Qy,HN.o];omega
   have A:=aa J;obtain ⟨Av,cv,e,_⟩:=hs.form;rw [J] at e;subst e;clear hs J;go_wp2_with fail;rw [aM.o];refine aP.o.mono ?_;rintro e w3 ⟨B1,d1,B2,d2,rfl,aG,ad,o1,o2,Z,k3⟩;have a2:=av.o.below k3;obtain ⟨rows,u1,u2,u3,u4⟩:=a2;have I:=QW.o.trans (k3.mono QW.o.size);have hu:=IM (base:=w.heap.size) (x:=y) o1 o2 QW.o.size O.o.1 O.o.2 ap D.o.1 D.o.2;rw [A.o] at u1 u2;obtain ⟨L,a9,ab,a8,Hu,a7⟩:=ai u1 u2 u3 u4 hu I;have a3:=I.size;clear u1 u2 u3 u4 hu I Z o1 o2 k3 aG ad tg q1 q2;go_wp2_with (at_builtin;refine aV Lb _ rfl (.tmp 17) (.tmp 20) rfl w.heap.size (.slice Av k cv) k _ rfl L.o [.slice B1 n d1,.slice B2 n d2] rfl rfl V5 ap V2 a3 ?_);intro g6 c6 w6 R U Y;have hp:=StL.push (x:=y) (v':=Vf g6 0 (k+1) c6) (by rw [A.o];exact L.o) (by rw [A.o];exact a9.o) ab.o a8.o Hu.o (by rw [A.o];exact R) Y;rw [<-ao.o] at hp;obtain ⟨Hp,a5⟩:=ae hp (a7.o.trans U);clear hp R U Y;go_wp2;go_roundw
   .exact ⟨k+1,ap,Vc,Hp.o,a5.o⟩
   .simp [intOf];omega
  .have a6:¬((k:Int)<N):=ap;rw [List.take_of_length_le (by rw [HN.o];omega)] at hs;obtain ⟨Hs,Hq⟩:=ae hs q;clear hs q;go_wp2;go_ret;exact ⟨_,rfl,Hs.o,Hq.o⟩
def fm (i:Inp):Mst:=⟨i.start,List.replicate i.start.length 0,List.replicate i.start.length 0,[(i.start,List.replicate i.start.length 0)],0,0,[]⟩
theorem C5 {T:R9} {sz:Q_} (h:cT T (gt B w) b sz):cT T w.drew b sz:=(nU h (Agr.refl B w)).below ((br w).drew)
structure Pu (sz:Q_) (L wk bh mi sn bu ch wi ca n Q:Nat) (A:N_) (c:Nat) (sh ra mo:Int) (D:N_) (cd:Nat) (T:N_) (ct:Nat) (R:N_) (cr:Nat) (data:Rl) (ps draws:Q_) (w:R8):Prop where
 inp:∀N,N=data.length->∀w',aq w w'->Calls prog 43 #[.agg #[.slice A L c,QZ sh,QZ ra,QZ mo,QZ (wk:Nat),QZ (bh:Nat),QZ (mi:Nat),QZ (sn:Nat),QZ (bu:Nat),QZ (ch:Nat),QZ (wi:Nat),QZ (ca:Nat),.slice D N cd,.slice T n ct,.slice R Q cr]] w' λe w''=>e=.returned (QZ 0)/\aq w' w''
 snew:∀w',aq w w'->Calls prog 77 #[.slice A L c] w' λe w''=>∃F,e=.returned (.tuple #[(au F),QZ 0])/\cT 212 (gt w.heap.size w'') F sz/\aq w' w''
 samp:∀N,N=data.length->∀w',aq w w'->Calls prog 81 #[QZ (N:Nat),QZ (bh:Nat),QZ (sn:Nat),.slice R Q cr] w' λe w''=>∃S,e=.returned (.tuple #[(au S),QZ 0])/\gC (gt w.heap.size w'') S data.length bh sn draws/\aq w' w''
 cnt:∀F w',cT 212 w' F sz->Calls prog 79 #[(au F)] w' λe w''=>e=.returned (QZ (n:Nat))/\w'=w''
 chk:∀w',aq w w'->Calls prog 76 #[.agg #[.slice A L c,QZ sh,QZ ra,QZ mo,QZ (wk:Nat),QZ (bh:Nat),QZ (mi:Nat),QZ (sn:Nat),QZ (bu:Nat),QZ (ch:Nat),QZ (wi:Nat),QZ (ca:Nat)]] w' λe w''=>e=.returned (QZ 0)/\aq w' w''
 dat:dx rEx 2 w D data
 dl:data.length<=1048576
 st:Rd w T (aA .i64 ps)
 sl:ps.length=n
def Win (h:Nat) (i:R8) (ms:List Nat) (Q:R8->Prop):Prop:=∃lo u,h<=lo/\Q (gt lo u)/\aq u i/\∀k∈ms,k<lo\/u.heap.size<=k
theorem ms5 {a d e h:Nat} (h1:a<lo\/h<=a) (i:b<lo\/h<=b) (u:c<lo\/h<=c) (o:d<lo\/h<=d) (p:e<lo\/h<=e):∀k∈[a,b,c,d,e],k<lo\/h<=k:=by
 intro k hk;simp only [List.mem_cons,List.not_mem_nil,or_false] at hk;rcases hk with rfl | rfl | rfl | rfl | rfl<;>assumption
structure Pt (sz:Q_) (x L wk bh mi sn bu ch wi ca N n:Nat) (A:N_) (c:Nat) (sh ra mo:Int) (data:Rl) (ps draws:Q_) (its:List Itm) (w w':R8) (b:Nat) (a:MAd):Prop where
 blk:w'.heap[b]?=some (.cells #[QZ (x:Nat),QZ (wk:Nat),QZ (mi:Nat),(au a.F),.slice a.E N a.ce,(au a.S),(au a.PP),.slice a.BA (Pln.buks ⟨wk,mi,bu,ch,wi,n⟩).length a.bc,QZ ra,QZ mo,QZ sh,.slice (some (ar a.bp 0)) n a.cp,.slice (some (ar a.bm 0)) n a.cm,.slice (some (ar a.bg 0)) n a.cg,.slice (some (ar a.rb 0)) 1 a.rc,.slice a.IA its.length a.ic,QZ 0,QZ 0,Ra] 179 (0,0))
 fo:Win w.heap.size w' [b,a.bp,a.bm,a.bg,a.rb] λV=>cT 212 V a.F sz
 sa:Win w.heap.size w' [b,a.bp,a.bm,a.bg,a.rb] λV=>gC V a.S data.length bh sn draws
 pl:Win w.heap.size w' [b,a.bp,a.bm,a.bg,a.rb] λV=>fz V a.PP ⟨wk,mi,bu,ch,wi,n⟩ (.slice A L c) (QZ sh) (QZ ra) (QZ mo) (QZ (bh:Nat)) (QZ (sn:Nat)) (QZ (ca:Nat))
 ex:Win w.heap.size w' [b,a.bp,a.bm,a.bg,a.rb] λV=>dx rEx 2 V a.E data
 bu:Win w.heap.size w' [b,a.bp,a.bm,a.bg,a.rb] λV=>Rd V a.BA (aS (Pln.buks ⟨wk,mi,bu,ch,wi,n⟩))
 it:Win w.heap.size w' [b,a.bp,a.bm,a.bg,a.rb] λV=>Rd V a.IA (cE its)
 re:∃A1 c1 A2 c2,n<=c1/\n<=c2/\w'.heap[a.rb]?=some (.cells #[.slice A1 n c1,.slice A2 n c2] 141 (0,0))/\(Win w.heap.size w' [b,a.bp,a.bm,a.bg,a.rb] λV=>Rd V A1 (aA .i64 ps))/\(Win w.heap.size w' [b,a.bp,a.bm,a.bg,a.rb] λV=>Rd V A2 (aA .i64 (List.replicate n 0)))
 oP:w'.ownsRow 0 2 1 (.slice (some (ar a.bp 0)) n a.cp) n (aA .i64 ps)
 oM:w'.ownsRow 0 2 1 (.slice (some (ar a.bm 0)) n a.cm) n (aA .i64 (List.replicate n 0))
 oG:w'.ownsRow 0 2 1 (.slice (some (ar a.bg 0)) n a.cg) n (aA .i64 (List.replicate n 0))
 lo:w.heap.size<=b/\w.heap.size<=a.bp/\w.heap.size<=a.bm/\w.heap.size<=a.bg/\w.heap.size<=a.rb
 dj:a.bp≠a.bm/\a.bp≠a.bg/\a.bm≠a.bg
 ov:a.ov=Ra
 rc:a.rc=1
 k:aq w w'
theorem Gm (sz:Q_) (x L H bh mi sn bu ch wi ca N n Q:Nat) (A:N_) (c:Nat) (sh ra O:Int) (D:N_) (cd:Nat) (T:N_) (ct:Nat) (R:N_) (cr:Nat) (data:Rl) (ps draws:Q_) (w:R8) (a9:Ending->R8->Prop) (h:Pu sz L H bh mi sn bu ch wi ca n Q A c sh ra O D cd T ct R cr data ps draws w) (hN:N=data.length) (hx:x<H) (hp:bU ⟨H,mi,bu,ch,wi,n⟩) (hn:1<=n) (ci:bu<=1048576) (cb:wi<=1048576) (J:List Itm) (a8:∀P C,fz C P ⟨H,mi,bu,ch,wi,n⟩ (.slice A L c) (QZ sh) (QZ ra) (QZ O) (Vd bh) (Vd sn) (Vd ca)->Vj 87 #[(au P),Vd x,QZ 0] C λe bn=>∃v,Vi e v/\bn.ownsRow C.heap.size 152 12 v J.length (cE J)/\aq C bn) (a7:∀C b a,Pt sz x L H bh mi sn bu ch wi ca N n A c sh ra O data ps draws J w C b a->a9 (.returned (.tuple #[(au b),QZ 0])) C):Vj 44 #[.agg #[.slice A L c,QZ sh,QZ ra,QZ O,Vd H,Vd bh,Vd mi,Vd sn,Vd bu,Vd ch,Vd wi,Vd ca,.slice D N cd,.slice T n ct,.slice R Q cr],Vd x] w a9:=by
 obtain ⟨W0,a4⟩:=Vb (w.alloc (.cells #[.slice A L c,QZ sh,QZ ra,QZ O,Vd H,Vd bh,Vd mi,Vd sn,Vd bu,Vd ch,Vd wi,Vd ca,.slice D N cd,.slice T n ct,.slice R Q cr] 29));have g0:Vg W0 w.heap.size #[.slice A L c,QZ sh,QZ ra,QZ O,Vd H,Vd bh,Vd mi,Vd sn,Vd bu,Vd ch,Vd wi,Vd ca,.slice D N cd,.slice T n ct,.slice R Q cr] 29:=by rw [<-a4];exact PW w _
 have aG:aq w W0:=by rw [<-a4];exact (br w).alloc (PV _) _
 have bv:=h.inp N hN W0 aG;have cA:¬((H:Int)<=x):=ap;have b0:=hp.n;dsimp only at b0;have t0:=λC q=>jB (sb g0 C q);obtain ⟨cj,be,bO,Hh,HN,bl,b6,Hl⟩:=ak a4 aG bv h hN a7 a8 h.sl;have co:n<=1048576:=ap;have q0:=br W0;clear a4 g0 aG bv h hN a7 a8;go_enter func44,ntmps44;go_wp2_with fail;rw [cj.o];refine bO.o.mono ?_;rintro e w1 ⟨rfl,k1⟩;have q1:=bt q0 k1;obtain ⟨W2,a3⟩:=Vb (w1.alloc (.cells #[.slice A L c,QZ sh,QZ ra,QZ O,Vd H,Vd bh,Vd mi,Vd sn,Vd bu,Vd ch,Vd wi,Vd ca] 24));have g2:Vg W2 w1.heap.size #[.slice A L c,QZ sh,QZ ra,QZ O,Vd H,Vd bh,Vd mi,Vd sn,Vd bu,Vd ch,Vd wi,Vd ca] 24:=by rw [<-a3];exact PW w1 _
 have k2:aq w1 W2:=by rw [<-a3];exact (br w1).alloc (PV _) _
 have q2:=bt q1 k2;have t2:=λC q=>lL (sb g2 C q);have u2:=λC (q:aq W2 C)=>t0 C (bt q2 q);obtain ⟨bG,Q2⟩:=ae a3 (be.o.trans (q2.mono be.o.size));clear a3 g2 k1 k2;go_wp2_with fail;rw [bG.o];have cl:=br W2;clear q0 q1 q2 t0;refine (Hh.o.snew _ Q2.o).mono ?_;rintro e w3 ⟨F,rfl,hF,k3⟩;have q3:=bt cl k3;obtain ⟨Q3,HF⟩:=ae (Q2.o.trans (k3.mono Q2.o.size)) hF;clear hF k3;go_wp2_with fail;refine (Hh.o.samp N HN.o _ Q3.o).mono ?_;rintro e w4 ⟨S,rfl,hS,k4⟩;have q4:=bt q3 k4;obtain ⟨Q4,HS,K4⟩:=af (Q3.o.trans (k4.mono Q3.o.size)) hS k4;have b4:=HF.o.below (EB k4);have av:=aa b4;clear hS k4 b4;go_wp2;refine HA.g (λC:R8=>aq W2 C) ?_;refine HA.t ?_ [0,1] q4.drew ?_;refine HA.c 2 (Hh.o.cnt F _ (C5 av.o)) ?_;rintro e w5 ⟨rfl,rfl⟩;refine ⟨_,rfl,q4.drew,λ_=>?_⟩;have aP:=FF ⟨H,mi,bu,ch,wi,n⟩ (.slice A L c) (QZ sh) (QZ ra) (QZ O) (Vd bh) (Vd sn) (Vd ca) w4.drew hp hn ci cb (λC q=>Hh.o.chk C (Q4.o.drew.trans (q.mono Q4.o.size)));dsimp only at aP;refine HA.c 3 aP ?_;rintro e w6 ⟨PP,rfl,cy,b3,k6⟩;have q6:=bt q4.drew k6;refine ⟨_,rfl,q6,λ_=>?_⟩;refine HA.t ?_ [4,5,6,7,8] q6 ?_;refine HA.d ?_
 try simp only [Exit.then]
 have K6:=aa (show aq w4 w6 from (br w4).drew.trans k6);obtain ⟨Q6,ao⟩:=ae (Q4.o.trans (K6.o.mono Q4.o.size)) b3;clear aP b3 k6 q4 q3;have b8:=BG T n ct ps w6 (Hh.o.st.below Q6.o) Hh.o.sl ap;have bz:=aa b8;clear b8;go_wp2_with fail;refine bz.o.mono ?_;rintro e w7 ⟨Ap,cp,Am,cm,rfl,cs,c6,oP,oM,bs,k7⟩;obtain ⟨bp,cM,e1,bw,b1⟩:=oP.form ap;obtain ⟨bm,cv,e2,bf,bd⟩:=oM.form ap;injection e1 with e1 _ e1c
 injection e2 with e2 _ e2c
 subst e1;subst e2;subst e1c;subst e2c;obtain ⟨W8,a5⟩:=Vb (w7.alloc (.cells #[Vf bp 0 n cp,Vf bm 0 n cm] 141));have g8:Vg W8 w7.heap.size #[Vf bp 0 n cp,Vf bm 0 n cm] 141:=by rw [<-a5];exact PW w7 _
 have k8:aq w7 W8:=by rw [<-a5];exact (br w7).alloc (PV _) _
 have a6:=bt k7 k8;have q8:=bt q6 a6;have t8:=λC q=>bx2 (sb g8 C q);have v8:=λC (q:aq W8 C)=>u2 C (bt q8 q);have x8:=λC (q:aq W8 C)=>t2 C (bt q8 q);have aR:bp≠bm:=λe=>bs bp rfl (by rw [e];rfl);obtain ⟨bN,Q8,K8,OP,OM,bX⟩:=ai a5 (Q6.o.trans (a6.mono Q6.o.size)) a6 (az oP k8) (az oM k8) aR;have b7:=br W8;have p1:w6.heap.size<=bp:=bw;have p2:bp<W8.heap.size:=P6 b1 k8.size;have p3:w6.heap.size<=bm:=bf;have p4:bm<W8.heap.size:=P6 bd k8.size;clear a5 g8 k7 k8 a6 oP oM bs q6 q8 u2 t2 cs c6 aR;go_wp2_with fail;rw [bN.o];refine HA.g (λC:R8=>aq W8 C) ?_;refine HA.t ?_ [0,1,2,3,4,5,6,7,9,10,11,13,14,15,16,17,18,19,21,22,25,28,29] b7.drew ?_;have c7:dx rEx 2 W8.drew D data:=Hh.o.dat.below dB (Q8.o.drew);have b2:=AX D data cd W8.drew c7 Hh.o.dl;rw [<-HN.o] at b2;refine HA.c 8 b2 ?_;rintro e w9 ⟨E,ce,rfl,hE,k9⟩;have q9:=bt b7.drew k9;refine ⟨_,rfl,q9,λ_=>?_⟩;have bo:fz w9 PP ⟨H,mi,bu,ch,wi,n⟩ (.slice A L c) (QZ sh) (QZ ra) (QZ O) (Vd bh) (Vd sn) (Vd ca):=(ao.o.agr (Agr.refl _ w6)).below (bt K8.o q9);refine HA.c 12 (JL _ PP _ _ _ _ _ _ _ w9 hp bo) ?_;rintro e x0 ⟨v10,rfl,ab,a0⟩;have q0:=bt q9 a0;obtain ⟨BA,bc,rfl,_⟩:=aC ab;refine ⟨_,rfl,q0,λ_=>?_⟩;have b9:cT 212 x0 F sz:=(nU av.o (Agr.refl _ w4)).below (bt (bt (bt K6.o K8.o) q9) a0);refine HA.t ?_ [20] q0 ?_;refine HA.c 23 (Hh.o.cnt F x0 b9) ?_;rintro e cx ⟨rfl,rfl⟩;refine ⟨_,rfl,q0,λ_=>?_⟩;have cf:w.heap.size<=w4.heap.size:=Q4.o.size;have cw:w4.heap.size<=w6.heap.size:=K6.o.size;have cO:w6.heap.size<=W8.heap.size:=K8.o.size;have cL:W8.heap.size<=w9.heap.size:=k9.size;have c9:w9.heap.size<=x0.heap.size:=a0.size
 -- BRANCHES
 obtain ⟨x9,aM⟩:∃x9,x9=x0:=⟨_,rfl⟩;have y:aq x9 x0:=by rw [aM];exact br _
 rw [<-aM] at ab a0 c9;clear aM;have q:=q0;clear q0;obtain ⟨U,rfl⟩:∃U,U=x0:=⟨_,rfl⟩
 repeat' first
  | (refine HA.three 24 27 30 ?_ ?_ ?_)
  | (refine HA.two 24 26 ?_ ?_)
  | (refine HA.two 27 30 ?_ ?_)
  | (refine HA.two 24 30 ?_ ?_)
  | (refine HA.two 24 27 ?_ ?_)
  | (refine HA.sole 24 ?_)
  | (refine HA.sole 26 ?_)
  | (refine HA.sole 27 ?_)
  | (refine HA.sole 30 ?_)
  | (obtain ⟨V,bi,gG,p⟩:=nk mY U rfl n ap V2;refine HAS.v (i:=24) V (Vf U.heap.size 0 n n) (bt q p) ?_;clear bi;rw [fB] at gG;(try have:=u.size);(try have:=B.size);(try have:=PU I);(try have:G<U.heap.size:=(gF oG _ rfl).2);have:=y.size;(try replace oG:=az oG p);(try replace I:=sb I _ p);(try replace u:=bt u p);(try replace B:=bt B p);replace y:=bt y p;replace q:=bt q p;have oG:=gG;have tG:U.heap.size<V.heap.size:=(gF oG _ rfl).2;obtain ⟨G,hG⟩:=Vb U.heap.size;rw [hG] at oG |-;clear gG p;obtain ⟨U,rfl⟩:∃U,U=V:=⟨_,rfl⟩)
  | (refine HAS.c (i:=26) (kY (some (ar bp 0)) (some (ar bm 0)) n cp cm ps (List.replicate n 0) U (Rd.own (az OP.o q)) (Rd.own (az OM.o q)) Hl.o (QA ..) co) ?_;rintro e V ⟨A1,c1,A2,c2,rfl,bA,bM,o1,o2,_,p⟩;(try have:=u.size);(try have:=B.size);(try have:=PU I);(try have:G<U.heap.size:=(gF oG _ rfl).2);have:=y.size;(try replace oG:=az oG p);(try replace I:=sb I _ p);(try replace u:=bt u p);(try replace B:=bt B p);replace y:=bt y p;replace q:=bt q p;refine ⟨_,rfl,q,λ_=>?_⟩;obtain ⟨a2,c8⟩:∃s,U.heap.size=s:=⟨_,rfl⟩;rw [c8] at o1 o2;have bV:=p.size;obtain ⟨Y,hw⟩:∃Y,Y=V:=⟨_,rfl⟩;have u:aq Y V:=(by rw [hw];exact br _);rw [<-hw] at o1 o2 bV;clear hw p;obtain ⟨U,rfl⟩:∃U,U=V:=⟨_,rfl⟩)
  | (have p:=(br U).alloc (PV _) (.cells #[.slice A1 n c1,.slice A2 n c2] 141);have nR:=PW U (.cells #[.slice A1 n c1,.slice A2 n c2] 141);refine HAS.v (i:=27) (U.alloc (.cells #[.slice A1 n c1,.slice A2 n c2] 141)) (Vf U.heap.size 0 1 1) (bt q p) ?_;obtain ⟨V,hv⟩:=Vb (U.alloc (.cells #[.slice A1 n c1,.slice A2 n c2] 141));rw [hv] at nR p |-;clear hv;(try have:=u.size);(try have:=B.size);(try have:=PU I);(try have:G<U.heap.size:=(gF oG _ rfl).2);have:=y.size;(try replace oG:=az oG p);(try replace I:=sb I _ p);(try replace u:=bt u p);(try replace B:=bt B p);replace y:=bt y p;replace q:=bt q p;have I:=nR;have tR:=PU I;obtain ⟨Z,hR⟩:∃r,U.heap.size=r:=⟨_,rfl⟩;rw [hR] at I |-;clear nR p;obtain ⟨U,rfl⟩:∃U,U=V:=⟨_,rfl⟩)
  | (refine HAS.c (i:=30) (b6.o PP U ((ao.o.agr (Agr.refl _ w6)).below (bt K8.o q))) ?_;rintro e V ⟨v,rfl,oS,p⟩;obtain ⟨IA,ic,rfl,_⟩:=aC oS;(try have:=u.size);(try have:=B.size);(try have:=PU I);(try have:G<U.heap.size:=(gF oG _ rfl).2);have:=y.size;(try replace oG:=az oG p);(try replace I:=sb I _ p);(try replace u:=bt u p);(try replace B:=bt B p);replace y:=bt y p;replace q:=bt q p;refine ⟨_,rfl,q,λ_=>?_⟩;obtain ⟨ad,cn⟩:∃s,U.heap.size=s:=⟨_,rfl⟩;rw [cn] at oS;have bI:=p.size;obtain ⟨a1,hw⟩:∃a1,a1=V:=⟨_,rfl⟩;have B:aq a1 V:=(by rw [hw];exact br _);rw [<-hw] at oS bI;clear hw p;obtain ⟨U,rfl⟩:∃U,U=V:=⟨_,rfl⟩)
  | (refine HA.t ?_ [31] q ?_)
  | fail
 all_goals
  have gB:=PW U (Obj.cells #[Vd x,Vd H,Vd mi,(au F),.slice E N ce,(au S),(au PP),.slice BA (Pln.buks ⟨H,mi,bu,ch,wi,n⟩).length bc,QZ ra,QZ O,QZ sh,Vf bp 0 n cp,Vf bm 0 n cm,Vf G 0 n n,Vf Z 0 1 1,.slice IA J.length ic,QZ 0,QZ 0,Ra] 179);have p:=(br U).alloc (PV _) (Obj.cells #[Vd x,Vd H,Vd mi,(au F),.slice E N ce,(au S),(au PP),.slice BA (Pln.buks ⟨H,mi,bu,ch,wi,n⟩).length bc,QZ ra,QZ O,QZ sh,Vf bp 0 n cp,Vf bm 0 n cm,Vf G 0 n n,Vf Z 0 1 1,.slice IA J.length ic,QZ 0,QZ 0,Ra] 179);refine HA.v 32 (U.alloc (Obj.cells #[Vd x,Vd H,Vd mi,(au F),.slice E N ce,(au S),(au PP),.slice BA (Pln.buks ⟨H,mi,bu,ch,wi,n⟩).length bc,QZ ra,QZ O,QZ sh,Vf bp 0 n cp,Vf bm 0 n cm,Vf G 0 n n,Vf Z 0 1 1,.slice IA J.length ic,QZ 0,QZ 0,Ra] 179)) ((au U.heap.size)) (bt q p) ?_;obtain ⟨V,hv⟩:=Vb (U.alloc (Obj.cells #[Vd x,Vd H,Vd mi,(au F),.slice E N ce,(au S),(au PP),.slice BA (Pln.buks ⟨H,mi,bu,ch,wi,n⟩).length bc,QZ ra,QZ O,QZ sh,Vf bp 0 n cp,Vf bm 0 n cm,Vf G 0 n n,Vf Z 0 1 1,.slice IA J.length ic,QZ 0,QZ 0,Ra] 179));rw [hv] at gB p |-;clear hv;refine HA.t ?_ [33] (bt q p) ?_;refine HA.d ?_
  try simp only [Exit.then]
  (try have:=u.size);(try have:=B.size);(try have:=PU I);(try have:G<U.heap.size:=(gF oG _ rfl).2);have:=y.size
  obtain ⟨bb,hb⟩:∃b,U.heap.size=b:=⟨_,rfl⟩;rw [hb] at gB |-;have z8:=bt q p;have z6:=bt K8.o z8;have zz:=bt K6.o z6;have z0:=bt y p;have z9:=bt a0 z0;have b5:=bt u p;have cc:=bt B p;have mF:∀k∈[bb,bp,bm,G,Z],k<w.heap.size\/w4.heap.size<=k:=by apply ms5<;>omega
  have mP:∀k∈[bb,bp,bm,G,Z],k<w4.heap.size\/w6.heap.size<=k:=by apply ms5<;>omega
  have mE:∀k∈[bb,bp,bm,G,Z],k<W8.heap.size\/w9.heap.size<=k:=by apply ms5<;>omega
  have mB:∀k∈[bb,bp,bm,G,Z],k<w9.heap.size\/x9.heap.size<=k:=by apply ms5<;>omega
  have mI:∀k∈[bb,bp,bm,G,Z],k<ad\/a1.heap.size<=k:=by apply ms5<;>omega
  have mS:∀k∈[bb,bp,bm,G,Z],k<a2\/Y.heap.size<=k:=by apply ms5<;>omega
  have lS:w.heap.size<=a2/\w.heap.size<=ad/\w.heap.size<=W8.heap.size/\w.heap.size<=w9.heap.size:=ap;have l1:w.heap.size<=bb/\w.heap.size<=bp/\w.heap.size<=bm/\w.heap.size<=G/\w.heap.size<=Z:=ap;have l6:bp≠G/\bm≠G:=ap;have fin:=bl.o V bb ⟨F,E,ce,S,PP,BA,bc,bp,cp,bm,cm,G,n,Z,1,IA,ic,Ra⟩ ⟨gB,⟨_,w4,PV _,av.o,zz,mF⟩,⟨_,w4,PV _,HS.o,zz,mF⟩,⟨_,w6,cf,ao.o,z6,mP⟩,⟨W8.heap.size,w9,lS.2.2.1,hE,z9,mE⟩,⟨w9.heap.size,x9,lS.2.2.2,Rd.own (fK ab (PV _)),z0,mB⟩,⟨ad,a1,lS.2.1,Rd.own (fK oS (PV _)),cc,mI⟩,⟨A1,c1,A2,c2,bA,bM,sb I _ p,⟨a2,Y,lS.1,Rd.own (fK o1 (PV _)),b5,mS⟩,⟨a2,Y,lS.1,Rd.own (fK o2 (PV _)),b5,mS⟩⟩,aF (az OP.o z8) (PZ _),aF (az OM.o z8) (PZ _),aF (az oG p) (PZ _),l1,⟨bX.o,l6.1,l6.2⟩,rfl,rfl,bt Q4.o zz⟩;go_wp2_with fail;exact fin
theorem kQ {i:Nat} {p:R8} {Q:R8->Prop} (h:Win i p ms Q) (C:∀{u v},Q u->Ext u v->Q v) (hk:Keep (λk=>k<i) p o) (B:∀k,S k->k<i\/k∈ms):Q (aH S o):=by
 obtain ⟨lo,u,h1,y,x,A⟩:=h;refine C y (KU (λk hB hl=>(hk.block k (P6 hl x.size) ap).trans (x.block k hl)) λk hB hl hs=>?_);rcases B k hs with h | h
 .omega
 .rcases A k h with h | h<;>omega
theorem Gf {x L:Nat} {N B:R8} (hr:Pt i.cfg.sizes x L i.cfg.workers.toNat i.cfg.batch.toNat i.cfg.micros.toNat i.cfg.steps.toNat i.cfg.bucket.toNat i.cfg.chunk.toNat i.cfg.window.toNat i.cfg.cap.toNat i.data.length i.start.length A c i.cfg.shift i.cfg.rate i.cfg.mom i.data i.start i.draws (cC i x 0) w N b a) (hg:jL i.cfg) (hw:W64 i.start) (hl:i.start.length<=1048576) (hx:x<(ax i).W) (hk:Keep (λk=>k<w.heap.size) N B) (hH:∀k,H k->k<w.heap.size):aU H B b i x a (fm i):=by
 have O:∀k,Mut b a k->k∈[b,a.bp,a.bm,a.bg,a.rb]:=by
  rintro k (rfl | rfl | rfl | rfl | rfl | h)
  .simp
  .simp
  .simp
  .simp
  .simp
  .rw [hr.ov] at h;exact absurd h (by simp [Value.ownBlock])
 have C:∀k,gW H b a k->k<w.heap.size\/k∈[b,a.bp,a.bm,a.bg,a.rb]:=λk hk=>hk.elim (λh=>.inr (O k h)) λh=>.inl (hH k h);have a0:=hr.lo
 have I:∀k,k∈[b,a.bp,a.bm,a.bg,a.rb]->¬k<w.heap.size:=by
  intro k hk;simp only [List.mem_cons,List.not_mem_nil,or_false] at hk;rcases hk with rfl | rfl | rfl | rfl | rfl<;>omega
 have u:W64 (List.replicate i.start.length 0):=λk hk=>by
  rw [dN _ _ hk];simp
 have p:∀{v:Value} {e size n:Nat} {xs:R7},(∀k,v.ownBlock=some k->Mut b a k)->N.ownsRow 0 e size v n xs->B.ownsRow 0 e size v n xs:=λhv h=>hk.own h λk U Q=>I k (O k (hv k U)) Q;have D:∀{k:Nat} {o:Obj},Mut b a k->N.heap[k]?=some o->B.heap[k]?=some o:=λhm hb=>(hk.block _ (PU hb) (I _ (O _ hm))).trans hb;obtain ⟨A1,c1,A2,c2,V,Z,gR,r1,r2⟩:=hr.re;have R:=D (.inr (.inr (.inr (.inr (.inl rfl))))) gR;have T:=hr.rc;have ew:((i.cfg.workers.toNat:Nat):Int)=i.cfg.workers:=by have:=hg.w;omega
 have em:((i.cfg.micros.toNat:Nat):Int)=i.cfg.micros:=by have:=hg.mi;omega
 have J:=D (.inl rfl) hr.blk;rw [ew,em] at J
 refine ⟨?_,kQ hr.fo fH hk C,kQ hr.ex (fh cX) hk C,kQ hr.sa iD hk C,⟨_,_,_,_,_,_,kQ hr.pl iE hk C⟩,kQ hr.bu aW hk C,kQ hr.it aW hk C,?_,
  p (λk e=>by cases e;exact .inr (.inl rfl)) hr.oP,p (λk e=>by cases e;exact .inr (.inr (.inl rfl))) hr.oM,p (λk e=>by cases e;exact .inr (.inr (.inr (.inl rfl)))) hr.oG,?_,hr.dj,λk _ hm hh=>I k (O k hm) (hH k hh),
  ⟨rfl,hw⟩,⟨by simp [fm],u⟩,⟨by simp [fm],u⟩,?_,hx⟩
 .have e0:bq i x (fm i)=0:=by simp [bq,fm]
  rw [e0,hr.ov];exact J
 .refine ⟨[[.slice A1 i.start.length c1,.slice A2 i.start.length c2]],⟨rfl,.inr ⟨a.rb,1,_,by rw [T];first | done | rfl,PZ _,R,PV _,by unfold maxLen;omega,by simp,rfl⟩⟩,rfl,by simp,?_⟩;intro j y Y
  cases j with
  | succ j=>simp [fm] at Y
  | zero=>
   simp [fm] at Y;subst Y;exact ⟨A1,c1,A2,c2,by simp [bS],⟨V,by dsimp only;omega,kQ r1 aW hk C,hw⟩,⟨by rw [QA];exact Z,by rw [QA];omega,kQ r2 aW hk C,u⟩⟩
 .rw [hr.ov];exact Qb _ _ _ _
 .show (0<(cC i x 0).length)\/_
  unfold cC;by_cases h:0<i.cfg.steps.toNat
  .rw [if_pos h];exact .inl (jU _ _ _)
  .exact .inr ⟨rfl,by show i.cfg.steps.toNat<=0;omega⟩
def PM (i:Inp) (x:Nat) (w:R8) (e:Ending) (h:R8):Prop:=∃b a,e=.returned (.tuple #[(au b),QZ 0])/\aq w h/\(∀k,Mut b a k->w.heap.size<=k)/\
 ∀(H:Nat->Prop) w'',Keep (λk=>k<w.heap.size) h w''->(∀k,H k->k<w.heap.size)->aU H w'' b i x a (fm i)
theorem Gn (A:N_) (c:Nat) (D:N_) (y:Nat) (T:N_) (ct:Nat) (R:N_) (u:Nat) (i:Inp) (x:Nat) (w:R8) (h:gM w A c D T ct R i) (hs:bK i) (C:x<(ax i).W):Vj 44 #[.agg (aL A c D y T ct R u i),Vd x] w (PM i x w):=by
 have hg:=hs.g.c;have ew:((i.cfg.workers.toNat:Nat):Int)=i.cfg.workers:=by have:=hg.w;omega
 have eb:((i.cfg.batch.toNat:Nat):Int)=i.cfg.batch:=by have:=hg.ba;have:=hg.w;omega
 have em:((i.cfg.micros.toNat:Nat):Int)=i.cfg.micros:=by have:=hg.mi;omega
 have es:((i.cfg.steps.toNat:Nat):Int)=i.cfg.steps:=by have:=hg.st;omega
 have eu:((i.cfg.bucket.toNat:Nat):Int)=i.cfg.bucket:=by have:=hg.bu;omega
 have Y:((i.cfg.chunk.toNat:Nat):Int)=i.cfg.chunk:=by have:=hg.ch;omega
 have ei:((i.cfg.window.toNat:Nat):Int)=i.cfg.window:=by have:=hg.wi;omega
 have ea:((i.cfg.cap.toNat:Nat):Int)=i.cfg.cap:=by have:=hg.ca;omega
 have hv:aL A c D y T ct R u i=#[.slice A i.cfg.sizes.length c,QZ i.cfg.shift,QZ i.cfg.rate,QZ i.cfg.mom,Vd i.cfg.workers.toNat,Vd i.cfg.batch.toNat,Vd i.cfg.micros.toNat,Vd i.cfg.steps.toNat,Vd i.cfg.bucket.toNat,Vd i.cfg.chunk.toNat,Vd i.cfg.window.toNat,Vd i.cfg.cap.toNat,.slice D i.data.length y,.slice T i.start.length ct,.slice R i.draws.length u]:=by
  unfold Vd;rw [ew,eb,em,es,eu,Y,ei,ea]
 have L:dF A c i.cfg=#[.slice A i.cfg.sizes.length c,QZ i.cfg.shift,QZ i.cfg.rate,QZ i.cfg.mom,Vd i.cfg.workers.toNat,Vd i.cfg.batch.toNat,Vd i.cfg.micros.toNat,Vd i.cfg.steps.toNat,Vd i.cfg.bucket.toNat,Vd i.cfg.chunk.toNat,Vd i.cfg.window.toNat,Vd i.cfg.cap.toNat]:=by
  unfold Vd;rw [ew,eb,em,es,eu,Y,ei,ea]
 have B:=hs.g.s;unfold cnt at B
 have Q:Pu i.cfg.sizes i.cfg.sizes.length i.cfg.workers.toNat i.cfg.batch.toNat i.cfg.micros.toNat i.cfg.steps.toNat i.cfg.bucket.toNat i.cfg.chunk.toNat i.cfg.window.toNat i.cfg.cap.toNat i.start.length i.draws.length A c i.cfg.shift i.cfg.rate i.cfg.mom D y T ct R u i.data i.start i.draws w:=by
  constructor
  .intro N V o q;subst V;have:=xc A c D y T ct R u i o (h.below q);rw [oE.2 hs.g,hv] at this;exact this
  .intro o q;refine (tB A i.cfg.sizes c o (h.c.hr.below q) h.c.hc h.c.hm).mono ?_;rintro e v ⟨hb,J⟩;rcases J with ⟨_,S,he,U,_⟩ | ⟨I,_⟩
   .exact ⟨S,he,nU U (Er q.size),hb⟩
   .exact absurd hg.z I
  .intro N V o q;subst V;have Z:=hs.g.d;have gb:=hs.g.b;have g1:=hg.w;have g2:=hg.ba;have g3:=hg.st;unfold ny at Z;refine (xT R i.draws u i.data.length i.cfg.batch.toNat i.cfg.steps.toNat o (h.r.below q) h.rl h.ru ap ap gb.2 ap Z).mono ?_;rintro e v ⟨S,he,U,_,hb⟩;exact ⟨S,he,Iy U (Er q.size),hb⟩
  .intro F o hF;have:=le F i.cfg.sizes o hF;rw [<-B] at this;exact this
  .intro o q;have:=rE A c i.cfg o (h.c.below q);rw [iI.2 hg,L] at this;exact this
  .exact h.d
  .exact h.dl
  .exact h.t.hr
  .rfl
 rw [hv];refine Gm i.cfg.sizes x i.cfg.sizes.length _ _ _ _ _ _ _ _ i.data.length i.start.length i.draws.length A c _ _ _ D y T ct R u i.data i.start i.draws w _ Q rfl C hs.ok hs.n1 (by have:=hg.bu;omega) (by have:=hg.wi;omega) (cC i x 0) ?_ ?_
 .intro P o hP;unfold cC;by_cases O:0<i.cfg.steps.toNat
  .rw [if_pos O];exact wE (ax i) P x 0 i.cfg.steps.toNat _ _ _ _ _ _ o hs.ok hs.n1 C O hP
  .rw [if_neg O];refine (wD (ax i) P x 0 i.cfg.steps.toNat _ _ _ _ _ _ o C ap hP).mono ?_;rintro e v ⟨rfl,rfl⟩;exact ⟨_,rfl,Qb _ _ _ _,br _⟩
 .intro o b a hr;refine ⟨b,a,rfl,hr.k,?_,λH v hk hH=>Gf hr hg h.t.hw h.tl C hk hH⟩;have p:=hr.lo;rintro k (rfl | rfl | rfl | rfl | rfl | hh)
  .exact p.1
  .exact p.2.1
  .exact p.2.2.1
  .exact p.2.2.2.1
  .exact p.2.2.2.2
  .rw [hr.ov] at hh;exact absurd hh (by simp [Value.ownBlock])
theorem jl (A:N_) (L c:Nat) (sh ra p u x mi sn bu ch wi ca:Int) (D:N_) (N V:Nat) (T:N_) (n ct:Nat) (R:N_) (Q O:Nat) (w:R8):Vj 29 #[.agg #[.slice A L c,QZ sh,QZ ra,QZ p,QZ u,QZ x,QZ mi,QZ sn,QZ bu,QZ ch,QZ wi,QZ ca,.slice D N V,.slice T (n:Nat) ct,.slice R Q O]] w λe B=>Vi e (.agg #[.slice A L c,QZ sh,QZ ra,QZ p,QZ u,QZ x,QZ mi,QZ sn,QZ bu,QZ ch,QZ wi,QZ ca,Vd n])/\aq w B:=by
 obtain ⟨i,h⟩:=Vb (w.alloc (.cells #[.slice A L c,QZ sh,QZ ra,QZ p,QZ u,QZ x,QZ mi,QZ sn,QZ bu,QZ ch,QZ wi,QZ ca,.slice D N V,.slice T (n:Nat) ct,.slice R Q O] 29));have I:Vg i (Ve w) #[.slice A L c,QZ sh,QZ ra,QZ p,QZ u,QZ x,QZ mi,QZ sn,QZ bu,QZ ch,QZ wi,QZ ca,.slice D N V,.slice T (n:Nat) ct,.slice R Q O] 29:=by rw [<-h];exact PW w _
 have H:aq w i:=by rw [<-h];exact (br w).alloc (PV _) _
 have y:Ve i=Ve w+1:=by rw [<-h];exact Array.size_push _
 have g1:Vg (i.alloc (.cells #[.slice A L c,QZ sh,QZ ra,QZ p,QZ u,QZ x,QZ mi,QZ sn,QZ bu,QZ ch,QZ wi,QZ ca,Vd n] 64)) (Ve w+1) #[.slice A L c,QZ sh,QZ ra,QZ p,QZ u,QZ x,QZ mi,QZ sn,QZ bu,QZ ch,QZ wi,QZ ca,Vd n] 64:=by rw [<-y];exact PW i _
 have HB:=aa (H.alloc H.size (.cells #[.slice A L c,QZ sh,QZ ra,QZ p,QZ u,QZ x,QZ mi,QZ sn,QZ bu,QZ ch,QZ wi,QZ ca,Vd n] 64));have t0:=λB (q:aq i B)=>jB (sb I B q);obtain ⟨C,G1⟩:=ae h g1;have l0:=PU I;have p1:=br i;clear h I g1 H y;go_enter func29,ntmps29;go_wp2_with fail;rw [C.o];obtain ⟨⟨r0,r1,r2,Z,r4,r5,r6,r7,r8,r9,J,U,Y⟩,rf⟩:=vG G1.o;exact Qd (v:=.agg #[.slice A L c,QZ sh,QZ ra,QZ p,QZ u,QZ x,QZ mi,QZ sn,QZ bu,QZ ch,QZ wi,QZ ca,Vd n]) (by simp [results,results29,go_sem,r0,r1,r2,Z,r4,r5,r6,r7,r8,r9,J,U,Y]) rfl ⟨rfl,HB.o⟩
def btB (x lo h:Int):Bool:=decide (lo<=x/\x<=h)
theorem oK (x lo h:Int) (w:R8):Vj 55 #[QZ x,QZ lo,QZ h] w λe i=>Vi e (.bool (btB x lo h))/\w=i:=by
 by_cases h1:lo<=x
 .by_cases o:x<=h
  .go_enter func55,ntmps55;go_wp2;go_ret;exact ⟨dC (by unfold btB;simp [h1,o]),rfl⟩
  .go_enter func55,ntmps55;go_wp2;go_ret;exact ⟨dC (by unfold btB;simp;omega),rfl⟩
 .go_enter func55,ntmps55;go_wp2;go_ret;exact ⟨dC (by unfold btB;simp;omega),rfl⟩
theorem Jc (A:N_) (sz:Q_) (c:Nat) (w:R8) (hA:Rd w A (aA .i64 sz)) (hl:sz.length<=17592186043904):Vj 92 #[.slice A sz.length c] w λe o=>Vi e (QZ (ff sz))/\∃n,o=w.drewN n:=by
 by_cases h:2<=sz.length/\sz.length<=16
 .refine (zB A sz c w hA h).mono λe o ⟨h1,p⟩=>⟨?_,p⟩;rcases h1 with ⟨i,rfl⟩ | ⟨i,rfl⟩
  .refine bE ?_;unfold xo;by_cases hc:1048576<bT sz (sz.length-1)
   .rw [if_pos hc,nc (λhg=>by have:=hg.2;omega) i]
   .rw [if_neg hc,kR ⟨i,ap⟩]
  .exact bE (iv i).symm
 .exact (ye A sz c w hl h).mono λe o ⟨h1,p⟩=>⟨by rw [h1,iv (λhr=>h hr.1)],0,p.symm⟩
theorem IR (a b c d e f:Int) {g:Bool} (hl:[a,b,c,d,e,f]=l) (hk:k<5) (h:okB (nth l k)=false):(okB a&&okB b&&okB c&&okB d&&okB e&&g)=false:=by
 subst hl
 match k,hk with
 | 0,_=>simp only [show nth [a,b,c,d,e,f] 0=a from rfl] at h;simp [h]
 | 1,_=>simp only [show nth [a,b,c,d,e,f] 1=b from rfl] at h;simp [h]
 | 2,_=>simp only [show nth [a,b,c,d,e,f] 2=c from rfl] at h;simp [h]
 | 3,_=>simp only [show nth [a,b,c,d,e,f] 3=d from rfl] at h;simp [h]
 | 4,_=>simp only [show nth [a,b,c,d,e,f] 4=e from rfl] at h;simp [h]
theorem EN (a b c d e f:Int) (g:Bool) (hl:[a,b,c,d,e,f]=l) (h:∀j,j<5->okB (nth l j)=true) (hg:g=true):(okB a&&okB b&&okB c&&okB d&&okB e&&g)=true:=by
 subst hl;have p:okB a=true:=h 0 ap;have h1:okB b=true:=h 1 ap;have i:okB c=true:=h 2 ap;have u:okB d=true:=h 3 ap;have o:okB e=true:=h 4 ap;simp [p,h1,i,u,o,hg]
theorem qx (A:N_) (c:Nat) (k:Cfg) (w:R8) (h:lD w A c k):Vj 54 #[.agg (dF A c k)] w λe J=>Vi e (QZ (cK k))/\aq w J:=by
 have Y:=λJ (q:aq w J)=>Jc A k.sizes c J (h.hr.below q) h.hl;have f6:=@Lw k;have f9:=@Lu k;have fs:=@Lt k;have f2:=@Lx k;have f7:=@Lv k;have f0:=@Ly k;unfold wkB shB qF baB tA at *;obtain ⟨R,D⟩:=Vb (cK k);rw [D] at f6 f9 fs f2 f7 f0 |-;clear D h;obtain ⟨sz,sh,ra,mo,B,ba,mi,st,bu,ch,wi,ca⟩:=k;dsimp only [dF] at *;obtain ⟨L,hL⟩:=Vb sz.length;obtain ⟨sc,a2⟩:=Vb (ff sz);rw [hL,a2] at Y;rw [a2] at fs f2 f7 f0;rw [hL] at |-;obtain ⟨a6,F6,F9,Fs,F2,F7,F0⟩:=aj Y f6 f9 fs f2 f7 f0;clear Y f6 f9 fs f2 f7 f0 hL a2;go_enter func54,ntmps54;go_wp2_with fail;have hz:=PW w (.cells #[.slice A L c,QZ sh,QZ ra,QZ mo,QZ B,QZ ba,QZ mi,QZ st,QZ bu,QZ ch,QZ wi,QZ ca] 24);have hB:=(PY _ w).alloc (PV _) (.cells #[.slice A L c,QZ sh,QZ ra,QZ mo,QZ B,QZ ba,QZ mi,QZ st,QZ bu,QZ ch,QZ wi,QZ ca] 24);obtain ⟨W0,a3⟩:∃W0,W0=w.alloc (.cells #[.slice A L c,QZ sh,QZ ra,QZ mo,QZ B,QZ ba,QZ mi,QZ st,QZ bu,QZ ch,QZ wi,QZ ca] 24):=⟨_,rfl⟩;rw [<-a3] at hz hB |-;clear a3;obtain ⟨⟨z0,z1,z2,z3,z4,z5,z6,z7,z8,z9,I,Q⟩,zf⟩:=lL hz;obtain ⟨y,HZ⟩:=ae hB hz;clear hB hz;refine (oK B 1 64 _).mono ?_;rintro e J ⟨rfl,rfl⟩;obtain ⟨b1,u⟩:=Vb (btB B 1 64);have V:=aa (show decide (1<=B/\B<=64)=b1 from u);rw [u];clear u;rcases eD b1 with rfl | rfl
 .go_wp2;go_ret;exact ⟨bE (F6.o V.o).symm,y.o⟩
 go_wp2_with fail;refine (oK sh 1 62 _).mono ?_;rintro e J ⟨rfl,rfl⟩;obtain ⟨b2,a0⟩:=Vb (btB sh 1 62);have Z:=aa (show decide (1<=sh/\sh<=62)=b2 from a0);rw [a0];clear a0;rcases eD b2 with rfl | rfl
 .go_wp2;go_ret;exact ⟨bE (F9.o V.o Z.o).symm,y.o⟩
 go_wp2_with fail;refine (a6.o _ y.o).mono ?_;rintro e J ⟨rfl,d,rfl⟩;have u:=Qa y.o d;have N:Vg (W0.drewN d) w.heap.size #[.slice A L c,QZ sh,QZ ra,QZ mo,QZ B,QZ ba,QZ mi,QZ st,QZ bu,QZ ch,QZ wi,QZ ca] 24:=HZ.o;generalize W0.drewN d=W1 at u N |-;clear z0 z1 z2 z3 z4 z5 z6 z7 z8 z9 I Q zf y HZ;obtain ⟨⟨z0,z1,z2,z3,z4,z5,z6,z7,z8,z9,I,Q⟩,zf⟩:=lL N;obtain ⟨y,HZ⟩:=ae u N;clear u N;by_cases h3:sc≠0
 .have hq:(sc != 0)=true:=by rw [bne_iff_ne];exact h3
  have H3:=aa h3;clear h3;go_wp2;go_ret;exact ⟨bE (Fs.o V.o Z.o H3.o).symm,y.o⟩
 obtain rfl:sc=0:=ap;clear h3;have lz:w.heap.size<W1.heap.size:=PU HZ.o;by_cases h4:st<0
 .go_wp2;go_ret;exact ⟨bE (F2.o V.o Z.o trivial (by rw [QT (show ¬(0<=st/\st<=1048576) by omega),Bool.and_false])).symm,y.o.alloc y.o.size _⟩
 by_cases a8:1048576<st
 .go_wp2;go_ret;exact ⟨bE (F2.o V.o Z.o trivial (by rw [QT (show ¬(0<=st/\st<=1048576) by omega),Bool.and_false])).symm,y.o.alloc y.o.size _⟩
 have GS:=aa (show decide (0<=st/\st<=1048576)=true by rw [QV];omega);have a4:=dW W1 (aA .i64 [mi,bu,ch,wi,ca,st+1]) 3 _ rfl;have H:=(Qc W1 (.cells (aA .i64 [mi,bu,ch,wi,ca,st+1]).toArray 3) _ (PU HZ.o)).trans HZ.o;obtain ⟨O,a1⟩:=ae a4 H;clear a4 H;go_wp2_with fail;clear z0 z1 z2 z3 z4 z5 z6 z7 z8 z9 I Q zf;have C:=aa (y.o.alloc y.o.size (.cells (aA .i64 [mi,bu,ch,wi,ca,st+1]).toArray 3));obtain ⟨l,hl⟩:∃l:Q_,[mi,bu,ch,wi,ca,st+1]=l:=⟨_,rfl⟩;have HL:=aa hl;change Code.wp _ _ _ _ (W1.alloc (.cells (aA .i64 [mi,bu,ch,wi,ca,st+1]).toArray 3));rw [hl] at O a1 C |-;clear hl y HZ lz;obtain ⟨p,hp⟩:=Vb W1.heap.size;rw [hp] at O |-;generalize W1.alloc (.cells (aA .i64 l).toArray 3)=W2 at O a1 C |-;clear hp
 go_loopw [5] (λi wr=>∃k:Nat,k<=5/\i=QZ k/\an (∀j,j<k->okB (nth l j)=true)/\wr=W2) (λi _=>5-(intOf i).toNat)
 .exact ⟨0,PZ _,rfl,aa λj hj=>ap,rfl⟩
 case round=>
  obtain ⟨k,hk,rfl,U,rfl⟩:=hrel;by_cases a5:k<5
  .have T:k<l.length:=by rw [<-HL.o];simp only [List.length_cons,List.length_nil];omega
   obtain ⟨b',o,e1,hc⟩:=O.o.num T;have a7:(k:Int)<5:=ap;injection e1 with e1;injection e1 with e1 e2 _;subst e1;subst e2
   obtain ⟨x,hx⟩:=Vb (nth l k);rw [hx,QP] at hc;have Hx:=aa hx;clear hx T;go_wp2_with fail;refine (oK x 1 1048576 _).mono ?_;rintro e J ⟨rfl,rfl⟩;obtain ⟨b3,v⟩:=Vb (btB x 1 1048576);have G3:=aa (show okB x=b3 from v);rw [v];clear v;rcases eD b3 with rfl | rfl
   .go_wp2;go_ret;exact ⟨bE (F2.o V.o Z.o trivial (IR mi bu ch wi ca _ HL.o a5 (by rw [Hx.o];exact G3.o))).symm,C.o⟩
   go_wp2;go_roundw
   case rel=>exact ⟨k+1,ap,Vc,aa (p:=∀j,j<k+1->okB (nth l j)=true) λj hj=>by
    rcases Qf j k with h | h
    .exact U.out j h
    .obtain rfl:j=k:=ap
     rw [Hx.o];exact G3.o,trivial⟩
   case measure=>exact Va
  .obtain rfl:k=5:=ap;have hn:=EN mi bu ch wi ca _ (decide (0<=st/\st<=1048576)) HL.o U.out GS.o;have Hn:=aa hn;clear hn;have H:=a1.o;obtain ⟨⟨z0,z1,z2,z3,z4,z5,z6,z7,z8,z9,I,Q⟩,zf⟩:=lL H;clear H;go_wp2_with fail;refine (oK ba B 1048576 _).mono ?_;rintro e J ⟨rfl,rfl⟩;obtain ⟨b3,v⟩:=Vb (btB ba B 1048576);have G3:=aa (show decide (B<=ba/\ba<=1048576)=b3 from v);rw [v];clear v;rcases eD b3 with rfl | rfl
   .go_wp2;go_ret;exact ⟨bE (F7.o V.o Z.o trivial Hn.o G3.o).symm,C.o⟩
   go_wp2;go_ret;exact ⟨bE (F0.o V.o Z.o trivial Hn.o G3.o).symm,C.o⟩
theorem pI (n:Nat) (w:R8) (hn:1<=n) (i:n<=1048576):Vj 94 #[QZ n] w λe h=>Vi e (QZ ((n-1:Nat):Int))/\w=h:=by
 have h1:(0:Int)<=(n:Int)-1:=ap;go_enter func94,ntmps94;go_wp2
 all_goals
  go_ret;exact ⟨bE ap,rfl⟩
theorem Ej {i t:Nat} (o:1<=i) (h:t*i<sn):t<(sn+i-1)/i:=by
 rw [Nat.lt_iff_add_one_le,Nat.le_div_iff_mul_le o,QM];omega
theorem Ei {i t:Nat} (o:1<=i) (h:t<(sn+i-1)/i):t*i<sn:=by
 rw [Nat.lt_iff_add_one_le,Nat.le_div_iff_mul_le o,QM] at h;omega
theorem zp (A:N_) (c n:Nat) (k:Cfg) (w:R8) (h:lD w A c k) (hg:jL k) (hn:k.batch<=n/\(n:Int)<=1048576):Vj 93 #[.agg (dF A c k),QZ n] w λe H=>Vi e (QZ (epN n k.batch.toNat k.steps.toNat:Int))/\aq w H:=by
 have x:=λH (q:aq w H)=>qx A c k H (h.below q);rw [iI.2 hg] at x;have g1:=hg.w;have g2:=hg.ba;have g3:=hg.st;clear h hg;obtain ⟨sz,sh,ra,mo,wk,ba,mi,st,bu,ch,wi,ca⟩:=k;dsimp only [dF] at *;obtain ⟨bt,rfl⟩:∃bt:Nat,ba=bt:=⟨ba.toNat,ap⟩;obtain ⟨sn,rfl⟩:∃sn:Nat,st=sn:=⟨st.toNat,ap⟩;rw [Int.toNat_natCast,Int.toNat_natCast];obtain ⟨L,hL⟩:=Vb sz.length;rw [hL] at x |-;obtain ⟨p,u⟩:=Vb (n/bt);have v:1<=p:=by rw [<-u];exact Nat.div_pos ap ap
 have R:p<=n:=by rw [<-u];exact Nat.div_le_self _ _
 have hE:epN n bt sn=(sn+p-1)/p:=by unfold epN;rw [u,sX _ _ v]
 rw [hE];have Q:(sn+p-1)/p<=sn+p-1:=Nat.div_le_self _ _;have C:=λt=>Ej (sn:=sn) (t:=t) v;have y:=λt=>Ei (sn:=sn) (t:=t) v;obtain ⟨E,N⟩:=Vb ((sn+p-1)/p);rw [N] at Q C y |-;have a2:(n:Int).tdiv (bt:Int)=(p:Int):=by rw [<-u];rfl
 have a0:(n:Int)/(bt:Int)=(p:Int):=by rw [<-u];rfl
 have a4:¬(bt=0):=ap;obtain ⟨O,Y,V⟩:=af x C y;have J:btB (n:Int) (bt:Int) 1048576=true:=by unfold btB;rw [QS];omega
 have U:=aa J;clear x hL u hE N C y J;go_enter func93,ntmps93;go_wp2_with fail;have T:=PW w (.cells #[.slice A L c,QZ sh,QZ ra,QZ mo,QZ wk,QZ bt,QZ mi,QZ sn,QZ bu,QZ ch,QZ wi,QZ ca] 24);have hB:=(PY _ w).alloc (PV _) (.cells #[.slice A L c,QZ sh,QZ ra,QZ mo,QZ wk,QZ bt,QZ mi,QZ sn,QZ bu,QZ ch,QZ wi,QZ ca] 24);refine (O.o _ hB).mono ?_;rintro e w1 ⟨rfl,B⟩;have I:=(B.block _ (PU T)).trans T;have HB:=aa (hB.trans (B.mono hB.size));obtain ⟨⟨z0,z1,z2,z3,z4,z5,z6,z7,z8,z9,a3,a5⟩,zf⟩:=lL I;clear T hB B I;go_wp2_with fail;refine (oK n bt 1048576 _).mono ?_;rintro e H ⟨rfl,rfl⟩;rw [U.o];go_wp2
 go_loopw [5,6] (λt i wr=>∃k m:Nat,k<=E/\t=QZ k/\i=QZ m/\an (m=k*p)/\m<sn+p/\wr=w1) (λ_ i _=>sn-(intOf i).toNat)
 .exact ⟨0,0,PZ _,rfl,rfl,aa ap,ap,rfl⟩
 case round=>
  obtain ⟨k,m,hk,rfl,rfl,Z,hm,rfl⟩:=hrel;by_cases D:m<sn
  .have a1:(m:Int)<sn:=ap;go_wp2;go_roundw
   .exact ⟨k+1,m+p,Y.o k (by rw [<-Z.out];exact D),Vc,Vc,aa (by rw [Z.out,QM]),ap,trivial⟩
   .simp [intOf];omega
  .obtain rfl:k=E:=by
    rcases Qf k E with h | h
    .exact absurd (V.o k h) (by rw [<-Z.out];exact D)
    .omega
   go_wp2;go_ret;exact ⟨rfl,HB.o⟩
theorem Fl (A:N_) (c n:Nat) (k:Cfg) (w:R8) (h:lD w A c k) (hg:jL k) (hn:k.batch<=n/\(n:Int)<=1048576):Vj 58 #[.agg (dF A c k),QZ n] w λe v=>Vi e (QZ (ny n k.batch.toNat k.steps.toNat:Int))/\aq w v:=by
 have i:=λv (q:aq w v)=>zp A c n k v (h.below q) hg hn;have g1:=hg.w;have U:=hg.ba;have Y:=hg.st;have u:=λv=>pI n v ap ap;have p:=zX (n:=n) (b:=k.batch.toNat) (st:=k.steps.toNat) ap ap;unfold ny at p |-;clear h hg;obtain ⟨sz,sh,ra,H,I,ba,mi,st,bu,ch,wi,ca⟩:=k;dsimp only [dF] at *;obtain ⟨L,J⟩:=Vb sz.length;rw [J] at i |-;obtain ⟨E,N⟩:=Vb (epN n ba.toNat st.toNat);obtain ⟨m,hm⟩:=Vb (n-1);rw [N] at i p |-;rw [hm] at u p |-;obtain ⟨y,D⟩:=Vb (E*m);rw [D] at p |-;have O:(E:Int)*(m:Int)=(y:Int):=by rw [<-D];push_cast;rfl
 obtain ⟨B,C⟩:=ae i u;clear i u J N hm D;go_enter func58,ntmps58;go_wp2_with fail;have R:=PW w (.cells #[.slice A L c,QZ sh,QZ ra,QZ H,QZ I,QZ ba,QZ mi,QZ st,QZ bu,QZ ch,QZ wi,QZ ca] 24);have hB:=(PY _ w).alloc (PV _) (.cells #[.slice A L c,QZ sh,QZ ra,QZ H,QZ I,QZ ba,QZ mi,QZ st,QZ bu,QZ ch,QZ wi,QZ ca] 24);refine (B.o _ hB).mono ?_;rintro e T ⟨rfl,x⟩;have Q:=aa (hB.trans (x.mono hB.size));clear R hB x;go_wp2_with fail;refine (C.o _).mono ?_;rintro e V ⟨rfl,rfl⟩;go_wp2;go_ret;exact ⟨rfl,Q.o⟩
theorem zw (a b c:Nat) (A:N_) (l:Rl) (w:R8) (h:dx rEx 2 w A l) (hl:l.length<=1048576):Vj 56 #[.slice A l.length c,QZ a,QZ b] w (rQ l a b w):=by
 unfold rQ;obtain ⟨n,hn⟩:=Vb l.length;rw [hn] at hl |-;obtain ⟨H,V⟩:=ae h hn;clear h hn;go_enter func56,ntmps56;go_wp2
 go_loopw [8] (λi wr=>∃k:Nat,k<=n/\i=QZ k/\an (∀j x,j<k->l[j]?=some x->fC a b x)/\wr=w) (λi _=>n-(intOf i).toNat)
 .exact ⟨0,PZ _,rfl,aa λj x L=>ap,rfl⟩
 case round=>
  obtain ⟨k,hk,rfl,u,rfl⟩:=hrel;by_cases N:k<n
  .obtain ⟨x,I⟩:∃x,l[k]?=some x:=⟨_,Qv (by rw [V.o];exact N)⟩;obtain ⟨b',o,A1,c1,A2,c2,rfl,a0,p1,p2,r1,r2⟩:=fS H.o I;have O:=aa I;obtain ⟨C,v⟩:=Vb x.1.length;obtain ⟨D,B⟩:=Vb x.2.length;rw [v] at p1;rw [B] at p2;have J:fC a b x↔C=a/\D=b:=by unfold fC;rw [v,B]
   have R:=aa J;have Y:(k:Int)<n:=ap;clear r1 r2 I v B J;by_cases T:C≠a
   .have hq:((C:Int) != (a:Int))=true:=by rw [bne_iff_ne];omega
    go_wp2;go_ret2;exact ⟨PY _ _,k,.inr ⟨λh=>T (R.o.1 (h x (List.mem_of_getElem? O.o))).1,rfl⟩⟩
   have Z:((C:Int) != (a:Int))=false:=by rw [bne_eq_false_iff_eq];omega
   by_cases Q:D≠b
   .have hq:((D:Int) != (b:Int))=true:=by rw [bne_iff_ne];omega
    have E2:=aa Q;clear T Q;go_wp2;go_ret2;exact ⟨PY _ _,k,.inr ⟨λh=>E2.o (R.o.1 (h x (List.mem_of_getElem? O.o))).2,rfl⟩⟩
   have a1:((D:Int) != (b:Int))=false:=by rw [bne_eq_false_iff_eq];omega
   have He:=aa (R.o.2 ⟨ap,ap⟩);clear T Q;go_wp2;go_roundw
   case rel=>exact ⟨k+1,ap,Vc,aa (p:=∀j x,j<k+1->l[j]?=some x->fC a b x) λj y L U=>by
    rcases Qf j k with h | h
    .exact u.out j y h U
    .obtain rfl:j=k:=ap
     have:=O.o;rw [U] at this;injection this with this;rw [this];exact He.o,trivial⟩
   case measure=>exact Va
  .obtain rfl:n=k:=ap;go_wp2;go_ret2
   exact ⟨PY _ _,0,.inl ⟨λx I=>by
    obtain ⟨j,L,e⟩:=List.mem_iff_getElem.1 I
    exact u.out j x (by rw [<-V.o];exact L) (by rw [Qv L,e]),rfl⟩⟩
def Nu (q:Prop) (w:R8) (e:Ending) (h:R8):Prop:=(∃b:Bool,e=.returned (.bool b)/\(b=true->q))/\∃n,h=w.drewN n
theorem KT (h:q) (b:Bool) (w:R8) (d:Nat):Nu q w (.returned (.bool b)) (w.drewN d):=⟨⟨b,rfl,λ_=>h⟩,d,rfl⟩
theorem Ee (q:Prop) (w:R8) (d:Nat):Nu q w (.returned (.bool false)) (w.drewN d):=⟨⟨false,rfl,λh=>by cases h⟩,d,rfl⟩
theorem Jo (c:Nat) (A:N_) (l:Rl) (w:R8) (h:dx rEx 2 w A l) (hl:l.length<=17592186043904):Vj 153 #[.slice A l.length c] w (Nu (l.length<=60) w):=by
 obtain ⟨n,hn⟩:=Vb l.length;rw [hn] at hl |-;obtain ⟨H,Hn⟩:=ae h hn;clear h hn;go_enter func153,ntmps153;go_wp2
 go_loopw [3,4] (λv i wr=>∃k:Nat,∃x:Int,k<=n/\i=QZ k/\v=QZ x/\∃d,wr=w.drewN d) (λ_ i _=>n-(intOf i).toNat)
 .exact ⟨0,0,PZ _,rfl,rfl,0,rfl⟩
 case round=>
  obtain ⟨k,x,hk,rfl,rfl,d,rfl⟩:=hrel;by_cases I:k<n
  .have V:(k:Int)<n:=ap;by_cases R:k<100
   .have p:(k:Int)<100:=ap;obtain ⟨y,U⟩:∃y,l[k]?=some y:=⟨_,Qv (by rw [Hn.o];exact I)⟩;obtain ⟨Q,o,A1,c1,A2,c2,rfl,Y,T,O,Z,r2⟩:=fS H.o U;obtain ⟨J,C⟩:=Vb y.1.length;obtain ⟨L,D⟩:=Vb y.2.length;rw [C] at T;rw [D] at O;clear Z r2 U C D;have q1:Vh (w.drewN d) Q (o+k*2) (.slice A1 J c1):=T;have q2:Vh (w.drewN d) Q (o+k*2+1) (.slice A2 L c2):=O;generalize hW:w.drewN d=W at q1 q2 |-;have HW:=aa hW;clear hW;go_wp2
    go_region
    all_goals
     go_wp2;go_roundw
     .exact ⟨k+1,_,ap,Vc,rfl,d+1,by rw [<-HW.o];rfl⟩
     .simp [intOf];omega
   .have p:¬((k:Int)<100):=ap;have u:¬((n:Int)<=60):=ap;have N:¬(n<=60):=ap;go_wp2_with fail
    all_goals
     go_ret;exact Ee _ _ _
  .obtain rfl:n=k:=ap;by_cases B:n<=60
   .have u:(n:Int)<=60:=ap;have G:=aa B;go_wp2_with fail
    all_goals
     go_ret;exact KT G.o _ _ _
   .have u:¬((n:Int)<=60):=ap;go_wp2_with fail
    all_goals
     go_ret;exact Ee _ _ _
theorem iP (A:N_) (c:Nat) (D:N_) (cd:Nat) (T:N_) (ct:Nat) (R:N_) (cr:Nat) (i:Inp) (w:R8) (h:gM w A c D T ct R i):Vj 18 #[.agg (aL A c D cd T ct R cr i)] w λe v=>Vi e (QZ (ez i))/\aq w v:=by
 have aG:=λv (q:aq w v)=>qx A c i.cfg v (h.c.below q);have aP:=λ(hR:de i.cfg.sizes) v (q:aq w v)=>kg A i.cfg.sizes i.cfg.sizes.length c v (h.c.hr.below q) hR (by have:=hR.1;omega) (PV _);have av:=λa b v (q:aq w v)=>zw a b cd D i.data v (h.d.below dB q) h.dl;have H:=λ(hg:jL i.cfg) (hb:i.cfg.batch<=i.data.length/\(i.data.length:Int)<=1048576) v (q:aq w v)=>Fl A c i.data.length i.cfg v (h.c.below q) hg hb;have fc:=@Ob i;have f7:=@Od i;have Z:=@Oe i;have B:=@Oc i;have C:=@Of i;have b5:=@iI i.cfg;have be:=h.c.hr;have c6:=h.dl;have cb:=h.tl;have hrl:=h.rl;unfold rQ at av;unfold nK at f7 Z B C;unfold mz Og inN yh cnt at Z B C;unfold rD at B C;obtain ⟨b2,a9⟩:=Vb (ez i);rw [a9] at fc f7 Z B C |-;clear a9 h;obtain ⟨⟨sz,sh,ra,O,U,ba,mi,st,bu,ch,wi,ca⟩,data,start,draws⟩:=i;dsimp only [aL,dF] at *;obtain ⟨L,hL⟩:=Vb sz.length;obtain ⟨N,hN⟩:=Vb data.length;obtain ⟨M,hM⟩:=Vb start.length;obtain ⟨Q,hQ⟩:=Vb draws.length;obtain ⟨cc,bw⟩:=Vb (cK ⟨sz,sh,ra,O,U,ba,mi,st,bu,ch,wi,ca⟩);rw [hL] at aG aP H Z B C |-;rw [hN] at av H f7 Z B C c6 |-;rw [hM] at Z B C cb |-;rw [hQ] at B C hrl |-;rw [bw] at aG fc f7 Z B C b5;obtain ⟨CN,b7⟩:=Vb (bT sz (L-1));rw [b7] at aP Z B C;obtain ⟨ND,bf⟩:=Vb (ny N ba.toNat st.toNat);rw [bf] at H B C;obtain ⟨c9,c8,cl,cf,Fc,F7,F5,F8⟩:=ak aG aP av H fc f7 Z B;obtain ⟨F0,bX,bi,HL,cs⟩:=ah C b5 be hL b7;clear aG aP av H fc f7 Z B C b5 be hL hN hM hQ bw b7 bf;go_enter func18,ntmps18;go_wp2_with fail;have hz:=(Qc (w.alloc (.cells #[.slice A L c,QZ sh,QZ ra,QZ O,QZ U,QZ ba,QZ mi,QZ st,QZ bu,QZ ch,QZ wi,QZ ca,.slice D N cd,.slice T M ct,.slice R Q cr] 29)) (.cells #[.slice A L c,QZ sh,QZ ra,QZ O,QZ U,QZ ba,QZ mi,QZ st,QZ bu,QZ ch,QZ wi,QZ ca] 24) w.heap.size V3).trans (PW w _);have hy:=PW (w.alloc (.cells #[.slice A L c,QZ sh,QZ ra,QZ O,QZ U,QZ ba,QZ mi,QZ st,QZ bu,QZ ch,QZ wi,QZ ca,.slice D N cd,.slice T M ct,.slice R Q cr] 29)) (.cells #[.slice A L c,QZ sh,QZ ra,QZ O,QZ U,QZ ba,QZ mi,QZ st,QZ bu,QZ ch,QZ wi,QZ ca] 24);rw [show (w.alloc (.cells #[.slice A L c,QZ sh,QZ ra,QZ O,QZ U,QZ ba,QZ mi,QZ st,QZ bu,QZ ch,QZ wi,QZ ca,.slice D N cd,.slice T M ct,.slice R Q cr] 29)).heap.size=w.heap.size+1 by simp] at hy;have hB:aq w ((w.alloc (.cells #[.slice A L c,QZ sh,QZ ra,QZ O,QZ U,QZ ba,QZ mi,QZ st,QZ bu,QZ ch,QZ wi,QZ ca,.slice D N cd,.slice T M ct,.slice R Q cr] 29)).alloc (.cells #[.slice A L c,QZ sh,QZ ra,QZ O,QZ U,QZ ba,QZ mi,QZ st,QZ bu,QZ ch,QZ wi,QZ ca] 24)):=((PY _ w).alloc (PV _) _).alloc V3 _;obtain ⟨W0,bl⟩:∃W0,W0=(w.alloc (.cells #[.slice A L c,QZ sh,QZ ra,QZ O,QZ U,QZ ba,QZ mi,QZ st,QZ bu,QZ ch,QZ wi,QZ ca,.slice D N cd,.slice T M ct,.slice R Q cr] 29)).alloc (.cells #[.slice A L c,QZ sh,QZ ra,QZ O,QZ U,QZ ba,QZ mi,QZ st,QZ bu,QZ ch,QZ wi,QZ ca] 24):=⟨_,rfl⟩;rw [<-bl] at hz hy hB |-;clear bl;refine (c9.o _ hB).mono ?_;rintro e w1 ⟨rfl,I⟩;have aR:=(I.block _ (PU hz)).trans hz;have ao:=(I.block _ (PU hy)).trans hy;have HB:=aa (hB.trans (I.mono hB.size));obtain ⟨⟨z0,z1,z2,z3,z4,z5,z6,z7,z8,z9,a6,ad,J,a7,a3⟩,zf⟩:=jB aR;obtain ⟨⟨y0,y1,y2,y3,y4,y5,y6,y7,y8,y9,a0,a2⟩,yf⟩:=lL ao;have lz:=PU aR;have ly:=PU ao;obtain ⟨HZ,HY⟩:=ae aR ao;clear hz hy hB I aR ao;by_cases h3:cc≠0
 .have hq:(cc != 0)=true:=by rw [bne_iff_ne];exact h3
  have H3:=aa h3;clear h3;go_wp2;go_ret;exact ⟨bE (Fc.o H3.o).symm,HB.o⟩
 obtain rfl:cc=0:=ap;clear h3;have hg:=bX.o.1 rfl;have g1:=hg.w;have g2:=hg.ba;have g3:=hg.st;have gz:=hg.z;have HG:=aa hg;dsimp only at g1 g2 g3 gz;clear hg;have bo:=gz.1.1;rw [HL.o] at bo;have s0:=gz.1.at (k:=0) (by have:=HL.o;omega);have s1:=gz.1.at (k:=L-1) (by have:=HL.o;omega);obtain ⟨bz,oz,rfl,p0⟩:=bi.o.num (show 0<sz.length by have:=HL.o;omega);obtain ⟨_,_,e',p1⟩:=bi.o.num (show L-1<sz.length by have:=HL.o;omega);injection e' with e';injection e' with e1 e2 _;subst e1;subst e2
 rw [s0.2.2,Nat.add_zero] at p0;rw [s1.2.2] at p1;obtain ⟨n0,b8⟩:=Vb (szN sz 0);obtain ⟨n1,b6⟩:=Vb (szN sz (L-1));have Z:=F5.o;have B:=F8.o;have C:=F0.o;rw [b8,b6] at Z B C;rw [b8] at p0 s0;rw [b6] at p1 s1;obtain ⟨F5,F8,F0,ci⟩:=ag Z B C gz;have bM:bz<w.heap.size:=aB p0;obtain ⟨P0,P1⟩:=ae p0 p1;clear Z B C gz b8 b6 p0 p1 s0 s1;obtain ⟨bt,rfl⟩:∃bt:Nat,ba=bt:=⟨ba.toNat,ap⟩;go_wp2_with fail;refine (oK N bt 1048576 _).mono ?_;rintro e v ⟨rfl,rfl⟩;obtain ⟨b1,I⟩:=Vb (btB (N:Int) bt 1048576);have G0:=aa (show decide ((bt:Int)<=N/\(N:Int)<=1048576)=b1 from I);rw [I];clear I;rcases eD b1 with rfl | rfl
 .have cj:=of_decide_eq_false G0.o;go_wp2;go_ret;exact ⟨bE (F7.o trivial (by rw [QU];omega)).symm,HB.o⟩
 have cj:=of_decide_eq_true G0.o;have G1:=aa (show decide ((bt:Int)<=N/\N<=1048576)=true by rw [QV];omega);have p0:=(HB.o.cell (p:=(ar bz oz)) bM).trans P0.o;have p1:=(HB.o.cell (p:=⟨bz,oz+(L-1),none⟩) bM).trans P1.o;have bN:IntKind.i64.wrap ((L:Int)-1)=((L-1:Nat):Int):=by rw [P3 _ ap];omega
 have cw:((L-1:Nat):Int)<L:=ap;have cv:L-1<L:=ap;have co:0<L:=ap;have cn:(0:Int)<L:=ap;go_wp2_with fail;have u:(λv:R8=>Vh v w.heap.size 12 (.slice D N cd)/\Vh v (w.heap.size+1) 0 (Vf bz oz L c)/\Vh v bz oz (QZ n0)/\v.cell? ⟨bz,oz+(L-1),none⟩=some (QZ n1)) w1.drew:=⟨J,y0,p0,p1⟩;refine HA.g (λv:R8=>Vh v w.heap.size 12 (.slice D N cd)/\Vh v (w.heap.size+1) 0 (Vf bz oz L c)/\Vh v bz oz (QZ n0)/\v.cell? ⟨bz,oz+(L-1),none⟩=some (QZ n1)) ?_;refine HA.t ?_ [0,1,2,3,4,5,6,7,8,9,10,11,12,13] u ?_;refine HA.o 14 (λK hK=>?_);go_simp;refine (cl.o n0 n1 _ HB.o.drew).mono ?_;rintro e w3 ⟨a4,d,hd⟩;have bd:=P7 (aw a4 u.1) (P7 (aw a4 u.2.1) (P7 (aw a4 u.2.2.1) (aw a4 u.2.2.2)));have Y:aq w1 w3:=(PY w1.heap.size w1).drew.trans a4;have a1:=(Y.block _ lz).trans HZ.o;have a5:=(Y.block _ ly).trans HY.o;obtain ⟨ab,bA,bh⟩:=af (HB.o.trans (Y.mono HB.o.size)) a1 a5
 obtain ⟨aM,rfl,b4⟩:∃aM,Vi e (.tuple #[QZ d,.bool aM])/\decide (∀x∈data,fC n0 n1 x)=aM:=by
  rcases hd with ⟨ha,rfl⟩ | ⟨ha,rfl⟩
  .exact ⟨true,rfl,QS ha⟩
  .exact ⟨false,rfl,QT ha⟩
 have a8:=aa b4;clear a4 Y a1 a5 hd b4 u;dsimp only;refine hK.out _ _ bd (λu=>?_);clear hK K bd;refine HA.t ?_ [15,16,17,18,19] u ?_;refine HA.d ?_;clear u z0 z1 z2 z3 z4 z5 z6 z7 z8 z9 a6 ad J a7 a3 zf y0 y1 y2 y3 y4 y5 y6 y7 y8 y9 a0 a2 yf lz ly bN p0 p1;have a1:=bA.o;have a5:=bh.o;obtain ⟨⟨z0,z1,z2,z3,z4,z5,z6,z7,z8,z9,a6,ad,J,a7,a3⟩,zf⟩:=jB a1;obtain ⟨⟨y0,y1,y2,y3,y4,y5,y6,y7,y8,y9,a0,a2⟩,yf⟩:=lL a5;have lz:=PU a1;have ly:=PU a5;clear a1 a5;rcases eD aM with rfl | rfl
 .go_wp2
  go_quiet (fail)
  go_wp2;go_ret;exact ⟨bE (F5.o trivial G1.o (by rw [a8.o];rfl)).symm,Qa ab.o _⟩
 have b0:=λv (q:aq w3 v)=>c8.o ci.o.1 v (ab.o.trans (q.mono ab.o.size));have b3:=aa b0;clear b0;by_cases h5:M≠CN
 .have hq:((M:Int) != (CN:Int))=true:=by rw [bne_iff_ne];omega
  have H5:=aa h5;clear h5;go_wp2
  go_quiet ((go_at_call 57;refine Calls.quiet_of (b3.o _ ?_);exact am))
  go_wp2;go_ret;exact ⟨bE (F5.o trivial G1.o (by rw [a8.o,QT H5.o];rfl)).symm,Qa ab.o _⟩
 have hq:((M:Int) != (CN:Int))=false:=by rw [bne_eq_false_iff_eq];omega
 have G2:=aa (show (decide (∀x∈data,fC n0 n1 x)&&decide (M=CN))=true by rw [a8.o,QS (show M=CN by omega)];rfl);clear h5;go_wp2
 go_quiet ((go_at_call 57;refine Calls.quiet_of (b3.o _ ?_);exact am))
 go_wp2_with fail;obtain ⟨V,hV⟩:∃V,V=w3.drewN nq:=⟨_,rfl⟩;have bI:aq w V:=by rw [hV];exact Qa ab.o _
 have bb:Vg V w.heap.size #[Vf bz oz L c,QZ sh,QZ ra,QZ O,QZ U,QZ bt,QZ mi,QZ st,QZ bu,QZ ch,QZ wi,QZ ca,.slice D N cd,.slice T M ct,.slice R Q cr] 29:=by rw [hV];exact bA.o
 have bG:Vg V (w.heap.size+1) #[Vf bz oz L c,QZ sh,QZ ra,QZ O,QZ U,QZ bt,QZ mi,QZ st,QZ bu,QZ ch,QZ wi,QZ ca] 24:=by rw [hV];exact bh.o
 clear z0 z1 z2 z3 z4 z5 z6 z7 z8 z9 a6 ad J a7 a3 zf y0 y1 y2 y3 y4 y5 y6 y7 y8 y9 a0 a2 yf;rw [<-hV];clear hV;obtain ⟨⟨z0,z1,z2,z3,z4,z5,z6,z7,z8,z9,a6,ad,J,a7,a3⟩,zf⟩:=jB bb;obtain ⟨⟨y0,y1,y2,y3,y4,y5,y6,y7,y8,y9,a0,a2⟩,yf⟩:=lL bG;have b9:=aa bI;clear bI bb bG;have H:=cf.o HG.o ap V.drew b9.o.drew;have bn:=aa H;clear H;have u:(λv:R8=>Vh v w.heap.size 14 (.slice R Q cr)/\Vh v w.heap.size 12 (.slice D N cd)/\Vh v (w.heap.size+1) 0 (Vf bz oz L c)/\Vh v (w.heap.size+1) 1 (QZ sh)/\Vh v (w.heap.size+1) 2 (QZ ra)/\Vh v (w.heap.size+1) 3 (QZ O)/\Vh v (w.heap.size+1) 4 (QZ U)/\Vh v (w.heap.size+1) 5 (QZ bt)/\Vh v (w.heap.size+1) 6 (QZ mi)/\Vh v (w.heap.size+1) 7 (QZ st)/\Vh v (w.heap.size+1) 8 (QZ bu)/\Vh v (w.heap.size+1) 9 (QZ ch)/\Vh v (w.heap.size+1) 10 (QZ wi)/\Vh v (w.heap.size+1) 11 (QZ ca)) V.drew:=⟨a3,J,y0,y1,y2,y3,y4,y5,y6,y7,y8,y9,a0,a2⟩;refine HA.g (λv:R8=>Vh v w.heap.size 14 (.slice R Q cr)/\Vh v w.heap.size 12 (.slice D N cd)/\Vh v (w.heap.size+1) 0 (Vf bz oz L c)/\Vh v (w.heap.size+1) 1 (QZ sh)/\Vh v (w.heap.size+1) 2 (QZ ra)/\Vh v (w.heap.size+1) 3 (QZ O)/\Vh v (w.heap.size+1) 4 (QZ U)/\Vh v (w.heap.size+1) 5 (QZ bt)/\Vh v (w.heap.size+1) 6 (QZ mi)/\Vh v (w.heap.size+1) 7 (QZ st)/\Vh v (w.heap.size+1) 8 (QZ bu)/\Vh v (w.heap.size+1) 9 (QZ ch)/\Vh v (w.heap.size+1) 10 (QZ wi)/\Vh v (w.heap.size+1) 11 (QZ ca)) ?_;refine HA.t ?_ [0,1,2,3,4,5,6] u ?_;refine HA.o 7 (λK hK=>?_);go_simp;refine bn.o.mono ?_;rintro e w4 ⟨rfl,y⟩;have bs:=aa (b9.o.trans ((PY V.heap.size V).drew.trans y |>.mono b9.o.size));have bv:=P7 (aw y u.1) (P7 (aw y u.2.1) (P7 (aw y u.2.2.1) (P7 (aw y u.2.2.2.1) (P7 (aw y u.2.2.2.2.1) (P7 (aw y u.2.2.2.2.2.1) (P7 (aw y u.2.2.2.2.2.2.1) (P7 (aw y u.2.2.2.2.2.2.2.1) (P7 (aw y u.2.2.2.2.2.2.2.2.1) (P7 (aw y u.2.2.2.2.2.2.2.2.2.1) (P7 (aw y u.2.2.2.2.2.2.2.2.2.2.1) (P7 (aw y u.2.2.2.2.2.2.2.2.2.2.2.1) (P7 (aw y u.2.2.2.2.2.2.2.2.2.2.2.2.1) (aw y u.2.2.2.2.2.2.2.2.2.2.2.2.2)))))))))))));clear y u;dsimp only;refine hK.out _ _ bv (λu=>?_);clear hK K bv;refine HA.t ?_ [8] u ?_;refine HA.d ?_;clear u z0 z1 z2 z3 z4 z5 z6 z7 z8 z9 a6 ad J a7 a3 zf y0 y1 y2 y3 y4 y5 y6 y7 y8 y9 a0 a2 yf;by_cases h8:ND<=Q
 .have bO:¬((Q:Int)<ND):=ap;have c7:decide ((Q:Int)<ND)=false:=by simp;omega
  have bV:decide (Q<ND)=false:=by simp;omega
  have G8:=aa (QS h8);go_wp2;go_ret;exact ⟨bE (F0.o trivial G1.o G2.o G8.o).symm,bs.o⟩
 .have bO:(Q:Int)<ND:=ap;have c7:decide ((Q:Int)<ND)=true:=by simp;omega
  have bV:decide (Q<ND)=true:=by simp;omega
  have G8:=aa (QT h8);go_wp2;go_ret;exact ⟨bE (F8.o trivial G1.o G2.o G8.o).symm,bs.o⟩
structure kJ (w:R8) (A:N_) (c:Nat) (D:N_) (T:N_) (ct:Nat) (R:N_) (i:Inp):Prop where
 c:lD w A c i.cfg
 d:dx rEx 2 w D i.data
 dl:i.data.length<=17592186043904
 t:cG w T i.start ct
 r:Rd w R (aA .u64 i.draws)
 rl:i.draws.length<=17592186043904
 ru:U64 i.draws
 ra: -9223372036854775808<=i.cfg.rate/\i.cfg.rate<=9223372036854775807
 rm: -9223372036854775808<=i.cfg.mom/\i.cfg.mom<=9223372036854775807
theorem kJ.below (h:kJ w A c D T ct R i) (hb:aq w o):kJ o A c D T ct R i:=
 ⟨h.c.below hb,h.d.below dB hb,h.dl,h.t.below hb,h.r.below hb,h.rl,h.ru,h.ra,h.rm⟩
def lO (i:Inp):Prop:=i.data.length<=60/\i.start.length<=600/\i.draws.length<=2000/\i.cfg.sizes.length<=40
theorem kJ.rd (h:kJ w A c D T ct R i) (hs:lO i):gM w A c D T ct R i:=
 ⟨h.c,h.d,by have:=hs.1;omega,h.t,by have:=hs.2.1;omega,h.r,by have:=hs.2.2.1;omega,h.ru,h.ra,h.rm⟩
def vr (q:Prop) (w:R8) (e:Ending) (h:R8):Prop:=(∃b:Bool,e=.returned (.bool b)/\(b=true->q))/\aq w h
theorem uN (b:Bool) (i:q) (hb:aq w h):vr q w (.returned (.bool b)) h:=⟨⟨b,rfl,λ_=>i⟩,hb⟩
theorem yy {i:R8} (hb:aq w i):vr q w (.returned (.bool false)) i:=⟨⟨false,rfl,λh=>by cases h⟩,hb⟩
theorem KS {p:Prop} [Decidable p] {i:R8} (o:p->q) (hb:aq w i):vr q w (.returned (.bool (decide p))) i:=⟨⟨_,rfl,λh=>o (of_decide_eq_true h)⟩,hb⟩
theorem KF (A:N_) (c:Nat) (D:N_) (x:Nat) (T:N_) (ct:Nat) (R:N_) (B:Nat) (i:Inp) (w:R8) (h:kJ w A c D T ct R i):Vj 110 #[.agg (aL A c D x T ct R B i)] w (vr (lO i) w):=by
 have hf:=λw' (q:aq w w')=>Jo x D i.data w' (h.d.below dB q) h.dl;have Z:i.data.length<=60->i.start.length<=600->i.draws.length<=2000->i.cfg.sizes.length<=40->lO i:=λa b c d=>⟨a,b,c,d⟩;generalize lO i=Q at Z |-;clear h;unfold Nu at hf;obtain ⟨⟨sz,sh,ra,C,U,ba,mi,st,bu,ch,wi,ca⟩,data,start,draws⟩:=i;dsimp only [aL,dF] at *;obtain ⟨L,hL⟩:=Vb sz.length;obtain ⟨N,hN⟩:=Vb data.length;obtain ⟨M,hM⟩:=Vb start.length;obtain ⟨P,hP⟩:=Vb draws.length;rw [hL,hN,hM,hP] at Z;rw [hN] at hf;rw [hL,hN,hM,hP];obtain ⟨Hf,Hq⟩:=ae hf Z;clear hf Z hL hN hM hP;have O:¬(L<=40)->¬((L:Int)<=40):=ap;have I:L<=40->(L:Int)<=40:=ap;have Y:¬(M<=600)->¬((M:Int)<=600):=ap;have J:M<=600->(M:Int)<=600:=ap;have V:¬(P<=2000)->¬((P:Int)<=2000):=ap;have H:P<=2000->(P:Int)<=2000:=ap;obtain ⟨NL,YL,NM,YM,NP,YP⟩:=ai O I Y J V H;clear O I Y J V H;by_cases h1:¬(L<=40)
 .have k1:=NL.o h1;go_enter func110,ntmps110;go_wp2_with fail
  all_goals
   go_ret;exact yy ((PY _ w).alloc (PV _) _)
 have y:L<=40:=ap;have k1:=YL.o y;have G1:=aa y;clear h1 y;go_enter func110,ntmps110;go_wp2_with fail;have hz:=PW w (.cells #[.slice A L c,QZ sh,QZ ra,QZ C,QZ U,QZ ba,QZ mi,QZ st,QZ bu,QZ ch,QZ wi,QZ ca,.slice D N x,.slice T M ct,.slice R P B] 29);have hB:=(PY _ w).alloc (PV _) (.cells #[.slice A L c,QZ sh,QZ ra,QZ C,QZ U,QZ ba,QZ mi,QZ st,QZ bu,QZ ch,QZ wi,QZ ca,.slice D N x,.slice T M ct,.slice R P B] 29);refine (Hf.o _ hB).mono ?_;rintro e w' ⟨⟨b,rfl,hb⟩,d,rfl⟩;have u:Vg ((w.alloc (.cells #[.slice A L c,QZ sh,QZ ra,QZ C,QZ U,QZ ba,QZ mi,QZ st,QZ bu,QZ ch,QZ wi,QZ ca,.slice D N x,.slice T M ct,.slice R P B] 29)).drewN d) w.heap.size #[.slice A L c,QZ sh,QZ ra,QZ C,QZ U,QZ ba,QZ mi,QZ st,QZ bu,QZ ch,QZ wi,QZ ca,.slice D N x,.slice T M ct,.slice R P B] 29:=hz;have p:=Qa hB d;have Hb:=aa hb;clear hz hB hb;generalize (w.alloc (.cells #[.slice A L c,QZ sh,QZ ra,QZ C,QZ U,QZ ba,QZ mi,QZ st,QZ bu,QZ ch,QZ wi,QZ ca,.slice D N x,.slice T M ct,.slice R P B] 29)).drewN d=W1 at u p |-;have HB:=aa p;obtain ⟨⟨z0,z1,z2,z3,z4,z5,z6,z7,z8,z9,a0,a4,a3,a1,a2⟩,zf⟩:=jB u;clear u p;rcases eD b with rfl | rfl
 .go_wp2_with fail
  all_goals
   go_ret;exact yy HB.o
 by_cases h2:¬(M<=600)
 .have k2:=NM.o h2;go_wp2_with fail
  all_goals
   go_ret;exact yy HB.o
 have v:M<=600:=ap;have k2:=YM.o v;have G2:=aa v;clear h2 v;clear NL YL NM YM YP;go_wp2_with fail
 all_goals
  go_ret;exact KS (λh=>Hq.o (Hb.o trivial) G2.o ap G1.o) HB.o
theorem C4 (A:N_) (c:Nat) (D:N_) (Z:Nat) (T:N_) (ct:Nat) (R:N_) (Y:Nat) (i:Inp) (w:R8) (h:kJ w A c D T ct R i):Vj 74 #[.agg (aL A c D Z T ct R Y i)] w (vr (lO i) w):=by
 have p:=λu (q:aq w u)=>KF A c D Z T ct R Y i u (h.below q);have J:=λu (q:aq w u)=>qx A c i.cfg u (h.c.below q);have U:=λ(hR:de i.cfg.sizes) u (q:aq w u)=>kg A i.cfg.sizes i.cfg.sizes.length c u (h.c.hr.below q) hR (by have:=hR.1;omega) (PV _);have a0:=@iI i.cfg;generalize lO i=QQ at p |-;clear h;have p:∀u,aq w u->Vj 110 #[.agg (aL A c D Z T ct R Y i)] u (λe aR=>∃b:Bool,Vi e (.bool b)/\(b=true->QQ)/\aq u aR):=λu q=>(p u q).mono λe aR ⟨⟨b,h1,h2⟩,h3⟩=>⟨b,h1,h2,h3⟩;obtain ⟨⟨sz,sh,ra,H,I,ba,mi,st,bu,ch,wi,ca⟩,data,start,draws⟩:=i;dsimp only [aL,dF] at *;obtain ⟨cc,b0⟩:=Vb (cK ⟨sz,sh,ra,H,I,ba,mi,st,bu,ch,wi,ca⟩);rw [b0] at J a0;have av:cc=0->de sz:=λe=>(a0.1 e).z.1;obtain ⟨L,hL⟩:=Vb sz.length;obtain ⟨N,hN⟩:=Vb data.length;obtain ⟨M,hM⟩:=Vb start.length;obtain ⟨Q,hQ⟩:=Vb draws.length;rw [hL] at J U p |-;rw [hN,hM,hQ] at p |-;obtain ⟨CN,aM⟩:=Vb (bT sz (L-1));rw [aM] at U;obtain ⟨b4,b3,ad,b2⟩:=ag J U p av;clear J U p a0 hL hN hM hQ b0 aM av;go_enter func74,ntmps74;go_wp2_with fail;have hz:=(Qc (w.alloc (.cells #[.slice A L c,QZ sh,QZ ra,QZ H,QZ I,QZ ba,QZ mi,QZ st,QZ bu,QZ ch,QZ wi,QZ ca,.slice D N Z,.slice T M ct,.slice R Q Y] 29)) (.cells #[.slice A L c,QZ sh,QZ ra,QZ H,QZ I,QZ ba,QZ mi,QZ st,QZ bu,QZ ch,QZ wi,QZ ca] 24) (Ve w) V3).trans (PW w _);have hy:=PW (w.alloc (.cells #[.slice A L c,QZ sh,QZ ra,QZ H,QZ I,QZ ba,QZ mi,QZ st,QZ bu,QZ ch,QZ wi,QZ ca,.slice D N Z,.slice T M ct,.slice R Q Y] 29)) (.cells #[.slice A L c,QZ sh,QZ ra,QZ H,QZ I,QZ ba,QZ mi,QZ st,QZ bu,QZ ch,QZ wi,QZ ca] 24);rw [show (w.alloc (.cells #[.slice A L c,QZ sh,QZ ra,QZ H,QZ I,QZ ba,QZ mi,QZ st,QZ bu,QZ ch,QZ wi,QZ ca,.slice D N Z,.slice T M ct,.slice R Q Y] 29)).heap.size=Ve w+1 by simp] at hy;have hB:aq w ((w.alloc (.cells #[.slice A L c,QZ sh,QZ ra,QZ H,QZ I,QZ ba,QZ mi,QZ st,QZ bu,QZ ch,QZ wi,QZ ca,.slice D N Z,.slice T M ct,.slice R Q Y] 29)).alloc (.cells #[.slice A L c,QZ sh,QZ ra,QZ H,QZ I,QZ ba,QZ mi,QZ st,QZ bu,QZ ch,QZ wi,QZ ca] 24)):=((PY _ w).alloc (PV _) _).alloc V3 _;obtain ⟨W0,aP⟩:∃W0,W0=(w.alloc (.cells #[.slice A L c,QZ sh,QZ ra,QZ H,QZ I,QZ ba,QZ mi,QZ st,QZ bu,QZ ch,QZ wi,QZ ca,.slice D N Z,.slice T M ct,.slice R Q Y] 29)).alloc (.cells #[.slice A L c,QZ sh,QZ ra,QZ H,QZ I,QZ ba,QZ mi,QZ st,QZ bu,QZ ch,QZ wi,QZ ca] 24):=⟨_,rfl⟩;rw [<-aP] at hz hy hB |-;clear aP;refine (ad.o _ hB).mono ?_;rintro e w1 ⟨b,rfl,hb,V⟩;have y:=(V.block _ (PU hz)).trans hz;have v:=(V.block _ (PU hy)).trans hy;obtain ⟨HB,Hb⟩:=ae (hB.trans (V.mono hB.size)) hb;obtain ⟨⟨z0,z1,z2,z3,z4,z5,z6,z7,z8,z9,a1,ao,ab,a3,a6⟩,zf⟩:=jB y;obtain ⟨⟨y0,y1,y2,y3,y4,y5,y6,y7,y8,y9,a2,a4⟩,yf⟩:=lL v;obtain ⟨HZ,HY⟩:=ae y v;clear hz hy hB V hb;rcases eD b with rfl | rfl
 .clear y v;go_wp2_with fail;refine (ad.o _ HB.o).mono ?_;rintro e w2 ⟨b',rfl,C,B⟩;obtain ⟨a7,a8⟩:=ae (HB.o.trans (B.mono HB.o.size)) C;clear B C;go_wp2;go_ret;exact ⟨⟨b',rfl,a8.o⟩,a7.o⟩
 have HQ:=aa (Hb.o rfl);go_wp2_with fail;refine (b4.o _ HB.o).mono ?_;rintro e w3 ⟨rfl,O⟩;have aG:=(O.block _ (PU y)).trans y;have b1:=(O.block _ (PU v)).trans v;have x:=aa (HB.o.trans (O.mono HB.o.size));clear z0 z1 z2 z3 z4 z5 z6 z7 z8 z9 a1 ao ab a3 a6 zf y0 y1 y2 y3 y4 y5 y6 y7 y8 y9 a2 a4 yf y v O HZ HY;obtain ⟨⟨z0,z1,z2,z3,z4,z5,z6,z7,z8,z9,a1,ao,ab,a3,a6⟩,zf⟩:=jB aG;obtain ⟨⟨y0,y1,y2,y3,y4,y5,y6,y7,y8,y9,a2,a4⟩,yf⟩:=lL b1;clear aG b1;by_cases h3:cc≠0
 .have hq:(cc != 0)=true:=by rw [bne_iff_ne];exact h3
  go_wp2_with fail;refine (ad.o _ x.o).mono ?_;rintro e w2 ⟨b',rfl,C,B⟩;obtain ⟨a7,a8⟩:=ae (x.o.trans (B.mono x.o.size)) C;clear B C;go_wp2;go_ret;exact ⟨⟨b',rfl,a8.o⟩,a7.o⟩
 obtain rfl:cc=0:=ap;clear h3;have HR:=aa (b2.o rfl);by_cases h4:12<st
 .have hq:¬(st<=12):=ap;go_wp2_with fail
  all_goals
   go_ret;exact uN _ HQ.o x.o
 have hq:st<=12:=ap;go_wp2_with fail;refine (b3.o HR.o _ x.o).mono ?_;rintro e w4 ⟨rfl,d,rfl⟩;have a9:=aa (Qa x.o d);obtain ⟨W4,a5⟩:∃W4,W4=w3.drewN d:=⟨_,rfl⟩;have b5:Vh W4 (Ve w+1) 5 (QZ ba):=by rw [a5];exact y5
 rw [<-a5] at a9 |-;clear a5 z0 z1 z2 z3 z4 z5 z6 z7 z8 z9 a1 ao ab a3 a6 zf y0 y1 y2 y3 y4 y5 y6 y7 y8 y9 a2 a4 yf;by_cases h5:CN<=150
 .have k5:(CN:Int)<=150:=ap;go_wp2_with fail
  all_goals
   go_ret;exact uN _ HQ.o a9.o
 .have k5:¬((CN:Int)<=150):=ap;go_wp2_with fail
  all_goals
   go_ret;exact uN _ HQ.o a9.o
theorem iV:dM prog 104 191 (.agg Rh) 12 88:=⟨underlying104,info_parts V1,rfl,by decide⟩
def jF (w:R8) (v:Value) (h:R8) (v':Value):Prop:=Keep (λj=>v.ownBlock=some j) w h/\(v'.ownBlock=v.ownBlock\/∀k,v'.ownBlock=some k->w.heap.size<=k)
theorem jF.trans {a b c:R8} {i:Value} (h:jF a v b v') (k:jF b v' c i):jF a v c i:=by
 refine ⟨⟨k.1.os.trans h.1.os,k.1.tape.trans h.1.tape,k.1.output.trans h.1.output,P4 h.1.size k.1.size,λj o hn=>(k.1.block j (P6 o h.1.size) λx=>?_).trans (h.1.block j o hn)⟩,?_⟩
 .rcases h.2 with u | u
  .exact hn (u▸x)
  .have:=u j x;omega
 .rcases k.2 with p | p
  .rw [p];exact h.2
  .exact .inr λj o=>P4 h.1.size (p j o)
theorem jF.below {b c:R8} (h:aq b c):jF b v c v:=⟨Keep.below h,.inl rfl⟩
theorem jF.refl (w:R8) (v:Value):jF w v w v:=⟨Keep.refl _ _,.inl rfl⟩
theorem iu {i:Nat} (T:dM P t e z size i) (w:R8) {o:Oper} {a:Ro} (B:o.guard=none) (s x:Operand) (C:o.op=.call {callee:=.builtin .append,args:=#[s,x],argTypes:=#[t,t]}) (base:Nat) (v:Value) (n:Nat) (xs:R7) (hs:a.eval s=v) (hown:w.ownsRow base e size v n xs) (us:R7) (hx:a.eval x=Vf (Ve w) 0 1 1) (hus:us.length=size) (h1:∀u∈us,u.oneCell'=true) (hb:(n+1)*i<=140737488355328) (h63:n+1<=maxLen) (hbase:base<=w.heap.size) (h:∀A y p,p.ownsRow base e size (.slice A (n+1) y) (n+1) (xs++us)->jF w v p (.slice A (n+1) y)->
   wpList P ops Q rest (a.put o.dst (.slice A (n+1) y)) p):wpList P ops Q (o::rest) a (w.alloc (.cells us.toArray e)):=by
 refine dQ T (w:=w.alloc (.cells us.toArray e)) B s x C base v n xs hs (hown.alloc _) (some (ar (Ve w) 0)) 1 1 us hx (dW w us e (Ve w) rfl) ap h1 hb h63 V6 ?_;intro A y p D _ hg hn;refine h A y p D ⟨((Keep.refl _ w).alloc _).grown hg (λk hk=>.inr hk),?_⟩;rcases hn with hn | hn
 .exact .inl hn
 .exact .inr λk hk=>by rw [hn] at hk;simp at hk;omega
theorem ss6 {x p i o v0 v1 v2 v3 v4 v5:Value} (h:Vg w b #[x,p,i,v,o,u] t): Vg ((((((w.setCell (ar b 0) v0).setCell (ar b 1) v1).setCell (ar b 2) v2).setCell (ar b 3) v3).setCell (ar b 4) v4).setCell (ar b 5) v5) b #[v0,v1,v2,v3,v4,v5] t:=
 ss (ss (ss3 (ss h rfl) rfl) rfl) V3
theorem qy (p:Pln) (R a1 T J L Q I u x:Value) (w:R8) (O:bU p) (B:p.bu<=1048576):Vj 91 #[.agg #[R,a1,T,J,Vd p.W,L,Q,I,Vd p.bu,Vd p.ck,u,x,Vd p.n]] w λe H=>∃v,Vi e v/\H.ownsRow w.heap.size 187 2 v p.buks.length (aS p.buks)/\aq w H:=by
 obtain ⟨A,i⟩:=Vb (w.alloc (.cells #[R,a1,T,J,Vd p.W,L,Q,I,Vd p.bu,Vd p.ck,u,x,Vd p.n] 64));have y:aq w A:=by rw [<-i];exact (br w).alloc (PV _) _
 have hb:=Cu p.n p.bu A (by have:=O.n;omega) O.bu B;obtain ⟨C,h,V⟩:=af i y hb;clear i y hb;go_enter func91,ntmps91;go_wp2_with fail;rw [C.o];refine V.o.mono ?_;rintro e Z ⟨v,rfl,N,D⟩;obtain ⟨Y,U⟩:=ae (aF (base':=w.heap.size) N h.o.size) (h.o.trans (D.mono h.o.size));clear N D;go_wp2;go_ret;exact ⟨_,rfl,Y.o,U.o⟩
theorem Jl (p:Pln) (Y a1 Z Q R V N u x:Value) (st j:Nat) (w:R8) (hp:bU p) (a4:p.bu<=1048576) (hj:j<p.buks.length):Vj 150 #[.agg #[Y,a1,Z,Q,Vd p.W,R,V,N,Vd p.bu,Vd p.ck,u,x,Vd p.n],Vd st,Vd j] w λe L=>Vi e (.agg #[Vd st,Vd j,QZ ((aK p.buks j).1:Nat),QZ ((aK p.buks j).2:Nat),Vd p.W,Vd p.ck])/\aq w L:=by
 obtain ⟨h,i⟩:=Vb ((w.alloc (.cells #[Y,a1,Z,Q,Vd p.W,R,V,N,Vd p.bu,Vd p.ck,u,x,Vd p.n] 64)).alloc (.cells Rj 261))
 have g0:h.heap[w.heap.size]?=some (.cells #[Y,a1,Z,Q,Vd p.W,R,V,N,Vd p.bu,Vd p.ck,u,x,Vd p.n] 64 (0,0)):=by
  rw [<-i,Qc _ _ _ V3];exact PW w _
 have g1:h.heap[w.heap.size+1]?=some (.cells Rj 261 (0,0)):=by
  rw [<-i];have:=PW (w.alloc (.cells #[Y,a1,Z,Q,Vd p.W,R,V,N,Vd p.bu,Vd p.ck,u,x,Vd p.n] 64)) (.cells Rj 261);simpa using this
 have U:aq w h:=by rw [<-i];exact ((br w).alloc (PV _) _).alloc V3 _
 have t0:=λL (q:Keep (λj=>j=w.heap.size+1) h L)=>vG ((q.block _ (PU g0) ap).trans g0);have ao:(j:Int)<p.buks.length:=ap;obtain ⟨a9,J,G1⟩:=af i U g1;have q0:Keep (λj=>j=w.heap.size+1) h h.drew:=(Keep.refl _ _).drew;clear i g0 g1 U;go_enter func150,ntmps150;go_wp2_with fail;rw [a9.o];refine HA.g (λL:R8=>Keep (λj=>j=w.heap.size+1) h L) ?_;refine HA.t ?_ [0,1,2,4,7,8,9,10,11,12] q0 ?_;refine HA.c 3 (qy p Y a1 Z Q R V N u x _ hp a4) ?_;rintro e D ⟨v2,rfl,o2,k2⟩;have b2:=bt (br h).drew k2;have H:Keep (λj=>j=w.heap.size+1) h D:=Keep.below b2;obtain ⟨g,c2,rfl,_⟩:=o2.form ap;obtain ⟨d0,d1⟩:=ja o2 hj;obtain ⟨I,C⟩:∃b,(aK p.buks j).1=b:=⟨_,rfl⟩;obtain ⟨T,A⟩:∃b,(aK p.buks j).2=b:=⟨_,rfl⟩;rw [C] at d0;rw [A] at d1;refine ⟨_,rfl,H,λ_=>?_⟩;refine HA.v 5 D (.pointer (some (ar g (j*2)))) H ?_;refine HA.v 6 D (.agg #[Vd I,Vd T]) H ?_;refine HA.v 13 D (.agg #[Vd st,Vd j,Vd I,Vd T,Vd p.W,Vd p.ck]) H ?_;have h2:=sb G1.o D b2;have u2:=bx6 h2;have O:=ss6 (v0:=Vd st) (v1:=Vd j) (v2:=Vd I) (v3:=Vd T) (v4:=Vd p.W) (v5:=Vd p.ck) h2;have a8:=PU h2;obtain ⟨W9,y⟩:=Vb ((((((D.setCell (ar (w.heap.size+1) 0) (Vd st)).setCell (ar (w.heap.size+1) 1) (Vd j)).setCell (ar (w.heap.size+1) 2) (Vd I)).setCell (ar (w.heap.size+1) 3) (Vd T)).setCell (ar (w.heap.size+1) 4) (Vd p.W)).setCell (ar (w.heap.size+1) 5) (Vd p.ck));have k9:Keep (λj=>j=w.heap.size+1) D W9:=by rw [<-y];exact Vk (w.heap.size+1) (Vk (w.heap.size+1) (Vk (w.heap.size+1) (Vk (w.heap.size+1) (Vk (w.heap.size+1) (Vk (w.heap.size+1) (Keep.refl _ _) _ (.inr rfl) _) _ (.inr rfl) _) _ (.inr rfl) _) _ (.inr rfl) _) _ (.inr rfl) _) _ (.inr rfl) _
 refine HA.s 14 W9 (H.trans k9) ?_ (he:=by subst y;go_simp);refine HA.d ?_;rw [y] at O;obtain ⟨E6,HB⟩:=ae O (J.o.trans ((H.trans k9).toBelow (B:=w.heap.size) J.o.size (λj hj=>ap)));obtain ⟨⟨r0,r1,r2,r3,r4,r5⟩,rf⟩:=bx6 O;have av:=PU O;obtain ⟨ad,ab⟩:=ae C A;clear O h2 u2 a8 q0 H b2 k9 k2 t0 o2 d0 d1 C A;go_wp2_with fail;rw [ad.o,ab.o];exact Qd (v:=.agg #[Vd st,Vd j,Vd I,Vd T,Vd p.W,Vd p.ck]) (by simp [results,results150,go_sem,r0,r1,r2,r3,r4,r5]) rfl ⟨rfl,HB.o⟩
abbrev ip (w:R8) (base:Nat) (v:Value) (l:List Itm):Prop:=w.ownsRow base 191 12 v l.length (cE l)
theorem Ci (p:Pln) (base st x lo u:Nat) (a0 a1 a2 a3 a5 a6 a7 a4 a8:Value) (v:Value) (l:List Itm) (w:R8) (hp:bU p) (dp:p.bu<=1048576) (hl:ip w base v l) (hb:base<=w.heap.size) (hx:x<p.W) (bi:lo<=u) (hg:u<=p.buks.length) (dr:l.length<=8000000):Vj 103 #[v,.agg #[a0,a1,a2,a3,Vd p.W,a5,a6,a7,Vd p.bu,Vd p.ck,a4,a8,Vd p.n],QZ x,Vd st,.agg #[Vd lo,Vd u]] w λe A=>∃v',Vi e v'/\ip A base v' (l++dt p x st (lo,u))/\jF w v A v':=by
 obtain ⟨J,ab⟩:=Vb ((w.alloc (.cells #[a0,a1,a2,a3,Vd p.W,a5,a6,a7,Vd p.bu,Vd p.ck,a4,a8,Vd p.n] 64)).alloc (.cells #[Vd lo,Vd u] 187))
 have g0:J.heap[w.heap.size]?=some (.cells #[a0,a1,a2,a3,Vd p.W,a5,a6,a7,Vd p.bu,Vd p.ck,a4,a8,Vd p.n] 64 (0,0)):=by
  rw [<-ab,Qc _ _ _ V3];exact PW w _
 have g1:J.heap[w.heap.size+1]?=some (.cells #[Vd lo,Vd u] 187 (0,0)):=by
  rw [<-ab];have:=PW (w.alloc (.cells #[a0,a1,a2,a3,Vd p.W,a5,a6,a7,Vd p.bu,Vd p.ck,a4,a8,Vd p.n] 64)) (.cells #[Vd lo,Vd u] 187);simpa using this
 have av:aq w J:=by rw [<-ab];exact ((br w).alloc (PV _) _).alloc V3 _
 have aP:ip J base v l:=az hl av;have kP:=λA (q:Keep (λj=>v.ownBlock=some j) J A)=>(q.block _ (PU g0) (λh=>ay g0 V0 aP h.symm)).trans g0;have kG:=λA (q:Keep (λj=>v.ownBlock=some j) J A)=>(q.block _ (PU g1) (λh=>ay g1 V0 aP h.symm)).trans g1;obtain ⟨m,hm⟩:=Vb (p.W-1);have da:=hp.W1;have e6:=hp.W8;have cP:=hp.ck;have cj:=hp.ck2;have ea:=hp.buks;have cb:=λj=>hp.buk j;have hrl:=λph r j=>hp.round x st ph r j;have e9:(p.W:Int)-1=(m:Int):=ap;have e5:IntKind.i64.wrap (m:Int)=m:=P3 _ ap;have bo:=xg p x st lo u;rw [hm] at bo;have bX:=P4 hb av.size;have d7:=av.size;obtain ⟨dv,d8,cL,HP,HG,d4,b6,Hm⟩:=ak ab av aP kP kG cb hrl hm;obtain ⟨dw,b0⟩:=ae bo bX;have tG:=λA (q:aq J A)=>bx2 (kG A (Keep.below q));have q0:=br J;clear ab g0 g1 av aP hl kP kG cb hrl hm bX bo d7;go_enter func103,ntmps103;go_wp2_with fail;rw [dv.o];clear tG q0;have cn:=aa dr
 go_loopw [0,11] (λH y wr=>∃j:Nat,lo<=j/\j<=u/\y=QZ j/\ip wr base H (l++dD st lo (j-lo) 2)/\jF J v wr H) (λ_ y _=>u-(intOf y).toNat)
 .exact ⟨lo,PV _,bi,rfl,by simpa [dD] using cL.o,jF.refl _ _⟩
 case round=>
  obtain ⟨j,hj,cx,rfl,l3,L⟩:=hrel;have uR:=λA (q:aq wr A)=>bx2 (sb (HG.o wr L.1) A q);have q1:=br wr
  have B:(l++dD st lo (j-lo) 2).length<=8388608:=by
   have:=cn.o;simp only [Qt,jT];omega
  obtain ⟨Av,cv,rfl,_⟩:=aC l3;obtain ⟨n,hn⟩:=Vb ((l++dD st lo (j-lo) 2).length);have T:wr.ownsRow base 191 12 (.slice Av n cv) n (cE (l++dD st lo (j-lo) 2)):=by rw [<-hn];exact l3
  rw [hn] at B L |-;have Z:=L.1.size;by_cases bG:j<u
  .have ao:(j:Int)<u:=ap;have cO:IntKind.i64.wrap ((j:Int)+1)=((j+1:Nat):Int):=by rw [P3 _ ap];push_cast;rfl
   have e:l++dD st lo (j+1-lo) 2=(l++dD st lo (j-lo) 2)++[(⟨2,st,j,none⟩:Itm)]:=by rw [show j+1-lo=(j-lo)+1 by omega,mT,show lo+(j-lo)=j by omega];simp only [Qz]
   obtain ⟨Q,L3,He,V⟩:=ag L T e hn;clear l3 T L e hn;go_wp2_with (at_builtin;refine iu iV _ rfl (.tmp 27) (.tmp 31) rfl base (.slice Av n cv) n _ rfl L3.o [QZ 2,Vd st,Vd j,.bool false,.bool false,QZ 0,QZ 0,QZ 0,QZ 0,QZ 0,QZ 0,QZ 0] rfl rfl V5 ap V2 (P4 b0.o Z) ?_);intro g6 c6 w6 C D;obtain ⟨R,U⟩:=ae C (Q.o.trans D);clear C D;go_wp2;go_roundw
   .exact ⟨j+1,ap,ap,Vc,by unfold ip;rw [He.o,Qt,V.o,fQ];exact R.o,U.o⟩
   .simp [intOf];omega
  .have ao:¬((j:Int)<u):=ap;obtain rfl:u=j:=ap;obtain ⟨L3,Q,V⟩:=af l3 L hn;clear l3 T L B hn;obtain ⟨l1,b4⟩:=Vb (l++dD st lo (u-lo) 2)
   have bb:l1.length<=8000060:=by
    have:=cn.o;rw [<-b4];simp only [Qt,jT];omega
   rw [V.o] at L3;have L4:an (wr.ownsRow base 191 12 (.slice Av n cv) l1.length (cE l1)):=aa (by have:=L3.o;unfold ip at this;rw [V.o] at this;rw [<-b4,V.o];exact this);obtain ⟨d5,b9⟩:=ae b4 bb;clear b4 bb L3;go_wp2_with fail;clear uR q1
   go_loopw [0,12] (λH y wr=>∃ph:Nat,ph<=2/\y=QZ ph/\ip wr base H (l1++cR p x st (lo,u) (ph*m))/\jF J v wr H) (λ_ y _=>2-(intOf y).toNat)
   .exact ⟨0,PZ _,rfl,by simpa [cR] using L4.out,Q.o⟩
   case round=>
    obtain ⟨ph,e7,rfl,l2,A2⟩:=hrel;by_cases dc:ph<2
    .have d9:(ph:Int)<2:=ap;have e1:IntKind.i64.wrap ((ph:Int)+1)=((ph+1:Nat):Int):=by rw [P3 _ ap];push_cast;rfl
     obtain ⟨L2,O⟩:=ae l2 A2;clear l2 A2;go_wp2
     go_loopw [0,13] (λH y wr=>∃r:Nat,r<=m/\y=QZ r/\ip wr base H (l1++cR p x st (lo,u) (ph*m+r))/\jF J v wr H) (λ_ y _=>m-(intOf y).toNat)
     .exact ⟨0,PZ _,rfl,L2.o,O.o⟩
     case round=>
      obtain ⟨r,hr,rfl,l2,A2⟩:=hrel;have uP:=λA (q:aq wr A)=>vG (sb (HP.o wr A2.1) A q);have uR:=λA (q:aq wr A)=>bx2 (sb (HG.o wr A2.1) A q);have q1:=br wr;by_cases hrl:r<m
      .have d1:(r:Int)<m:=ap;have e4:IntKind.i64.wrap ((r:Int)+1)=((r+1:Nat):Int):=by rw [P3 _ ap];push_cast;rfl
       obtain ⟨k,hk⟩:=Vb (ph*m+r);have cd:k/m=ph:=by rw [<-hk,Nat.mul_comm,Nat.mul_add_div ap,Nat.div_eq_of_lt hrl,Nat.add_zero]
       have bA:k%m=r:=by rw [<-hk,Nat.mul_comm,Nat.mul_add_mod,Nat.mod_eq_of_lt hrl]
       have bO:k<=14:=by
        have:ph*m<=1*7:=Nat.mul_le_mul ap (by have:=Hm.o;omega);omega
       rw [hk] at l2;obtain ⟨L2,O,Hk,ds,cA⟩:=ah l2 A2 hk cd bA;clear l2 A2 hk cd bA;go_wp2_with fail;clear uP uR q1
       go_loopw [0,14] (λH y wr=>∃j:Nat,lo<=j/\j<=u/\y=QZ j/\ip wr base H (l1++cR p x st (lo,u) k++ij p x st k lo (j-lo))/\jF J v wr H) (λ_ y _=>u-(intOf y).toNat)
       .exact ⟨lo,PV _,bi,rfl,by simpa [ij] using L2.o,O.o⟩
       case round=>
        obtain ⟨j,hj,cx,rfl,I,A4⟩:=hrel;have uP:=λA (q:aq wr A)=>vG (sb (HP.o wr A4.1) A q);have uR:=λA (q:aq wr A)=>bx2 (sb (HG.o wr A4.1) A q);have q1:=br wr;by_cases bG:j<u
        .have ao:(j:Int)<u:=ap;have dk:j<p.buks.length:=ap;obtain ⟨wj,rfl⟩:∃wj:R8,wj=wr:=⟨_,rfl⟩;obtain ⟨Aw,cw,rfl,_⟩:=aC I;obtain ⟨l4,b5⟩:=Vb (l1++cR p x st (lo,u) k++ij p x st k lo (j-lo))
         have b7:l4.length<=8200000:=by
          have h1:=j8 (w:=x) (st:=st) (k:=k) (g:=(lo,u)) (M:=120) (p:=p) (λph r j=>b6.o ph r j);have h2:=uA (w:=x) (st:=st) (k:=k) (lo:=lo) (n:=j-lo) (M:=120) (p:=p) (λph r j=>b6.o ph r j);have h4:k*((u-lo)*120)<=14*(60*120):=Nat.mul_le_mul bO (Nat.mul_le_mul ap (PV _));have h5:(j-lo)*120<=60*120:=Nat.mul_le_mul ap (PV _);have h6:=b9.o;rw [<-b5];simp only [Qt];dsimp only at h1;omega
         rw [b5] at I A4 |-;obtain ⟨v4,bV⟩:=Vb (Value.slice Aw l4.length cw);rw [bV] at I A4 |-;have bh:=d4.o j
         have e8:cz p x st (k/(p.W-1)) (k%(p.W-1)) j=(db st j (aK p.buks j) p.W p.ck x ph r).map (fy st):=by
          unfold cz;rw [Hm.o,ds.o,cA.o]
         have aM:=b6.o (k/(p.W-1)) (k%(p.W-1)) j;rw [e8,List.length_map] at aM;obtain ⟨b1,b2,bM⟩:∃b1 b2,aK p.buks j=(b1,b2):=⟨_,_,rfl⟩;have Y:=Jl p a0 a1 a2 a3 a5 a6 a7 a4 a8 st j wj hp dp dk;rw [bM] at bh e8 aM Y;dsimp only at bh Y;obtain ⟨ci,E8,aR,a9,b3,d0,cy⟩:=aj Y e8 aM I A4 b5 b7;clear Y e8 aM I A4 b5 b7 bM bV;go_wp2_with fail;refine ci.o.mono ?_;rintro e w7 ⟨rfl,k7⟩;have q7:=bt q1 k7;go_wp2_with fail;refine (Ca st j b1 b2 p.W p.ck x ph r w7 da ap hx dc (by have:=Hm.o;omega) bh.1 ap cP cj).mono ?_;rintro e w8 ⟨v8,rfl,o8,k8⟩;have q8:=bt q7 k8;obtain ⟨A8,c8,rfl,_⟩:=aC o8;obtain ⟨X,hX⟩:=Vb (db st j (b1,b2) p.W p.ck x ph r);rw [hX] at E8 aR o8 |-;obtain ⟨N,hN⟩:=Vb X.length;rw [hN] at aR o8 |-;have l8:ip w8 base v4 l4:=az a9.o q8;have bI:jF J v w8 v4:=b3.o.trans (jF.below q8)
         have cl:=λA (q:Keep (λj=>v4.ownBlock=some j) w8 A)=>q.own o8 (λk hk e=>by
          have h1:=(o8.lt k hk).1;have h5:k<wj.heap.size:=(a9.o.lt k e).2;have h6:=q7.size
          omega)
         obtain ⟨L8,be,d6,HN⟩:=ag l8 bI cl hN;clear o8 l8 bI cl k8 k7 q8 q7 q1 hX hN uP uR a9 b3;go_wp2
         go_loopw [0,16] (λH y wr=>∃i:Nat,i<=N/\y=QZ i/\ip wr base H (l4++(X.take i).map (fy st))/\jF w8 v4 wr H) (λ_ y _=>N-(intOf y).toNat)
         .exact ⟨0,PZ _,rfl,by simpa using L8.o,jF.refl _ _⟩
         case round=>
          obtain ⟨i,e2,rfl,l5,A5⟩:=hrel;by_cases dT:i<N
          .have dG:(i:Int)<N:=ap;have e3:IntKind.i64.wrap ((i:Int)+1)=((i+1:Nat):Int):=by rw [P3 _ (by have:=aR.o;omega)];push_cast;rfl
           have oX:=d6.o wr A5.1
           obtain ⟨ga,rfl⟩:∃ga,A8=some (ar ga 0):=by
            obtain ⟨g,e,hv,_⟩:=oX.form ap;simp only [QH] at hv;exact ⟨g,hv.1⟩
           have dn:i<X.length:=by rw [HN.o];exact dT
           obtain ⟨a,ha⟩:=Vb (X[i]);have cs:X[i]?=some a:=by rw [<-ha];simp
           have cf:=Bj oX cs HN.o;have co:X.take (i+1)=X.take i++[a]:=by rw [List.take_succ_eq_append_getElem dn,ha]
           have B:(l4++(X.take i).map (fy st)).length<=8388607:=by
            have:=cy.o;have:=aR.o;simp only [Qt,List.length_map,Qy];omega
           obtain ⟨snd,ad,bn,bw,bd,bf,bs,bv,bl⟩:=a;have c0:wr.cell? (ar ga (i*9))=some (.bool snd):=cf 0 ap;have c1:wr.cell? (ar ga (i*9+1))=some (.bool ad):=cf 1 ap;have c2:wr.cell? (ar ga (i*9+2))=some (Vd bn):=cf 2 ap;have c3:wr.cell? (ar ga (i*9+3))=some (Vd bw):=cf 3 ap;have c4:wr.cell? (ar ga (i*9+4))=some (Vd bd):=cf 4 ap;have c5:wr.cell? (ar ga (i*9+5))=some (Vd bf):=cf 5 ap;have c6:wr.cell? (ar ga (i*9+6))=some (Vd bs):=cf 6 ap;have c7:wr.cell? (ar ga (i*9+7))=some (Vd bv):=cf 7 ap;have c8:wr.cell? (ar ga (i*9+8))=some (Vd bl):=cf 8 ap;obtain ⟨Av,cv,rfl,_⟩:=aC l5;obtain ⟨n,hn⟩:=Vb ((l4++(X.take i).map (fy st)).length);have cr:wr.ownsRow base 191 12 (.slice Av n cv) n (cE (l4++(X.take i).map (fy st))):=by rw [<-hn];exact l5
           rw [hn] at B A5 |-;have Z:=A5.1.size;obtain ⟨bN,L5,cc,V⟩:=ag A5 cr co hn;clear oX cf l5 cr A5 co cs hn ha
           cases snd
           .go_wp2_with (at_builtin;refine iu iV _ rfl (.tmp 72) (.tmp 80) rfl base (.slice Av n cv) n _ rfl L5.o [QZ 4,Vd st,QZ 0,.bool false,.bool ad,Vd bn,Vd bw,Vd bd,Vd bf,Vd bs,Vd bv,Vd bl] rfl rfl V5 ap V2 (P4 (P4 b0.o be.o.1.size) Z) ?_);intro g6 cM w6 C D;obtain ⟨R,U⟩:=ae C (bN.o.trans D);clear C D;go_wp2;go_roundw
            .exact ⟨i+1,ap,Vc,by unfold ip;rw [cc.o,List.map_append,<-Qz,Qt,V.o,List.map_cons,List.map_nil,fQ,List.map_take];exact R.o,U.o⟩
            .simp [intOf];omega
           .go_wp2_with (at_builtin;refine iu iV _ rfl (.tmp 72) (.tmp 80) rfl base (.slice Av n cv) n _ rfl L5.o [QZ 3,Vd st,QZ 0,.bool true,.bool ad,Vd bn,Vd bw,Vd bd,Vd bf,Vd bs,Vd bv,Vd bl] rfl rfl V5 ap V2 (P4 (P4 b0.o be.o.1.size) Z) ?_);intro g6 cM w6 C D;obtain ⟨R,U⟩:=ae C (bN.o.trans D);clear C D;go_wp2;go_roundw
            .exact ⟨i+1,ap,Vc,by unfold ip;rw [cc.o,List.map_append,<-Qz,Qt,V.o,List.map_cons,List.map_nil,fQ,List.map_take];exact R.o,U.o⟩
            .simp [intOf];omega
          .obtain rfl:N=i:=ap;have dG:¬((N:Int)<N):=ap;have e0:IntKind.i64.wrap ((j:Int)+1)=((j+1:Nat):Int):=by rw [P3 _ ap];push_cast;rfl
           rw [List.take_of_length_le (by rw [HN.o];exact PV _),<-E8.o,<-d0.o,Qz,show ij p x st k lo (j-lo)++cz p x st (k/(p.W-1)) (k%(p.W-1)) j=ij p x st k lo (j+1-lo) from by rw [show j+1-lo=(j-lo)+1 by omega,pV,show lo+(j-lo)=j by omega]] at l5;obtain ⟨L5,B5⟩:=ae l5 (be.o.trans A5);clear l5 A5;go_wp2;go_roundw
           .exact ⟨j+1,ap,ap,Vc,L5.o,B5.o⟩
           .simp [intOf];omega
        .have ao:¬((j:Int)<u):=ap;obtain rfl:u=j:=ap;have e:=ix p x st (lo,u) k;dsimp only at e;rw [Qz,<-e,<-Hk.o,QO] at I;obtain ⟨a9,b3⟩:=ae I A4;clear I A4 e uP;go_wp2;go_roundw
         .exact ⟨r+1,ap,Vc,a9.o,b3.o⟩
         .simp [intOf];omega
      .have d1:¬((r:Int)<m):=ap;obtain rfl:m=r:=ap;rw [<-QM] at l2;obtain ⟨L2,O⟩:=ae l2 A2;clear l2 A2 uR;go_wp2;go_roundw
       .exact ⟨ph+1,ap,Vc,L2.o,O.o⟩
       .simp [intOf];omega
    .have d9:¬((ph:Int)<2):=ap;obtain rfl:ph=2:=ap
     have hrl:(cR p x st (lo,u) (2*m)).length<=100800:=by
      have h1:=j8 (w:=x) (st:=st) (k:=2*m) (g:=(lo,u)) (M:=120) (p:=p) (λph r j=>b6.o ph r j);have h4:2*m*((u-lo)*120)<=14*(60*120):=Nat.mul_le_mul (by have:=Hm.o;omega) (Nat.mul_le_mul ap (PV _));dsimp only at h1;omega
     have aG:(l1++cR p x st (lo,u) (2*m)).length<=8200000:=by
      have:=b9.o;rw [Qt];omega
     obtain ⟨l9,bz⟩:=Vb (l1++cR p x st (lo,u) (2*m));rw [bz] at l2 aG;have uR:=λA (q:aq wr A)=>bx2 (sb (HG.o wr A2.1) A q);have q1:=br wr;obtain ⟨L2,O,d3,c9⟩:=ag l2 A2 bz aG;clear l2 A2 bz aG hrl;go_wp2_with fail;clear uR q1
     go_loopw [0,18] (λH y wr=>∃j:Nat,lo<=j/\j<=u/\y=QZ j/\ip wr base H (l9++dD st lo (j-lo) 5)/\jF J v wr H) (λ_ y _=>u-(intOf y).toNat)
     .exact ⟨lo,PV _,bi,rfl,by simpa [dD] using L2.o,O.o⟩
     case round=>
      obtain ⟨j,hj,cx,rfl,l3,L⟩:=hrel;have uR:=λA (q:aq wr A)=>bx2 (sb (HG.o wr L.1) A q);have q1:=br wr
      have B:(l9++dD st lo (j-lo) 5).length<=8388608:=by
       have:=c9.o;simp only [Qt,jT];omega
      obtain ⟨Av,cv,rfl,_⟩:=aC l3;obtain ⟨n,hn⟩:=Vb ((l9++dD st lo (j-lo) 5).length);have T:wr.ownsRow base 191 12 (.slice Av n cv) n (cE (l9++dD st lo (j-lo) 5)):=by rw [<-hn];exact l3
      rw [hn] at B L |-;have Z:=L.1.size;by_cases bG:j<u
      .have ao:(j:Int)<u:=ap;have cO:IntKind.i64.wrap ((j:Int)+1)=((j+1:Nat):Int):=by rw [P3 _ ap];push_cast;rfl
       have e:l9++dD st lo (j+1-lo) 5=(l9++dD st lo (j-lo) 5)++[(⟨5,st,j,none⟩:Itm)]:=by rw [show j+1-lo=(j-lo)+1 by omega,mT,show lo+(j-lo)=j by omega];simp only [Qz]
       obtain ⟨Q,L3,He,V⟩:=ag L T e hn;clear l3 T L e hn;go_wp2_with (at_builtin;refine iu iV _ rfl (.tmp 90) (.tmp 94) rfl base (.slice Av n cv) n _ rfl L3.o [QZ 5,Vd st,Vd j,.bool false,.bool false,QZ 0,QZ 0,QZ 0,QZ 0,QZ 0,QZ 0,QZ 0] rfl rfl V5 ap V2 (P4 b0.o Z) ?_);intro g6 c6 w6 C D;obtain ⟨R,U⟩:=ae C (Q.o.trans D);clear C D;go_wp2;go_roundw
       .exact ⟨j+1,ap,ap,Vc,by unfold ip;rw [He.o,Qt,V.o,fQ];exact R.o,U.o⟩
       .simp [intOf];omega
      .have ao:¬((j:Int)<u):=ap;obtain rfl:u=j:=ap;obtain ⟨L3,Q,V⟩:=af l3 L hn;clear l3 T L B hn;rw [V.o] at L3
       have b8:l9++dD st lo (u-lo) 5=l++dt p x st (lo,u):=by
        rw [<-d3.o,<-d5.o,dw.o];simp only [Qz]
       have L9:an (ip wr base (.slice Av n cv) (l++dt p x st (lo,u))):=aa (by have:=L3.o;unfold ip at this |-;rw [V.o] at this;rw [<-b8,V.o];exact this);have d2:=aa ((jF.below (v:=v) d8.o).trans Q.o);clear b8 L3;go_wp2;go_ret;exact ⟨_,rfl,L9.out,d2.o⟩
def CH (st k:Nat):List Itm:=(List.range k).map (λa=>(⟨1,st,a,none⟩:Itm))
theorem Gt (st k:Nat):CH st (k+1)=CH st k++[(⟨1,st,k,none⟩:Itm)]:=sB st k
theorem Ki (st k:Nat):(CH st k).length=k:=by simp [CH]
theorem tM (p:Pln) (st x:Nat) (a0 a1 a2 a3 a5 a7 C:Value) (w:R8) (V:bU p) (b6:p.bu<=1048576) (bn:p.wi<=1048576) (hx:x<p.W):Vj 67 #[.agg #[a0,a1,a2,a3,Vd p.W,a5,Vd p.mi,a7,Vd p.bu,Vd p.ck,Vd p.wi,C,Vd p.n],QZ x,Vd st] w λe u=>∃v,Vi e v/\u.ownsRow w.heap.size 191 12 v (aE p x st).length (cE (aE p x st))/\aq w u:=by
 obtain ⟨i,N⟩:=Vb (w.alloc (.cells #[a0,a1,a2,a3,Vd p.W,a5,Vd p.mi,a7,Vd p.bu,Vd p.ck,Vd p.wi,C,Vd p.n] 64));have g0:Vg i w.heap.size #[a0,a1,a2,a3,Vd p.W,a5,Vd p.mi,a7,Vd p.bu,Vd p.ck,Vd p.wi,C,Vd p.n] 64:=by rw [<-N];exact PW w _
 have b5:aq w i:=by rw [<-N];exact (br w).alloc (PV _) _
 have bO:¬((p.W:Int)<=x):=ap;have bN:=V.buks;have bI:=V.grps;have bV:=V.mi;have aM:=V.wi;have bM:w.heap.size<i.heap.size:=PU g0;have T:p.grps=fp p.buks.length p.wi:=rfl;obtain ⟨bA,ad,G0,b0⟩:=ag N b5 g0 T;have tP:=λu (q:aq i u)=>vG (sb g0 u q);have q0:=br i;clear N g0 b5 T;go_enter func67,ntmps67;go_wp2_with fail;rw [bA.o];clear q0
 go_loopw [7,8] (λvv y wr=>∃k:Nat,k<=p.mi/\y=QZ k/\wr.ownsRow i.heap.size 191 12 vv k (cE (CH st k))/\aq i wr) (λ_ y _=>p.mi-(intOf y).toNat)
 .exact ⟨0,PZ _,rfl,Qb _ _ _ _,br i⟩
 case round=>
  obtain ⟨k,hk,rfl,ho,q⟩:=hrel;obtain ⟨Av,cv,rfl,_⟩:=aC ho;have J:=q.size;by_cases L:k<p.mi
  .have a6:(k:Int)<p.mi:=ap;have bh:IntKind.i64.wrap ((k:Int)+1)=((k+1:Nat):Int):=by rw [P3 _ ap];push_cast;rfl
   obtain ⟨Ho,Hq⟩:=ae ho q;clear ho;go_wp2_with (at_builtin;refine aV iV _ rfl (.tmp 27) (.tmp 31) rfl i.heap.size (.slice Av k cv) k _ rfl Ho.o [QZ 1,Vd st,Vd k,.bool false,.bool false,QZ 0,QZ 0,QZ 0,QZ 0,QZ 0,QZ 0,QZ 0] rfl rfl V5 ap V2 J ?_);intro g6 c6 w6 I b3 bz;obtain ⟨bw,a4⟩:=ae I (Hq.o.trans b3);clear I b3 bz q;go_wp2;go_roundw
   .exact ⟨k+1,ap,Vc,by rw [Gt,fQ];exact bw.o,a4.o⟩
   .simp [intOf];omega
  .obtain rfl:p.mi=k:=ap;have a6:¬((p.mi:Int)<p.mi):=ap;have Ho:=aa ho;clear ho;go_wp2;refine HA.g (λu:R8=>aq i u) ?_;refine HA.t ?_ [0,3,4,5] q.drew ?_;refine HA.c 1 (qy p a0 a1 a2 a3 a5 (Vd p.mi) a7 (Vd p.wi) C _ V b6) ?_;rintro e w2 ⟨v2,rfl,o2,k2⟩;have q2:=bt q.drew k2;obtain ⟨D,c2,rfl,_⟩:=aC o2;refine ⟨_,rfl,q2,λ_=>?_⟩;refine HA.t ?_ [2] q2 ?_;refine HA.c 6 (zl p.buks.length p.wi w2 ap aM bn) ?_;rintro e w3 ⟨v3,rfl,o3,k3⟩;have q3:=bt q2 k3;obtain ⟨A3,c3,rfl,_⟩:=aC o3;rw [<-b0.o] at o3 |-;refine ⟨_,rfl,q3,λ_=>?_⟩;refine HA.t ?_ [7] q3 ?_;refine HA.d ?_
   try simp only [Exit.then]
   have b1:=Rd.own o3
   have l3:ip w3 i.heap.size (.slice Av p.mi cv) (CH st p.mi):=by
    unfold ip;rw [Ki];exact az (az (bZ Ho.o 1) k2) k3
   have aR:∀y,A3=some y->w2.heap.size<=y.block/\y.block<w3.heap.size:=λy hy=>kl o3 y hy
   have b7:∀k,(Value.slice Av p.mi cv).ownBlock=some k->k<w2.heap.size:=λk hk=>by
    have:=(Ho.o.lt k hk).2;have:=k2.size;have e:wr.drew.heap.size=wr.heap.size:=rfl;omega
   obtain ⟨bv,L3,b9,a9,Q3⟩:=ah b1 l3 aR b7 q3;clear b1 l3 aR b7 o2 o3 k2 k3 q q2;go_wp2_with fail;obtain ⟨v3,b4⟩:∃v,Value.slice Av p.mi cv=v:=⟨_,rfl⟩;rw [b4] at L3 a9 |-;clear b4
   go_loopw [7,10] (λvv y wr=>∃k:Nat,k<=p.grps.length/\y=QZ k/\ip wr i.heap.size vv (dS p x st k)/\jF w3 v3 wr vv) (λ_ y _=>p.grps.length-(intOf y).toNat)
   .exact ⟨0,PZ _,rfl,by simpa [dS,CH] using L3.o,jF.refl _ _⟩
   case round=>
    obtain ⟨k,hk,rfl,U,D⟩:=hrel;obtain ⟨Aw,cw,rfl,_⟩:=aC U;have R:=nF V x st hk;have J:=P4 Q3.o.size D.1.size;by_cases L:k<p.grps.length
    .have a6:(k:Int)<p.grps.length:=ap;have bh:IntKind.i64.wrap ((k:Int)+1)=((k+1:Nat):Int):=by rw [P3 _ ap];push_cast;rfl
     have ao:=D.1.rd bv.o (λy hy e=>by
      have h1:=(b9.o y hy).1;have h2:=a9.o _ e
      omega)
     have Y:=eO L;obtain ⟨bb,bo,rfl,O⟩:=ao _ _ Y.1;obtain ⟨av,bG,e',H⟩:=ao _ _ Y.2;obtain ⟨rfl,rfl⟩:av=bb/\bG=bo:=by simpa using e'.symm
     rw [<-QO] at H;have Q:=V.grp L;have A:=pY (p:=p) x st L;obtain ⟨lo,hi,bf⟩:∃lo hi,aK p.grps k=(lo,hi):=⟨_,_,rfl⟩;rw [bf] at Q O H A;dsimp only at Q O H;obtain ⟨lk,aP⟩:=Vb (dS p x st k);rw [aP] at U D A R |-;obtain ⟨v2,b2⟩:∃v,Value.slice Aw lk.length cw=v:=⟨_,rfl⟩;rw [b2] at U D |-;have kP:Vg wr w.heap.size #[a0,a1,a2,a3,Vd p.W,a5,Vd p.mi,a7,Vd p.bu,Vd p.ck,Vd p.wi,C,Vd p.n] 64:=(D.1.block _ (by have:=Q3.o.size;omega) (λe=>by have:=(L3.o.lt _ e).1;omega)).trans (sb G0.o w3 Q3.o);have nP:¬v2.ownBlock=some w.heap.size:=λe=>by have:=(U.lt _ e).1;omega
     have nB:¬v2.ownBlock=some av:=λe=>by
      have h1:=b9.o _ rfl;dsimp only at h1;rcases D.2 with h | h
      .rw [h] at e;have h2:=a9.o _ e;omega
      .have h2:=h _ e;omega
     have uP:=λu (q':Keep (λj=>v2.ownBlock=some j) wr u)=>vG ((q'.block _ (PU kP) nP).trans kP);have d0:=λu (q':Keep (λj=>v2.ownBlock=some j) wr u)=>q'.cell O nB;have d1:=λu (q':Keep (λj=>v2.ownBlock=some j) wr u)=>q'.cell H nB;have Z:=Ci p i.heap.size st x lo hi a0 a1 a2 a3 a5 (Vd p.mi) a7 (Vd p.wi) C v2 lk wr.drew V b6 (bZ U 1) J hx Q.1 Q.2 ap;rw [<-A] at Z;obtain ⟨bl,ab⟩:=ae Z D;have q1:Keep (λj=>v2.ownBlock=some j) wr wr.drew:=(Keep.refl _ _).drew;clear Z U D A aP b2 kP O H ao Y e' bf;go_wp2;refine HA.g (λu:R8=>Keep (λj=>v2.ownBlock=some j) wr u) ?_;refine HA.t ?_ [0,1,2,3,4,5,6,7] q1 ?_;refine HA.c 8 bl.o ?_;rintro e w8 ⟨v8,rfl,l8,aG⟩;have A8:jF wr v2 w8 v8:=(jF.below (br wr).drew).trans aG;have q8:Keep (λj=>v2.ownBlock=some j) wr w8:=A8.1;refine ⟨_,rfl,q8,λ_=>?_⟩;refine HA.t ?_ [9] q8 ?_;refine HA.d ?_
     try simp only [Exit.then]
     obtain ⟨L8,B8⟩:=ae l8 (ab.o.trans A8);clear l8 A8 aG q8 q1 uP d0 d1 nP nB;go_wp2;go_roundw
     .exact ⟨k+1,ap,Vc,L8.o,B8.o⟩
     .simp [intOf];omega
    .have a6:¬((p.grps.length:Int)<p.grps.length):=ap;have bi:k=p.grps.length:=ap;subst bi;obtain ⟨n,hn⟩:=Vb ((dS p x st p.grps.length).length);have be:wr.ownsRow i.heap.size 191 12 (.slice Aw n cw) n (cE (dS p x st p.grps.length)):=by rw [<-hn];exact U
     rw [hn] at D R |-
     have e:cE (dS p x st p.grps.length)++[QZ 6,Vd st,QZ 0,.bool false,.bool false,QZ 0,QZ 0,QZ 0,QZ 0,QZ 0,QZ 0,QZ 0]=cE (aE p x st):=by
      have:aE p x st=dS p x st p.grps.length++[(⟨6,st,0,none⟩:Itm)]:=by
       unfold dS aE;rw [QF]
      rw [this,fQ];rfl
     have bd:n+1=(aE p x st).length:=by
      rw [<-hn];unfold dS aE;rw [QF];simp only [Qt,List.length_cons,List.length_nil]
     obtain ⟨ab,L2,He,bs⟩:=ag D be e bd;clear U be D hn e bd;go_wp2_with (at_builtin;refine iu iV _ rfl (.tmp 55) (.tmp 58) rfl i.heap.size (.slice Aw n cw) n _ rfl L2.o [QZ 6,Vd st,QZ 0,.bool false,.bool false,QZ 0,QZ 0,QZ 0,QZ 0,QZ 0,QZ 0,QZ 0] rfl rfl V5 ap V2 J ?_);intro g6 c6 w6 I b8;have a8:w6.ownsRow i.heap.size 191 12 (.slice g6 (n+1) c6) (n+1) (cE (dS p x st p.grps.length)++[QZ 6,Vd st,QZ 0,.bool false,.bool false,QZ 0,QZ 0,QZ 0,QZ 0,QZ 0,QZ 0,QZ 0]):=I;rw [He.o] at a8;have B6:=(ab.o.trans b8).1.toBelow (B:=i.heap.size) Q3.o.size (λj hj=>(L3.o.lt j hj).1);have O6:an (w6.ownsRow w.heap.size 191 12 (.slice g6 (n+1) c6) (aE p x st).length (cE (aE p x st))):=aa (by rw [<-bs.o];exact aF a8 ad.o.size);have a4:=aa (ad.o.trans ((Q3.o.trans B6).mono ad.o.size));clear I a8 b8 B6;go_wp2;go_ret;exact ⟨_,rfl,O6.out,a4.o⟩
def Bz (p:Pln) (k:Nat):Nat:=((p.buks.take k).map λb=>4*(p.W-1)*m7 b p.W p.ck).sum
theorem EF (hk:k<p.buks.length):Bz p (k+1)=Bz p k+4*(p.W-1)*m7 (aK p.buks k) p.W p.ck:=by
 unfold Bz;rw [List.take_succ_eq_append_getElem hk,<-cZ _ _ hk];simp
theorem Kb (i:bU p) (k:Nat):m7 (aK p.buks k) p.W p.ck<=480:=by
 rw [zZ]
 have h:∀n,bH n (λs=>(chR (aK (dy (aK p.buks k) p.W) s) p.ck).length)<=n*60:=by
  intro n
  induction n with
  | zero=>simp [bH]
  | succ n ih=>
   rw [eN];have:=ve (c:=p.ck) (s:=n) i.W1 (i.buk k).1 (i.buk k).2;omega
 have:=h p.W;have:=i.W8;omega
theorem Dz (h:bU p):∀{k:Nat},k<=p.buks.length->Bz p k<=k*13440
 | 0,_=>by simp [Bz]
 | k+1,hk=>by
  rw [EF ap];have h1:=Dz h (k:=k) ap;have i:=Kb h k;have o:4*(p.W-1)*m7 (aK p.buks k) p.W p.ck<=28*480:=Nat.mul_le_mul (by have:=h.W8;omega) i;omega
def tp (p:Pln):Nat:=p.W*(p.mi+2*p.buks.length+1)+Bz p p.buks.length
theorem Dw (h:bU p) (st:Nat):bH p.W (λw=>(aE p w st).length)=tp p:=by
 rw [GE p st h.wi,tp,Bz,QF]
noncomputable def rj (k:Cfg) (n:Int):Bool:=decide (cK k=0)&&(decide (1<=n)&&decide (n<=1048576))
theorem xZ (A:N_) (c:Nat) (k:Cfg) (n:Int) (w:R8) (h:lD w A c k):Vj 73 #[.agg #[.slice A k.sizes.length c,QZ k.shift,QZ k.rate,QZ k.mom,QZ k.workers,QZ k.batch,QZ k.micros,QZ k.steps,QZ k.bucket,QZ k.chunk,QZ k.window,QZ k.cap,QZ n]] w λe N=>Vi e (.bool (rj k n))/\aq w N:=by
 obtain ⟨H,y⟩:=Vb (w.alloc (.cells #[.slice A k.sizes.length c,QZ k.shift,QZ k.rate,QZ k.mom,QZ k.workers,QZ k.batch,QZ k.micros,QZ k.steps,QZ k.bucket,QZ k.chunk,QZ k.window,QZ k.cap,QZ n] 64));have O:Vg H (Ve w) #[.slice A k.sizes.length c,QZ k.shift,QZ k.rate,QZ k.mom,QZ k.workers,QZ k.batch,QZ k.micros,QZ k.steps,QZ k.bucket,QZ k.chunk,QZ k.window,QZ k.cap,QZ n] 64:=by rw [<-y];exact PW w _
 have D:aq w H:=by rw [<-y];exact (br w).alloc (PV _) _
 have hc:=qx A c k H (h.below D);have t0:=λN q=>vG (sb O N q);obtain ⟨x,i,I⟩:=af y D hc;have J:=br H;clear y O D hc h;unfold rj;obtain ⟨v,u⟩:=Vb (cK k);rw [u] at I |-;clear u;by_cases h1:v=0
 .by_cases Q:1<=n
  .by_cases R:n<=1048576
   .go_enter func73,ntmps73;go_wp2_with fail;rw [x.o];refine I.o.mono ?_;rintro e L ⟨rfl,p⟩;have C:=bt J p;have B:=aa (i.o.trans (C.mono i.o.size));clear p;go_wp2;go_ret;exact ⟨by simp [h1,Q,R],B.o⟩
   .go_enter func73,ntmps73;go_wp2_with fail;rw [x.o];refine I.o.mono ?_;rintro e L ⟨rfl,p⟩;have C:=bt J p;have B:=aa (i.o.trans (C.mono i.o.size));clear p;go_wp2;go_ret;exact ⟨by rw [show decide (n<=1048576)=false from QT ap];simp,B.o⟩
  .go_enter func73,ntmps73;go_wp2_with fail;rw [x.o];refine I.o.mono ?_;rintro e L ⟨rfl,p⟩;have C:=bt J p;have B:=aa (i.o.trans (C.mono i.o.size));clear p;go_wp2;go_ret;exact ⟨by rw [show decide (1<=n)=false from QT ap];simp,B.o⟩
 .go_enter func73,ntmps73;go_wp2_with fail;rw [x.o];refine I.o.mono ?_;rintro e L ⟨rfl,p⟩;have C:=bt J p;have B:=aa (i.o.trans (C.mono i.o.size));clear p;go_wp2;go_ret;exact ⟨by simp [h1],B.o⟩
def Ds (k:Cfg) (n:Int) (r:Bool):Prop:=r=true->n<=60/\k.workers<=8/\k.micros<=20/\k.steps<=12
def PR (q:Prop) (w:R8) (e:Ending) (h:R8):Prop:=(∃b:Bool,e=.returned (.bool b)/\(b=true->q))/\aq w h
theorem Cm (A:N_) (c:Nat) (k:Cfg) (n:Int) (w:R8) (h:lD w A c k):Vj 75 #[.agg #[.slice A k.sizes.length c,QZ k.shift,QZ k.rate,QZ k.mom,QZ k.workers,QZ k.batch,QZ k.micros,QZ k.steps,QZ k.bucket,QZ k.chunk,QZ k.window,QZ k.cap,QZ n]] w (PR (Ds k n (rj k n)) w):=by
 obtain ⟨D,x⟩:=Vb (w.alloc (.cells #[.slice A k.sizes.length c,QZ k.shift,QZ k.rate,QZ k.mom,QZ k.workers,QZ k.batch,QZ k.micros,QZ k.steps,QZ k.bucket,QZ k.chunk,QZ k.window,QZ k.cap,QZ n] 64));have Q:Vg D (Ve w) #[.slice A k.sizes.length c,QZ k.shift,QZ k.rate,QZ k.mom,QZ k.workers,QZ k.batch,QZ k.micros,QZ k.steps,QZ k.bucket,QZ k.chunk,QZ k.window,QZ k.cap,QZ n] 64:=by rw [<-x];exact PW w _
 have C:aq w D:=by rw [<-x];exact (br w).alloc (PV _) _
 have hc:=xZ A c k n D (h.below C);have t0:=λU q=>vG (sb Q U q);obtain ⟨p,i,B⟩:=af x C hc;have H:=br D;clear x Q C hc h;obtain ⟨r,hr⟩:=Vb (rj k n);rw [hr] at B |-;clear hr;obtain ⟨L,R⟩:=Vb k.sizes.length;rw [R] at p B t0 |-;clear R;by_cases hl:(L:Int)<=40
 .have J:¬(40<(L:Int)):=ap
  cases r with
  | false=>
   go_enter func75,ntmps75;go_wp2_with fail;rw [p.o];refine B.o.mono ?_;rintro e I ⟨rfl,u⟩;have y:=bt H u;have v:=aa (i.o.trans (y.mono i.o.size));clear u;go_wp2;go_ret;exact ⟨⟨_,rfl,λ_ h=>by cases h⟩,v.o⟩
  | true=>
   have fin:∀b:Bool,(b=true->n<=60/\k.workers<=8/\k.micros<=20/\k.steps<=12)->b=true->Ds k n true:=λb hb N _=>hb N;have Fin:=aa fin;clear fin;by_cases h1:n<=60
   .by_cases O:k.workers<=8
    .by_cases T:k.micros<=20
     .go_enter func75,ntmps75;go_wp2_with fail;rw [p.o];refine B.o.mono ?_;rintro e I ⟨rfl,u⟩;have y:=bt H u;have v:=aa (i.o.trans (y.mono i.o.size));clear u;go_wp2;go_ret;exact ⟨⟨_,rfl,Fin.o _ (λhb=>⟨h1,O,T,by simpa using hb⟩)⟩,v.o⟩
     .go_enter func75,ntmps75;go_wp2_with fail;rw [p.o];refine B.o.mono ?_;rintro e I ⟨rfl,u⟩;have y:=bt H u;have v:=aa (i.o.trans (y.mono i.o.size));clear u;go_wp2;go_ret;exact ⟨⟨_,rfl,λhb=>by simp [T] at hb⟩,v.o⟩
    .go_enter func75,ntmps75;go_wp2_with fail;rw [p.o];refine B.o.mono ?_;rintro e I ⟨rfl,u⟩;have y:=bt H u;have v:=aa (i.o.trans (y.mono i.o.size));clear u;go_wp2;go_ret;exact ⟨⟨_,rfl,λhb=>by simp [O] at hb⟩,v.o⟩
   .go_enter func75,ntmps75;go_wp2_with fail;rw [p.o];refine B.o.mono ?_;rintro e I ⟨rfl,u⟩;have y:=bt H u;have v:=aa (i.o.trans (y.mono i.o.size));clear u;go_wp2;go_ret;exact ⟨⟨_,rfl,λhb=>by simp [h1] at hb⟩,v.o⟩
 .have J:40<(L:Int):=ap;go_enter func75,ntmps75;go_wp2_with fail;rw [p.o]
  try go_wp2
  go_ret;exact ⟨⟨_,rfl,λhb=>by simp at hb⟩,i.o⟩
theorem lZ (h:bU p) (x st:Nat):(aE p x st).length<=8000000:=by
 have h1:=nF h x st (PV p.grps.length);have i:=h.grps;have:(aE p x st).length=(dS p x st p.grps.length).length+1:=by simp [aE,dS];omega
 omega
theorem I8 (p:Pln) (h:Nat) (V a1 Y N O i:Value) (w:R8) (hp:bU p) (a8:p.bu<=1048576) (a6:p.wi<=1048576) (ad:h<=12):Vj 28 #[.agg #[V,a1,Y,N,Vd p.W,O,Vd p.mi,Vd h,Vd p.bu,Vd p.ck,Vd p.wi,i,Vd p.n]] w λe A=>Vi e (QZ ((tp p*h:Nat):Int))/\aq w A:=by
 obtain ⟨H,C⟩:=Vb (w.alloc (.cells #[V,a1,Y,N,Vd p.W,O,Vd p.mi,Vd h,Vd p.bu,Vd p.ck,Vd p.wi,i,Vd p.n] 64));have g0:Vg H (Ve w) #[V,a1,Y,N,Vd p.W,O,Vd p.mi,Vd h,Vd p.bu,Vd p.ck,Vd p.wi,i,Vd p.n] 64:=by rw [<-C];exact PW w _
 have R:aq w H:=by rw [<-C];exact (br w).alloc (PV _) _
 have t0:=λA q=>vG (sb g0 A q);have D:=Dw hp 0;have aP:=hp.W8;have T:=λx=>lZ hp x 0;have L:∀x A,x<p.W->Vj 67 #[.agg #[V,a1,Y,N,Vd p.W,O,Vd p.mi,Vd h,Vd p.bu,Vd p.ck,Vd p.wi,i,Vd p.n],Vd x,QZ 0] A λe U=>∃v,Vi e v/\U.ownsRow A.heap.size 191 12 v (aE p x 0).length (cE (aE p x 0))/\aq A U:=λx A hx=>tM p 0 x V a1 Y N O (Vd h) i A hp a8 a6 hx;obtain ⟨ao,I,J,a9,av⟩:=ah C R D T L;have q0:=br H;clear C g0 R D T L;go_enter func28,ntmps28;go_wp2_with fail;rw [ao.o]
 go_loopw [3,4] (λn y wr=>∃k:Nat,k<=p.W/\y=QZ k/\n=QZ (bH k (λx=>(aE p x 0).length):Nat)/\bH k (λx=>(aE p x 0).length)<=k*8000000/\aq H wr) (λ_ y _=>p.W-(intOf y).toNat)
 .exact ⟨0,PZ _,rfl,by simp [bH],by simp [bH],q0⟩
 case round=>
  obtain ⟨k,hk,rfl,rfl,B,q⟩:=hrel;by_cases a4:k<p.W
  .have a7:(k:Int)<p.W:=ap;have aM:IntKind.i64.wrap ((k:Int)+1)=((k+1:Nat):Int):=by rw [P3 _ ap];push_cast;rfl
   have u:=eN k (λx=>(aE p x 0).length);have hl:=a9.o k;have hc:=av.o k wr a4;obtain ⟨s,hs⟩:∃s,bH k (λx=>(aE p x 0).length)=s:=⟨_,rfl⟩;rw [hs] at B u |-
   try dsimp only at u
   obtain ⟨m,hm⟩:=Vb ((aE p k 0).length);rw [hm] at hl hc u;obtain ⟨Hc,Z⟩:=ae hc u;clear hc u hs hm;go_wp2_with fail;refine Hc.o.mono ?_;rintro e w2 ⟨v2,rfl,o2,k2⟩;obtain ⟨A2,c2,rfl,_⟩:=aC o2;have Q2:=aa (bt q k2);clear o2 k2 q;go_wp2;go_roundw
   .exact ⟨k+1,ap,Vc,by rw [Z.o];push_cast;rfl,by rw [Z.o];omega,Q2.o⟩
   .simp [intOf];omega
  .have a7:¬((k:Int)<p.W):=ap;have Q:k=p.W:=ap;rw [Q] at B |-;rw [J.o] at B |-;obtain ⟨t,ht⟩:=Vb (tp p);rw [ht] at B |-;have ab:t<=64000000:=ap;obtain ⟨y,hy⟩:=Vb (t*h);have Hy:an (tp p*h=y):=aa (by rw [ht];exact hy);have h5:(t:Int)*(h:Int)=(y:Int):=by rw [<-hy];push_cast;rfl
   have aG:y<=64000000*12:=by rw [<-hy];exact Nat.mul_le_mul ab ad
   have w5:IntKind.i64.wrap (y:Int)=y:=P3 _ ap;have HQ:=aa (I.o.trans (q.mono I.o.size));clear hy ht Q;go_wp2;go_ret;exact ⟨bE (by rw [<-Hy.out];push_cast;rfl),HQ.o⟩
def Mb (i:Inp):Prop:=lO i/\(ez i=0->Ds i.cfg i.start.length (rj i.cfg i.start.length)/\i.cfg.steps<=6/\i.data.length<=40)
theorem Mb.sm (h:Mb i) (o:ez i=0):bK i:=by
 have hg:=oE.1 o;obtain ⟨hs,hr⟩:=h;obtain ⟨h1,x,y⟩:=hr o;have hc:=iI.2 hg.c;have p:=Eg hg.c.z;have he:=hg.s;have hn:1<=i.start.length:=by rw [he];exact p
 have hm:=hs.2.1;obtain ⟨A,u,v,_⟩:=h1 (by simp only [rj,hc,Bool.and_eq_true,QV];exact ⟨trivial,ap,ap⟩);exact ⟨hg,ap,u,v,x,y⟩
theorem Cl (A:N_) (c:Nat) (D:N_) (J:Nat) (T:N_) (ct:Nat) (R:N_) (I:Nat) (i:Inp) (w:R8) (h:kJ w A c D T ct R i):Vj 42 #[.agg (aL A c D J T ct R I i)] w (vr (Mb i) w):=by
 obtain ⟨v,u⟩:=Vb (w.alloc (.cells (aL A c D J T ct R I i) 29));have g0:Vg v (Ve w) (aL A c D J T ct R I i) 29:=by rw [<-u];exact PW w _
 have p:aq w v:=by rw [<-u];exact (br w).alloc (PV _) _
 have hf:=C4 A c D J T ct R I i v (h.below p);have U:=λ(hs:lO i) x (q:aq v x)=>iP A c D J T ct R I i x (((h.rd hs).below p).below q);have N:=jl A i.cfg.sizes.length c i.cfg.shift i.cfg.rate i.cfg.mom i.cfg.workers i.cfg.batch i.cfg.micros i.cfg.steps i.cfg.bucket i.cfg.chunk i.cfg.window i.cfg.cap D i.data.length J T i.start.length ct R i.draws.length I;have Q:=λx (q:aq v x)=>Cm A c i.cfg i.start.length x ((h.c.below p).below q);unfold vr Mb;dsimp only [aL] at *;have t0:=λx q=>jB (sb g0 x q);obtain ⟨a1,L,Hf,a4,a3,a0⟩:=ai u p hf U N Q;have q0:=br v;clear u g0 p hf U N Q h;go_enter func42,ntmps42;go_wp2_with fail;rw [a1.o];refine Hf.o.mono ?_;rintro e w1 ⟨⟨b,rfl,hb⟩,Y⟩;have q1:=bt q0 Y;obtain ⟨y,Hb⟩:=ae (L.o.trans (Y.mono L.o.size)) hb;clear hb Y q0
 cases b with
 | false=>
  go_wp2;go_ret;exact ⟨⟨false,rfl,λh=>by cases h⟩,y.o⟩
 | true=>
  go_wp2_with fail;refine (a4.o (Hb.o (by trivial)) w1 q1).mono ?_;rintro e w2 ⟨rfl,k2⟩;have q2:=bt q1 k2;have B:=aa (y.o.trans (k2.mono y.o.size));clear k2 q1;obtain ⟨C,Z⟩:=Vb (ez i);rw [Z];have HC:=aa Z;clear Z;by_cases h0:C=0
  .subst h0;go_wp2_with fail;refine (a3.o w2).mono ?_;rintro e w3 ⟨rfl,k3⟩;have q3:=bt q2 k3;have O:=aa (B.o.trans (k3.mono B.o.size));clear k3 q2;go_wp2_with fail;refine (a0.o w3 q3).mono ?_;rintro e w4 ⟨⟨b2,rfl,V⟩,k4⟩;have q4:=bt q3 k4;obtain ⟨H,a2⟩:=ae (O.o.trans (k4.mono O.o.size)) V;clear V k4 q3
   cases b2 with
   | false=>
    go_wp2;go_ret;exact ⟨⟨false,rfl,λh=>by cases h⟩,H.o⟩
   | true=>
    by_cases h6:i.cfg.steps<=6
    .go_wp2;go_ret;exact ⟨⟨_,rfl,λh=>⟨Hb.o (by trivial),λ_=>⟨a2.o (by trivial),h6,by simp at h;omega⟩⟩⟩,H.o⟩
    .go_wp2;go_ret;exact ⟨.inl rfl,H.o⟩
  .go_wp2;go_ret;exact ⟨⟨true,rfl,λ_=>⟨Hb.o (by trivial),λh=>absurd (HC.o.symm.trans h) h0⟩⟩,B.o⟩
theorem Fa (p:Pln) (st h x:Nat) (A:N_) (L c:Nat) (J I N H u:Int) (w:R8) (hp:bU p) (Q:p.bu<=1048576) (O:p.wi<=1048576) (hx:x<p.W) (a0:st<h):Vj 88 #[.agg #[.slice A L c,QZ J,QZ I,QZ N,Vd p.W,QZ H,Vd p.mi,Vd h,Vd p.bu,Vd p.ck,Vd p.wi,QZ u,Vd p.n],Vd x,Vd st] w λe D=>∃v,Vi e v/\D.ownsRow w.heap.size 191 12 v (aE p x st).length (cE (aE p x st))/\aq w D:=by
 obtain ⟨B,i⟩:=Vb (w.alloc (.cells #[.slice A L c,QZ J,QZ I,QZ N,Vd p.W,QZ H,Vd p.mi,Vd h,Vd p.bu,Vd p.ck,Vd p.wi,QZ u,Vd p.n] 64));have Y:B.heap[w.heap.size]?=some (.cells #[.slice A L c,QZ J,QZ I,QZ N,Vd p.W,QZ H,Vd p.mi,Vd h,Vd p.bu,Vd p.ck,Vd p.wi,QZ u,Vd p.n] 64 (0,0)):=by rw [<-i];exact PW w _
 have C:aq w B:=by rw [<-i];exact (br w).alloc (PV _) _
 have hc:=tM p st x (.slice A L c) (QZ J) (QZ I) (QZ N) (QZ H) (Vd h) (QZ u) B hp Q O hx;have h1:¬((st:Int)<0):=ap;have h2:¬((h:Int)<=st):=ap;have t0:=λD q=>vG (sb Y D q);obtain ⟨R,y,Hc⟩:=af i C hc;have q0:=br B;clear i Y C hc;go_enter func88,ntmps88;go_wp2_with fail;rw [R.o];refine Hc.o.mono ?_;rintro e w1 ⟨v,rfl,Z,U⟩;have fin:=aF Z y.o.size;have V:=y.o.trans (U.mono y.o.size);obtain ⟨Fin,T⟩:=ae fin V;clear fin V Z U;go_wp2;go_ret;exact ⟨v,rfl,Fin.o,T.o⟩
theorem gu:dg prog 29 15:=⟨⟨_,underlying29,rfl⟩,by kernel_rfl⟩
theorem et:dg prog 106 22:=⟨⟨_,underlying106,rfl⟩,by kernel_rfl⟩
theorem gE (w:R8) (X Z:R6) (t u:R9):∃h W1,w.alloc (.cells X t)=h/\h.alloc (.cells Z u)=W1/\Vg W1 w.heap.size X t/\Vg W1 (w.heap.size+1) Z u/\aq w W1/\W1.heap.size=w.heap.size+1+1:=by
 refine ⟨_,_,rfl,rfl,?_,?_,?_,?_⟩
 .exact sb (PW w _) _ ((br _).alloc (PV _) _)
 .have:=PW (w.alloc (.cells X t)) (.cells Z u)
  rwa [show (w.alloc (.cells X t)).heap.size=w.heap.size+1 from Array.size_push _] at this
 .exact ((br w).alloc (PV _) _).alloc V3 _
 .simp
def Mc (l1 h:Q_) (e:Ending):Prop:=∃d:Int,e=.returned (QZ d)/\ -1<=d/\(d<0↔l1=h)
theorem C8 (A1 C:N_) (l1 p:Q_) (c1 c2:Nat) (w:R8) (h1:Rd w A1 (aA .i64 l1)) (J:Rd w C (aA .i64 p)) (R:l1.length<=17592186043904) (N:p.length<=17592186043904):Vj 147 #[.slice A1 l1.length c1,.slice C p.length c2] w λe D=>Mc l1 p e/\∃n,D=w.drewN n:=by
 go_enter func147,ntmps147;go_wp2
 go_loopw [5] (λi wr=>∃k:Nat,k<=l1.length/\k<=p.length/\i=QZ k/\l1.take k=p.take k/\∃n,wr=w.drewN n) (λi _=>l1.length+p.length+1-(intOf i).toNat)
 .exact ⟨0,PZ _,PZ _,rfl,rfl,0,rfl⟩
 case round=>
  obtain ⟨k,I,H,rfl,A,n,rfl⟩:=hrel;have y:=aa A;clear A;by_cases x:k<l1.length
  .by_cases u:k<p.length
   .obtain ⟨U,Y,rfl,T⟩:=h1.num x;obtain ⟨Z,V,rfl,O⟩:=J.num u;have g1:decide ((l1.length:Int)<=(k:Int))=false:=by simp;omega
    have L:decide ((p.length:Int)<=(k:Int))=false:=by simp;omega
    go_wp2
    go_quiet (fail)
    go_wp2
    .have v:(l1.length<=k\/p.length<=k)\/(nth l1 k != nth p k)=true:=by assumption
     have v:(nth l1 k != nth p k)=true:=v.resolve_left ap;have B:=aa v;clear v;go_ret;refine ⟨⟨k,rfl,ap,λh=>ap,λh=>?_⟩,_,World.drewN_drewN _ _ _⟩;subst h;have:=B.o;simp at this
    .have v:(¬l1.length<=k/\¬p.length<=k)/\(nth l1 k != nth p k)=false:=by assumption
     have v:=v.2;have B:=aa v;clear v;go_roundw
     .exact ⟨k+1,ap,ap,Vc,qo x u y.o (by have:=B.o;simpa using this),_,rfl⟩
     .simp [intOf];omega
   .have g1:decide ((l1.length:Int)<=(k:Int))=false:=by simp;omega
    have L:decide ((p.length:Int)<=(k:Int))=true:=by simp;omega
    go_wp2
    go_quiet (fail)
    go_wp2;go_ret;refine ⟨⟨k,rfl,ap,λh=>ap,λh=>?_⟩,_,by first | rfl | exact World.drewN_drewN _ _ _⟩;subst h;omega
  .by_cases u:k<p.length
   .obtain rfl:k=l1.length:=ap;go_wp2
    go_quiet (fail)
    go_wp2;go_ret;refine ⟨⟨l1.length,rfl,ap,λh=>ap,λh=>?_⟩,_,by first | rfl | exact World.drewN_drewN _ _ _⟩;subst h;omega
   .go_wp2;go_ret;refine ⟨⟨-1,rfl,ap,λ_=>?_,λ_=>ap⟩,n,rfl⟩;have Q:k=l1.length:=ap;exact uW ap (by rw [<-Q];exact y.o)
theorem tD (A1 x:N_) (l1 u:Q_) (c1 c2:Nat) (w:R8) (h1:Rd w A1 (aA .i64 l1)) (B:Rd w x (aA .i64 u)) (y:l1.length<=17592186043904) (v:u.length<=17592186043904):Vj 101 #[.slice A1 l1.length c1,.slice x u.length c2] w λe A=>Vi e (.bool (decide (l1=u)))/\∃n,A=w.drewN n:=by
 have p:=C8 A1 x l1 u c1 c2 w h1 B y v;have D:=aa p;clear p;go_enter func101,ntmps101;go_wp2_with fail;refine D.o.mono ?_;rintro e I ⟨⟨d,rfl,C,i⟩,n,rfl⟩;by_cases p:d<0
 .have h:=i.1 p;have H:=aa h;clear h i;go_wp2;go_ret;exact ⟨dC (by rw [QS H.o];first | done | simpa using p),n,rfl⟩
 .have h:¬l1=u:=λe=>p (i.2 e);have H:=aa h;clear h i;go_wp2;go_ret;exact ⟨dC (by rw [QT H.o];first | done | simpa using p),n,rfl⟩
theorem BC (A1 i v x:N_) (p m V T:Q_) (c1 c2 u h:Nat) (w:R8) (h1:cG w A1 p c1) (h2:cG w i m c2) (h3:cG w v V u) (h4:cG w x T h):Vj 65 #[.agg #[.slice A1 p.length c1,.slice i m.length c2],.agg #[.slice v V.length u,.slice x T.length h]] w λe y=>Vi e (.bool (decide (p=V)&&decide (m=T)))/\aq w y:=by
 have J:=λy (q:aq w y)=>tD A1 v p V c1 u y (h1.hr.below q) (h3.hr.below q) h1.hl h3.hl;have L:=λy (q:aq w y)=>tD i x m T c2 h y (h2.hr.below q) (h4.hr.below q) h2.hl h4.hl;obtain ⟨b1,R⟩:=Vb (decide (p=V));obtain ⟨b2,O⟩:=Vb (decide (m=T));obtain ⟨U,C⟩:∃n,p.length=n:=⟨_,rfl⟩;obtain ⟨Y,Q⟩:∃n,m.length=n:=⟨_,rfl⟩;obtain ⟨m1,H⟩:∃n,V.length=n:=⟨_,rfl⟩;obtain ⟨m2,I⟩:∃n,T.length=n:=⟨_,rfl⟩;rw [R,C,H] at J;rw [O,Q,I] at L;rw [R,O,C,Q,H,I];obtain ⟨a1,a2⟩:=ae J L;clear J L R O C Q H I h1 h2 h3 h4;go_enter func65,ntmps65;go_wp2_with fail;have hz:=(Qc (w.alloc (.cells #[.slice A1 U c1,.slice i Y c2] 103)) (.cells #[.slice v m1 u,.slice x m2 h] 103) (Ve w) V3).trans (PW w _);have hy:=PW (w.alloc (.cells #[.slice A1 U c1,.slice i Y c2] 103)) (.cells #[.slice v m1 u,.slice x m2 h] 103);rw [show (w.alloc (.cells #[.slice A1 U c1,.slice i Y c2] 103)).heap.size=Ve w+1 by simp] at hy;have hB:aq w ((w.alloc (.cells #[.slice A1 U c1,.slice i Y c2] 103)).alloc (.cells #[.slice v m1 u,.slice x m2 h] 103)):=((PY _ w).alloc (PV _) _).alloc V3 _;obtain ⟨Z,a0⟩:∃Z,Z=(w.alloc (.cells #[.slice A1 U c1,.slice i Y c2] 103)).alloc (.cells #[.slice v m1 u,.slice x m2 h] 103):=⟨_,rfl⟩;rw [<-a0] at hz hy hB |-;clear a0;refine (a1.o _ hB).mono ?_;rintro e w1 ⟨rfl,d,rfl⟩;have A:=Qa hB d;have D:Vg (Z.drewN d) (Ve w) #[.slice A1 U c1,.slice i Y c2] 103:=hz;have B:Vg (Z.drewN d) (Ve w+1) #[.slice v m1 u,.slice x m2 h] 103:=hy;clear hz hy hB;generalize Z.drewN d=W1 at D B A |-;obtain ⟨⟨z0,z1⟩,zf⟩:=bx2 D;obtain ⟨⟨y0,y1⟩,yf⟩:=bx2 B;have N:=aa A;clear D B A;rcases eD b1 with rfl | rfl
 .go_wp2;go_ret;exact ⟨rfl,N.o⟩
 go_wp2_with fail;refine (a2.o _ N.o).mono ?_;rintro e w2 ⟨rfl,h,rfl⟩;go_wp2;go_ret;exact ⟨by simp,Qa N.o h⟩
theorem ky:dM prog 26 2 (QZ 0) 1 8:=⟨underlying26,info_parts V1,rfl,by decide⟩
theorem tF (A:N_) (n c:Nat) (w:R8) (hn:n<=1048576):Vj 59 #[.slice A n c] w λe I=>∃U,Vi e (.agg #[.slice A n c,.slice U n n])/\I.ownsRow w.heap.size 2 1 (.slice U n n) n (aA .i64 (List.replicate n 0))/\aq w I:=by
 have p:=λI=>nk ky I rfl n ap V2;simp only [fB] at p;have O:=aa p;clear p;have L:=PW w (.cells #[Ra,Ra] 103);have D:aq w (w.alloc (.cells #[Ra,Ra] 103)):=(PY _ w).alloc (PV _) _;have y:=PU L;obtain ⟨V,C,x,u⟩:=O.o (w.alloc (.cells #[Ra,Ra] 103));rw [show (w.alloc (.cells #[Ra,Ra] 103)).heap.size=w.heap.size+1 by simp] at C x;obtain ⟨h,B,H⟩:=af ((u.block w.heap.size y).trans L) (aF (base':=w.heap.size) x ap) (D.trans (u.mono ap));have i:=h.o;obtain ⟨⟨z0,z1⟩,zf⟩:=bx2 i;have Z:=PU i;clear L D x u i y;go_enter func59,ntmps59;go_wp2_with fail;have e1:=QX V w.heap.size 0 _ _ (.slice A n c) h.o;have e2:=QX _ w.heap.size 1 _ _ (Vf (w.heap.size+1) 0 n n) e1;have R:Vg ((V.setCell (ar w.heap.size 0) (.slice A n c)).setCell (ar w.heap.size 1) (Vf (w.heap.size+1) 0 n n)) w.heap.size #[.slice A n c,Vf (w.heap.size+1) 0 n n] 103:=by simpa using e2
 have hk:Keep (λj=>j=w.heap.size) V ((V.setCell (ar w.heap.size 0) (.slice A n c)).setCell (ar w.heap.size 1) (Vf (w.heap.size+1) 0 n n)):=Vk w.heap.size (Vk w.heap.size (Keep.refl _ _) _ (.inr rfl) _) _ (.inr rfl) _;obtain ⟨Q,J⟩:∃Q,Q=(V.setCell (ar w.heap.size 0) (.slice A n c)).setCell (ar w.heap.size 1) (Vf (w.heap.size+1) 0 n n):=⟨_,rfl⟩;rw [<-J] at R hk |-;obtain ⟨⟨r0,Y⟩,rf⟩:=bx2 R;have N:=hk.own B.o (λj T e=>ay h.o V0 B.o (by rw [T,e]));exact Qd (v:=.agg #[.slice A n c,Vf (w.heap.size+1) 0 n n]) (by simp [results,results59,go_sem,r0,Y]) rfl ⟨_,rfl,N,H.o.trans (hk.toBelow H.o.size (λj T=>ap))⟩
def fO (w:R8) (vs:R6) (i:Inp) (x:Nat) (m:Mst):Prop:=∃A c D C T ct R I h v o p B u y H IA ic,vs=#[.slice A i.cfg.sizes.length c,QZ i.cfg.shift,QZ i.cfg.rate,QZ i.cfg.mom,QZ i.cfg.workers,QZ i.cfg.batch,QZ i.cfg.micros,QZ i.cfg.steps,QZ i.cfg.bucket,QZ i.cfg.chunk,QZ i.cfg.window,QZ i.cfg.cap,.slice D i.data.length C,.slice T i.start.length ct,.slice R i.draws.length I,QZ (x:Nat),.slice h i.start.length v,.slice o i.start.length p,.slice B i.start.length u,.slice y m.rc.length H,.slice IA (dA i x).length ic,QZ (bq i x m:Nat)]/\
 gM w A c D T ct R i/\cG w h m.P v/\cG w o m.M p/\cG w B m.G u/\dx rEx 2 w y m.rc/\Rd w IA (cE (dA i x))/\m.P.length=i.start.length/\m.M.length=i.start.length/\m.G.length=i.start.length
theorem fO.below {vs:R6} {x:Nat} (h:fO w vs i x m) (hb:aq w o):fO o vs i x m:=by
 obtain ⟨A,c,D,N,T,ct,R,J,y,U,u,C,L,O,Z,Y,IA,ic,v,h1,p,Q,B,I,V,H⟩:=h;exact ⟨A,c,D,N,T,ct,R,J,y,U,u,C,L,O,Z,Y,IA,ic,v,h1.below hb,p.below hb,Q.below hb,B.below hb,I.below dB hb,V.below hb,H⟩
theorem ta (h:bK i) (x:Nat) (hk:k<=i.cfg.steps.toNat):(iW i x k).length<=48000000:=by
 rw [kD h.ok];have h1:=lZ h.ok x 0;have o:k<=6:=by have:=h.s;omega
 have:=Nat.mul_le_mul o h1;omega
theorem sM (n:Nat):W64 (List.replicate n 0):=by
 intro k hk;rw [dN _ _ hk];simp
def PK (i:Inp) (x:Nat) (A:N_) (c:Nat) (D:N_) (T:N_) (ct:Nat) (R:N_) (w:R8) (e:Ending) (o:R8):Prop:=
 ∃vs,e=.returned (.tuple #[.agg vs,QZ 0])/\vs.size=22/\(vs.toList.all (·.oneCell')=true)/\aq w o/\∀h,Keep (λk=>k<w.heap.size) o h->gM h A c D T ct R i->fO h vs i x (fm i)
theorem KD (l:List Itm):∀u∈cE l,u.oneCell'=true:=by
 intro u i;unfold cE at i;obtain ⟨x,_,h⟩:=List.mem_flatMap.1 i;obtain ⟨k,s,n,a⟩:=x
 cases a<;>simp only [bj,LV,aZ,List.mem_cons,List.not_mem_nil,or_false] at h<;>(repeat (first | (rcases h with rfl | h; · rfl) | (subst h;rfl)))
theorem NU {Q:Nat} {x:Nat} {H:R8} {B:N_} (hn:i.start.length<=60) (O:Keep (λk=>k<w.heap.size) H o) (I:gM o A c D T ct R i) (oM:H.ownsRow w.heap.size 2 1 (.slice B i.start.length i.start.length) i.start.length (aA .i64 (List.replicate i.start.length 0))) (oG:H.ownsRow w.heap.size 2 1 (Vf g 0 i.start.length i.start.length) i.start.length (aA .i64 (List.replicate i.start.length 0))) (hr:Vg H rb #[.slice T i.start.length ct,.slice B i.start.length i.start.length] 103) (hrb:w.heap.size<=rb) (N:H.ownsRow w.heap.size 191 12 v (dA i x).length (cE (dA i x))):fO o #[.slice A i.cfg.sizes.length c,QZ i.cfg.shift,QZ i.cfg.rate,QZ i.cfg.mom,QZ i.cfg.workers,QZ i.cfg.batch,QZ i.cfg.micros,QZ i.cfg.steps,QZ i.cfg.bucket,QZ i.cfg.chunk,QZ i.cfg.window,QZ i.cfg.cap,.slice D i.data.length Q,.slice T i.start.length ct,.slice R i.draws.length U,Vd x,.slice T i.start.length ct,.slice B i.start.length i.start.length,Vf g 0 i.start.length i.start.length,Vf rb 0 1 1,v,QZ 0] i x (fm i):=by
 obtain ⟨IA,ic,rfl,_⟩:=aC N;have C:∀{u:Value} {e size n xs},H.ownsRow w.heap.size e size u n xs->o.ownsRow w.heap.size e size u n xs:=λh=>O.own h λk hk e=>by have:=(h.lt k hk).1;omega
 have Y:bq i x (fm i)=0:=by simp [bq,fm]
 have p:(List.replicate i.start.length (0:Int)).length<=i.start.length:=by simp
 have V:cG o B (List.replicate i.start.length 0) i.start.length:=⟨p,by rw [QA];omega,Rd.own (C oM),sM _⟩;have L:Vg o rb #[.slice T i.start.length ct,.slice B i.start.length i.start.length] 103:=(O.block _ (PU hr) ap).trans hr;refine ⟨A,c,D,Q,T,ct,R,U,T,ct,B,i.start.length,some (ar g 0),i.start.length,some (ar rb 0),1,IA,ic,?_,I,I.t,V,⟨p,by show (List.replicate i.start.length (0:Int)).length<=_;rw [QA];omega,Rd.own (C oG),sM _⟩,?_,Rd.own (C N),rfl,by simp [fm],by simp [fm]⟩
 .rw [Y];rfl
 .refine ⟨[[.slice T i.start.length ct,.slice B i.start.length i.start.length]],λk u Z=>⟨_,_,rfl,by rw [QP,PX _ rb k _ _ _ L];simpa using Z⟩,rfl,by simp,?_⟩;intro j y J
  cases j with
  | succ j=>simp [fm] at J
  | zero=>
   simp only [fm,Qp,Option.some.injEq] at J;subst J;exact ⟨T,ct,B,i.start.length,by simp [bS],I.t,V⟩
theorem NS {V i:R8} {Z:R6} (x:aq h V) (v:V.ownsRow h.heap.size 2 1 (.slice (some (ar g 0)) n n) n xs) {Y:R6} (hr:V.heap[rb]?=some (.cells Y 103 (0,0))) (hb:h.heap.size<=rb) (u:V.heap[b]?=some (.cells Z 106 (0,0))) (o:h.heap.size<=b) (A:i.heap[b]?=some X) (p:Keep (λj=>j=b) V i):i.heap[b]?=some X/\i.ownsRow h.heap.size 2 1 (.slice (some (ar g 0)) n n) n xs/\i.heap[rb]?=some (.cells Y 103 (0,0))/\h.heap.size<=rb/\h.heap.size<=b/\aq h i:=by
 refine ⟨A,p.own v (λk hk e=>ay u V0 v (by rw [hk,e])),(p.block _ (PU hr) (λe=>?_)).trans hr,hb,o,x.trans (p.toBelow x.size (λj y=>by rw [y];exact o))⟩;rw [<-e,hr] at u;simp at u
theorem Cg (A:N_) (c:Nat) (D:N_) (cd:Nat) (T:N_) (ct:Nat) (R:N_) (Z:Nat) (i:Inp) (x:Nat) (w:R8) (h:gM w A c D T ct R i) (hs:bK i) (hx:x<(ax i).W):Vj 46 #[.agg (aL A c D cd T ct R Z i),Vd x] w (PK i x A c D T ct R w):=by
 have hc:=hs.g.c;have ew:(((ax i).W:Nat):Int)=i.cfg.workers:=by have:=hc.w;simp only [ax];omega
 have em:(((ax i).mi:Nat):Int)=i.cfg.micros:=by have:=hc.mi;simp only [ax];omega
 have eu:(((ax i).bu:Nat):Int)=i.cfg.bucket:=by have:=hc.bu;simp only [ax];omega
 have ec:(((ax i).ck:Nat):Int)=i.cfg.chunk:=by have:=hc.ch;simp only [ax];omega
 have ei:(((ax i).wi:Nat):Int)=i.cfg.window:=by have:=hc.wi;simp only [ax];omega
 have en:(ax i).n=i.start.length:=rfl;obtain ⟨s,a4⟩:∃s:Nat,i.cfg.steps=(s:Int):=⟨i.cfg.steps.toNat,by have:=hc.st;omega⟩;have bd:i.cfg.steps.toNat=s:=ap;have bG:s<=6:=by have:=hs.s;omega
 have hn:=hs.n;have bO:¬i.cfg.workers<=(x:Int):=ap;have bN:¬(x:Int)<0:=ap;have a2:=λk (hk:k<=s)=>ta hs x (k:=k) ap;have bb:=λst=>lZ hs.ok x st;have L:=λp=>tF T i.start.length ct p ap;have Y:=λp=>jl A i.cfg.sizes.length c i.cfg.shift i.cfg.rate i.cfg.mom i.cfg.workers i.cfg.batch i.cfg.micros i.cfg.steps i.cfg.bucket i.cfg.chunk i.cfg.window i.cfg.cap D i.data.length cd T i.start.length ct R i.draws.length Z p;have C:=λk (hk:k<s) p=>Fa (ax i) k s x A i.cfg.sizes.length c i.cfg.shift i.cfg.rate i.cfg.mom i.cfg.batch i.cfg.cap p hs.ok (by have:=hc.bu;simp only [ax];omega) (by have:=hc.wi;simp only [ax];omega) hx hk;unfold Vd at C;rw [<-a4] at C;simp only [ew,em,eu,ec,ei,en] at C;have bz:(x:Int)<=1048576:=by have:=hc.w;omega
 obtain ⟨W0,W1,aR,aP,g0,g1,k1, -⟩:=gE w (aL A c D cd T ct R Z i) Re 29 106;have a7:=iP A c D cd T ct R Z i W1 (h.below k1);rw [oE.2 hs.g] at a7;obtain ⟨b9,b5,bh,G0,G1,K1,a0,a5⟩:=ak aR aP a7 g0 g1 k1 L Y;obtain ⟨a6,ad,bX,HT,a8,Hh,Hc⟩:=aj C a2 bb bd a4 h hc;have t4:∀p,aq W1 p->p.cell? (ar w.heap.size 4)=some (QZ i.cfg.workers):=λp q=>PX p w.heap.size 4 _ _ _ (sb g0 p q);have a3:∀p,aq W1 p->p.cell? (ar w.heap.size 13)=some (.slice T i.start.length ct):=λp q=>PX p w.heap.size 13 _ _ _ (sb g0 p q);have tl:=sl g0;have q0:=br W1;clear aR aP g0 g1 a7 h k1 L Y C a2 bb bd a4 ew em eu ec ei en hs hc;go_enter func46,ntmps46;go_wp2_with (refine aQ (b:=w.heap.size) (aL A c D cd T ct R Z i) (by rw [b9.o,b5.o];exact G0.o) gu rfl rfl rfl rfl ?_);rw [b9.o,b5.o];refine bh.o.mono ?_;rintro e w1 ⟨rfl,k2⟩;have q1:=bt q0 k2;clear k2 q0;go_wp2_with fail;refine (a0.o w1).mono ?_;rintro e w2 ⟨Q,rfl,aM,N⟩;have q2:=bt q1 N;have O2:=aa (aF aM q1.size);clear aM N q1;obtain ⟨H,O⟩:=Vb (w2.alloc (.cells #[.slice T i.start.length ct,.slice Q i.start.length i.start.length] 103));have N:aq w2 H:=by rw [<-O];exact (br w2).alloc (PV _) _
 have g3:H.heap[w2.heap.size]?=some (.cells #[.slice T i.start.length ct,.slice Q i.start.length i.start.length] 103 (0,0)):=by rw [<-O];exact PW w2 _
 obtain ⟨Q3,c6,G3,O3⟩:=ag (bt q2 N) O g3 (az O2.o N);go_wp2_with fail;clear g3 N O q2
 go_cut [8] (λv wx=>∃B g rb,v=(au B)/\wx.heap[B]?=some (.cells #[.slice A i.cfg.sizes.length c,QZ i.cfg.shift,QZ i.cfg.rate,QZ i.cfg.mom,QZ i.cfg.workers,QZ i.cfg.batch,QZ i.cfg.micros,QZ i.cfg.steps,QZ i.cfg.bucket,QZ i.cfg.chunk,QZ i.cfg.window,QZ i.cfg.cap,.slice D i.data.length cd,.slice T i.start.length ct,.slice R i.draws.length Z,Vd x,.slice T i.start.length ct,.slice Q i.start.length i.start.length,.slice (some (ar g 0)) i.start.length i.start.length,.slice (some (ar rb 0)) 1 1,Ra,QZ 0] 106 (0,0))/\wx.ownsRow H.heap.size 2 1 (.slice (some (ar g 0)) i.start.length i.start.length) i.start.length (aA .i64 (List.replicate i.start.length 0))/\wx.heap[rb]?=some (.cells #[.slice T i.start.length ct,.slice Q i.start.length i.start.length] 103 (0,0))/\H.heap.size<=rb/\H.heap.size<=B/\aq H wx)
 case first=>
  have s7:=λp q=>bx2 (sb G3.o p q);have bi:=sl G3.o;have b0:=λp (q:aq H p)=>a3 p (bt Q3.o q);have bn:=λp (q:aq H p)=>tl p (bt Q3.o q);clear t4 a3 tl;have q3:aq H H.drew:=(br H).drew;refine HA.g (λp:R8=>aq H p) ?_;refine HA.ld 0 (aL A c D cd T ct R Z i) (λp q=>sb G0.o p (bt Q3.o q)) gu q3 ?_;refine HA.t ?_ [1,2,3,4,5,7] q3 ?_;obtain ⟨U,hU⟩:=Vb H.drew;rw [hU] at q3 |-;clear hU;have q:=q3;clear q3
  repeat' first
   | (refine HA.three 6 8 10 ?_ ?_ ?_)
   | (refine HA.two 8 10 ?_ ?_)
   | (refine HA.two 6 10 ?_ ?_)
   | (refine HA.two 6 8 ?_ ?_)
   | (refine HA.sole 6 ?_)
   | (refine HA.sole 8 ?_)
   | (refine HA.sole 10 ?_)
   | (obtain ⟨V,hV,oG,J⟩:=nk ky U rfl i.start.length ap V2;rw [fB] at oG;replace oG:=aF oG q.size;replace q:=q.trans (J.mono q.size);(try replace gR:=sb gR _ J);(try replace gB:=sb gB _ J);refine HAS.v (i:=6) V (.slice (some (ar U.heap.size 0)) i.start.length i.start.length) q ?_;clear hV J;obtain ⟨U,rfl⟩:∃U,U=V:=⟨_,rfl⟩)
   | (have bs:=q.size;have J:=(br U).alloc (PV _) (.cells #[.slice T i.start.length ct,.slice Q i.start.length i.start.length] 103);have gR:=PW U (.cells #[.slice T i.start.length ct,.slice Q i.start.length i.start.length] 103);(try replace oG:=az oG J);(try replace gB:=sb gB _ J);replace q:=q.alloc q.size (.cells #[.slice T i.start.length ct,.slice Q i.start.length i.start.length] 103);refine HAS.v (i:=8) (U.alloc (.cells #[.slice T i.start.length ct,.slice Q i.start.length i.start.length] 103)) (.slice (some (ar U.heap.size 0)) 1 1) q ?_;obtain ⟨V,hv⟩:=Vb (U.alloc (.cells #[.slice T i.start.length ct,.slice Q i.start.length i.start.length] 103));rw [hv] at J gR q |-;(try rw [hv] at oG);(try rw [hv] at gB);clear hv J;obtain ⟨U,rfl⟩:∃U,U=V:=⟨_,rfl⟩)
   | (have bo:=q.size;have J:=(br U).alloc (PV _) (.cells Re 106);have gB:=PW U (.cells Re 106);(try replace oG:=az oG J);(try replace gR:=sb gR _ J);replace q:=q.alloc q.size (.cells Re 106);refine HAS.v (i:=10) (U.alloc (.cells Re 106)) ((au U.heap.size)) q ?_;obtain ⟨V,hv⟩:=Vb (U.alloc (.cells Re 106));rw [hv] at J gB q |-;(try rw [hv] at oG);(try rw [hv] at gR);clear hv J;obtain ⟨U,rfl⟩:∃U,U=V:=⟨_,rfl⟩)
   | (refine HA.t ?_ [9] q ?_)
   | (refine HA.st 11 gB et (λw9 e9 k9=>?_);have F:=NS q oG gR bs gB bo e9 k9;refine ⟨F.2.2.2.2.2,HA.d ?_⟩;clear s7 bi b0 bn e9 k9;have HF:=aa F;clear F;go_wp2;go_meet;exact ⟨_,_,_,rfl,HF.o⟩)
   | fail
 case rest=>
  obtain ⟨B,g,rb,rfl,h8,oG,hR,hrb,bM,hB⟩:=hcut;have qc:=bt Q3.o hB;have c9:=tl W1 (br W1);have bA:=PU G1.o;have O:=Q3.o.size;have gI:=sb G0.o wc qc;have kI:=λp (q:Keep (λj=>j=B) wc p)=>(q.block w.heap.size (tl wc qc) ap).trans gI;have j7:∀p,Keep (λj=>j=B) wc p->p.cell? (ar w.heap.size 7)=some (QZ i.cfg.steps):=λp q=>PX p w.heap.size 7 _ _ _ (kI p q);have be:=PU h8;have gZ:=sb G1.o wc qc;obtain ⟨H8,OG,HR,HB,KI,GZ⟩:=ai h8 oG hR hB kI gZ;have bw:=Keep.refl (λj=>j=B) wc;have b3:w.heap.size<wc.heap.size:=tl wc qc;clear t4 a3 tl h8 oG hR hB gI kI gZ qc;go_wp2_with fail;clear bw
  go_loopw [9] (λy wr=>∃k:Nat,k<=s/\y=QZ k/\∃v,wr.heap[B]?=some (.cells #[.slice A i.cfg.sizes.length c,QZ i.cfg.shift,QZ i.cfg.rate,QZ i.cfg.mom,QZ i.cfg.workers,QZ i.cfg.batch,QZ i.cfg.micros,QZ i.cfg.steps,QZ i.cfg.bucket,QZ i.cfg.chunk,QZ i.cfg.window,QZ i.cfg.cap,.slice D i.data.length cd,.slice T i.start.length ct,.slice R i.draws.length Z,Vd x,.slice T i.start.length ct,.slice Q i.start.length i.start.length,.slice (some (ar g 0)) i.start.length i.start.length,.slice (some (ar rb 0)) 1 1,v,QZ 0] 106 (0,0))/\wr.ownsRow wc.heap.size 191 12 v (iW i x k).length (cE (iW i x k))/\Keep (λj=>j=B) wc wr) (λy _=>s-(intOf y).toNat)
  .exact ⟨0,PZ _,rfl,_,H8.o,by simpa [iW,cE] using Qb _ _ _ _,Keep.refl _ _⟩
  case round=>
   obtain ⟨k,hk,rfl,v,e8,oI,qk⟩:=hrel;by_cases aG:k<s
   .have bf:(k:Int)<i.cfg.steps:=by rw [a8.o];omega
    have bI:IntKind.i64.wrap ((k:Int)+1)=((k+1:Nat):Int):=by rw [P3 _ ap];push_cast;rfl
    have a9:∀j,j<wc.heap.size->¬v.ownBlock=some j:=λj I e=>by have:=(oI.lt j e).1;omega
    have kb:=λp (q:Keep (λj=>v.ownBlock=some j) wr p)=>(q.block B (PU e8) (a9 B be)).trans e8;have kj:=λp (q:Keep (λj=>v.ownBlock=some j) wr p)=>(q.block w.heap.size (P6 b3 qk.size) (a9 _ b3)).trans (KI.o wr qk);obtain ⟨KB,KJ,OI,QK⟩:=ag kb kj oI qk;go_wp2_with fail;clear j7 qk;have ab:∀p,Keep (λj=>v.ownBlock=some j) wr p->p.cell? (ar B 20)=some v:=λp q=>PX p B 20 _ _ _ (KB.o p q);have q0:Keep (λj=>v.ownBlock=some j) wr wr.drew:=(Keep.refl _ _).drew;refine XA.g 8 (λp:R8=>Keep (λj=>v.ownBlock=some j) wr p) ?_;refine XA.t ?_ [0,1,4,5] q0 ?_;refine XA.ld 2 (aL A c D cd T ct R Z i) (λp q=>KJ.o p q) gu q0 ?_;refine XA.c 3 (a5.o _) ?_;rintro e w3 ⟨rfl,N⟩;refine ⟨_,rfl,q0.trans (Keep.below N),λ_=>?_⟩;have q3:=q0.trans (Keep.below (S:=λj=>v.ownBlock=some j) N);refine XA.c 6 (a6.o k aG w3) ?_;rintro e w4 ⟨u,rfl,oU,k4⟩;have q4:=q3.trans (Keep.below (S:=λj=>v.ownBlock=some j) k4);refine ⟨_,rfl,q4,λ_=>?_⟩;obtain ⟨UA,uc,rfl,_⟩:=aC oU;have b2:=az (az (OI.o.drew) N) k4;have a1:aq wr w4:=((br wr).drew.trans N).trans (k4.mono N.size);have av:=ad.o (k+1) aG;rw [im,Qt] at av;have ao:((iW i x k).length+(aE (ax i) x k).length)*88<=140737488355328:=ap;refine XA.o 7 (λK' hK=>?_);refine bY iV (.tmp 47) (.tmp 52) rfl rfl wc.heap.size v _ _ rfl b2 UA _ uc _ rfl (Rd.own oU) oU.1 (KD _) ao V2 (P4 QK.o.size a1.size) ?_;intro A7 c7 w7 o7 b7 g7 _;have q7:Keep (λj=>v.ownBlock=some j) wr w7:=((Keep.below a1).grown g7 (λk hk=>.inr hk));refine hK.out _ _ q7 λ_=>?_;refine XA.e ?_;simp only [Qq,Qs];have e7:=KB.o w7 q7;have f7:=P8 w7 B 20 _ _ e7;have l7:=PU e7;rw [<-CR,<-im,<-Qt,<-im] at o7;have k8:Keep (λj=>j=B) wc (w7.setCell (ar B 20) (.slice A7 ((iW i x (k+1)).length) c7)):=((QK.o.trans (Keep.below a1)).grown g7 (λk hk=>.inl (by have:=(OI.o.lt k hk).1;omega))).setCell _ (.inr rfl) _;have b1:=ss (i:=20) (v:=.slice A7 ((iW i x (k+1)).length) c7) e7 rfl;have o8:=(Vk B (Keep.refl _ w7) (ar B 20) (.inr rfl) (.slice A7 ((iW i x (k+1)).length) c7)).own o7 (λj I e=>by have:=(o7.lt j I).1;omega);obtain ⟨K8,E8,O8⟩:=af k8 b1 o8;rw [<-Qt,<-im];have cb:=ab w7 q7;clear hK K' k8 b1 o8 o7 b7 g7 q7 e7 ab q0 q3 q4 a1 b2 N k4 av ao oU;go_wp2;go_roundw
    .exact ⟨k+1,ap,Vc,_,by simpa using E8.o,O8.o,K8.o⟩
    .simp [intOf];omega
   .obtain rfl:k=s:=ap;have bf:¬(k:Int)<i.cfg.steps:=by rw [a8.o];omega
    obtain ⟨IA,ic,rfl,_⟩:=aC oI;have gZ:=(qk.block (w.heap.size+1) (PU GZ.o) ap).trans GZ.o;obtain ⟨E8,bl,OI,QK⟩:=ag e8 gZ oI qk;clear e8 gZ oI;go_wp2_with (first | (refine aQ #[.slice A i.cfg.sizes.length c,QZ i.cfg.shift,QZ i.cfg.rate,QZ i.cfg.mom,QZ i.cfg.workers,QZ i.cfg.batch,QZ i.cfg.micros,QZ i.cfg.steps,QZ i.cfg.bucket,QZ i.cfg.chunk,QZ i.cfg.window,QZ i.cfg.cap,.slice D i.data.length cd,.slice T i.start.length ct,.slice R i.draws.length Z,Vd x,.slice T i.start.length ct,.slice Q i.start.length i.start.length,.slice (some (ar g 0)) i.start.length i.start.length,.slice (some (ar rb 0)) 1 1,.slice IA (iW i x k).length ic,QZ 0] E8.o et rfl rfl rfl rfl ?_) | (refine aI bl.o et rfl rfl rfl rfl rfl rfl rfl ?_;intro w9 e9 k9;obtain ⟨E9,K9⟩:=ae e9 k9;clear e9 k9));refine Qd (dV rfl rfl E9.o et) rfl ⟨_,rfl,rfl,rfl,?_,λc8 kk hI=>?_⟩
    .exact ((K1.o.trans (Q3.o.mono K1.o.size)).trans (HB.o.mono ap)).trans ((QK.o.toBelow ap (λj I=>ap)).trans (K9.o.toBelow (by have:=QK.o.size;omega) (λj I=>ap)))
    .have kf:∀{u:Value} {e size n xs base},base<=wc.heap.size->W1.heap.size<=base->wc.ownsRow base e size u n xs->(∀j,u.ownBlock=some j->j≠B)->w9.ownsRow w.heap.size e size u n xs:=λh1 h2 h3 h4=>aF (K9.o.own (QK.o.own h3 (λj I e=>h4 j I e)) (λj I e=>by have:=(h3.lt j I).1;omega)) ap
     have b4:rb≠B:=λe=>by
      have h8:=H8.o;rw [<-e,HR.o] at h8;simp at h8
     have bv:w9.heap[rb]?=some (.cells #[.slice T i.start.length ct,.slice Q i.start.length i.start.length] 103 (0,0)):=((K9.o.block rb (P6 (PU HR.o) QK.o.size) ap).trans (QK.o.block rb (PU HR.o) b4)).trans HR.o;have hT:=HT.o;have b6:=aF (base':=w.heap.size) (K9.o.own OI.o (λj I e=>by have:=(OI.o.lt j I).1;omega)) ap;rw [<-hT] at b6 |-;exact NU hn kk hI (kf (by have:=HB.o.size;have:=Q3.o.size;omega) (PV _) (az O3.o HB.o) (λj I=>by have:=(O3.o.lt j I).2;omega)) (kf HB.o.size O OG.o (λj I e=>ay H8.o V0 OG.o (by rw [I,e]))) bv ap b6
theorem jk:dg prog 191 12:=⟨⟨_,underlying191,rfl⟩,by kernel_rfl⟩
theorem lH (y:Itm):dg prog 191 (bj y).length:=by rw [jz];exact jk
theorem mU (y:Itm):∀u∈bj y,u.oneCell'=true:=λu h=>KD [y] u (by simpa [cE] using h)
theorem AC {l:List Itm} (h:Rd w A (cE l)) {y:Itm} (u:l[k]?=some y):∃b o,A=some (ar b o)/\w.rangeAt b (o+k*12) (bj y):=by
 obtain ⟨b,o,hA,hc⟩:=Ec h u;refine ⟨b,o,hA,λj v i=>?_⟩;have p:=(Qu.1 i).1;rw [jz] at p;rw [QO,hc j p,i]
theorem Fj {vs:R6} {x:Nat} (w:R8) (h:fO w vs i x m) (hs:bK i) (ab:bq i x m<=(dA i x).length):Vj 53 #[.agg vs] w λe H=>∃v,Vi e v/\H.ownsRow w.heap.size 3 1 v (oV (dA i x) (bq i x m) (ax i).buks.length).length (aA .i64 (eg (oV (dA i x) (bq i x m) (ax i).buks.length)))/\aq w H:=by
 obtain ⟨A,c,D,cd,T,ct,R,cr,PA,pc,MA,mc,GA,gc,SA,sc,IA,ic,rfl,hI,hP,hM,hG,hR,a3,hl⟩:=h;have hc:=hs.g.c;have ew:(((ax i).W:Nat):Int)=i.cfg.workers:=by have:=hc.w;simp only [ax];omega
 have eu:(((ax i).bu:Nat):Int)=i.cfg.bucket:=by have:=hc.bu;simp only [ax];omega
 have ec:(((ax i).ck:Nat):Int)=i.cfg.chunk:=by have:=hc.ch;simp only [ax];omega
 have en:(ax i).n=i.start.length:=rfl;have a4:(dA i x).length<=48000000:=ta hs x (PV _);have a6:=hs.ok.buks;have L:=λH=>jl A i.cfg.sizes.length c i.cfg.shift i.cfg.rate i.cfg.mom i.cfg.workers i.cfg.batch i.cfg.micros i.cfg.steps i.cfg.bucket i.cfg.chunk i.cfg.window i.cfg.cap D i.data.length cd T i.start.length ct R i.draws.length cr H;have I:=λH=>qy (ax i) (.slice A i.cfg.sizes.length c) (QZ i.cfg.shift) (QZ i.cfg.rate) (QZ i.cfg.mom) (QZ i.cfg.batch) (QZ i.cfg.micros) (QZ i.cfg.steps) (QZ i.cfg.window) (QZ i.cfg.cap) H hs.ok (by have:=hc.bu;simp only [ax];omega);unfold Vd at I;simp only [ew,eu,ec,en] at I;obtain ⟨nb,a2⟩:=Vb ((ax i).buks.length);obtain ⟨dn,a1⟩:=Vb (bq i x m);obtain ⟨p,a0⟩:=Vb (dA i x);rw [a2] at I a6 |-;rw [a0] at ab a3 a4 |-;rw [a1] at ab |-;obtain ⟨U,V⟩:∃U,w.alloc (.cells #[.slice A i.cfg.sizes.length c,QZ i.cfg.shift,QZ i.cfg.rate,QZ i.cfg.mom,QZ i.cfg.workers,QZ i.cfg.batch,QZ i.cfg.micros,QZ i.cfg.steps,QZ i.cfg.bucket,QZ i.cfg.chunk,QZ i.cfg.window,QZ i.cfg.cap,.slice D i.data.length cd,.slice T i.start.length ct,.slice R i.draws.length cr,Vd x,.slice PA i.start.length pc,.slice MA i.start.length mc,.slice GA i.start.length gc,.slice SA m.rc.length sc,.slice IA p.length ic,Vd dn] 106)=U:=⟨_,rfl⟩;have g0:U.heap[w.heap.size]?=some (.cells #[.slice A i.cfg.sizes.length c,QZ i.cfg.shift,QZ i.cfg.rate,QZ i.cfg.mom,QZ i.cfg.workers,QZ i.cfg.batch,QZ i.cfg.micros,QZ i.cfg.steps,QZ i.cfg.bucket,QZ i.cfg.chunk,QZ i.cfg.window,QZ i.cfg.cap,.slice D i.data.length cd,.slice T i.start.length ct,.slice R i.draws.length cr,Vd x,.slice PA i.start.length pc,.slice MA i.start.length mc,.slice GA i.start.length gc,.slice SA m.rc.length sc,.slice IA p.length ic,Vd dn] 106 (0,0)):=by rw [<-V];exact PW w _
 have k0:aq w U:=by rw [<-V];exact (br w).alloc (PV _) _
 have bi:∀H,aq U H->H.cell? (ar w.heap.size 20)=some (.slice IA p.length ic):=λH q=>PX H w.heap.size 20 _ _ _ (sb g0 H q);have bh:∀H,aq U H->H.cell? (ar w.heap.size 21)=some (Vd dn):=λH q=>PX H w.heap.size 21 _ _ _ (sb g0 H q);have tl:=sl g0;obtain ⟨b4,G0,K0,a7,ao,b3,a8,b5⟩:=ak V g0 k0 L I (a3.below k0) a6 a4;clear V g0 k0 L I hI hP hM hG hR a3 hl ew eu ec en hs hc a2 a1 a0 a6 a4;go_enter func53,ntmps53;go_wp2_with fail;rw [b4.o]
 go_loopw [3,4] (λy3 y4 wr=>∃j:Nat,j<=nb/\y4=QZ j/\wr.ownsRow U.heap.size 3 1 y3 (oV p dn j).length (aA .i64 (eg (oV p dn j)))/\aq U wr) (λ_ y _=>nb-(intOf y).toNat)
 .exact ⟨0,PZ _,rfl,by rw [show oV p dn 0=[] by simp [oV]];exact Qb _ _ _ _,br U⟩
 case round=>
  obtain ⟨j,Q,rfl,ho,q⟩:=hrel;have Ho:=aa ho;clear ho;go_wp2_with (refine aQ (aL A c D cd T ct R cr i) (sb G0.o _ q) gu rfl rfl rfl rfl ?_);refine (a7.o _).mono ?_;rintro e w1 ⟨rfl,k1⟩;go_wp2_with fail;refine (ao.o w1).mono ?_;rintro e w2 ⟨v,rfl,ob,k2⟩;obtain ⟨BA,bc,rfl,_⟩:=aC ob;have q2:=(q.trans (k1.mono q.size)).trans (k2.mono (P4 q.size k1.size));have a9:=aa (az (az Ho.o k1) k2);clear ob k1 k2 q;by_cases b9:j<nb
  .have b0:(j:Int)<nb:=ap;have b8:IntKind.i64.wrap ((j:Int)+1)=((j+1:Nat):Int):=by have:=a8.o;rw [P3 _ ap];push_cast;rfl
   go_wp2
   go_loopw [5,6] (λy5 y6 wr=>∃k:Nat,k<=dn/\y6=QZ k/\y5=.bool (vB p k j)/\aq w2 wr) (λ_ y _=>dn-(intOf y).toNat)
   .exact ⟨0,PZ _,rfl,rfl,br w2⟩
   case round=>
    obtain ⟨k,hk,rfl,rfl,q3⟩:=hrel;have q4:=q2.trans (q3.mono q2.size);by_cases bf:k<dn
    .have aR:(k:Int)<dn:=ap;have b6:(k:Int)<p.length:=ap;have bb:¬(k:Int)<0:=ap;have b7:IntKind.i64.wrap ((k:Int)+1)=((k+1:Nat):Int):=by have:=b5.o;rw [P3 _ ap];push_cast;rfl
     obtain ⟨y,hy⟩:∃y,p[k]?=some y:=⟨_,Qv ap⟩;obtain ⟨ib,io,hA,O⟩:=AC (b3.o.below q4) hy;subst hA;obtain ⟨N,u⟩:=ae (GG hy j) q3;clear hy;by_cases h2:y.kind=2
     .have aM:(y.kind:Int)=2:=ap;have H2:=aa h2;clear h2;by_cases hn:y.n=j
      .have a5:(y.n:Int)=j:=ap;have Y:=aa hn;clear hn;go_wp2_with (first | (refine fu O (lH y) rfl rfl rfl ?_) | (refine aI (PW _ _) (lH y) rfl rfl rfl rfl V3 (by simp [jz]) (List.all_eq_true.2 (mU y)) ?_;intro B C J;have c0:B.cell? (ar wr.heap.size 0)=some (Vd y.kind):=PX B wr.heap.size 0 _ _ _ C;have c2:B.cell? (ar wr.heap.size 2)=some (Vd y.n):=PX B wr.heap.size 2 _ _ _ C;have Z:=aa ((u.o.alloc u.o.size _).trans (J.toBelow (u.o.alloc u.o.size _).size (λj Q=>by rw [Q];exact u.o.size)));clear C J));go_roundw;(case rel=>exact ⟨k+1,ap,Vc,by rw [N.o];simp [jw,H2.o,Y.o],Z.o⟩);(case measure=>simp [intOf];omega)
      .have a5:¬(y.n:Int)=j:=ap;have Y:=aa hn;clear hn;go_wp2_with (first | (refine fu O (lH y) rfl rfl rfl ?_) | (refine aI (PW _ _) (lH y) rfl rfl rfl rfl V3 (by simp [jz]) (List.all_eq_true.2 (mU y)) ?_;intro B C J;have c0:B.cell? (ar wr.heap.size 0)=some (Vd y.kind):=PX B wr.heap.size 0 _ _ _ C;have c2:B.cell? (ar wr.heap.size 2)=some (Vd y.n):=PX B wr.heap.size 2 _ _ _ C;have Z:=aa ((u.o.alloc u.o.size _).trans (J.toBelow (u.o.alloc u.o.size _).size (λj Q=>by rw [Q];exact u.o.size)));clear C J));go_roundw;(case rel=>exact ⟨k+1,ap,Vc,by rw [N.o];simp [jw,H2.o,Y.o],Z.o⟩);(case measure=>simp [intOf];omega)
     .by_cases h5:y.kind=5
      .have aM:(y.kind:Int)=5:=ap;have H2:=aa h5;clear h2 h5;by_cases hn:y.n=j
       .have a5:(y.n:Int)=j:=ap;have Y:=aa hn;clear hn;go_wp2_with (first | (refine fu O (lH y) rfl rfl rfl ?_) | (refine aI (PW _ _) (lH y) rfl rfl rfl rfl V3 (by simp [jz]) (List.all_eq_true.2 (mU y)) ?_;intro B C J;have c0:B.cell? (ar wr.heap.size 0)=some (Vd y.kind):=PX B wr.heap.size 0 _ _ _ C;have c2:B.cell? (ar wr.heap.size 2)=some (Vd y.n):=PX B wr.heap.size 2 _ _ _ C;have Z:=aa ((u.o.alloc u.o.size _).trans (J.toBelow (u.o.alloc u.o.size _).size (λj Q=>by rw [Q];exact u.o.size)));clear C J));go_roundw;(case rel=>exact ⟨k+1,ap,Vc,by rw [N.o];simp [jw,H2.o,Y.o],Z.o⟩);(case measure=>simp [intOf];omega)
       .have a5:¬(y.n:Int)=j:=ap;have Y:=aa hn;clear hn;go_wp2_with (first | (refine fu O (lH y) rfl rfl rfl ?_) | (refine aI (PW _ _) (lH y) rfl rfl rfl rfl V3 (by simp [jz]) (List.all_eq_true.2 (mU y)) ?_;intro B C J;have c0:B.cell? (ar wr.heap.size 0)=some (Vd y.kind):=PX B wr.heap.size 0 _ _ _ C;have c2:B.cell? (ar wr.heap.size 2)=some (Vd y.n):=PX B wr.heap.size 2 _ _ _ C;have Z:=aa ((u.o.alloc u.o.size _).trans (J.toBelow (u.o.alloc u.o.size _).size (λj Q=>by rw [Q];exact u.o.size)));clear C J));go_roundw;(case rel=>exact ⟨k+1,ap,Vc,by rw [N.o];simp [jw,H2.o,Y.o],Z.o⟩);(case measure=>simp [intOf];omega)
      .have aM:¬(y.kind:Int)=2:=ap;have bd:¬(y.kind:Int)=5:=ap;obtain ⟨H2,Y⟩:=ae h2 h5;clear h2 h5;go_wp2_with (first | (refine fu O (lH y) rfl rfl rfl ?_) | (refine aI (PW _ _) (lH y) rfl rfl rfl rfl V3 (by simp [jz]) (List.all_eq_true.2 (mU y)) ?_;intro B C J;have c0:B.cell? (ar wr.heap.size 0)=some (Vd y.kind):=PX B wr.heap.size 0 _ _ _ C;have c2:B.cell? (ar wr.heap.size 2)=some (Vd y.n):=PX B wr.heap.size 2 _ _ _ C;have Z:=aa ((u.o.alloc u.o.size _).trans (J.toBelow (u.o.alloc u.o.size _).size (λj Q=>by rw [Q];exact u.o.size)));clear C J));go_roundw;(case rel=>exact ⟨k+1,ap,Vc,by rw [N.o];simp [jw,H2.o,Y.o],Z.o⟩);(case measure=>simp [intOf];omega)
    .obtain rfl:k=dn:=ap;have aR:¬(k:Int)<k:=ap;obtain ⟨ad,u⟩:=ae (az a9.o q3) q3;have be:=MN p k j
     cases hb:vB p k j with
     | true=>
      obtain ⟨HO,Q4⟩:=ae hb q4;clear hb q2 q3;go_wp2_with (at_builtin;refine aV gi _ rfl (.tmp 47) (.tmp 49) rfl U.heap.size _ _ _ rfl ad.o [Vd j] rfl rfl V5 (by have:=a8.o;omega) (by have:=a8.o;unfold maxLen;omega) Q4.o.size ?_);intro g6 c6 w6 av aG b2;obtain ⟨b1,aP⟩:=ae av (Q4.o.trans aG);clear av aG b2 q4;go_wp2;go_roundw
      .exact ⟨j+1,ap,Vc,by rw [wK,HO.o];simpa [eg,aA] using b1.o,aP.o⟩
      .simp [intOf];omega
     | false=>
      obtain ⟨HO,Q4⟩:=ae hb q4;clear hb q2 q3;go_wp2;go_roundw
      .exact ⟨j+1,ap,Vc,by rw [wK,HO.o];simpa using ad.o,Q4.o⟩
      .simp [intOf];omega
  .obtain rfl:j=nb:=ap;have b0:¬(j:Int)<j:=ap;have Q2:=aa q2;clear q2;go_wp2;go_ret;exact ⟨_,rfl,aF a9.o K0.o.size,K0.o.trans (Q2.o.mono K0.o.size)⟩
theorem GQ (A1 x:N_) (l1 h:Q_) (c1 c2:Nat) (w:R8) (h1:Rd w A1 (aA .i64 l1)) (B:Rd w x (aA .i64 h)) (hl:l1.length<=140737488355328):Vj 49 #[.slice A1 l1.length c1,.slice x h.length c2] w λe A=>Vi e (.bool (decide (l1=h)))/\∃n,A=w.drewN n:=by
 by_cases p:l1.length=h.length
 .have v:((l1.length:Int) != (h.length:Int))=false:=by simp [p]
  go_enter func49,ntmps49;go_wp2
  go_loopw [5,13] (λ_ i wr=>∃k:Nat,k<=l1.length/\i=QZ k/\l1.take k=h.take k/\∃n,wr=w.drewN n) (λ_ i _=>l1.length-(intOf i).toNat)
  .exact ⟨0,PZ _,rfl,rfl,0,rfl⟩
  case round=>
   obtain ⟨k,hk,rfl,o,n,rfl⟩:=hrel;by_cases y:k<h.length
   .obtain ⟨H,L,rfl,D⟩:=h1.num (k:=k) ap;obtain ⟨I,J,rfl,C⟩:=B.num (k:=k) ap;go_wp2
    go_quiet (fail)
    go_wp2
    .have u:(nth l1 k != nth h k)=true:=by assumption
     go_ret;refine ⟨dC ?_,_,World.drewN_drewN _ _ _⟩;symm;rw [QU];rintro rfl;simp at u
    .have u:(nth l1 k != nth h k)=false:=by assumption
     go_roundw
     .exact ⟨k+1,ap,Vc,qo ap ap o (by simpa using u),_,rfl⟩
     .simp [intOf];omega
   .go_wp2;go_ret;refine ⟨dC ?_,n,rfl⟩;symm;rw [decide_eq_true_iff];obtain rfl:k=l1.length:=ap;exact uW p o
 .have v:((l1.length:Int) != (h.length:Int))=true:=by simp;omega
  go_enter func49,ntmps49;go_wp2;go_ret;refine ⟨dC ?_,0,rfl⟩;symm;rw [QU];rintro rfl;exact p rfl
theorem ze (A:N_) (c:Nat) (k:Cfg) (w:R8):Vj 64 #[.agg (dF A c k)] w λe B=>Vi e (.agg #[QZ k.rate,QZ k.mom,QZ k.shift])/\aq w B:=by
 obtain ⟨sz,sh,ra,h,o,ba,mi,st,bu,ch,wi,ca⟩:=k;dsimp only [dF];obtain ⟨L,u⟩:=Vb sz.length;rw [u];clear u;go_enter func64,ntmps64;go_wp2_with fail;have p:=PW (w.alloc (.cells #[.slice A L c,QZ sh,QZ ra,QZ h,QZ o,QZ ba,QZ mi,QZ st,QZ bu,QZ ch,QZ wi,QZ ca] 24)) (.cells #[QZ ra,QZ h,QZ sh] 136);rw [show (w.alloc (.cells #[.slice A L c,QZ sh,QZ ra,QZ h,QZ o,QZ ba,QZ mi,QZ st,QZ bu,QZ ch,QZ wi,QZ ca] 24)).heap.size=Ve w+1 by simp] at p;have hB:aq w ((w.alloc (.cells #[.slice A L c,QZ sh,QZ ra,QZ h,QZ o,QZ ba,QZ mi,QZ st,QZ bu,QZ ch,QZ wi,QZ ca] 24)).alloc (.cells #[QZ ra,QZ h,QZ sh] 136)):=((PY _ w).alloc (PV _) _).alloc V3 _;obtain ⟨x,i⟩:∃x,x=(w.alloc (.cells #[.slice A L c,QZ sh,QZ ra,QZ h,QZ o,QZ ba,QZ mi,QZ st,QZ bu,QZ ch,QZ wi,QZ ca] 24)).alloc (.cells #[QZ ra,QZ h,QZ sh] 136):=⟨_,rfl⟩;rw [<-i] at p hB |-;clear i;obtain ⟨⟨D,C,y⟩,H⟩:=bx3 p;exact Qd (v:=.agg #[QZ ra,QZ h,QZ sh]) (by simp [results,results64,go_sem,D,C,y]) rfl ⟨rfl,hB⟩
theorem Cf (A:N_) (c:Nat) (D:N_) (x:Nat) (T:N_) (ct:Nat) (R:N_) (p:Nat) (i:Inp) (P:N_) (h o:Nat) (w:R8):Vj 98 #[.agg (aL A c D x T ct R p i),.slice P h o] w λe V=>Vi e (.agg #[.slice A i.cfg.sizes.length c,.slice P h o,QZ i.cfg.shift])/\aq w V:=by
 obtain ⟨⟨sz,sh,ra,y,B,ba,mi,st,bu,ch,wi,ca⟩,data,start,draws⟩:=i;dsimp only [aL];obtain ⟨L,J⟩:=Vb sz.length;obtain ⟨N,U⟩:=Vb data.length;obtain ⟨M,H⟩:=Vb start.length;obtain ⟨Q,I⟩:=Vb draws.length;rw [J,U,H,I];clear J U H I;go_enter func98,ntmps98;go_wp2_with fail;have C:=PW (w.alloc (.cells #[.slice A L c,QZ sh,QZ ra,QZ y,QZ B,QZ ba,QZ mi,QZ st,QZ bu,QZ ch,QZ wi,QZ ca,.slice D N x,.slice T M ct,.slice R Q p] 29)) (.cells #[.slice A L c,.slice P h o,QZ sh] 198);rw [show (w.alloc (.cells #[.slice A L c,QZ sh,QZ ra,QZ y,QZ B,QZ ba,QZ mi,QZ st,QZ bu,QZ ch,QZ wi,QZ ca,.slice D N x,.slice T M ct,.slice R Q p] 29)).heap.size=Ve w+1 by simp] at C;have hB:aq w ((w.alloc (.cells #[.slice A L c,QZ sh,QZ ra,QZ y,QZ B,QZ ba,QZ mi,QZ st,QZ bu,QZ ch,QZ wi,QZ ca,.slice D N x,.slice T M ct,.slice R Q p] 29)).alloc (.cells #[.slice A L c,.slice P h o,QZ sh] 198)):=((PY _ w).alloc (PV _) _).alloc V3 _;obtain ⟨O,u⟩:∃O,O=(w.alloc (.cells #[.slice A L c,QZ sh,QZ ra,QZ y,QZ B,QZ ba,QZ mi,QZ st,QZ bu,QZ ch,QZ wi,QZ ca,.slice D N x,.slice T M ct,.slice R Q p] 29)).alloc (.cells #[.slice A L c,.slice P h o,QZ sh] 198):=⟨_,rfl⟩;rw [<-u] at C hB |-;clear u;obtain ⟨⟨Z,Y,r2⟩,rf⟩:=bx3 C;exact Qd (v:=.agg #[.slice A L c,.slice P h o,QZ sh]) (by simp [results,results98,go_sem,Z,Y,r2]) rfl ⟨rfl,hB⟩
theorem LJ (A B:N_) (n c m d:Nat) (w:R8):Vj 66 #[.agg #[.slice A n c,.slice B m d]] w λe p=>Vi e (.agg #[.slice A n c,.slice B m d])/\aq w p:=by
 go_enter func66,ntmps66;go_wp2_with fail;have i:=PW (w.alloc (.cells #[.slice A n c,.slice B m d] 141)) (.cells #[.slice A n c,.slice B m d] 103);rw [show (w.alloc (.cells #[.slice A n c,.slice B m d] 141)).heap.size=Ve w+1 by simp] at i;have hB:aq w ((w.alloc (.cells #[.slice A n c,.slice B m d] 141)).alloc (.cells #[.slice A n c,.slice B m d] 103)):=((PY _ w).alloc (PV _) _).alloc V3 _;obtain ⟨o,h⟩:∃o,o=(w.alloc (.cells #[.slice A n c,.slice B m d] 141)).alloc (.cells #[.slice A n c,.slice B m d] 103):=⟨_,rfl⟩;rw [<-h] at i hB |-;clear h;obtain ⟨⟨x,u⟩,y⟩:=bx2 i;exact Qd (v:=.agg #[.slice A n c,.slice B m d]) (by simp [results,results66,go_sem,x,u]) rfl ⟨rfl,hB⟩
def zD:fl (Q_):=λw h zs=>∃A c,h=[.slice A zs.length c]/\zs.length<=c/\zs.length<=17592186043904/\Rd w A (aA .i64 zs)
theorem vV:Es zD:=λhb ⟨A,c,h1,h,o,i⟩=>⟨A,c,h1,h,o,i.below hb⟩
theorem FB {p:List (Q_)} (h:dx zD 1 w V p) {x:Q_} (D:p[k]?=some x):
  ∃b o A c,V=some (ar b o)/\b<w.heap.size/\Vh w b (o+k) (.slice A x.length c)/\Rd w A (aA .i64 x)/\x.length<=17592186043904/\x.length<=c:=by
 obtain ⟨b,o,H,rfl,hb,B,y,i,_⟩:=h.get V0 D;obtain ⟨A,c,rfl,u,C,v⟩:=y;exact ⟨b,o,A,c,rfl,hb,by rw [Nat.mul_one] at i;exact i,v,C,u⟩
def ub:fl (Q_):=λw h zs=>∃A c,h=[.slice A zs.length c]/\zs.length<=17592186043904/\Rd w A (aA .i64 zs)
theorem BF:Es ub:=λhb ⟨A,c,h1,i,h⟩=>⟨A,c,h1,i,h.below hb⟩
theorem pM {p:List (Q_)} (h:dx ub 1 w V p) {x:Q_} (C:p[k]?=some x):
  ∃b o A c,V=some (ar b o)/\b<w.heap.size/\Vh w b (o+k) (.slice A x.length c)/\Rd w A (aA .i64 x)/\x.length<=17592186043904:=by
 obtain ⟨b,o,D,rfl,hb,y,v,i,_⟩:=h.get V0 C;obtain ⟨A,c,rfl,B,u⟩:=v;exact ⟨b,o,A,c,rfl,hb,by rw [Nat.mul_one] at i;exact i,u,B⟩
theorem xi:∀vals:R7,List.flatten (vals.map λv=>[v])=vals
 | []=>rfl
 | v::l=>by simp [xi l]
theorem yW {α:Type} {R:fl α} {vals:R7} {l:List α} (hA:Rd w A vals) (hl:vals.length=l.length) (h:∀(j:Nat) (x:α),l[j]?=some x->∃v,vals[j]?=some v/\R w [v] x):dx R 1 w A l:=by
 refine ⟨vals.map λv=>[v],by rw [xi];exact hA,by simp [hl],by simp,λj x p=>?_⟩;obtain ⟨v,i,o⟩:=h j x p;have:bS (vals.map λv=>[v]) j=[v]:=by simp [bS,List.getD,i]
 rw [this];exact o
theorem Eb {v p:R8} (h:Keep S w p) (C:Rd v A xs) (hr:Rd w A xs) (B:∀k,S k->v.heap.size<=k):Rd p A xs:=λk u x=>by
 obtain ⟨b,o,rfl,c0⟩:=C k u x;obtain ⟨D,H,i,c1⟩:=hr k u x;injection i with i;injection i with i1 i2 _;subst i1;subst i2
 exact ⟨b,o,rfl,h.cell c1 λhs=>by have h1:=B _ hs;have y:=aB c0;dsimp only at h1 y;omega⟩
theorem BD (W:R8) (b:Nat) {o:Value} (x y:Value) (h:Vg W b #[o,a1] t): Vg ((W.setCell (ar b 0) x).setCell (ar b 1) y) b #[x,y] t/\Keep (λj=>j=b) W ((W.setCell (ar b 0) x).setCell (ar b 1) y):=by
 have p:=QX W b 0 _ _ x h;have i:=QX _ b 1 _ _ y p;exact ⟨by simpa using i,Vk b (Vk b (Keep.refl _ _) _ (.inr rfl) _) _ (.inr rfl) _⟩
theorem IL (W:R8) (b:Nat) {i B:Value} (x y z u:Value) (h:Vg W b #[i,a1,v,B] t): Vg ((((W.setCell (ar b 0) x).setCell (ar b 1) y).setCell (ar b 2) z).setCell (ar b 3) u) b #[x,y,z,u] t/\Keep (λj=>j=b) W ((((W.setCell (ar b 0) x).setCell (ar b 1) y).setCell (ar b 2) z).setCell (ar b 3) u):=by
 have o:=QX W b 0 _ _ x h;have C:=QX _ b 1 _ _ y o;have p:=QX _ b 2 _ _ z C;have A:=QX _ b 3 _ _ u p;exact ⟨by simpa using A,Vk b (Vk b (Vk b (Vk b (Keep.refl _ _) _ (.inr rfl) _) _ (.inr rfl) _) _ (.inr rfl) _) _ (.inr rfl) _⟩
theorem dP {x:Obj} (h:w.heap[b]?=some x) (o:Obj):(w.alloc o).heap[b]?=some x:= (Qc w o b (Array.getElem?_eq_some_iff.1 h).1).trans h
theorem jf (w:R8) (xs:R6) (e:R9) (hn:w.heap.size=n):Vg (w.alloc (.cells xs e)) n xs e:=by
 subst hn;exact PW w _
theorem fF (h:w.heap.size=n) (o:Obj):(w.alloc o).heap.size=n+1:=by simp [h]
def nd (n:Nat) (h:List (Q_)):Q_:=h.foldl eT (List.replicate n 0)
theorem EG (n:Nat) (h:List (Q_)) (x:Q_):nd n (h++[x])=eT (nd n h) x:=by simp [nd]
theorem tw (n:Nat) (h:List (Q_)):(nd n h).length=n:=by
 have:∀(l:List (Q_)) (a:Q_),(l.foldl eT a).length=a.length:=by
  intro l
  induction l with
  | nil=>intro a;rfl
  | cons x l ih=>intro a;rw [List.foldl_cons,ih,gK]
 unfold nd;rw [this];simp
def Oy (i:List (Q_)) (n:Nat) (w:R8) (e:Ending) (h:R8):Prop:=∃v ok,e=.returned (.tuple #[v,.bool ok])/\aq w h/\((∀(j:Nat) (x:Q_),i[j]?=some x->x.length=n)->ok=true/\h.ownsRow w.heap.size 2 1 v n (aA .i64 (nd n i)))
def Po (h:List (Q_)) (n:Nat) (w:R8) (e:Ending) (i:R8):Prop:=∃v ok,e=.returned (.tuple #[v,.bool ok])/\aq w i/\((∀(j:Nat) (x:Q_),h[j]?=some x->x.length=n)->ok=true/\i.ownsRow w.heap.size 2 1 v n (aA .i64 (nd n h)))/\(ok=true->∀(j:Nat) (x:Q_),h[j]?=some x->x.length=n)
theorem BY (V:N_) (v:List (Q_)) (c n:Nat) (x0:Q_) (w:R8) (hV:dx ub 1 w V v) (hl:v.length<=17592186043904) (h0:v[0]?=some x0) (hn:x0.length=n):Vj 96 #[.slice V v.length c] w (Po v n w):=by
 obtain ⟨N,hN⟩:=Vb v.length;have aP:0<N:=by rw [<-hN];exact (Qu.1 h0).1
 obtain ⟨b,o,A0,c0,rfl,hb,p0,_,a4⟩:=pM hV h0;rw [hN] at hl |-;rw [hn,Nat.add_zero] at p0;rw [hn] at a4;have aM:¬(N=0):=ap;have O:=λw'=>nk ky w' rfl n ap V2;simp only [fB] at O;obtain ⟨a2,HV,HN⟩:=af O hV hN;clear O hV hN h0 hn;have a9:(0:Int)<N:=ap;have ao:((N:Int)==0)=false:=by simp;omega
 go_enter func96,ntmps96;obtain ⟨W2,Z,a3,a1⟩:=a2.o w;go_wp2_with fail;obtain ⟨D,a8⟩:=ae a3 a1;clear Z a3 a1 p0 a2
 go_loopw [5] (λx wr=>∃k:Nat,k<=N/\x=QZ k/\wr.ownsRow w.heap.size 2 1 (Vf w.heap.size 0 n n) n (aA .i64 (nd n (v.take k)))/\an (∀(j:Nat) (x:Q_),j<k->v[j]?=some x->x.length=n)/\aq w wr) (λx _=>N-(intOf x).toNat)
 .exact ⟨0,PZ _,rfl,D.o,aa λj x hj=>ap,a8.o⟩
 case round=>
  obtain ⟨W1,rfl⟩:∃W1:R8,W1=wr:=⟨_,rfl⟩;obtain ⟨k,hk,rfl,u,I,C⟩:=hrel;by_cases a6:k<N
  .obtain ⟨x,T⟩:∃x,v[k]?=some x:=⟨_,Qv (by rw [HN.o];exact a6)⟩;have ab:(k:Int)<N:=ap;have g1:dx ub 1 W1 (some (ar b o)) v:=HV.o.below BF C;obtain ⟨b',o',A,cA,e1,aR,p,hA,U⟩:=pM g1 T;injection e1 with e1;injection e1 with e1 e2 _;subst e1;subst e2
   obtain ⟨HX,HO,Q,HA,P⟩:=ah T u C hA p;obtain ⟨m,hm⟩:=Vb x.length;have Hm:=aa hm;rw [hm] at p U;clear T u C hA hm g1;by_cases a0:m=n
   .subst a0;go_wp2_with fail;clear p
    go_loopw [6] (λy wr=>∃t:Nat,t<=m/\y=QZ t/\wr.ownsRow w.heap.size 2 1 (Vf w.heap.size 0 m m) m (aA .i64 (lq (nd m (v.take k)) t (λt=>wrap64 (nth (nd m (v.take k)) t+nth x t))))/\Keep (λi=>i=w.heap.size) W1 wr) (λy _=>m-(intOf y).toNat)
    .exact ⟨0,PZ _,rfl,by rw [iS];exact HO.o,Keep.refl _ _⟩
    case round=>
     obtain ⟨t,ht,rfl,u,R⟩:=hrel;by_cases B:t<m
     .have a7:(t:Int)<m:=ap;have L:t<(nd m (v.take k)).length:=by rw [tw];exact B
      have p1:=cS u B;rw [ii _ L,if_neg ap] at p1;have f1:=u.frozenAt t;obtain ⟨b2,o2,rfl,p3⟩:=HA.o.num (show t<x.length by rw [Hm.o];exact B);have ad:b<w.heap.size:=hb;have p2:Vh wr b (o+k) (Vf b2 o2 m cA):=R.cell (by rw [P.o,Hm.o]) (by dsimp only;omega)
      have aG:b2<w.heap.size:=by
       obtain ⟨_,_,A9,c9,J,_,q9,r9,_⟩:=pM HV.o HX.o;injection J with J;injection J with J H _;subst J;subst H
       have:=(Q.o.cell (p:=(ar b (o+k))) hb).trans q9;rw [P.o] at this;injection this with this
       simp only [QH] at this;rw [<-this.1] at r9;obtain ⟨b8,o8,H,q8⟩:=r9.num (show t<x.length by rw [Hm.o];exact B);injection H with H;injection H with H _ _;subst H
       exact aB q8
      have p4:Vh wr b2 (o2+t) (QZ (nth x t)):=R.cell p3 (by dsimp only;omega);have Y:=jR (l:=nd m (v.take k)) (k:=t) (λt=>wrap64 (nth (nd m (v.take k)) t+nth x t)) L;obtain ⟨HK,D,a5⟩:=af R u Y;clear R u Y L p3;go_wp2
      go_region
      all_goals go_wp2_with fail
      all_goals
       go_roundw
       case rel=>
        refine ⟨t+1,ap,Vc,?_,?_⟩
        .rw [<-a5.o];exact eC (bZ D.o 1) t _
        .exact Keep.setCell (HK.o.drewN 1) (ar w.heap.size t) (.inr rfl) _
       case measure=>exact Va
     .obtain rfl:m=t:=ap;obtain ⟨HK,D⟩:=ae R u;clear R u;go_wp2;go_roundw
      case rel=>
       refine ⟨k+1,ap,Vc,?_,aa λj y hj hy=>?_,Q.o.trans (HK.o.toBelow (by have:=Q.o.size;omega) (λj hj=>ap))⟩
       .rw [List.take_add_one,HX.o,Option.toList_some,EG];have J:=D.o;have H:=jS (nd m (v.take k)) (λt=>wrap64 (nth (nd m (v.take k)) t+nth x t));rw [tw] at H;unfold eT;rw [tw,<-H];exact J
       .rcases Qf j k with h | h
        .exact I.out j y h hy
        .obtain rfl:j=k:=ap;rw [HX.o] at hy;injection hy with hy;rw [<-hy];exact Hm.o
      case measure=>exact Va
   .have av:((m:Int) != (n:Int))=true:=by rw [bne_iff_ne];omega
    go_wp2;go_ret2;refine ⟨_,_,rfl,Q.o,λh=>absurd ?_ a0,λh=>by cases h⟩;rw [<-Hm.o];exact h k x HX.o
  .obtain rfl:k=N:=ap;obtain ⟨HO,Q⟩:=ae u C;clear u C;go_wp2;go_ret2;refine ⟨_,_,rfl,Q.o,λh=>⟨rfl,?_⟩,λ_ j x T=>I.out j x (by have:=(Qu.1 T).1;rw [HN.o] at this;exact this) T⟩;have:=HO.o
   rwa [<-HN.o,QF] at this
theorem E0 (V:N_) (h:List (Q_)) (c n:Nat) (i:Q_) (w:R8) (x:dx ub 1 w V h) (hl:h.length<=17592186043904) (p:h[0]?=some i) (hn:i.length=n):Vj 96 #[.slice V h.length c] w (Oy h n w):=by
 refine (BY V h c n i w x hl p hn).mono ?_;rintro e y ⟨v,ok,h1,o,u, -⟩;exact ⟨v,ok,h1,o,u⟩
theorem Le:dM prog 247 252 (.agg #[QZ 0,QZ 0,QZ 0]) 3 24:=⟨underlying247,info_parts V1,rfl,by decide⟩
theorem zj (A:N_) (sz:Q_) (c:Nat) (w:R8) (hA:Rd w A (aA .i64 sz)) (hg:dX sz):Vj 142 #[.slice A sz.length c] w λe w'=>∃A' c',Vi e (.slice A' (bT sz (sz.length-1)) c')/\w'.ownsRow w.heap.size 252 3 (.slice A' (bT sz (sz.length-1)) c') (bT sz (sz.length-1)) (plV (plL sz (sz.length-1)))/\aq w w':=by
 have ab:=hg.1.1;obtain ⟨b,o,rfl,a6⟩:=hA.num (show 0<sz.length by omega);have J:b<(Ve w):=aB a6;obtain ⟨L,hL⟩:=Vb sz.length;rw [hL] at ab |-;obtain ⟨HA,HG,HL⟩:=af hA hg hL;clear hA hg hL a6;go_enter func142,ntmps142;go_wp2
 go_loopw [3,4] (λv i wr=>∃k:Nat,k+1<=L/\i=QZ k/\wr.ownsRow w.heap.size 252 3 v (bT sz k) (plV (plL sz k))/\aq w wr) (λ_ i _=>L-(intOf i).toNat)
 .exact ⟨0,ap,rfl,Qb _ _ _ _,PY _ _⟩
 case round=>
  obtain ⟨wq,rfl⟩:∃wq:R8,wq=wr:=⟨_,rfl⟩;obtain ⟨k,hk,rfl,T,a9⟩:=hrel;obtain ⟨A0,c9,rfl,_⟩:=aC T;obtain ⟨a2,av⟩:=ae T a9;clear T a9;have b9:IntKind.i64.wrap ((k:Int)+1)=(k:Int)+1:=P3 _ ap;by_cases bd:k+1<L
  .have hR:=HG.o.1;have b5:=HL.o;have z0:=hR.at (k:=k) ap;have z1:=hR.at (k:=k+1) ap;obtain ⟨_,_,e',p0⟩:=HA.o.num (show k<sz.length by omega);injection e' with e';injection e' with e1 e2 _;subst e1;subst e2
   obtain ⟨_,_,e',p1⟩:=HA.o.num (show k+1<sz.length by omega);injection e' with e';injection e' with e1 e2 _;subst e1;subst e2
   rw [z0.2.2] at p0;rw [z1.2.2] at p1;have b7:=HG.o.bound (k:=k+1) ap;have hm:=fL sz k;have x:dL sz k=bT sz k+szN sz (k+1)*szN sz k:=rfl;have R:plK sz k=plW k (szN sz k) (szN sz (k+1)*szN sz k)++plB k (szN sz (k+1)):=rfl;obtain ⟨c0,a7⟩:=Vb (szN sz k);obtain ⟨Q,a3⟩:=Vb (szN sz (k+1));obtain ⟨N,hN⟩:=Vb (bT sz k);obtain ⟨M,hM⟩:=Vb (dL sz k);rw [a7] at p0 x R z0;rw [a3] at p1 x hm R z1;rw [hN,hM] at x;rw [hM] at hm;rw [<-hm] at b7;obtain ⟨b6,HN,Hm⟩:=af R hN hm;have b3:(k:Int)+1<L:=ap;have b8:(k:Int)<L:=ap;clear a7 a3 R hm hN hM b5 hR;go_wp2
   go_loopw [3,5] (λv i wr=>∃r:Nat,r<=Q/\i=QZ r/\wr.ownsRow w.heap.size 252 3 v (N+r*c0) (plV (plL sz k++plW k c0 (r*c0)))/\aq w wr) (λ_ i _=>Q-(intOf i).toNat)
   case atStart=>
    refine ⟨0,PZ _,rfl,?_,av.o⟩;rw [Nat.zero_mul,show plW k c0 0=[] from rfl,List.append_nil,Nat.add_zero,<-HN.o];exact a2.o
   case round=>
    obtain ⟨w1,rfl⟩:∃w1:R8,w1=wr:=⟨_,rfl⟩;obtain ⟨r,hr,rfl,a0,O⟩:=hrel;obtain ⟨A1,d1,rfl,_⟩:=aC a0;have ao:=(O.cell (p:=(ar b (o+k))) J).trans p0;have a4:=(O.cell (p:=⟨b,o+(k+1),none⟩) J).trans p1;obtain ⟨aM,ad⟩:=ae a0 O;clear a0 O;by_cases bb:r<Q
    .have a8:r*c0+c0<=Q*c0:=by
      have:=QY c0 (show r+1<=Q by omega)
      rwa [QM] at this
     have a1:(r+1)*c0=r*c0+c0:=QM r c0;obtain ⟨rc,D⟩:=Vb (r*c0);obtain ⟨m1,aG⟩:=Vb (Q*c0);have V:=λj (hj:j<c0)=>JF k c0 r j hj;rw [D] at a8 a1 V;rw [aG] at a8 x;obtain ⟨b4,b1,aR⟩:=af V a1 D;clear V a1 D aG;go_wp2
     go_loopw [3,6] (λv i wr=>∃j:Nat,j<=c0/\i=QZ j/\wr.ownsRow w.heap.size 252 3 v (N+(rc+j)) (plV (plL sz k++plW k c0 (rc+j)))/\aq w wr) (λ_ i _=>c0-(intOf i).toNat)
     case atStart=>
      refine ⟨0,PZ _,rfl,?_,ad.o⟩;rw [Nat.add_zero,<-aR.o];exact aM.o
     case round=>
      obtain ⟨w2,rfl⟩:∃w2:R8,w2=wr:=⟨_,rfl⟩;obtain ⟨j,hj,rfl,u,h⟩:=hrel;obtain ⟨A2,d2,rfl,_⟩:=aC u;have bf:=(h.cell (p:=(ar b (o+k))) J).trans p0;have hz:=h.size;obtain ⟨y,B⟩:=ae u h;clear u h ao a4;by_cases a5:j<c0
      .have aP:=b4.o j a5;have b0:=aa aP;clear aP;go_wp2_with (at_builtin;refine aV Le w2 rfl (.tmp 32) (.tmp 37) rfl (Ve w) (.slice A2 (N+(rc+j)) d2) (N+(rc+j)) _ rfl y.o [QZ k,QZ r,QZ j] rfl rfl V5 ap V2 ap ?_);intro g7 c7 w7 C I Y;have H:=B.o.trans I;obtain ⟨U,Z⟩:=ae C H;clear C I Y H;go_wp2;go_roundw
       case rel=>
        refine ⟨j+1,ap,Vc,?_,Z.o⟩;have:=U.o;rw [<-DU (k,r,(j:Int)),<-ue,Qz,<-b0.o,show N+(rc+j)+1=N+(rc+(j+1)) by omega,show rc+j+1=rc+(j+1) by omega] at this;exact this
       case measure=>exact Va
      .obtain rfl:j=c0:=ap;go_wp2;go_roundw
       case rel=>
        refine ⟨r+1,ap,Vc,?_,B.o⟩;rw [b1.o];exact y.o
       case measure=>exact Va
    .obtain rfl:r=Q:=ap;have b2:=aa x;clear x;go_wp2
     go_loopw [3,7] (λv i wr=>∃t:Nat,t<=r/\i=QZ t/\wr.ownsRow w.heap.size 252 3 v (M+t) (plV (plL sz k++plW k c0 (r*c0)++plB k t))/\aq w wr) (λ_ i _=>r-(intOf i).toNat)
     case atStart=>
      refine ⟨0,PZ _,rfl,?_,ad.o⟩;rw [show plB k 0=[] from rfl,List.append_nil,Nat.add_zero,b2.o];exact aM.o
     case round=>
      obtain ⟨w2,rfl⟩:∃w2:R8,w2=wr:=⟨_,rfl⟩;obtain ⟨t,ht,rfl,u,h⟩:=hrel;obtain ⟨A2,d2,rfl,_⟩:=aC u;have be:=(h.cell (p:=⟨b,o+(k+1),none⟩) J).trans p1;have hz:=h.size;obtain ⟨y,B⟩:=ae u h;clear u h ao a4;by_cases a5:t<r
      .go_wp2_with (at_builtin;refine aV Le w2 rfl (.tmp 48) (.tmp 52) rfl (Ve w) (.slice A2 (M+t) d2) (M+t) _ rfl y.o [QZ k,QZ t,QZ (-1)] rfl rfl V5 ap V2 ap ?_);intro g7 c7 w7 C I Y;have H:=B.o.trans I;obtain ⟨U,Z⟩:=ae C H;clear C I Y H;go_wp2;go_roundw
       case rel=>
        refine ⟨t+1,ap,Vc,?_,Z.o⟩;have:=U.o;rw [<-DU (k,t, -1),<-ue,show M+t+1=M+(t+1) by omega] at this;rw [JG];simp only [Qz] at this |-;exact this
       case measure=>exact Va
      .obtain rfl:t=r:=ap;go_wp2;go_roundw
       case rel=>
        refine ⟨k+1,ap,Vc,?_,B.o⟩;rw [zF,b6.o,<-Qz,<-Hm.o];exact y.o
       case measure=>exact Va
  .obtain rfl:k=L-1:=ap;have b3:¬((((L-1:Nat):Int)+1)<L):=ap;go_wp2;go_ret;exact ⟨_,_,rfl,a2.o,av.o⟩
theorem Fu (As Ap Y V:N_) (sz ps x y:Q_) (cs cp cy cv:Nat) (q:Int) (vals:R7) (w:R8) (h:vn w As Ap sz ps cs) (hx:x.length=szN sz 0) (hY:Rd w Y (aA .i64 y)) (hy:y.length=szN sz (sz.length-1)) (hV:Rd w V vals) (a5:jD w vals sz.length (dJ sz ps q x)):Vj 144 #[.agg #[.slice As sz.length cs,.slice Ap ps.length cp,QZ q],QZ ((sz.length-1:Nat):Int),.slice V sz.length cv,.slice Y y.length cy] w λe D=>∃A c,Vi e (.slice A y.length c)/\D.ownsRow w.heap.size 2 1 (.slice A y.length c) y.length (aA .i64 (gw sz ps q x y 0))/\aq w D:=by
 have a6:=h.hg.1.1;have Q:=λD=>nW As Ap sz.length ps.length cs cp q D ap;have a7:=(h.hg.1.at (k:=sz.length-1) ap).2.1;obtain ⟨Aj,cj,e1,e2,e3⟩:=a5.2 (sz.length-1) ap;have C:=fA (sz:=sz) (ps:=ps) (q:=q) hx (sz.length-1);obtain ⟨bo,oo,rfl,U⟩:=hV _ _ e1;have a3:bo<w.heap.size:=aB U;rw [<-hy] at C a7
 have a9:gw sz ps q x y 0=dU y.length λi=>wrap64 (nth (dJ sz ps q x (sz.length-1)) i-nth y i):=by
  show pw _ _=_
  unfold pw;rw [C]
 obtain ⟨a,ha⟩:=Vb (dJ sz ps q x (sz.length-1));obtain ⟨L,hL⟩:=Vb sz.length;obtain ⟨m,hm⟩:=Vb ps.length;obtain ⟨O,T⟩:=Vb y.length;rw [a9];rw [ha] at U e3 C |-;rw [hL] at Q a6 U |-;rw [C] at U;rw [hm] at Q |-;rw [T] at U C a7 |-;obtain ⟨ab,HY,aR,ao,aP⟩:=ah Q hY T C e3;clear Q hY T C e1 e2 e3 h hx hy hV a5 a9 ha hL hm;have b2:((L-1:Nat):Int)<L:=ap;have b3:L-1<L:=ap;have hq:(((L-1:Nat):Int)==((L-1:Nat):Int))=true:=by simp
 go_enter func144,ntmps144;go_wp2_with fail;refine (ab.o _).mono ?_;rintro e w1 ⟨rfl,a8⟩;have a2:aq w w1:=((PY _ w).alloc (PV _) _).trans (a8.mono V3);have aG:=aa a2;clear a8 a2;go_wp2_with fail;clear hq
 go_loopw [9,10] (λv i wr=>∃k:Nat,k<=O/\i=QZ k/\wr.ownsRow w.heap.size 2 1 v k (aA .i64 (dU k λi=>wrap64 (nth a i-nth y i)))/\aq w wr) (λ_ i _=>O-(intOf i).toNat)
 .exact ⟨0,PZ _,rfl,Qb _ _ _ _,aG.o⟩
 case round=>
  obtain ⟨k,hk,rfl,B,R⟩:=hrel;obtain ⟨Al,cl,rfl,b4⟩:=aC B;by_cases a0:k<O
  .obtain ⟨ba,Z,rfl,p1⟩:=aP.o.num (show k<a.length by rw [ao.o];exact a0);obtain ⟨N,oy,rfl,p2⟩:=HY.o.num (show k<y.length by rw [aR.o];exact a0);have l1:ba<w.heap.size:=aB p1;have l2:N<w.heap.size:=aB p2;have s1:=(R.cell (p:=⟨bo,oo+(L-1),none⟩) a3).trans U;have s2:=(R.cell (p:=(ar ba (Z+k))) l1).trans p1;have s3:=(R.cell (p:=(ar N (oy+k))) l2).trans p2;have hz:=R.size;obtain ⟨I,HW⟩:=ae B R;clear B R p1 p2;have b1:(k:Int)<O:=ap;go_wp2_with fail;have u:(λD:R8=>D.cell? ⟨bo,oo+(L-1),none⟩=some (Vf ba Z O cj)/\Vh D ba (Z+k) (QZ (nth a k))/\Vh D N (oy+k) (QZ (nth y k))) wr.drew:=⟨s1,s2,s3⟩;refine HA.g (λD:R8=>D.cell? ⟨bo,oo+(L-1),none⟩=some (Vf ba Z O cj)/\Vh D ba (Z+k) (QZ (nth a k))/\Vh D N (oy+k) (QZ (nth y k))) ?_;refine HA.t ?_ [0,1,2,3,4,5,6,7,8,9,10,11,12] u ?_;refine HA.o 13 (λK hK=>?_);go_simp;refine hK.out _ _ ⟨aJ u.1 _,aJ u.2.1 _,aJ u.2.2 _⟩ (λu=>?_);clear hK K;refine HA.o 14 (λK hK=>?_);refine bY lB (.tmp 25) (.tmp 38) rfl rfl w.heap.size (.slice Al k cl) k _ rfl (bZ (I.o.alloc _) 1) (some (ar wr.heap.size 0)) 1 1 [QZ (IntKind.i64.wrap (nth a k-nth y k))] rfl (dW wr _ _ _ rfl) rfl V5 ap V2 V6 ?_;intro A4 c4 w4 H J av ad;have a1:=P7 ((J.cell (p:=⟨bo,oo+(L-1),none⟩) a3).trans u.1) (P7 ((J.cell (p:=(ar ba (Z+k))) l1).trans u.2.1) ((J.cell (p:=(ar N (oy+k))) l2).trans u.2.2));have a4:aq w w4:=((HW.o.alloc hz _).drew).trans J;obtain ⟨b0,aM⟩:=ae H a4;clear H J av ad a4 u;dsimp only;refine hK.out _ _ a1 (λu=>?_);clear hK K a1;refine HA.t ?_ [15] u ?_;refine HA.d ?_;clear u s1 s2 s3;go_wp2;go_roundw
   case rel=>
    have e9:IntKind.i64.wrap (nth a k-nth y k)=wrap64 (nth a k-nth y k):=by rw [IntKind.wrap_i64,wrap64]
    have H:=b0.o;rw [e9] at H;exact ⟨k+1,ap,Vc,by rw [iN,dd];exact H,aM.o⟩
   case measure=>exact Va
  .obtain rfl:k=O:=ap;obtain ⟨I,HW⟩:=ae B R;clear B R;go_wp2;go_ret;exact ⟨_,_,rfl,I.o,HW.o⟩
theorem Ft (j:Nat) (As Ap Y V:N_) (sz ps x y:Q_) (cs cp cy cv:Nat) (q:Int) (vals:R7) (w:R8) (h:vn w As Ap sz ps cs) (hx:x.length=szN sz 0) (wx:W64 x) (hV:Rd w V vals) (bh:jD w vals sz.length (dJ sz ps q x)) (hj:j+2<=sz.length) (ih:∀H,aq w H->Vj 144 #[.agg #[.slice As sz.length cs,.slice Ap ps.length cp,QZ q],QZ ((sz.length-1-j:Nat):Int),.slice V sz.length cv,.slice Y y.length cy] H λe U=>∃A c,Vi e (.slice A (szN sz (sz.length-1-j)) c)/\U.ownsRow H.heap.size 2 1 (.slice A (szN sz (sz.length-1-j)) c) (szN sz (sz.length-1-j)) (aA .i64 (gw sz ps q x y j))/\aq H U):Vj 144 #[.agg #[.slice As sz.length cs,.slice Ap ps.length cp,QZ q],QZ ((sz.length-2-j:Nat):Int),.slice V sz.length cv,.slice Y y.length cy] w λe U=>∃A c,Vi e (.slice A (szN sz (sz.length-2-j)) c)/\U.ownsRow w.heap.size 2 1 (.slice A (szN sz (sz.length-2-j)) c) (szN sz (sz.length-2-j)) (aA .i64 (gw sz ps q x y (j+1)))/\aq w U:=by
 have bi:=h.hg.1.1;have a7:=λH=>nW As Ap sz.length ps.length cs cp q H ap;obtain ⟨k,hk⟩:=Vb (sz.length-2-j);have aR:sz.length-1-j=k+1:=ap;have b0:k+1<sz.length:=ap;rw [aR] at ih;have z0:=h.hg.1.at (k:=k) ap;have z1:=h.hg.1.at b0;obtain ⟨Ak,ck,e1,e2,e3⟩:=bh.2 k ap;have a4:=fA (sz:=sz) (ps:=ps) (q:=q) hx k;rw [a4] at e1;obtain ⟨bo,oo,rfl,pv⟩:=hV _ _ e1;have cc:bo<w.heap.size:=aB pv;have T:=mg (sz:=sz) (ps:=ps) (q:=q) (x:=x) (y:=y) hx j;rw [aR] at T;have ao:=uV sz ps q x y j;have C:=mg (sz:=sz) (ps:=ps) (q:=q) (x:=x) (y:=y) hx (j+1);rw [show sz.length-1-(j+1)=k by omega] at C;have B:=λc (hc:c<szN sz k)=>Lj (sz:=sz) (ps:=ps) (q:=q) (x:=x) (y:=y) (j:=j) (c:=c) hx hj (by rw [hk];exact hc);have Q:=λr c (hr:r<szN sz (k+1)) (hc:c<szN sz k) H (hb:aq w H)=>sd As Ap sz ps cs cp k r c q H (h.below hb) b0 hr hc;obtain ⟨b,o,rfl,p0⟩:=h.hA.num (show k<sz.length by omega);rw [z0.2.2] at p0;have ci:b<w.heap.size:=aB p0;have WP:=aa h.wp;rw [hk] at B |-;obtain ⟨ev,bv⟩:=Vb (gw sz ps q x y j);obtain ⟨en,bz⟩:=Vb (gw sz ps q x y (j+1));obtain ⟨vv,bM⟩:=Vb (dJ sz ps q x k);obtain ⟨L,hL⟩:=Vb sz.length;obtain ⟨m,hm⟩:=Vb ps.length;obtain ⟨Y0,b3⟩:=Vb y.length;obtain ⟨r1,b6⟩:=Vb (szN sz (k+1));obtain ⟨c1,b2⟩:=Vb (szN sz k);rw [bv] at T ao B ih;rw [bz] at C B |-;rw [bM] at e3 a4 B;rw [hL] at a7 bi b0 ih Q hj |-;rw [hm] at a7 ih Q |-;rw [b3] at ih |-;rw [b6] at T ih Q z1;rw [b2] at a4 C pv p0 B Q z0 |-;rw [T] at B;obtain ⟨cM,cd,cA,c6,cO,c9,ab,bO⟩:=ak a7 a4 e3 ih T ao C B;obtain ⟨cj,d1⟩:=ae Q b2;clear a7 a4 e3 ih T ao C B Q h hx hV bh bv bz bM hL hm b3 b6 b2 e1 e2 hk aR;have bV:((k:Int)==((L-1:Nat):Int))=false:=by simp;omega
 have d6:k<L:=ap;have dk:(k:Int)<L:=ap;go_enter func144,ntmps144;go_wp2_with fail;refine (cM.o _).mono ?_;rintro e w1 ⟨rfl,b1⟩;have Z:=(b1.block w.heap.size V3).trans (PW w (.cells #[.slice (some ⟨b,o,none⟩) L cs,.slice Ap m cp,QZ q] 198));have b4:aq w w1:=((PY _ w).alloc (PV _) _).trans (b1.mono V3);obtain ⟨⟨y0,y1,y2⟩,yf⟩:=bx3 Z;obtain ⟨aP,a8⟩:=ae b4 Z;clear b1 b4 Z;go_wp2_with fail;refine (c6.o w1 aP.o).mono ?_;rintro e U ⟨A2,c2,rfl,bd,aM⟩;have O:=(aM.block _ (PU a8.o)).trans a8.o;have bb:=aP.o.trans (aM.mono aP.o.size);have a9:=Rd.own bd;clear y0 y1 y2 yf bV;obtain ⟨⟨y0,y1,y2⟩,yf⟩:=bx3 O;have N:w.heap.size<U.heap.size:=PU O;obtain ⟨a0,d3,bn⟩:=af bb O a9;clear bd aM bb O a9;go_wp2
 go_loopw [9,12] (λv i wr=>∃c:Nat,c<=c1/\i=QZ c/\wr.ownsRow U.heap.size 2 1 v c (aA .i64 (en.take c))/\aq U wr) (λ_ i _=>c1-(intOf i).toNat)
 .exact ⟨0,PZ _,rfl,Qb _ _ _ _,PY _ _⟩
 case round=>
  obtain ⟨wq,rfl⟩:∃wq:R8,wq=wr:=⟨_,rfl⟩;obtain ⟨c,hc,rfl,a2,a5⟩:=hrel;obtain ⟨Al,cl,rfl,dn⟩:=aC a2;have x0:=(a5.cell (p:=⟨w.heap.size,0,none⟩) N).trans y0;have a1:=a0.o.trans (a5.mono a0.o.size);have d7:=(a1.cell (p:=⟨b,o+k,none⟩) ci).trans p0;have dc:U.heap.size<=wq.heap.size:=a5.size;obtain ⟨ad,bN,bG⟩:=af a2 a5 a1;clear a2 a5 a1;by_cases a6:c<c1
  .have B:=bO.o c a6;have bf:=aa B;clear B;go_wp2
   go_loopw [13,14] (λs i wx=>∃r:Nat,r<=r1/\i=QZ r/\s=QZ (uU sz ps q k c ev r)/\aq wq wx) (λ_ i _=>r1-(intOf i).toNat)
   .exact ⟨0,PZ _,rfl,rfl,PY _ _⟩
   case round=>
    obtain ⟨wo,rfl⟩:∃wo:R8,wo=wr:=⟨_,rfl⟩;obtain ⟨r,hr,rfl,rfl,I⟩:=hrel;have u:=bN.o.trans (I.mono bN.o.size);have D:=a0.o.trans (u.mono a0.o.size);by_cases b7:r<r1
    .obtain ⟨be,oe,rfl,pe⟩:=bn.o.num (show r<ev.length by rw [cO.o];exact b7);have d2:be<U.heap.size:=aB pe;have cP:=(u.cell (p:=⟨be,oe+r,none⟩) d2).trans pe;have bX:=(u.cell (p:=⟨w.heap.size,0,none⟩) N).trans y0;have c8:=(u.cell (p:=⟨w.heap.size,1,none⟩) N).trans y1;have cw:=(u.cell (p:=⟨w.heap.size,2,none⟩) N).trans y2;have b5:=cj.o r c b7 a6 wo.drew D.drew;have bA:=λH=>tT (nth ps (bT sz k+r*c1+c)) (nth ev r) q H (WP.o.nth _) (c9.o.nth _);obtain ⟨cL,cb,av⟩:=af b5 bA I;clear b5 bA I pe u D;have d5:(r:Int)<r1:=ap;go_wp2
     go_region_held3 (λH=>H.cell? ⟨w.heap.size,0,none⟩=some (.slice (some ⟨b,o,none⟩) L cs)/\H.cell? ⟨w.heap.size,1,none⟩=some (.slice Ap m cp)/\H.cell? ⟨w.heap.size,2,none⟩=some (QZ q)/\H.cell? ⟨be,oe+r,none⟩=some (QZ (nth ev r))) (simp [go_sem, *])
      ((first | (go_at_call 170;refine cL.o.mono ?_;rintro e w3 ⟨rfl,R⟩;have g0:=aw R bX;have g1:=aw R c8;have g2:=aw R cw;have g3:=aw R cP;have b8:=av.o.trans (((PY wo.heap.size wo).drew.trans R).mono av.o.size);have cr:=aa b8;clear R b8) | (go_at_call 100;refine (cb.o _).mono ?_;rintro e w4 ⟨rfl,rfl⟩)))
     go_wp2;go_roundw
     .exact ⟨r+1,ap,Vc,by rw [IntKind.wrap_i64,uU,wrap64,d1.o],cr.o⟩
     .simp [intOf];omega
    .obtain rfl:r=r1:=ap;obtain ⟨ba,oa,rfl,pa⟩:=cA.o.num (show c<vv.length by rw [cd.o];exact a6);have d0:ba<w.heap.size:=aB pa;have d4:=(D.cell (p:=⟨ba,oa+c,none⟩) d0).trans pa;have da:=(D.cell (p:=⟨bo,oo+k,none⟩) cc).trans pv;have a3:=az ad.o I;have d8:=I.size;have bs:=fE en c (by rw [ab.o];exact a6);obtain ⟨av,aG,cn,bl⟩:=ag I a3 bs u;clear I a3 bs pa u D;have d9:(c:Int)<c1:=ap;go_wp2_with fail;refine (wt _ _ _).mono ?_;rintro e w7 ⟨rfl,rfl⟩;rw [<-bf.o];go_wp2_with (at_builtin;refine aV lB wo rfl (.tmp 76) (.tmp 86) rfl U.heap.size (.slice Al c cl) c _ rfl aG.o [QZ (nth en c)] rfl rfl V5 ap V2 ap ?_);intro g7 c7 w7 b9 bI co;have bw:=bl.o.trans bI;obtain ⟨cf,cx⟩:=ae b9 bw;clear b9 bI co bw;go_wp2;go_roundw
     .exact ⟨c+1,ap,Vc,by rw [cn.o,dd];exact cf.o,cx.o⟩
     .simp [intOf];omega
  .obtain rfl:c=c1:=ap;have J:=ad.o;rw [List.take_of_length_le (by rw [ab.o];exact PV _)] at J;have Hf:=aa (aF J (base':=w.heap.size) (by have:=a0.o.size;omega));clear J;go_wp2;go_ret;exact ⟨_,_,rfl,Hf.o,bG.o⟩
theorem Jt (o v Y V:N_) (sz ps x y:Q_) (p cp B C:Nat) (q:Int) (vals:R7) (J:x.length=szN sz 0) (N:W64 x) (H:y.length=szN sz (sz.length-1)):
  ∀(j:Nat) (w:R8),j+1<=sz.length->vn w o v sz ps p->Rd w Y (aA .i64 y)->Rd w V vals->jD w vals sz.length (dJ sz ps q x)->
   Vj 144 #[.agg #[.slice o sz.length p,.slice v ps.length cp,QZ q],QZ ((sz.length-1-j:Nat):Int),.slice V sz.length C,.slice Y y.length B] w λe I=>∃A c,Vi e (.slice A (szN sz (sz.length-1-j)) c)/\I.ownsRow w.heap.size 2 1 (.slice A (szN sz (sz.length-1-j)) c) (szN sz (sz.length-1-j)) (aA .i64 (gw sz ps q x y j))/\aq w I:=by
 intro j
 induction j with
 | zero=>
  intro w _ h D u i;have:=Fu o v Y V sz ps x y p cp B C q vals w h J D H u i;rw [Nat.sub_zero,<-H];exact this
 | succ j ih=>
  intro w O h D u i;have:=Ft j o v Y V sz ps x y p cp B C q vals w h J N u i ap (λL hb=>ih L ap (h.below hb) (D.below hb) (u.below hb) (i.below hb));rw [show sz.length-1-(j+1)=sz.length-2-j by omega];exact this
def Oz (sz ps:Q_) (q:Int) (x y:Q_) (B:Nat) (k:Nat) (v:Value) (p:Obj) (u h w:R8):Prop:=
 ∃A c vals,v=.slice A k c/\w.ownsRow h.heap.size 26 1 (.slice A k c) k vals/\
  (∀j,1<=j->j<k->∃o i,vals[j]?=some (.slice o (szN sz j) i)/\w.ownsRow h.heap.size 2 1 (.slice o (szN sz j) i) (szN sz j) (aA .i64 (gw sz ps q x y (sz.length-1-j))))/\aq h w
theorem Cw {args:R6} {W:R8} {a:Nat} (h:∀o,Calls P f args o λe i=>Vi e v/\o=i):Calls P f args (W.drewN (a+n)) λe i=>Vi e v/\∃m,i=W.drewN (a+m):= (h _).mono λ_ _ h=>⟨h.1,n,h.2.symm⟩
theorem Fm (As Ap X Y:N_) (sz ps x y:Q_) (cs cp cx cy:Nat) (q:Int) (w:R8) (h:vn w As Ap sz ps cs) (hX:Rd w X (aA .i64 x)) (hx:x.length=szN sz 0) (wx:W64 x) (d0:x.length<=cx) (hY:Rd w Y (aA .i64 y)) (hy:y.length=szN sz (sz.length-1)):Vj 97 #[.agg #[.slice As sz.length cs,.slice Ap ps.length cp,.int .i64 q],.slice X x.length cx,.slice Y y.length cy] w λe T=>∃A' c',Vi e (.slice A' (bT sz (sz.length-1)) c')/\Rd T A' (aA .i64 (fR sz ps q x y))/\aq w T:=by
 have e0:=h.hg.1.1;have d6:=AE (sz:=sz) (ps:=ps) (q:=q) (x:=x) (y:=y) hx ap;have b5:=DV sz (sz.length-1);have b8:=λT=>nW As Ap sz.length ps.length cs cp q T ap;have a5:=λT (hb:aq w T)=>BU As Ap X sz ps x cs cp cx q T (h.below hb) (hX.below hb) hx wx d0;have bf:=λT (hb:aq w T)=>zj As sz cs T (h.hA.below hb) h.hg;have ad:=λj V cv vals T (hb:aq w T) (hj:j+1<=sz.length) (hV:Rd T V vals) (b6:jD T vals sz.length (dJ sz ps q x))=>Jt As Ap Y V sz ps x y cs cp cy cv q vals hx wx hy j T hj (h.below hb) (hY.below hb) hV b6;have ej:=h.hg.2;have hG:=h.hg;rw [d6];obtain ⟨L,hL⟩:=Vb sz.length;obtain ⟨m,hm⟩:=Vb ps.length;obtain ⟨Y0,cL⟩:=Vb y.length;obtain ⟨X0,ek⟩:=Vb x.length;rw [hL] at b8 a5 ad bf e0 b5 ej |-;rw [hm] at b8 a5 ad |-;rw [cL] at ad |-;rw [ek] at a5 |-;obtain ⟨N,hN⟩:=Vb (bT sz (L-1));rw [hN] at bf b5 ej |-;obtain ⟨el,g0,f6,eL,bN,HG,HL,Hx⟩:=ak b8 a5 ad bf b5 hG hL hx;have WX:=aa wx;clear b8 a5 ad bf b5 hG hX hx wx d0 hY hy d6 hL hm cL ek hN h;go_enter func97,ntmps97;go_wp2_with fail;refine (g0.o _ ?_).mono ?_
 .exact am
 rintro e w1 ⟨V,cv,vals,rfl,hV,b6,fn,cr⟩;have a4:=(cr.block (Ve w) V3).trans (PW w (.cells #[.slice As L cs,.slice Ap m cp,.int .i64 q] 198));have cP:aq w w1:=((PY _ w).alloc (PV _) _).trans (cr.mono V3);obtain ⟨⟨z0,z1,z2⟩,zf⟩:=bx3 a4;obtain ⟨ci,bi,g5,ey⟩:=ag cP a4 hV b6;clear cr a4 cP hV b6 fn;go_wp2_with fail;refine (eL.o _ ci.o).mono ?_;rintro e w2 ⟨Pa,pc,rfl,eo,a6⟩;have a1:=(a6.block _ (PU bi.o)).trans bi.o;have dn:=ci.o.trans (a6.mono ci.o.size);have ec:=g5.o.below a6;have bl:=ey.o.below a6;have ds:=Rd.own eo;clear z0 z1 z2 zf;obtain ⟨⟨z0,z1,z2⟩,zf⟩:=bx3 a1;have B:w.heap.size<(Ve w2):=PU a1;obtain ⟨b4,gd,dG,bh,bM⟩:=ah dn a1 ec bl ds;clear a6 a1 dn ec bl eo ds;go_wp2
 go_loopw [9,10] (λv i wr=>∃k:Nat,k<=L/\i=.int .i64 k/\Oz sz ps q x y (Ve w) k v (.cells #[] 0 (0,0)) w w2 wr) (λ_ i _=>L-(intOf i).toNat)
 .exact ⟨0,PZ _,rfl,none,0,[],rfl,Qb _ _ _ _,λj h1 h2=>ap,PY _ _⟩
 case round=>
  obtain ⟨wq,rfl⟩:∃wq:R8,wq=wr:=⟨_,rfl⟩;obtain ⟨k,hk,rfl,Aa,ca,av,rfl,ea,em,ab⟩:=hrel;have x0:=(ab.cell (p:=⟨Ve w,0,none⟩) B).trans z0;have x1:=(ab.cell (p:=⟨Ve w,1,none⟩) B).trans z1;have x2:=(ab.cell (p:=⟨Ve w,2,none⟩) B).trans z2;obtain ⟨b3,d7,bb⟩:=af ea em ab;clear ea em ab;by_cases bO:k<L
  .have fr:(k:Int)<=((L-1:Nat):Int):=ap;go_wp2_with fail;refine (el.o _).mono ?_;rintro e w3 ⟨rfl,O⟩;have J:=bb.o.trans (O.mono bb.o.size);have U:=az b3.o O;have eX:=J.size;clear x0 x1 x2;obtain ⟨I,a3,f9⟩:=af J U O;clear O J U;go_wp2_with (at_builtin;refine aV La w3 rfl (.tmp 27) (.tmp 28) rfl (Ve w2) (.slice Aa k ca) k av rfl a3.o [.slice none 0 0] rfl rfl V5 ap V2 eX ?_);intro g4 c4 w4 es ew eq;have dk:=I.o.trans ew;have g9:=b3.o.1
   have bX:∀{mm:Nat} {u:Value} {ys:R7} {b0:Nat},w3.ownsRow b0 2 1 u mm ys->w4.ownsRow b0 2 1 u mm ys:=λh=>h.kept eq (by
    rename_i u _ _
    cases hu:u.ownBlock with
    | none=>exact .inl rfl
    | some i=>exact .inr λe9=>jP a3.o h V0 i e9.symm hu)
   have bw:∀j,1<=j->j<k->∃Aj cj,(av++[Value.slice none 0 0])[j]?=some (.slice Aj (szN sz j) cj)/\w4.ownsRow w2.heap.size 2 1 (.slice Aj (szN sz j) cj) (szN sz j) (aA .i64 (gw sz ps q x y (sz.length-1-j))):=λj h1 h2=>by
    obtain ⟨Aj,cj,e1,e2⟩:=d7.o j h1 h2;exact ⟨Aj,cj,by rw [Qw ap];exact e1,bX (az e2 f9.o)⟩
   obtain ⟨a8,H,eb⟩:=af es dk bw;clear es ew eq dk bw;have y0:=(H.o.cell (p:=⟨Ve w,0,none⟩) B).trans z0;have y1:=(H.o.cell (p:=⟨Ve w,1,none⟩) B).trans z1;have y2:=(H.o.cell (p:=⟨Ve w,2,none⟩) B).trans z2;by_cases gm:k=0
   .have eB:¬(0:Int)<(k:Int):=ap;go_wp2;go_roundw
    .exact ⟨k+1,ap,Vc,some ⟨g4,0,none⟩,c4,_,rfl,a8.o,λj h1 h2=>ap,H.o⟩
    .simp [intOf];omega
   .have eB:(0:Int)<(k:Int):=ap;have gk:0<k:=ap;have b1:=f6.o (L-1-k) V cv vals w4 (b4.o.trans (H.o.mono b4.o.size)) ap (dG.o.below H.o) (bh.o.below H.o);rw [show L-1-(L-1-k)=k by omega] at b1;have dc:=aa b1;clear b1;have gg:k<k+1:=Nat.lt_succ_self k;have gb:(k:Int)<(k:Int)+1:=ap;go_wp2_with fail;refine dc.o.mono ?_;rintro e w5 ⟨A5,c5,rfl,d2,be⟩;have dT:=H.o.trans (be.mono H.o.size);have Z:=az a8.o be;have g8:=H.o.size;have q0:=Z.cellAt k ap
    have qk:(av++[Value.slice none 0 0])[k]?=some (.slice none 0 0):=by
     have:=a8.o.1;rw [Qx (by simp at this;omega)];simp at this;simp [show av.length=k by omega]
    rw [qk] at q0;have qf:=Z.frozenAt k;have da:=(Z.stored k (.slice A5 (szN sz k) c5)).1;obtain ⟨eG,er,fs,fi,ee,gf⟩:=ai da dT d2 be Z qk;clear da dT d2 be Z qk y0 y1 y2;go_wp2_with fail;have cO:Keep (λi=>i=g4) w5 (w5.setCell ⟨g4,k,none⟩ (.slice A5 (szN sz k) c5)):=Vk g4 (Keep.refl _ _) ⟨g4,k,none⟩ (.inr rfl) _
    have a2:∀{mm:Nat} {u:Value} {ys:R7} {b0:Nat},w5.ownsRow b0 2 1 u mm ys->(w5.setCell ⟨g4,k,none⟩ (.slice A5 (szN sz k) c5)).ownsRow b0 2 1 u mm ys:=λh=>cO.own h (λi hi e9=>by
     subst e9
     exact jP ee.o h V0 i rfl hi)
    go_roundw
    case rel=>
     refine ⟨k+1,ap,Vc,some ⟨g4,0,none⟩,c4,_,rfl,eG.o,λj h1 h2=>?_,er.o.trans (cO.toBelow er.o.size (λi hi=>by subst hi;exact (a8.o.lt i rfl).1))⟩;have gx:(av++[Value.slice none 0 0]).length=k+1:=by have:=a8.o.1;simpa using this
     rcases Qf j k with d9 | d9
     .obtain ⟨Aj,cj,e1,e2⟩:=eb.o j h1 d9;refine ⟨Aj,cj,?_,a2 (az e2 fi.o)⟩;rw [List.getElem?_set_ne ap];exact e1
     .obtain rfl:j=k:=ap;refine ⟨A5,c5,?_,?_⟩
      .rw [List.getElem?_set_self ap]
      .have:=a2 (aF fs.o (base':=Ve w2) g8);rw [HL.o];exact this
    case measure=>exact Va
  .obtain rfl:k=L:=ap;have fr:¬((k:Int)<=((k-1:Nat):Int)):=ap;have gl:1<=k:=ap;go_wp2_with fail;refine (el.o _).mono ?_;rintro e w3 ⟨rfl,O⟩;obtain ⟨ga,gs,bo,go,_⟩:=b3.o.form ap;simp only [QH] at bo;obtain ⟨rfl,eM,rfl⟩:=bo;clear eM;have J:=bb.o.trans (O.mono bb.o.size);have U:=az b3.o O
   have bA:∀j,1<=j->j<k->∃Aj cj,av[j]?=some (.slice Aj (szN sz j) cj)/\w3.ownsRow w2.heap.size 2 1 (.slice Aj (szN sz j) cj) (szN sz j) (aA .i64 (gw sz ps q x y (sz.length-1-j))):=λj h1 h2=>by
    obtain ⟨Aj,cj,e1,e2⟩:=d7.o j h1 h2;exact ⟨Aj,cj,e1,az e2 O⟩
   obtain ⟨I,a3,ef⟩:=af J U bA;clear O J U bA x0 x1 x2;go_wp2_with fail;have bn:decide (k<=k-1)=false:=QT ap;rw [bn];clear bn
   go_loopw [11,12] (λv i wr=>∃t:Nat,t<=N/\i=.int .i64 t/\wr.ownsRow w3.heap.size 2 1 v t (aA .i64 (((plL sz (k-1)).map (gAt sz ps q x y)).take t))/\aq w3 wr) (λ_ i _=>N-(intOf i).toNat)
   .exact ⟨0,PZ _,rfl,Qb _ _ _ _,PY _ _⟩
   case round=>
    obtain ⟨wo,rfl⟩:∃wo:R8,wo=wr:=⟨_,rfl⟩;obtain ⟨t,ht,rfl,aG,d8⟩:=hrel;obtain ⟨Al,cl,rfl,_⟩:=aC aG;obtain ⟨aP,D⟩:=ae aG d8;clear aG d8;by_cases bO:t<N
    .obtain ⟨pp,bd⟩:∃pp,(plL sz (k-1))[t]?=some pp:=⟨_,Qv (by rw [bN.o];exact bO)⟩;have bs:=MG (List.mem_of_getElem? bd)
     have bz:nth ((plL sz (k-1)).map (gAt sz ps q x y)) t=gAt sz ps q x y pp:=by
      unfold nth;rw [List.getD_eq_getElem?_getD,List.getElem?_map,bd];rfl
     have cn:=fE ((plL sz (k-1)).map (gAt sz ps q x y)) t (by rw [List.length_map,bN.o];exact bO);rw [bz] at cn;obtain ⟨f0,f1,f2⟩:=NY _ _ _ bd;obtain ⟨bp,op,cb,c0⟩:=bM.o _ _ f0;obtain ⟨_,_,e',c1⟩:=bM.o _ _ f1;rw [cb] at e';injection e' with e';injection e' with i1 i2 _;subst i1;subst i2
     obtain ⟨_,_,e',c2⟩:=bM.o _ _ f2;rw [cb] at e';injection e' with e';injection e' with i1 i2 _;subst i1;subst i2
     subst cb;have A:=I.o.trans (D.o.mono I.o.size);have f5:=aw A c0;have cM:=aw A c1;have d4:=aw A c2;rw [<-QO] at cM d4;obtain ⟨K,R,C⟩:=pp;dsimp only at bs f5 cM d4;obtain ⟨m1,m2,m3⟩:=bs;obtain ⟨A8,c8,g1,g2⟩:=ef.o (K+1) ap ap;obtain ⟨_,_,e8,p8⟩:=(Rd.own a3.o) _ _ g1;injection e8 with e8;injection e8 with i1 i2 _;subst i1;subst i2
     rw [QP] at p8;have cc:=mg (sz:=sz) (ps:=ps) (q:=q) (x:=x) (y:=y) Hx.o (sz.length-2-K);have fe:=HL.o;rw [show sz.length-1-(sz.length-2-K)=K+1 by omega] at cc;rw [show sz.length-1-(K+1)=sz.length-2-K by omega] at g2;have bG:=uV sz ps q x y (sz.length-2-K);obtain ⟨b9,o9,rfl,p9⟩:=(Rd.own g2).num (show R<(gw sz ps q x y (sz.length-2-K)).length by rw [cc];exact m2);have dr:=aw D.o p8;have c9:=aw D.o p9;obtain ⟨A7,c7,h1,h2,h3⟩:=bh.o.2 K ap;have aM:=fA (sz:=sz) (ps:=ps) (q:=q) Hx.o K;rw [aM] at h1;obtain ⟨bv,ov,g7,p7⟩:=dG.o _ _ h1;subst g7;have dw:=aw A p7;have bI:=h3.below A;have cA:=ql (sz:=sz) (ps:=ps) (q:=q) WX.o K;have g3:=HG.o.1.at (k:=K+1) ap;have fc:=HG.o.1.at (k:=K) ap;have y2:=(A.cell (p:=⟨Ve w,2,none⟩) B).trans z2;obtain ⟨ev,co⟩:=Vb (gw sz ps q x y (sz.length-2-K));obtain ⟨vv,cw⟩:=Vb (dJ sz ps q x K);obtain ⟨n1,d1⟩:=Vb (szN sz (K+1));obtain ⟨n0,dp⟩:=Vb (szN sz K);have ei:gAt sz ps q x y (K,R,C)=if 0<=C then fJ (nth ev R) (nth vv C.toNat) q else nth ev R:=by unfold gAt;rw [co,cw]
     rw [co] at c9 bG;rw [cw] at bI cA aM;rw [d1] at dr m2 g3;rw [dp] at dw m3 fc aM;obtain ⟨en,dv,eY,f8,eS,fa,gc⟩:=aj ei cn bI bG cA aM A;clear ei cn bI bG cA aM A bz bd f0 f1 f2 c0 c1 c2 g1 g2 p8 p9 h1 h2 h3 p7 cc co cw d1 dp fe;have gv:(t:Int)<N:=ap;go_wp2_with fail;have e1:IntKind.i64.wrap ((K:Int)+1)=(K:Int)+1:=P3 _ ap;have e2:(K:Int)+1<k:=ap;have e3:K+1<k:=ap;have e4:(R:Int)<n1:=ap;have e5:(0:Int)<=(K:Int)+1:=ap;have e6:((K:Int)+1).toNat=K+1:=ap;have e7:¬((K:Int)+1<0):=ap;have e8:¬((k:Int)<=(K:Int)+1):=ap;have l8:ga<(Ve wo):=aB dr;have l9:b9<(Ve wo):=aB c9;have l7:bv<(Ve wo):=aB dw;have l2:w.heap.size<(Ve wo):=aB y2
     go_quiet (fail)
     have pb:=aJ (W:=wo) (p:=⟨b9,o9+R,none⟩) c9 (.cells #[.int .i64 (K:Int),.int .i64 (R:Int),.int .i64 C] 252);by_cases hC:0<=C
     .obtain ⟨C1,rfl⟩:∃C1:Nat,C=(C1:Int):=⟨C.toNat,ap⟩;have fb:C1<n0:=ap;have gy:(C1:Int)<n0:=ap;have gp:¬((C1:Int)<0):=ap;obtain ⟨b7,o7,rfl,p6⟩:=eY.o.num (show C1<vv.length by rw [fa.o];exact fb);have l6:b7<(Ve wo):=aB p6;have f3:(K:Int)<k:=ap;have f4:K<k:=ap;have eu:=λT=>tT (nth ev R) (nth vv C1) q T (f8.o.nth _) (eS.o.nth _);have f7:=aa eu;clear eu;obtain ⟨na,rfl⟩:∃na:Nat,na=nq:=⟨_,rfl⟩;go_wp2
      go_quiet ((go_at_call 100;exact Cw f7.o))
      have fd:w3.heap.size<=(Ve wo):=D.o.size;have aR:=aa (show ((wo.alloc (.cells #[.int .i64 (K:Int),.int .i64 (R:Int),.int .i64 (C1:Int)] 252)).drewN (na+nq)).heap.size=Ve wo+1 by simp);have a0:=Qa (D.o.alloc D.o.size (.cells #[.int .i64 (K:Int),.int .i64 (R:Int),.int .i64 (C1:Int)] 252)) (na+nq);have b2:=bZ (aP.o.alloc (.cells #[.int .i64 (K:Int),.int .i64 (R:Int),.int .i64 (C1:Int)] 252)) (na+nq);go_wp2_with (at_builtin;go_loud (refine aV lB _ rfl (.tmp 76) (.tmp 78) rfl (Ve w3) (.slice Al t cl) t _ rfl b2 [.int .i64 (fJ (nth ev R) (nth vv C1) q)] (congrArg (λb:Nat=>Value.slice (some ⟨b,0,none⟩) 1 1) aR.o.symm) rfl V5 ap V2 a0.size ?_));intro g6 c6 w6 a9 ao cf;have Q:=a0.trans ao;obtain ⟨cd,bV⟩:=ae a9 Q;clear a9 ao cf Q b2 a0;go_wp2;go_roundw
      case rel=>
       refine ⟨t+1,ap,Vc,?_,bV.o⟩;have hv:=en.o;rw [if_pos (Int.natCast_nonneg _),Int.toNat_natCast] at hv;rw [dv.o,hv,dd];exact cd.o
      case measure=>exact Va
     .have HC:=aa hC;have fd:w3.heap.size<=(Ve wo):=D.o.size;have aR:=aa (show ((wo.alloc (.cells #[.int .i64 (K:Int),.int .i64 (R:Int),.int .i64 C] 252)).drewN nq).heap.size=Ve wo+1 by simp);have a0:=Qa (D.o.alloc D.o.size (.cells #[.int .i64 (K:Int),.int .i64 (R:Int),.int .i64 C] 252)) nq;have b2:=bZ (aP.o.alloc (.cells #[.int .i64 (K:Int),.int .i64 (R:Int),.int .i64 C] 252)) nq;go_wp2_with (at_builtin;go_loud (refine aV lB _ rfl (.tmp 76) (.tmp 78) rfl (Ve w3) (.slice Al t cl) t _ rfl b2 [.int .i64 (nth ev R)] (congrArg (λb:Nat=>Value.slice (some ⟨b,0,none⟩) 1 1) aR.o.symm) rfl V5 ap V2 a0.size ?_));intro g6 c6 w6 a9 ao cf;have Q:=a0.trans ao;obtain ⟨cd,bV⟩:=ae a9 Q;clear a9 ao cf Q b2 a0;go_wp2;go_roundw
      case rel=>
       refine ⟨t+1,ap,Vc,?_,bV.o⟩;have hv:=en.o;rw [if_neg (by have:=HC.o;omega)] at hv;rw [dv.o,hv,dd];exact cd.o
      case measure=>exact Va
    .obtain rfl:t=N:=ap;have a7:=aP.o;rw [List.take_of_length_le (by rw [List.length_map,bN.o];exact PV _)] at a7;have d3:=aa (Rd.own a7);clear a7;have d5:=b4.o.trans ((I.o.trans (D.o.mono I.o.size)).mono b4.o.size);have eV:=aa d5;clear d5;go_wp2;go_ret;exact ⟨_,_,rfl,d3.o,eV.o⟩
theorem Id (hs:s.length=n) (h:W64 s):eT (List.replicate n 0) s=s:=by
 refine gQ (by rw [gK,QA,hs]) λk hk=>?_;rw [gK,QA] at hk;unfold eT;rw [bJ _ (by rw [QA];exact hk),dN _ k (by rw [QA];exact hk)];have h1:=h.nth k;simp only [List.getElem_replicate];generalize nth s k=y at h1 |-;unfold wrap64;omega
theorem IK {g:Q_} (hs:s.length=n) (h:W64 s):nd n [s,g]=eT s g:=by
 unfold nd;simp only [List.foldl_cons,List.foldl_nil];rw [Id hs h]
theorem FH (l:Rl) (h:Q_) (hk:k<h.length) (i:nth h k=(j:Int)) (o:l[j]?=some x):cI l (h.take (k+1))=cI l (h.take k)++[x]:=by
 rw [fE _ _ hk];unfold cI;rw [List.map_append];simp [i,List.getD,o]
theorem JY (h:k<n):n-(k+1)<n-k:=ap
def xB (i:Inp) (P h:Q_) (w:R8) (e:Ending) (o:R8):Prop:=aq w o/\ ((jK i h/\∃v,e=.returned (.tuple #[v,.bool true])/\o.ownsRow w.heap.size 2 1 v (cnt i) (aA .i64 (dE i P (cI i.data h))))\/(¬jK i h/\e=.returned (.tuple #[Ra,.bool false])))
theorem NF (w:R8) (u v:Value) (A1 i:N_) (n c1 c2:Nat) (s g:Q_) (A:u=.slice A1 n c1) (p:v=.slice i n c2) (hs:s.length=n) (hg:g.length=n) (hn:n<=1048576) (y:Rd w A1 (aA .i64 s)) (o:Rd w i (aA .i64 g)):
  dx ub 1 (w.alloc (.cells #[u,v] 26)) (some (ar w.heap.size 0)) [s,g]:=by
 refine yW (dW w [u,v] _ _ rfl) rfl λj x h=>?_
 match j,h with
 | 0,h=>injection h with h;subst h;exact ⟨u,rfl,A1,c1,by rw [A,hs],ap,y.alloc _⟩
 | 1,h=>injection h with h;subst h;exact ⟨v,rfl,i,c2,by rw [p,hg],ap,o.alloc _⟩
theorem su (A:N_) (c:Nat) (D:N_) (cd:Nat) (T:N_) (ct:Nat) (R:N_) (cr:Nat) (i:Inp) (Ap X:N_) (P B:Q_) (n cp cx:Nat) (w:R8) (hA:Rd w A (aA .i64 i.cfg.sizes)) (hc:i.cfg.sizes.length<=c) (hD:dx rEx 2 w D i.data) (hg:iX i) (hP:Rd w Ap (aA .i64 P)) (ao:P.length=n) (hn:cnt i=n) (wP:W64 P) (hX:Rd w X (aA .i64 B)) (cv:B.length<=17592186043904):Vj 61 #[.agg (aL A c D cd T ct R cr i),.slice Ap n cp,.slice X B.length cx] w (xB i P B w):=by
 have bs:=hg.c.z.bound (k:=i.cfg.sizes.length-1) (by have:=hg.c.z.1.1;omega);have a3:bT i.cfg.sizes (i.cfg.sizes.length-1)=n:=hn;rw [a3] at bs;have I:=λJ=>Cf A c D cd T ct R cr i Ap n cp J;have H:=λJ (q:aq w J) X1 Y1 x c1 c2 (hf:fC (inN i) (yh i) x) (r1:cG J X1 x.1 c1) (r2:cG J Y1 x.2 c2)=>Fm A Ap X1 Y1 i.cfg.sizes P x.1 x.2 c cp c1 c2 i.cfg.shift J ⟨hA.below q,hP.below q,hg.c.z,by rw [ao,a3],hc,wP⟩ r1.hr hf.1 r1.hw r1.hc r2.hr hf.2;rw [a3,ao] at H;have aP:=λJ=>nk ky J rfl n ap V2;simp only [fB] at aP;have aM:dE i P (cI i.data (B.take 0))=List.replicate n 0:=by simp [dE,cI,hn]
 obtain ⟨m,hm⟩:=Vb B.length;obtain ⟨N,hN⟩:=Vb i.data.length;have cL:N<=1048576:=by rw [<-hN];exact hg.b.2
 rw [hm] at cv |-;have b1:(w.alloc (.cells (aL A c D cd T ct R cr i) 29)).heap.size=w.heap.size+1:=by simp
 have C:=jf w (aL A c D cd T ct R cr i) 29 rfl;have a4:aq w (w.alloc (.cells (aL A c D cd T ct R cr i) 29)):=(PY _ w).alloc (PV _) _;obtain ⟨W1,b2⟩:∃W1,W1=w.alloc (.cells (aL A c D cd T ct R cr i) 29):=⟨_,rfl⟩;rw [<-b2] at b1 C a4;obtain ⟨W2,Q,b0,aR⟩:=aP W1;rw [b1] at Q b0;rw [b2] at Q;dsimp only [aL] at Q;have a8:=(aR.block _ ap).trans C;have bh:=a4.trans (aR.mono a4.size);obtain ⟨HD,HX,bo,bO,Hm,HN,HG,c7⟩:=ak hD hX I H hm hN hg b0;obtain ⟨bn,c9,bN,Hn⟩:=ag a8 bh aM hn;clear hA hc hD hg hP ao hn wP hX I H aP hm hN b1 C a4 b0 a8 bh aR a3 aM b2;go_enter func61,ntmps61;dsimp only [aL];go_wp2_with fail;clear Q
 go_loopw [8,9] (λv x wr=>∃k:Nat,k<=m/\x=QZ k/\wr.ownsRow w.heap.size 2 1 v n (aA .i64 (dE i P (cI i.data (B.take k))))/\an (∀j,j<k->kv N (nth B j))/\Below (w.heap.size+1) W2 wr) (λ_ x _=>m-(intOf x).toNat)
 .exact ⟨0,PZ _,rfl,by rw [bN.o];exact aF c7.o ap,aa λj hj=>ap,PY _ _⟩
 case round=>
  obtain ⟨k,hk,rfl,a0,a7,a5⟩:=hrel;obtain ⟨As,cs,rfl,hcs⟩:=aC a0;have C:=(a5.block _ ap).trans bn.o;have hB:=c9.o.trans (a5.mono ap);have cO:=hB.size;obtain ⟨HO,co,HB,ci,cM⟩:=ah a0 a5 hB C hcs;dsimp only [aL] at C;obtain ⟨⟨t0,t1,t2,t3,t4,t5,t6,t7,t8,t9,c6,bI,cc,bG,cn⟩,tf⟩:=jB C;have bX:=PU C;clear a0 a5 hB C hcs;by_cases V:k<m
  .have cy:(k:Int)<m:=ap;obtain ⟨bx,ox,rfl,px⟩:=HX.o.num (show k<B.length by rw [Hm.o];exact V);have b4:=(HB.o.cell (p:=(ar bx (ox+k))) (aB px)).trans px;clear px;by_cases L:kv N (nth B k)
   .obtain ⟨j,hj⟩:∃j:Nat,nth B k=(j:Int):=⟨(nth B k).toNat,by have:=L.1;omega⟩;have cw:j<N:=by have:=L.2;omega
    rw [hj] at b4;obtain ⟨x,hx⟩:∃x,i.data[j]?=some x:=⟨_,Qv (by rw [HN.o];exact cw)⟩;obtain ⟨bd,od,X1,c1,Y1,c2,rfl,cA,p1,p2,r1,r2⟩:=fS (HD.o.below dB HB.o) hx;have Z:fC (inN i) (yh i) x:=HG.o.f _ (by obtain ⟨q1,q2⟩:=Qu.1 hx;rw [<-q2];exact List.getElem_mem _);have H:=λJ (q:aq wr J)=>bO.o J (HB.o.trans (q.mono HB.o.size)) X1 Y1 x c1 c2 Z (r1.below q) (r2.below q);have av:=xh (sz:=i.cfg.sizes) (ps:=P) (q:=i.cfg.shift) (x:=x.1) (y:=x.2) Z.1 (by have:=HG.o.c.z.1.1;omega);have bb:bT i.cfg.sizes (i.cfg.sizes.length-1)=n:=Hn.o;rw [bb] at av;have bi:=FH i.data B (k:=k) (by rw [Hm.o];exact V) hj hx;have q1:¬((j:Int)<0):=ap;have hN:=HN.o;have q2:¬((i.data.length:Int)<=j):=ap;have q3:(j:Int)<i.data.length:=ap;obtain ⟨Hj,bz,b8,cb,bV⟩:=ah hj H av bi L;obtain ⟨n1,ab⟩:=Vb x.1.length;obtain ⟨n2,b6⟩:=Vb x.2.length;rw [ab] at p1;rw [b6] at p2;obtain ⟨c8,cf⟩:=ae ab b6;clear hj hx r1 r2 Z H av bb bi L hN ab b6;go_upto_region 8 with (fail);clear b4 t0 t1 t2 t3 t4 t5 t6 t7 t8 t9 c6 bI cc bG cn tf;have C:=ci.o;dsimp only [aL] at C;have u:(λJ:R8=>Vg J w.heap.size #[.slice A i.cfg.sizes.length c,QZ i.cfg.shift,QZ i.cfg.rate,QZ i.cfg.mom,QZ i.cfg.workers,QZ i.cfg.batch,QZ i.cfg.micros,QZ i.cfg.steps,QZ i.cfg.bucket,QZ i.cfg.chunk,QZ i.cfg.window,QZ i.cfg.cap,Vf bd od i.data.length cd,.slice T i.start.length ct,.slice R i.draws.length cr] 29/\Vh J bd (od+j*2) (.slice X1 n1 c1)/\Vh J bd (od+j*2+1) (.slice Y1 n2 c2)) wr.drew:=⟨C,p1,p2⟩;refine HA.g (λJ:R8=>Vg J w.heap.size #[.slice A i.cfg.sizes.length c,QZ i.cfg.shift,QZ i.cfg.rate,QZ i.cfg.mom,QZ i.cfg.workers,QZ i.cfg.batch,QZ i.cfg.micros,QZ i.cfg.steps,QZ i.cfg.bucket,QZ i.cfg.chunk,QZ i.cfg.window,QZ i.cfg.cap,Vf bd od i.data.length cd,.slice T i.start.length ct,.slice R i.draws.length cr] 29/\Vh J bd (od+j*2) (.slice X1 n1 c1)/\Vh J bd (od+j*2+1) (.slice Y1 n2 c2)) ?_;refine HA.t ?_ [0,1,2,4,5,6,7,8,9,10,11,12,13,14,15] u ?_;refine HA.o 3 (λK hK=>?_);clear C;have I:=bo.o wr.drew;dsimp only [aL] at I;go_simp;refine I.mono ?_;clear I;rintro e w3 ⟨rfl,Y⟩;have b9:=P7 ((Y.block _ bX).trans u.1) (P7 (aw Y u.2.1) (aw Y u.2.2));have b3:=aa (show aq wr w3 from (PY _ wr).drew.trans Y);clear Y u;dsimp only;refine hK.out _ _ b9 (λu=>?_);clear hK K b9;refine HA.o 16 (λK hK=>?_);have H:=bz.o w3 b3.o;rw [c8.o,cf.o] at H;go_simp;refine H.mono ?_;clear H;rintro e w4 ⟨A4,c4,rfl,bv,a2⟩;have bw:=P7 ((a2.block _ (PU u.1)).trans u.1) (P7 (aw a2 u.2.1) (aw a2 u.2.2));obtain ⟨b5,bM⟩:=ae (b3.o.trans (a2.mono b3.o.size)) bv;clear a2 u bv;dsimp only;refine hK.out _ _ bw (λu=>?_);clear hK K bw;refine HA.o 17 (λK hK=>?_);go_simp;have cl:=b5.o.size
    have bl:dx ub 1 (w4.alloc (.cells #[.slice As n cs,.slice A4 n c4] 26)) (some (ar w4.heap.size 0)) [dE i P (cI i.data (B.take k)),fR i.cfg.sizes P i.cfg.shift x.1 x.2]:=
     NF w4 _ _ As A4 n cs c4 _ _ rfl rfl (by rw [ik];exact Hn.o) b8.o bs (Rd.own (az HO.o b5.o)) bM.o
    have O:=E0 (some (ar w4.heap.size 0)) [dE i P (cI i.data (B.take k)),fR i.cfg.sizes P i.cfg.shift x.1 x.2] 2 n _ _ bl V3 rfl (by rw [ik];exact Hn.o);have O:Vj 96 #[Vf w4.heap.size 0 2 2] (w4.alloc (.cells #[.slice As n cs,.slice A4 n c4] 26)) _:=O;have a6:=aa O;clear bl O;refine hK.out _ _ ⟨dP u.1 _,aJ u.2.1 _,aJ u.2.2 _⟩ (λu=>?_);clear hK K;refine HA.o 18 (λK hK=>?_);go_simp;refine a6.o.mono ?_;rintro e w5 ⟨v5,ok,rfl,a1,U⟩
    obtain ⟨rfl,ad⟩:=U (λt y hy=>by
     match t,hy with
     | 0,hy=>injection hy with hy;rw [<-hy,ik];exact Hn.o
     | 1,hy=>injection hy with hy;rw [<-hy];exact b8.o)
    rw [IK (by rw [ik];exact Hn.o) (AF _ _ _),<-yw,<-cb.o] at ad;have be:=P7 ((a1.block _ (PU u.1)).trans u.1) (P7 (aw a1 u.2.1) (aw a1 u.2.2));have a9:aq wr w5:=(b5.o.alloc cl _).trans (a1.mono V6);obtain ⟨bf,cj⟩:=ae (aF (base':=w.heap.size) ad V6) (co.o.trans (a9.mono ap));clear a1 a9 ad U u a6;obtain ⟨A5,c5,rfl,_⟩:=aC bf.o;dsimp only;refine hK.out _ _ be (λu=>?_);clear hK K be;refine HA.t ?_ [19,20,21,22] u ?_;refine HA.d ?_;clear u p1 p2;go_wp2;go_roundw
    case rel=>
     refine ⟨k+1,V,Vc,bf.o,aa λt ht=>?_,cj.o⟩;rcases Qf t k with h | h
     .exact a7.out t h
     .obtain rfl:t=k:=ap;exact bV.o
    case measure=>exact JY V
   .have aG:nth B k<0\/(i.data.length:Int)<=nth B k:=by
     have hN:=HN.o;unfold kv at L;omega
    have b7:¬jK i B:=λh=>L (by rw [<-HN.o];exact h k (by rw [Hm.o];exact V));have bA:=aa b7;obtain ⟨z,hz⟩:=Vb (nth B k);rw [hz] at b4 aG;clear b7 L hz;by_cases aM:z<0
    .clear aG;go_wp2;go_ret2;exact ⟨HB.o,.inr ⟨bA.o,rfl⟩⟩
    .have cP:(i.data.length:Int)<=z:=ap;clear aG;go_wp2;go_ret2;exact ⟨HB.o,.inr ⟨bA.o,rfl⟩⟩
  .obtain rfl:m=k:=ap;go_wp2;go_ret2;refine ⟨HB.o,.inl ⟨λj hj=>by rw [HN.o];exact a7.out j (by rw [<-Hm.o];exact hj),_,rfl,?_⟩⟩;have:=HO.o;rw [Hn.o]
   rwa [<-Hm.o,QF] at this
theorem Fk (c i m:Nat) (A:N_) (l:Q_) (w:R8) (hA:Rd w A (aA .u64 l)) (H:i<l.length) (hl:l.length<=17592186043904) (N:U64 l) (hm:1<=m) (Y:m<=1048576):Vj 167 #[.agg #[.slice A l.length c,QZ i],QZ m] w λe Q=>Vi e (.tuple #[.agg #[.slice A l.length c,QZ ((i+1:Nat):Int)],QZ (nth l i%m),.bool true])/\aq w Q:=by
 obtain ⟨h,u,rfl,p⟩:=hA.num H;obtain ⟨x,O⟩:=Vb (nth l i);have D:=N i H;rw [O] at p D |-;obtain ⟨n,hn⟩:=Vb l.length;rw [hn] at H hl |-;have U:h<(Ve w):=aB p;clear hn O N hA;have a1:¬((m:Int)<1):=ap;have a0:(i:Int)<n:=ap;have L:¬((n:Int)<=i):=ap
 have hw:wrap64 (x%(m:Int))=x%(m:Int):=by
  have h1:=Int.emod_nonneg x (show (m:Int)≠0 by omega);have R:=Int.emod_lt_of_pos x (show (0:Int)<(m:Int) by omega);generalize x%(m:Int)=y at h1 R |-;unfold wrap64;omega
 have Z:=aa hw;clear hw;go_enter func167,ntmps167;go_wp2
 go_region
 go_wp2_with fail;have I:=PW (w.alloc (.cells #[Vf h u n c,QZ ((i:Int)+1)] 243)) (.cells #[Vf h u n c,QZ ((i:Int)+1)] 243);rw [show (w.alloc (.cells #[Vf h u n c,QZ ((i:Int)+1)] 243)).heap.size=Ve w+1 by simp] at I;have hB:aq w ((w.alloc (.cells #[Vf h u n c,QZ ((i:Int)+1)] 243)).alloc (.cells #[Vf h u n c,QZ ((i:Int)+1)] 243)):=((PY _ w).alloc (PV _) _).alloc V3 _;obtain ⟨C,B⟩:∃C,C=((w.alloc (.cells #[Vf h u n c,QZ ((i:Int)+1)] 243)).alloc (.cells #[Vf h u n c,QZ ((i:Int)+1)] 243)).drew:=⟨_,rfl⟩;have e4:Vg C (Ve w+1) #[Vf h u n c,QZ ((i:Int)+1)] 243:=by rw [B];exact I
 have J:aq w C:=by rw [B];exact hB.drew
 rw [<-B];clear B hB I;obtain ⟨⟨V,T⟩,rf⟩:=bx2 e4;rw [Z.o];exact Qd (v:=.tuple #[.agg #[Vf h u n c,QZ ((i:Int)+1)],QZ (x%m),.bool true]) (by simp [results,results167,go_sem,V,T]) rfl ⟨by rw [Int.natCast_add];rfl,J⟩
theorem PC {q:Nat} (h:q<n) (i:n<=1048576):(q:Int)<=1048576:=ap
theorem PB {q m:Nat} (h:n-1-k=q) (h1:k<m) (i:m<n):(q:Int)-1=(n:Int)-1-((k+1:Nat):Int):=ap
theorem Pz {q:Nat} (h:0<q):((q:Int)-1).toNat<(q:Int).toNat:=ap
theorem xY (n c i:Nat) (A:N_) (l:Q_) (w:R8) (hA:Rd w A (aA .u64 l)) (hn:1<=n) (bz:n<=1048576) (hi:i+(n-1)<=l.length) (hl:l.length<=1048576) (hu:U64 l):Vj 140 #[QZ n,.agg #[.slice A l.length c,QZ i]] w λe w'=>∃v,Vi e (.tuple #[.agg #[.slice A l.length c,QZ ((i+(n-1):Nat):Int)],v,.bool true])/\w'.ownsRow w.heap.size 3 1 v n (aA .i64 (gr l n i))/\aq w w':=by
 obtain ⟨m,hm⟩:=Vb (n-1);rw [hm] at hi |-;have bA:gr l n i=iw n (iG l n i) m:=by unfold gr;rw [hm]
 rw [bA];have cf:m<n:=ap;have d1:n<=m+1:=ap;have aR:=λw'=>pI n w' hn bz;rw [hm] at aR;clear hm bA;have y:=λk (hk:k<m) w' (q:Rd w' A (aA .u64 l))=>Fk c (i+k) (n-k) A l w' q ap ap hu ap ap;obtain ⟨N,hN⟩:=Vb l.length;rw [hN] at hi hl y |-;obtain ⟨HA,cw,cx,HN⟩:=ag hA y aR hN;clear hA y aR hu hN;have aM:¬((n:Int)<0):=ap;have bd:¬((1048576:Int)<n):=ap;have bO:¬(((N:Int)-i)<m):=ap;go_enter func140,ntmps140;go_wp2_with fail;have bI:IntKind.i64.wrap ((N:Int)-i)=(N:Int)-i:=P3 _ ap
 go_quiet ((go_at_call 94;refine Calls.quiet_of ((cx.o _).mono λe w' ⟨he,hw⟩=>⟨he,0,hw.symm⟩)))
 clear bI aM bd bO;go_wp2_with fail
 rename_i h9 _ _
 clear h9;have U:=(Qc (w.alloc (.cells #[.slice A N c,QZ i] 243)) (.cells #[Ra,QZ 0] 243) w.heap.size V3).trans (PW w _);have hy:=PW (w.alloc (.cells #[.slice A N c,QZ i] 243)) (.cells #[Ra,QZ 0] 243);rw [show (w.alloc (.cells #[.slice A N c,QZ i] 243)).heap.size=w.heap.size+1 by simp] at hy;have hB:aq w ((w.alloc (.cells #[.slice A N c,QZ i] 243)).alloc (.cells #[Ra,QZ 0] 243)):=((PY _ w).alloc (PV _) _).alloc V3 _;obtain ⟨W0,Q⟩:∃W0,W0=((w.alloc (.cells #[.slice A N c,QZ i] 243)).alloc (.cells #[Ra,QZ 0] 243)).drewN nq:=⟨_,rfl⟩;have b7:Vg W0 w.heap.size #[.slice A N c,QZ i] 243:=by rw [Q];exact U
 have aG:Vg W0 (w.heap.size+1) #[Ra,QZ 0] 243:=by rw [Q];exact hy
 have ao:aq w W0:=by rw [Q];exact Qa hB _
 rw [<-Q];clear Q U hy hB;have d0:=ao.size;have cA:=PU aG;obtain ⟨cM,bN,be⟩:=af b7 aG ao;clear b7 aG ao
 go_loopw [7,8] (λv x wr=>∃k:Nat,k<=n/\x=QZ k/\wr.ownsRow W0.heap.size 3 1 v k (aA .i64 (uD k))/\aq W0 wr) (λ_ x _=>n-(intOf x).toNat)
 .exact ⟨0,PZ _,rfl,Qb _ _ _ _,PY _ _⟩
 case round=>
  obtain ⟨k,hk,rfl,h,hb⟩:=hrel;by_cases Z:k<n
  .obtain ⟨Al,cl,rfl,_⟩:=aC h;obtain ⟨bv,Hb⟩:=ae h hb;clear h hb;go_wp2_with (at_builtin;refine aV gi _ rfl (.tmp 37) (.tmp 39) rfl W0.heap.size (.slice Al k cl) k _ rfl bv.o [QZ (k:Int)] rfl rfl (cU .i64 [_]) ap V2 Hb.o.size ?_);intro g6 c6 w6 B bf cs;have a1:=Hb.o.trans bf;obtain ⟨ad,c7⟩:=ae B a1;clear B bf cs a1;go_wp2;go_roundw
   case rel=>
    refine ⟨k+1,ap,Vc,?_,c7.o⟩;have:uD (k+1)=uD k++[(k:Int)]:=iN _ _;rw [this,dd];exact ad.o
   case measure=>exact Va
  .obtain rfl:n=k:=ap;obtain ⟨g,c2,rfl,_⟩:=h.form hn;obtain ⟨W1,rfl⟩:∃W1:R8,W1=wr:=⟨_,rfl⟩;have H:=(hb.block _ ap).trans cM.o;have b4:=(hb.block _ cA).trans bN.o;have bX:=h.lt g rfl;have d3:=hb.size;obtain ⟨b0,cn,av,bM⟩:=ag H b4 (be.o.trans (hb.mono be.o.size)) h;clear H b4 hb h;go_wp2
   go_loopw [9] (λx wr=>∃k:Nat,k<=m/\x=QZ ((n:Int)-1-k)/\Vg wr w.heap.size #[.slice A N c,QZ ((i+k:Nat):Int)] 243/\wr.ownsRow W0.heap.size 3 1 (Vf g 0 n c2) n (aA .i64 (iw n (iG l n i) k))/\Keep (λj=>j=w.heap.size\/j=g) W1 wr) (λx _=>(intOf x).toNat)
   .exact ⟨0,PZ _,Vc,b0.o,bM.o,Keep.refl _ _⟩
   case round=>
    obtain ⟨k,hk,rfl,U,h,hK⟩:=hrel;by_cases Z:k<m
    .obtain ⟨q,hq⟩:=Vb (n-1-k);have b9:(n:Int)-1-k=(q:Int):=ap;have aM:0<q:=ap;have bd:(0:Int)<q:=ap
     have bs:Rd wr A (aA .u64 l):=hK.rd (HA.o.below av.o) (λa ha e=>by
      obtain ⟨b,o,T,hc⟩:=HA.o.num (show 0<l.length by have:=HN.o;omega);rw [ha] at T;injection T with T;subst T
      have h5:b<w.heap.size:=aB hc;have h6:b=w.heap.size\/b=g:=e
      omega)
     have y:=cw.o k Z wr bs;rw [<-xj l ap,show ((n-k:Nat):Int)=(q:Int)+1 by omega] at y;have bb:=uX l (n:=n) (i:=i) (k:=k) ap;obtain ⟨C,a4⟩:=Vb (iG l n i k);rw [a4] at y bb;obtain ⟨cd,O⟩:=ae (P6 bX.2 hK.size) (show ¬g=w.heap.size by omega);have J:q<n:=ap;have D:C<n:=ap;have V:(C:Int)<n:=ap;have a0:(q:Int)<n:=ap;have bG:=PU U;obtain ⟨⟨z0,z1⟩,zf⟩:=bx2 U;simp only [Int.natCast_add,Int.cast_ofNat_Int] at y;obtain ⟨bn,c9,HZ,HO,HK,Hq⟩:=ai y a4 U h hK hq;rw [b9];have cL:wrap64 ((q:Int)+1)=(q:Int)+1:=by unfold wrap64;omega
     obtain ⟨a8,a3,cr,cb⟩:=ag J D V a0;clear y a4 U h hK bs hq b9 bb J D V a0;go_wp2_with fail
     with_reducible refine bn.o.mono ?_
     rintro e w1 ⟨rfl,R⟩;have H:=(R.block _ bG).trans HZ.o;have I:=az HO.o R;have p1:=cS I a8.o;have p2:=cS I a3.o;have f1:=I.frozenAt q;have f2:=I.frozenAt C;clear z0 z1 zf;obtain ⟨⟨z0,z1⟩,zf⟩:=bx2 H;have bo:=PU H;have a2:=R.size;obtain ⟨b0,cc,bV,cO⟩:=ag H I R a2;clear H I R p1 p2 f1 f2;have cP:=aa (P6 cd.o a2);go_upto_region 13 with (fail);clear z0 z1 zf;have e1:=QX w1 w.heap.size 0 _ _ (.slice A N c) b0.o;have T:=QX _ w.heap.size 1 _ _ (QZ ((i:Int)+k+1)) e1;have ab:Keep (λj=>j=w.heap.size\/j=g) w1 (((w1.setCell (ar w.heap.size 0) (.slice A N c)).setCell (ar w.heap.size 1) (QZ ((i:Int)+k+1))).alloc (.cells #[.slice A N c,QZ ((i:Int)+k+1)] 243)):=(Keep.setCell (S:=λj=>j=w.heap.size\/j=g) (Keep.setCell (S:=λj=>j=w.heap.size\/j=g) (Keep.refl _ _) (ar w.heap.size 0) (.inr (.inl rfl)) _) (ar w.heap.size 1) (.inr (.inl rfl)) _).alloc _;have e3:=(Qc ((w1.setCell (ar w.heap.size 0) (.slice A N c)).setCell (ar w.heap.size 1) (QZ ((i:Int)+k+1))) (.cells #[.slice A N c,QZ ((i:Int)+k+1)] 243) w.heap.size (by simpa using bo)).trans T;have u:=((Vk w.heap.size (Vk w.heap.size (Keep.refl _ w1) (ar w.heap.size 0) (.inr rfl) (.slice A N c)) (ar w.heap.size 1) (.inr rfl) (QZ ((i:Int)+k+1))).alloc (.cells #[.slice A N c,QZ ((i:Int)+k+1)] 243)).own cc.o (λj Y e=>O.o (by injection Y with Y;exact Y.trans e));obtain ⟨W5,bh⟩:∃W5,W5=((w1.setCell (ar w.heap.size 0) (.slice A N c)).setCell (ar w.heap.size 1) (QZ ((i:Int)+k+1))).alloc (.cells #[.slice A N c,QZ ((i:Int)+k+1)] 243):=⟨_,rfl⟩;rw [<-bh] at e3 ab u |-;clear bh e1 T;have b5:=ln u;have J:=a8.o;have D:=a3.o;have p1:=cS u J;have p2:=cS u D;have f1:=u.frozenAt q;have f2:=u.frozenAt C;have a9:=yS (p:=iw n (iG l n i) k) (i:=q) (j:=C) (by rw [lU];exact J) (by rw [lU];exact D);have b2:iw n (iG l n i) (k+1)=swp (iw n (iG l n i) k) q C:=by rw [iw,Hq.o,c9.o]
     obtain ⟨sl,b8⟩:=Vb (iw n (iG l n i) k);rw [b8] at u p1 p2 a9 b2;obtain ⟨co,d5,d4,ci,cv,bl⟩:=ai u a9 J b2 ab e3;have V:=cr.o;have a0:=cb.o;clear u a9 b2 ab e3 b8 b5;go_upto_region 14 with (fail);go_upto_region 15 with (fail);have B:=eC co.o q (nth sl C);have a7:Keep (λj=>j=w.heap.size\/j=g) w1 (W5.setCell (ar g q) (QZ (nth sl C))):=Keep.setCell (S:=λj=>j=w.heap.size\/j=g) cv.o (ar g q) (.inr (.inr rfl)) _;have a5:=((Vk g (Keep.refl _ W5) (ar g q) (.inr rfl) (QZ (nth sl C))).block w.heap.size (PU bl.o) (λe=>O.o e.symm)).trans bl.o;obtain ⟨W6,b3⟩:∃W6,W6=W5.setCell (ar g q) (QZ (nth sl C)):=⟨_,rfl⟩;rw [<-b3] at B a7 a5 |-;clear b3 p1 p2 f1 f2;have D:=a3.o;have p2:=cS B D;have f2:=B.frozenAt C;obtain ⟨ad,cy,bw⟩:=af B a7 a5;clear B a7 a5;go_upto_region 10 with (fail);have d2:=PC a8.o bz;clear p2 f2 V a0 cL;go_wp2;go_roundw
     case rel=>
      refine ⟨k+1,Z,congrArg (Value.int .i64) (PB Hq.o Z cf),?_,?_,?_⟩
      .have h8:=(Vk g (Keep.refl _ W6) (ar g C) (.inr rfl) (QZ (nth sl q))).block w.heap.size (PU bw.o) (λe=>O.o e.symm);refine h8.trans (bw.o.trans ?_);simp [Int.add_assoc]
      .rw [ci.o];exact eC ad.o C _
      .exact HK.o.trans ((Keep.below bV.o).trans (Keep.setCell (S:=λj=>j=w.heap.size\/j=g) cy.o (ar g C) (.inr (.inr rfl)) _))
     case measure=>exact Pz aM
    .obtain rfl:m=k:=ap;have a6:=(hK.block _ ap ap).trans cn.o;have b1:aq w wr:=av.o.trans (hK.toBelow av.o.size (λj Y=>ap));have e1:=QX wr (w.heap.size+1) 0 _ _ (.slice A N c) a6;have T:=QX _ (w.heap.size+1) 1 _ _ (QZ ((i:Int)+m)) e1;have aP:Keep (λj=>j=w.heap.size+1) wr ((wr.setCell (ar (w.heap.size+1) 0) (.slice A N c)).setCell (ar (w.heap.size+1) 1) (QZ ((i:Int)+m))):=Vk (w.heap.size+1) (Vk (w.heap.size+1) (Keep.refl _ _) _ (.inr rfl) _) _ (.inr rfl) _;have L:=aP.own h (λj Y e=>by injection Y with Y;have h1:g=j:=Y;omega);obtain ⟨⟨z0,z1⟩,zf⟩:=bx2 U;obtain ⟨⟨y0,y1⟩,yf⟩:=bx2 a6;obtain ⟨c8,cj,E2⟩:=af L (b1.trans (aP.toBelow b1.size (λj Y=>ap))) T;clear L b1 aP e1 T hK h U a6;go_wp2_with fail;have e3:=E2.o;have L:=c8.o;have b6:=cj.o;obtain ⟨W9,bi⟩:∃W9,W9=(wr.setCell (ar (w.heap.size+1) 0) (.slice A N c)).setCell (ar (w.heap.size+1) 1) (QZ ((i:Int)+m)):=⟨_,rfl⟩;rw [<-bi] at e3 L b6 |-;clear bi;have e3:Vg W9 (w.heap.size+1) #[.slice A N c,QZ ((i:Int)+m)] 243:=by simpa using e3
     clear y0 y1 yf z0 z1 zf;obtain ⟨⟨r0,r1⟩,rf⟩:=bx2 e3;exact Qd (v:=.tuple #[.agg #[.slice A N c,QZ ((i:Int)+m)],Vf g 0 n c2,.bool true]) (by simp [results,results140,go_sem,r0,r1]) rfl ⟨_,by rw [Int.natCast_add],aF L ap,b6⟩
theorem yA (n bt sn:Nat) (w:R8) (hb:1<=bt/\bt<=n) (hn:n<=1048576) (hs:sn<=1048576):Vj 139 #[QZ n,QZ bt,QZ sn] w λe R=>Vi e (QZ (epN n bt sn:Int))/\w=R:=by
 obtain ⟨p,u⟩:=Vb (n/bt);have v:1<=p:=by rw [<-u];exact Nat.div_pos ap ap
 have D:p<=n:=by rw [<-u];exact Nat.div_le_self _ _
 have L:epN n bt sn=(sn+p-1)/p:=by unfold epN;rw [u,sX _ _ v]
 rw [L];have C:(sn+p-1)/p<=sn+p-1:=Nat.div_le_self _ _;have y:=λt=>Ej (sn:=sn) (t:=t) v;have x:=λt=>Ei (sn:=sn) (t:=t) v;obtain ⟨E,B⟩:=Vb ((sn+p-1)/p);rw [B] at C y x |-;have Q:(n:Int).tdiv (bt:Int)=(p:Int):=by rw [<-u];rfl
 have O:(n:Int)/(bt:Int)=(p:Int):=by rw [<-u];rfl
 have T:¬(bt=0):=ap;obtain ⟨I,H⟩:=ae y x;clear u L B y x;go_enter func139,ntmps139;go_wp2
 go_loopw [7,8] (λt i wr=>∃k m:Nat,k<=E/\t=QZ k/\i=QZ m/\an (m=k*p)/\m<sn+p/\wr=w) (λ_ i _=>sn-(intOf i).toNat)
 .exact ⟨0,0,PZ _,rfl,rfl,aa ap,ap,rfl⟩
 case round=>
  obtain ⟨k,m,hk,rfl,rfl,J,hm,rfl⟩:=hrel;by_cases A:m<sn
  .have N:(m:Int)<sn:=ap;go_wp2;go_roundw
   .exact ⟨k+1,m+p,I.o k (by rw [<-J.out];exact A),Vc,Vc,aa (by rw [J.out,QM]),ap,trivial⟩
   .simp [intOf];omega
  .obtain rfl:k=E:=by
    rcases Qf k E with h | h
    .exact absurd (H.o k h) (by rw [<-J.out];exact A)
    .omega
   go_wp2;go_ret;exact ⟨rfl,rfl⟩
theorem Cn (n bt sn t c:Nat) (A:N_) (Q:Nat) (w:R8) (hb:1<=bt/\bt<=n) (hn:n<=1048576) (hs:sn<=1048576) (V:t<sn):Vj 99 #[.agg #[QZ n,QZ bt,QZ sn,.slice A Q c],QZ t] w λe O=>Vi e (.tuple #[QZ (t/(n/bt):Nat),QZ (t%(n/bt):Nat),.bool true])/\aq w O:=by
 obtain ⟨h,i⟩:=Vb (n/bt);have B:1<=h:=by rw [<-i];exact Nat.div_pos ap ap
 have x:h<=n:=by rw [<-i];exact Nat.div_le_self _ _
 have N:(n:Int).tdiv (bt:Int)=(h:Int):=by rw [<-i];rfl
 have L:(n:Int)/(bt:Int)=(h:Int):=by rw [<-i];rfl
 rw [i];have y:t/h<=t:=Nat.div_le_self _ _;have u:t%h<h:=Nat.mod_lt _ ap;have D:(t:Int).tdiv (h:Int)=((t/h:Nat):Int):=rfl;have o:(t:Int)/(h:Int)=((t/h:Nat):Int):=rfl;have C:(t:Int).tmod (h:Int)=((t%h:Nat):Int):=rfl;have p:(t:Int)%(h:Int)=((t%h:Nat):Int):=rfl;obtain ⟨E,I⟩:=Vb (t/h);obtain ⟨M,H⟩:=Vb (t%h);rw [I] at y D o |-;rw [H] at u C p |-;have U:¬(bt=0):=ap;have T:¬(h=0):=ap;have R:¬((sn:Int)<=t):=ap;have J:(t:Int)<sn:=ap;clear i I H;go_enter func99,ntmps99;go_wp2
 go_quiet (fail)
 go_wp2_with fail;exact Qd (v:=.tuple #[QZ (E:Int),QZ (M:Int),.bool true]) (by simp [results,results99,go_sem]) rfl ⟨rfl,Qa ((PY _ w).alloc (PV _) _) _⟩
def lQ (l:Q_) (n B k:Nat) (v:Value) (vs:R7) (w:R8):Prop:=w.ownsRow B 22 1 v k vs/\∀j,j<k->∃i h,vs[j]?=some (.slice i n h)/\n<=h/\w.ownsRow B 3 1 (.slice i n h) n (aA .i64 (gr l n (j*(n-1))))
theorem lQ.below {i:R8} (h:lQ l n B k v vs w) (hb:aq w i):lQ l n B k v vs i:=
 ⟨az h.1 hb,λj x=>by obtain ⟨A,y,o,p,u⟩:=h.2 j x;exact ⟨A,y,o,p,az u hb⟩⟩
theorem lQ.keep {p:R8} (h:lQ l n B k v vs w) (hk:Keep S w p) (u:∀k,S k->k<B):lQ l n B k v vs p:=
 ⟨hk.own h.1 (λj i e=>by have:=(h.1.lt j i).1;have:=u j e;omega),λj i=>by
  obtain ⟨C,A,x,y,o⟩:=h.2 j i
  exact ⟨C,A,x,y,hk.own o (λj i e=>by have:=(o.lt j i).1;have:=u j e;omega)⟩⟩
theorem lQ.base {i:Nat} (h:lQ l n B k v vs w) (hb:i<=B):lQ l n i k v vs w:=
 ⟨aF h.1 hb,λj x=>by obtain ⟨A,y,o,p,u⟩:=h.2 j x;exact ⟨A,y,o,p,aF u hb⟩⟩
theorem lQ.push {i:R8} (h:lQ l n B k v vs w) (hr:w.ownsRow B 3 1 (.slice A n c) n (aA .i64 (gr l n (k*(n-1))))) (hc:n<=c) (x:i.ownsRow B 22 1 v' (k+1) (vs++[.slice A n c])) (hg:w.grownBy i v.ownBlock):lQ l n B (k+1) v' (vs++[.slice A n c]) i:=
 ⟨x,λj H=>by
  have o:vs.length=k:=by have:=h.1.1;simpa using this
  rcases Qf j k with q | q
  .obtain ⟨D,C,p,u,y⟩:=h.2 j q;exact ⟨D,C,by rw [Qw ap];exact p,u,fx y h.1 hg V0⟩
  .obtain rfl:j=k:=ap
   exact ⟨A,c,by rw [Qx ap,o];simp,hc,fx hr h.1 hg V0⟩⟩
theorem lQ.rd (h:lQ l n B k (.slice A k c) vs w) (hn:n<=1048576):dx zD 1 w A (jb l n k):=by
 have o:vs.length=k:=by have:=h.1.1;simpa using this
 refine yW (Rd.own h.1) (by rw [o,sx]) λj x i=>?_;have p:j<k:=by rw [<-sx l n k];exact (Qu.1 i).1
 rw [uj l n p] at i;injection i with i
 obtain ⟨D,C,u,v,y⟩:=h.2 j p;refine ⟨_,u,D,C,?_,?_,?_,?_⟩
 .rw [<-i,jO]
 .rw [<-i,jO];exact v
 .rw [<-i,jO];omega
 .rw [<-i];exact Rd.own y
theorem N8 {E m:Nat} (h:k<E) (i:E*m<=N):k*m+m<=N:=by
 have h1:(k+1)*m<=E*m:=QY _ h;rw [QM] at h1;omega
def L0 (l:Q_) (n b steps E:Nat) (w:R8) (e:Ending) (h:R8):Prop:=∃A c,e=.returned (.tuple #[.agg #[QZ n,QZ b,QZ steps,.slice A E c],QZ 0])/\(∃vs,lQ l n w.heap.size E (.slice A E c) vs h)/\aq w h
theorem Ce (n b steps E c:Nat) (A:N_) (l:Q_) (w:R8) (hA:Rd w A (aA .u64 l)) (hl:l.length<=1048576) (hu:U64 l) (hb:1<=b) (bo:b<=n) (hn:n<=1048576) (bG:steps<=1048576) (hE:epN n b steps=E) (hd:E*(n-1)<=l.length):Vj 95 #[QZ n,QZ b,QZ steps,.slice A l.length c] w (L0 l n b steps E w):=by
 have cw:E<=steps:=by rw [<-hE];exact gj _ _
 have a5:=λY=>yA n b steps Y ⟨hb,bo⟩ hn bG;rw [hE] at a5;have a7:=λY=>pI n Y ap hn;obtain ⟨m,hm⟩:=Vb (n-1);have p:=λk Y (hk:k*m+m<=l.length) (q:Rd Y A (aA .u64 l))=>xY n c (k*m) A l Y q ap hn (by rw [hm];exact hk) hl hu;rw [hm] at hd a7;simp only [hm] at p;obtain ⟨N,hN⟩:=Vb l.length;rw [hN] at hd hl p |-;have q1:¬((n:Int)<1):=ap;have q2:¬((1048576:Int)<n):=ap;have q3:¬((steps:Int)<0):=ap;have q4:¬((1048576:Int)<steps):=ap;have q5:¬((b:Int)<1):=ap;have q6:¬((n:Int)<b):=ap;have a2:(E:Int)*(m:Int)=((E*m:Nat):Int):=by push_cast;rfl
 have q7:¬((N:Int)<(E:Int)*(m:Int)):=by rw [a2];omega
 have q8:wrap64 ((E:Int)*(m:Int))=(E:Int)*(m:Int):=by rw [a2];unfold wrap64;omega
 obtain ⟨Q7,Q8⟩:=ae q7 q8;clear a2 q7 q8;obtain ⟨HA,bM,cf,c7,Hd,Hm,HN⟩:=aj hA a5 a7 p hd hm hN;clear hA a5 a7 p hd hu hE hb bo hm hN;have D:=(Qc (w.alloc (.cells #[QZ 0,QZ 0,QZ 0,Ra] 128)) (.cells #[QZ n,QZ b,QZ steps,Ra] 128) w.heap.size V3).trans (PW w _);have B:=PW (w.alloc (.cells #[QZ 0,QZ 0,QZ 0,Ra] 128)) (.cells #[QZ n,QZ b,QZ steps,Ra] 128);rw [show (w.alloc (.cells #[QZ 0,QZ 0,QZ 0,Ra] 128)).heap.size=w.heap.size+1 by simp] at B;have hB:aq w ((w.alloc (.cells #[QZ 0,QZ 0,QZ 0,Ra] 128)).alloc (.cells #[QZ n,QZ b,QZ steps,Ra] 128)):=((PY _ w).alloc (PV _) _).alloc V3 _;have u:((w.alloc (.cells #[QZ 0,QZ 0,QZ 0,Ra] 128)).alloc (.cells #[QZ n,QZ b,QZ steps,Ra] 128)).heap.size=w.heap.size+2:=by simp
 obtain ⟨HZ,HY,HB,av⟩:=ag D B hB u;clear D B hB u;go_enter func95,ntmps95;go_wp2_with fail;refine (bM.o _).mono ?_;rintro e Y ⟨rfl,rfl⟩;clear q1 q2 q3 q4 q5 q6;go_wp2_with fail;refine (cf.o _).mono ?_;rintro e Y ⟨rfl,rfl⟩;have D:=HZ.o;have B:=HY.o;have hB:=HB.o;have u:=av.o;generalize (w.alloc (.cells #[QZ 0,QZ 0,QZ 0,Ra] 128)).alloc (.cells #[QZ n,QZ b,QZ steps,Ra] 128)=W1 at D B hB u |-;obtain ⟨b2,bl,O,i⟩:=ag D B hB u;clear D B hB u HZ HY HB av;have q7:=Q7.o;have q8:=Q8.o;go_wp2_with fail;clear q7 q8;rw [i.o];have H:=PW W1 (.cells #[.slice A N c,QZ 0] 243);rw [i.o] at H;have a4:=(Qc W1 (.cells #[.slice A N c,QZ 0] 243) w.heap.size (by rw [i.o];omega)).trans b2.o;have Z:=(Qc W1 (.cells #[.slice A N c,QZ 0] 243) (w.heap.size+1) (by rw [i.o];omega)).trans bl.o;have a1:=O.o.alloc (by rw [i.o];omega) (.cells #[.slice A N c,QZ 0] 243);have ad:(W1.alloc (.cells #[.slice A N c,QZ 0] 243)).heap.size=w.heap.size+3:=by simp [i.o]
 generalize W1.alloc (.cells #[.slice A N c,QZ 0] 243)=W0 at H a4 Z a1 ad |-;obtain ⟨HX,HZ,HY,HB,HS⟩:=ah H a4 Z a1 ad;clear H a4 Z a1 b2 bl O i W1
 go_loopw [13] (λx wr=>∃(k:Nat) (U:N_) (V:Nat) (vs:R7),k<=E/\x=QZ k/\wr.heap[w.heap.size+1]?=some (.cells #[QZ n,QZ b,QZ steps,.slice U k V] 128 (0,0))/\
  wr.heap[w.heap.size+2]?=some (.cells #[.slice A N c,QZ ((k*m:Nat):Int)] 243 (0,0))/\lQ l n (w.heap.size+3) k (.slice U k V) vs wr/\Keep (λj=>j=w.heap.size+1\/j=w.heap.size+2) W0 wr) (λx _=>E-(intOf x).toNat)
 .exact ⟨0,none,0,[],PZ _,rfl,HY.o,by rw [Nat.zero_mul];exact HX.o,⟨Qb _ _ _ _,λj R=>ap⟩,Keep.refl _ _⟩
 case round=>
  obtain ⟨k,U,V,vs,hk,rfl,B,H,hO,hK⟩:=hrel;have a6:=hK.size;rw [HS.o] at a6;by_cases aP:k<E
  .have cr:(k:Int)<E:=ap;have bi:Rd wr A (aA .u64 l):=Eb hK HA.o (HA.o.below HB.o) (λj R=>ap);have p:=c7.o k wr (N8 aP Hd.o) bi;obtain ⟨T,HO,HK,bN,cd⟩:=ah p hO hK B H;obtain ⟨⟨x0,x1⟩,xf⟩:=bx2 H;have bA:=PU H;clear p hO hK B H bi;go_wp2_with fail;refine T.o.mono ?_;rintro e w1 ⟨v,rfl,C,y⟩;obtain ⟨Av,cv,rfl,b5⟩:=aC C;clear x0 x1 xf T;have Q:=(y.block _ bA).trans cd.o;have a8:=(y.block _ ap).trans bN.o;have b9:=HO.o.below y;have ao:=aF C a6;have bd:=y.size;obtain ⟨⟨x0,x1⟩,xf⟩:=bx2 Q;have b4:=PU Q;obtain ⟨c9,b6,bw,b3,O,bs,bX⟩:=aj Q a8 b9 ao y bd b5;clear Q a8 b9 ao y bd C b5;go_upto_region 15 with (fail);obtain ⟨e2,k2⟩:=BD w1 (w.heap.size+2) (.slice A N c) (QZ ((k:Int)*m+m)) c9.o;have k5:=k2.alloc (.cells #[.slice A N c,QZ ((k:Int)*m+m)] 243);have e5:=(Qc ((w1.setCell (ar (w.heap.size+2) 0) (.slice A N c)).setCell (ar (w.heap.size+2) 1) (QZ ((k:Int)*m+m))) (.cells #[.slice A N c,QZ ((k:Int)*m+m)] 243) (w.heap.size+2) (by simpa using b4)).trans e2;generalize ((w1.setCell (ar (w.heap.size+2) 0) (.slice A N c)).setCell (ar (w.heap.size+2) 1) (QZ ((k:Int)*m+m))).alloc (.cells #[.slice A N c,QZ ((k:Int)*m+m)] 243)=W5 at k5 e5 |-;have bO:=P4 (P4 a6 bs.o) k5.size;have I:=(k5.block _ (PU b6.o) ap).trans b6.o;have a9:=bw.o.keep k5 (λj R=>ap);have b8:=k5.own b3.o (λj R e=>by have:=(b3.o.lt j R).1;omega);have b0:Keep (λj=>j=w.heap.size+1\/j=w.heap.size+2) W0 W5:=(HK.o.trans (Keep.below O.o)).trans (k5.mono λj _ h=>.inr h);have ab:W5.heap[w.heap.size+2]?=some (.cells #[.slice A N c,QZ ((((k+1)*m:Nat)):Int)] 243 (0,0)):=by rw [e5,QM];push_cast;rfl
   clear x0 x1 xf e2 k2 e5 k5;obtain ⟨⟨y0,y1,y2,y3⟩,yf⟩:=bx4 I;obtain ⟨c8,bI,aM,cj,cc⟩:=ah ab I a9 b8 b0;have cn:=PU I;clear ab I a9 b8 b0;go_wp2_with (at_builtin;refine aV AR W5 rfl (.tmp 72) (.tmp 74) rfl (w.heap.size+3) (.slice U k V) k vs rfl aM.o.1 [.slice Av n cv] rfl rfl V5 ap V2 bO ?_);intro g6 c6 w6 a3 L be;have bh:=aM.o.push (by have h:=cj.o;rw [<-Hm.o] at h;exact h) bX.o a3 be;have J:=(L.block _ ap).trans bI.o;have bb:=(L.block _ ap).trans c8.o;have aR:=cc.o.below2 (by rw [HS.o];exact L)
   have cl:g6≠w.heap.size+1:=λe=>by
    have:=(a3.lt g6 rfl).1;omega
   obtain ⟨⟨z0,z1,z2,z3⟩,zf⟩:=bx4 J;have cs:=PU J;obtain ⟨b7,bz,cb,ci⟩:=ag bb J bh aR;clear bb J bh aR a3 L be y0 y1 y2 y3 yf cl;go_wp2;go_roundw
   case rel=>
    have e1:=QX w6 (w.heap.size+1) 3 _ _ (.slice (some (ar g6 0)) (k+1) c6) bz.o;have k1:Keep (λj=>j=w.heap.size+1) w6 (w6.setCell (ar (w.heap.size+1) 3) (.slice (some (ar g6 0)) (k+1) c6)):=Vk (w.heap.size+1) (Keep.refl _ _) _ (.inr rfl) _;exact ⟨k+1,some (ar g6 0),c6,_,aP,Vc,by simpa using e1,(k1.block _ (PU b7.o) ap).trans b7.o,cb.o.keep k1 (λj R=>ap),ci.o.trans (k1.mono λj _ h=>.inl h)⟩
   case measure=>exact Va
  .obtain rfl:E=k:=ap;have D:=(hK.block _ (by rw [HS.o];omega) ap).trans HZ.o;have a0:aq w wr:=HB.o.trans (hK.toBelow (by rw [HS.o];omega) (λj R=>ap));obtain ⟨e4,k4⟩:=IL wr w.heap.size (QZ n) (QZ b) (QZ steps) (.slice U E V) D;have aG:=(hO.keep k4 (λj R=>ap)).base (show w.heap.size<=w.heap.size+3 by omega);have bn:aq w ((((wr.setCell (ar w.heap.size 0) (QZ n)).setCell (ar w.heap.size 1) (QZ b)).setCell (ar w.heap.size 2) (QZ steps)).setCell (ar w.heap.size 3) (.slice U E V)):=a0.trans (k4.toBelow a0.size (λj R=>ap));obtain ⟨⟨y0,y1,y2,y3⟩,yf⟩:=bx4 B;obtain ⟨⟨z0,z1,z2,z3⟩,zf⟩:=bx4 D;obtain ⟨E4,bv,bV⟩:=af e4 aG bn;clear e4 k4 aG bn hO hK H B D a0;go_wp2_with fail;have e3:=E4.o;have bf:=bv.o;have b1:=bV.o;generalize ((((wr.setCell (ar w.heap.size 0) (QZ n)).setCell (ar w.heap.size 1) (QZ b)).setCell (ar w.heap.size 2) (QZ steps)).setCell (ar w.heap.size 3) (.slice U E V))=W9 at e3 bf b1 |-;clear y0 y1 y2 y3 yf z0 z1 z2 z3 zf;obtain ⟨⟨r0,r1,r2,r3⟩,rf⟩:=bx4 e3;exact Qd (v:=.tuple #[.agg #[QZ n,QZ b,QZ steps,.slice U E V],QZ 0]) (by simp [results,results95,go_sem,r0,r1,r2,r3]) rfl ⟨_,_,rfl,⟨_,bf⟩,b1⟩
def epI (i:Inp):Nat:=epN i.data.length i.cfg.batch.toNat i.cfg.steps.toNat
def xA (i:Inp) (w:R8) (e:Ending) (h:R8):Prop:=∃A c,e=.returned (.agg #[QZ i.data.length,QZ i.cfg.batch,QZ i.cfg.steps,.slice A (epI i) c])/\(∃vs,lQ i.draws i.data.length w.heap.size (epI i) (.slice A (epI i) c) vs h)/\aq w h
theorem se (A:N_) (c:Nat) (D:N_) (cd:Nat) (T:N_) (ct:Nat) (R:N_) (O:Nat) (i:Inp) (w:R8) (hg:iX i) (hR:Rd w R (aA .u64 i.draws)) (V:i.draws.length<=1048576) (hu:U64 i.draws):Vj 60 #[.agg (aL A c D cd T ct R O i)] w (xA i w):=by
 have a1:=hg.b;have Q:=hg.d;have a4:1<=i.cfg.batch:=by have:=hg.c.w;have:=hg.c.ba;omega
 have a2:=hg.c.st;have y:=λw' (q:aq w w')=>Ce i.data.length i.cfg.batch.toNat i.cfg.steps.toNat (epI i) O R i.draws w' (hR.below q) V hu ap ap a1.2 ap rfl Q;rw [Int.toNat_of_nonneg (show 0<=i.cfg.batch by omega),Int.toNat_of_nonneg (show 0<=i.cfg.steps by omega)] at y;have H:(w.alloc (.cells (aL A c D cd T ct R O i) 29)).heap.size=w.heap.size+1:=by simp
 have Y:=jf w (aL A c D cd T ct R O i) 29 rfl;have Z:aq w (w.alloc (.cells (aL A c D cd T ct R O i) 29)):=(PY _ w).alloc (PV _) _;have p:=dP Y (.cells #[QZ 0,QZ 0,QZ 0,Ra] 128);have x:=jf _ #[QZ 0,QZ 0,QZ 0,Ra] 128 H;have h:=Z.alloc (by rw [H];omega) (.cells #[QZ 0,QZ 0,QZ 0,Ra] 128);obtain ⟨W1,I⟩:∃W1,W1=(w.alloc (.cells (aL A c D cd T ct R O i) 29)).alloc (.cells #[QZ 0,QZ 0,QZ 0,Ra] 128):=⟨_,rfl⟩;rw [<-I] at p x h;have Hq:=aa (show 0<=i.cfg.batch/\0<=i.cfg.steps by omega);obtain ⟨HX,HY,HB,a0⟩:=ag p x h y;clear Y p x h y Z H a1 Q a4 a2 hu V hR hg;dsimp only [aL] at I;go_enter func60,ntmps60;dsimp only [aL];go_wp2_with fail;rw [<-I];refine (a0.o W1 HB.o).mono ?_;rintro e w2 ⟨N,c2,rfl,⟨vs,hO⟩,h⟩;have C:=(h.block _ (PU HY.o)).trans HY.o;have L:=HB.o.trans (h.mono HB.o.size);rw [Int.toNat_of_nonneg Hq.o.1,Int.toNat_of_nonneg Hq.o.2];obtain ⟨e4,k4⟩:=IL w2 (w.heap.size+1) (QZ i.data.length) (QZ i.cfg.batch) (QZ i.cfg.steps) (.slice N (epI i) c2) C;have U:=dP e4 (.cells #[QZ i.data.length,QZ i.cfg.batch,QZ i.cfg.steps,.slice N (epI i) c2] 128);have J:=L.trans (k4.toBelow L.size (λj hj=>ap));have B:=J.alloc J.size (.cells #[QZ i.data.length,QZ i.cfg.batch,QZ i.cfg.steps,.slice N (epI i) c2] 128);have u:=((hO.keep k4 (λj hj=>by have:=PU HY.o;omega)).base HB.o.size).below ((PY _ _).alloc (PV _) (.cells #[QZ i.data.length,QZ i.cfg.batch,QZ i.cfg.steps,.slice N (epI i) c2] 128));have ly:=PU C;obtain ⟨⟨y0,y1,y2,y3⟩,yf⟩:=bx4 C;obtain ⟨E5,a3,a5⟩:=af U B u;clear e4 k4 U J B u hO h L C;go_wp2_with fail;have U:=E5.o;have B:=a3.o;have u:=a5.o;generalize ((((w2.setCell (ar (w.heap.size+1) 0) (QZ i.data.length)).setCell (ar (w.heap.size+1) 1) (QZ i.cfg.batch)).setCell (ar (w.heap.size+1) 2) (QZ i.cfg.steps)).setCell (ar (w.heap.size+1) 3) (.slice N (epI i) c2)).alloc (.cells #[QZ i.data.length,QZ i.cfg.batch,QZ i.cfg.steps,.slice N (epI i) c2] 128)=W9 at U B u |-;clear y0 y1 y2 y3 yf;obtain ⟨⟨r0,r1,r2,r3⟩,rf⟩:=bx4 U;exact Qd (v:=.agg #[QZ i.data.length,QZ i.cfg.batch,QZ i.cfg.steps,.slice N (epI i) c2]) (by simp [results,results60,go_sem,r0,r1,r2,r3]) rfl ⟨_,_,rfl,⟨_,u⟩,B⟩
def Ps (ra o q:Int) (P M g:Q_) (b B k:Nat) (p w:R8):Prop:=∃A1 c1 h c2,w.heap[b]?=some (.cells #[.slice A1 k c1,.slice h k c2] 103 (0,0))/\
 w.ownsRow B 2 1 (.slice A1 k c1) k (aA .i64 (dU k λj=>kU ra q (nth P j) (eE o q (nth M j) (nth g j))))/\
 w.ownsRow B 2 1 (.slice h k c2) k (aA .i64 (dU k λj=>eE o q (nth M j) (nth g j)))/\
 (∀i,(Value.slice A1 k c1).ownBlock=some i->(Value.slice h k c2).ownBlock≠some i)/\Keep (λj=>j=b) p w
theorem Pe (h:k<n):(k:Int)<n:=ap
theorem PF (h:k<n):n-(k+1)<n-k:=ap
def Ih (ra i q:Int) (P M g:Q_) (n:Nat) (w:R8) (e:Ending) (h:R8):Prop:=∃A1 c1 o c2,e=.returned (.tuple #[.agg #[.slice A1 n c1,.slice o n c2],.bool true])/\
 h.ownsRow w.heap.size 2 1 (.slice A1 n c1) n (aA .i64 (nu ra i q P M g))/\h.ownsRow w.heap.size 2 1 (.slice o n c2) n (aA .i64 (nv i q M g))/\aq w h
theorem sq (ra C q:Int) (A B G:N_) (P M g:Q_) (n ca cb cg:Nat) (w:R8) (hA:Rd w A (aA .i64 P)) (hB:Rd w B (aA .i64 M)) (hG:Rd w G (aA .i64 g)) (hP:P.length=n) (hM:M.length=n) (hg:g.length=n) (hn:n<=1048576) (wM:W64 M) (bM: -9223372036854775808<=ra/\ra<=9223372036854775807) (bG: -9223372036854775808<=C/\C<=9223372036854775807):Vj 63 #[.agg #[QZ ra,QZ C,QZ q],.agg #[.slice A n ca,.slice B n cb],.slice G n cg] w (Ih ra C q P M g n w):=by
 have cd:=λk y=>tT C (nth M k) q y bG (wM.nth k);have a1:=λx y (hx: -9223372036854775808<=x/\x<=9223372036854775807)=>tT ra x q y bM hx;obtain ⟨cx,HB,HG,HP,HM,Hg,cl,cn⟩:=ak hA hB hG hP hM hg cd a1;clear hA hB hG hP hM hg wM bM bG cd a1;go_enter func63,ntmps63;go_wp2_with fail;have s1:=fF (w:=w) rfl (.cells #[QZ ra,QZ C,QZ q] 136);have r1:=jf w #[QZ ra,QZ C,QZ q] 136 rfl;have b1:aq w (w.alloc (.cells #[QZ ra,QZ C,QZ q] 136)):=(PY _ w).alloc (PV _) _;generalize w.alloc (.cells #[QZ ra,QZ C,QZ q] 136)=W1 at s1 r1 b1 |-;have s2:=fF s1 (.cells #[.slice A n ca,.slice B n cb] 103);have r2:=dP r1 (.cells #[.slice A n ca,.slice B n cb] 103);have t2:=jf W1 #[.slice A n ca,.slice B n cb] 103 s1;have b2:=b1.alloc ap (.cells #[.slice A n ca,.slice B n cb] 103);generalize W1.alloc (.cells #[.slice A n ca,.slice B n cb] 103)=W2 at s2 r2 t2 b2 |-;clear s1 r1 b1;have s3:=fF s2 (.cells #[Ra,Ra] 103);have r3:=dP r2 (.cells #[Ra,Ra] 103);have t3:=dP t2 (.cells #[Ra,Ra] 103);have u3:=jf W2 #[Ra,Ra] 103 s2;have b3:=b2.alloc ap (.cells #[Ra,Ra] 103);generalize W2.alloc (.cells #[Ra,Ra] 103)=W3 at s3 r3 t3 u3 b3 |-;clear s2 r2 t2 b2;have s4:=fF s3 (.cells #[Ra,Ra] 103);have r4:=dP r3 (.cells #[Ra,Ra] 103);have t4:=dP t3 (.cells #[Ra,Ra] 103);have u4:=dP u3 (.cells #[Ra,Ra] 103);have v4:=jf W3 #[Ra,Ra] 103 s3;have b4:=b3.alloc ap (.cells #[Ra,Ra] 103);generalize W3.alloc (.cells #[Ra,Ra] 103)=W0 at s4 r4 t4 u4 v4 b4 |-;clear s3 r3 t3 u3 b3;obtain ⟨S4,R4,T4,U4,V4,B4⟩:=ai s4 r4 t4 u4 v4 b4;clear s4 r4 t4 u4 v4 b4
 go_loopw [9] (λx wr=>∃k:Nat,k<=n/\x=QZ k/\Ps ra C q P M g (w.heap.size+1+1+1) (w.heap.size+4) k W0 wr) (λx _=>n-(intOf x).toNat)
 .exact ⟨0,PZ _,rfl,none,0,none,0,V4.o,Qb _ _ _ _,Qb _ _ _ _,λi h=>by simp [Value.ownBlock] at h,Keep.refl _ _⟩
 case round=>
  obtain ⟨k,hk,rfl,A1,c1,A2,c2,hv,a6,a4,b7,H⟩:=hrel;have bi:=H.size;rw [S4.o] at bi;by_cases R:k<n
  .have cM:=Pe R;have bl:=(H.block _ (by rw [S4.o];omega) ap).trans R4.o;have b9:=(H.block _ (by rw [S4.o];omega) ap).trans T4.o;obtain ⟨ba,oa,rfl,pa⟩:=cx.o.num (show k<P.length by rw [HP.o];exact R);obtain ⟨bm,om,rfl,pm⟩:=HB.o.num (show k<M.length by rw [HM.o];exact R);obtain ⟨bg,og,rfl,pg⟩:=HG.o.num (show k<g.length by rw [Hg.o];exact R);have la:ba<w.heap.size:=aB pa;have lm:bm<w.heap.size:=aB pm;have lg:bg<w.heap.size:=aB pg;have pa:=H.cell (B4.o.cell (p:=(ar ba (oa+k))) la |>.trans pa) (by dsimp only;omega);have pm:=H.cell (B4.o.cell (p:=(ar bm (om+k))) lm |>.trans pm) (by dsimp only;omega);have pg:=H.cell (B4.o.cell (p:=(ar bg (og+k))) lg |>.trans pg) (by dsimp only;omega);obtain ⟨⟨x0,x1,x2⟩,xf⟩:=bx3 bl;obtain ⟨⟨y0,y1⟩,yf⟩:=bx2 b9;obtain ⟨HV,bv,cs,bO,HK,bs,cy,co⟩:=ak hv a6 a4 b7 H bi bl b9;have cA:=aa pa;clear hv a6 a4 b7 H bl b9 bi pa;go_wp2_with fail;have u:(λy:R8=>Vh y w.heap.size 1 (QZ C)/\Vh y w.heap.size 2 (QZ q)/\Vh y (w.heap.size+1) 1 (Vf bm om n cb)/\Vh y bm (om+k) (QZ (nth M k))/\Vh y bg (og+k) (QZ (nth g k))) wr.drew:=⟨x1,x2,y1,pm,pg⟩;refine HA.g (λy:R8=>Vh y w.heap.size 1 (QZ C)/\Vh y w.heap.size 2 (QZ q)/\Vh y (w.heap.size+1) 1 (Vf bm om n cb)/\Vh y bm (om+k) (QZ (nth M k))/\Vh y bg (og+k) (QZ (nth g k))) ?_;refine HA.t ?_ [0,1,2,3,4,5,6,7,8,10,11,12,13] u ?_;refine HA.o 9 (λK H=>?_);go_simp;refine (cl.o k _).mono ?_;rintro e w9 ⟨rfl,rfl⟩;dsimp only;refine H.out _ _ u (λu=>?_);clear H K;refine HA.t ?_ [14,15] u ?_;refine HA.d ?_;clear u pm pg x0 x1 x2 xf y0 y1 yf;have be: -9223372036854775808<=eE C q (nth M k) (nth g k)/\eE C q (nth M k) (nth g k)<=9223372036854775807:=fD _;have bh:IntKind.i64.wrap (fJ C (nth M k) q+nth g k)=eE C q (nth M k) (nth g k):=by rw [IntKind.wrap_i64];unfold eE wrap64;rfl
   obtain ⟨mv,a2⟩:=Vb (eE C q (nth M k) (nth g k));rw [a2] at be bh;rw [bh];have a1:=cn.o mv;obtain ⟨cv,b0,cw⟩:=af be a2 a1;have hv:=HV.o;obtain ⟨⟨z0,z1⟩,zf⟩:=bx2 hv;have cL:=PU hv;clear a1 be a2 hv bh;have cP:=P4 bs.o (PV _);go_wp2_with (at_builtin;refine dQ ky _ rfl (.tmp 49) (.tmp 51) rfl (w.heap.size+4) (.slice A2 k c2) k _ rfl (cs.o.alloc _) (some (ar wr.heap.size 0)) 1 1 [QZ mv] rfl (dW wr _ _ _ rfl) rfl V5 ap V2 V6 ?_);intro A7 c7 w7 a3 ci bI c6;have a3:w7.ownsRow (w.heap.size+4) 2 1 (.slice A7 (k+1) c7) (k+1) (aA .i64 (dU (k+1) λj=>eE C q (nth M j) (nth g j))):=by rw [iN,dd,b0.o];exact a3
   have D:Below (w.heap.size+4) wr w7:=(((PY _ wr).alloc ap _).drew).trans ci
   have bd:w7.ownsRow (w.heap.size+4) 2 1 (.slice A1 k c1) k (aA .i64 (dU k λj=>kU ra q (nth P j) (eE C q (nth M j) (nth g j)))):=by
    refine (bZ (bv.o.alloc (.cells #[QZ mv] 2)) 1).kept bI ?_
    cases hu:(Value.slice A1 k c1).ownBlock with
    | none=>exact .inl rfl
    | some i=>exact .inr λe=>bO.o i hu e.symm
   have aM:∀i,(Value.slice A1 k c1).ownBlock=some i->(Value.slice A7 (k+1) c7).ownBlock≠some i:=λi hi e=>by
    rcases c6 with h | h
    .exact bO.o i hi (h.symm.trans e)
    .have h1:=(bv.o.lt i hi).2;rw [h] at e;injection e with e;omega
   have N:=(D.block _ ap).trans HV.o;have a9:=(D.block _ ap).trans cy.o;have bf:=(D.block _ ap).trans co.o;have bV:=(D.cell (p:=(ar ba (oa+k))) (by dsimp only;omega)).trans cA.o;have bN:=HK.o.below2 (D.mono (by rw [S4.o];omega));have T:=Vk (w.heap.size+1+1+1) bN (ar (w.heap.size+1+1+1) 1) (.inr rfl) (.slice A7 (k+1) c7);have V:Keep (λj=>j=w.heap.size+1+1+1) w7 (w7.setCell (ar (w.heap.size+1+1+1) 1) (.slice A7 (k+1) c7)):=Vk (w.heap.size+1+1+1) (Keep.refl _ _) _ (.inr rfl) _;have I:=QX w7 (w.heap.size+1+1+1) 1 _ _ (.slice A7 (k+1) c7) N;have U:=(V.block _ (PU a9) ap).trans a9;have Y:=(V.block _ (PU bf) ap).trans bf;have a5:=V.cell bV (by dsimp only;omega);have Z:=V.own bd (λj Q e=>by have:=(bd.lt j Q).1;omega);have O:=V.own a3 (λj Q e=>by have:=(a3.lt j Q).1;omega);obtain ⟨⟨z0,z1⟩,zf⟩:=bx2 N;have b6:=PU N;obtain ⟨cr,b5,av,ad,cj,bz,bn,ab⟩:=ak D aM T I U Y a5 Z;have a0:=aa O;clear D bd aM N a9 bf bV bN T V I U Y a5 Z O a3 ci bI c6;go_wp2_with fail;have I:=ad.o;have U:=cj.o;have Y:=bz.o;have a5:=bn.o;have Z:=ab.o;have O:=a0.o;have T:=av.o;have bw:w7.heap.size=(w7.setCell (ar (w.heap.size+1+1+1) 1) (.slice A7 (k+1) c7)).heap.size:=by simp
   clear z0 z1 zf ad cj bz bn ab a0 av;have c8:=P4 bs.o cr.o.size;rw [bw] at b6 c8;generalize w7.setCell (ar (w.heap.size+1+1+1) 1) (.slice A7 (k+1) c7)=w8 at I U Y a5 Z O T b6 c8 |-;clear bw;have I:Vg w8 (w.heap.size+1+1+1) #[.slice A1 k c1,.slice A7 (k+1) c7] 103:=by simpa using I
   obtain ⟨⟨x0,x1,x2⟩,xf⟩:=bx3 U;obtain ⟨⟨y0,y1⟩,yf⟩:=bx2 Y;obtain ⟨⟨z0,z1⟩,zf⟩:=bx2 I;obtain ⟨ad,ab,a0,av⟩:=ag I Z O T;clear I U Y Z O T;have u:(λy:R8=>Vh y w.heap.size 0 (QZ ra)/\Vh y w.heap.size 2 (QZ q)/\Vh y (w.heap.size+1) 0 (Vf ba oa n ca)/\Vh y ba (oa+k) (QZ (nth P k))/\Vh y (w.heap.size+1+1+1) 0 (.slice A1 k c1)) w8.drew:=⟨x0,x2,y0,a5,z0⟩;refine XA.g 16 (λy:R8=>Vh y w.heap.size 0 (QZ ra)/\Vh y w.heap.size 2 (QZ q)/\Vh y (w.heap.size+1) 0 (Vf ba oa n ca)/\Vh y ba (oa+k) (QZ (nth P k))/\Vh y (w.heap.size+1+1+1) 0 (.slice A1 k c1)) ?_;refine XA.t ?_ [0,1,2,3,4,5,6,7,8,9,10,11] u ?_;refine XA.o 12 (λK H=>?_);go_simp;refine (cw.o w8.drew cv.o).mono ?_;rintro e w9 ⟨rfl,rfl⟩;dsimp only;refine H.out _ _ u (λu=>?_);clear H K;refine XA.t ?_ [13] u ?_;refine XA.o 14 (λK H=>?_);go_simp;refine H.out _ _ ⟨aJ u.1 _,aJ u.2.1 _,aJ u.2.2.1 _,aJ u.2.2.2.1 _,aJ u.2.2.2.2 _⟩ (λu=>?_);clear H K;refine XA.o 15 (λK H=>?_);refine bY ky (.tmp 55) (.tmp 68) rfl rfl (w.heap.size+4) (.slice A1 k c1) k _ rfl (bZ (ab.o.alloc _) 1) (some (ar w8.heap.size 0)) 1 1 [QZ (IntKind.i64.wrap (nth P k-fJ ra mv q))] rfl (dW w8 _ _ _ rfl) rfl V5 ap V2 V6 ?_;intro A9 c9 w9 a7 J cf cc;have a8:Below (w.heap.size+4) w8 w9:=(((PY _ w8).alloc ap _).drew).trans J;have bo:=P7 ((J.cell (p:=(ar w.heap.size 0)) (by dsimp only;omega)).trans u.1) (P7 ((J.cell (p:=(ar w.heap.size 2)) (by dsimp only;omega)).trans u.2.1) (P7 ((J.cell (p:=(ar (w.heap.size+1) 0)) (by dsimp only;omega)).trans u.2.2.1) (P7 ((J.cell (p:=(ar ba (oa+k))) (by dsimp only;omega)).trans u.2.2.2.1) ((J.cell (p:=(ar (w.heap.size+1+1+1) 0)) (by dsimp only;omega)).trans u.2.2.2.2))));have bX:IntKind.i64.wrap (nth P k-fJ ra mv q)=kU ra q (nth P k) (eE C q (nth M k) (nth g k)):=by rw [IntKind.wrap_i64,b0.o];unfold kU wrap64;rfl
   have a7:w9.ownsRow (w.heap.size+4) 2 1 (.slice A9 (k+1) c9) (k+1) (aA .i64 (dU (k+1) λj=>kU ra q (nth P j) (eE C q (nth M j) (nth g j)))):=by rw [iN,dd,<-bX];exact a7
   have b8:w9.ownsRow (w.heap.size+4) 2 1 (.slice A7 (k+1) c7) (k+1) (aA .i64 (dU (k+1) λj=>eE C q (nth M j) (nth g j))):=by
    refine (bZ (a0.o.alloc (.cells #[QZ (IntKind.i64.wrap (nth P k-fJ ra mv q))] 2)) 1).kept cf ?_
    cases hu:(Value.slice A7 (k+1) c7).ownBlock with
    | none=>exact .inl rfl
    | some i=>exact .inr λe=>b5.o i e.symm hu
   have aP:∀i,(Value.slice A9 (k+1) c9).ownBlock=some i->(Value.slice A7 (k+1) c7).ownBlock≠some i:=λi hi e=>by
    rcases cc with h | h
    .exact b5.o i (h.symm.trans hi) e
    .have h1:=(a0.o.lt i e).2;rw [h] at hi;injection hi with hi;simp at hi;omega
   have aG:=(a8.block _ ap).trans ad.o;have bA:=av.o.below2 (a8.mono (by rw [S4.o];omega));have aR:=QX w9 (w.heap.size+1+1+1) 0 _ _ (.slice A9 (k+1) c9) aG;have L:Keep (λj=>j=w.heap.size+1+1+1) w9 (w9.setCell (ar (w.heap.size+1+1+1) 0) (.slice A9 (k+1) c9)):=Vk (w.heap.size+1+1+1) (Keep.refl _ _) _ (.inr rfl) _
   have hI:Ps ra C q P M g (w.heap.size+1+1+1) (w.heap.size+4) (k+1) W0 (w9.setCell (ar (w.heap.size+1+1+1) 0) (.slice A9 (k+1) c9)):=
    ⟨A9,c9,A7,c7,by simpa using aR,L.own a7 (λj Q e=>by have:=(a7.lt j Q).1;omega),L.own b8 (λj Q e=>by have:=(b8.lt j Q).1;omega),aP,bA.trans L⟩
   have HI:=aa hI;clear x0 x1 x2 xf y0 y1 yf z0 z1 zf;obtain ⟨⟨z0,z1⟩,zf⟩:=bx2 aG;have d0:=PU aG;clear a7 J cf cc a8 bX b8 aP aG bA aR L hI u;dsimp only;refine H.out _ _ bo (λu=>?_);clear H K bo u;refine XA.e ?_;simp only [Qq,Qs];go_wp2;go_roundw
   .exact ⟨k+1,R,Vc,HI.o⟩
   .exact PF R
  .obtain rfl:n=k:=ap;have ao:=(H.block _ (by rw [S4.o];omega) ap).trans U4.o;have bb:aq w wr:=B4.o.trans (H.toBelow (by rw [S4.o];omega) (λj Q=>ap));obtain ⟨e2,k2⟩:=BD wr (w.heap.size+1+1) (.slice A1 n c1) (.slice A2 n c2) ao;have h1:=aF (base':=w.heap.size) (k2.own a6 (λj Q e=>by have:=(a6.lt j Q).1;omega)) ap;have h2:=aF (base':=w.heap.size) (k2.own a4 (λj Q e=>by have:=(a4.lt j Q).1;omega)) ap;have h3:=bb.trans (k2.toBelow bb.size (λj Q=>ap));obtain ⟨⟨y0,y1⟩,yf⟩:=bx2 hv;obtain ⟨⟨z0,z1⟩,zf⟩:=bx2 ao;obtain ⟨E2,F1,F2,F3⟩:=ag e2 h1 h2 h3;have cL:=PU hv;have cO:=PU ao;clear e2 k2 h1 h2 h3 a6 a4 H hv ao bb b7;go_wp2_with fail;have e3:=E2.o;have h1:=F1.o;have h2:=F2.o;have h3:=F3.o;generalize (wr.setCell (ar (w.heap.size+1+1) 0) (.slice A1 n c1)).setCell (ar (w.heap.size+1+1) 1) (.slice A2 n c2)=W9 at e3 h1 h2 h3 |-;clear y0 y1 yf z0 z1 zf;obtain ⟨⟨r0,r1⟩,rf⟩:=bx2 e3;exact Qd (v:=.tuple #[.agg #[.slice A1 n c1,.slice A2 n c2],.bool true]) (by simp [results,results63,go_sem,r0,r1]) rfl ⟨_,_,_,_,rfl,by unfold nu;rw [HP.o];exact h1,by unfold nv;rw [HM.o];exact h2,h3⟩
theorem ua (n b steps t E c:Nat) (A:N_) (l:Q_) (w:R8) (hA:dx zD 1 w A (jb l n E)) (hb:1<=b) (L:b<=n) (hn:n<=1048576) (V:steps<=1048576) (ht:t<steps) (hE:E=epN n b steps):Vj 62 #[.agg #[QZ n,QZ b,QZ steps,.slice A E c],QZ t] w λe N=>∃A c,Vi e (.slice A b c)/\b<=c/\Rd N A (aA .i64 (cN l n b t))/\aq w N:=by
 have b1:1<=n/b:=Nat.div_pos L hb;have u:=λN=>Cn n b steps t c A E N ⟨hb,L⟩ hn V ht;have B:t/(n/b)<E:=by rw [hE];exact AT ht
 have ad:E<=steps:=by rw [hE];exact gj _ _
 have H:cN l n b t=((gr l n ((t/(n/b))*(n-1))).drop (t%(n/b)*b)).take b:=rfl;have J:t%(n/b)*b+b<=n:=qi n b _ (Nat.mod_lt _ ap);rw [H];have Q:=uj l n B;obtain ⟨pl,v⟩:=Vb (gr l n ((t/(n/b))*(n-1)));have a1:pl.length=n:=by rw [<-v];exact jO _ _ _
 rw [v] at Q |-;obtain ⟨U,C⟩:=Vb (t/(n/b));obtain ⟨T,I⟩:=Vb (t%(n/b));rw [C] at u B Q;rw [I] at u J |-;obtain ⟨lo,y⟩:=Vb (T*b);rw [y] at J |-;obtain ⟨R,oo,A1,c1,rfl,b0,q2,Y,a0,h9⟩:=FB hA Q;rw [a1] at h9 a0 q2;obtain ⟨bg,og,rfl,q3⟩:=Y.num (show 0<pl.length by omega);have aG:(U:Int)<E:=ap;have a2:(lo:Int)<=((lo+b:Nat):Int):=ap;have ao:lo+b<=c1:=ap;have a4:(T:Int)*b=(lo:Int):=by rw [<-y];push_cast;rfl
 obtain ⟨Z,K3⟩:=ae u Y;clear u Y hE C I y v hA H q3 Q;have O:=PW w (.cells #[QZ n,QZ b,QZ steps,Vf R oo E c] 128);have p:aq w (w.alloc (.cells #[QZ n,QZ b,QZ steps,Vf R oo E c] 128)):=(PY _ w).alloc (PV _) _;go_enter func62,ntmps62;obtain ⟨W0,D⟩:∃W0,W0=w.alloc (.cells #[QZ n,QZ b,QZ steps,Vf R oo E c] 128):=⟨_,rfl⟩;go_wp2_with fail;rw [<-D] at O p |-;clear D;refine (Z.o _).mono ?_;rintro e w1 ⟨rfl,h⟩;have x:=(h.block _ (PU O)).trans O;have i:=p.trans (h.mono p.size);have aR:=aw i q2;have a7:R<w1.heap.size:=by have:=i.size;omega
 have ab:=PU x;obtain ⟨⟨y0,y1,y2,y3⟩,yf⟩:=bx4 x;have HB:=aa i;clear q2 O p h x i a2;go_upto_region 4 with (fail);have a5:IntKind.i64.wrap ((lo:Int)+b)=(lo:Int)+b:=P3 _ ap;have a3:IntKind.i64.wrap (lo:Int)=(lo:Int):=P3 _ ap;have av:(lo:Int)+b<=c1:=ap;have aP:((lo:Int)+b).toNat=lo+b:=ap;have a9:(0:Int)<=(lo:Int)+b:=ap;have aM:(lo:Int)<=(lo:Int)+b:=ap;have a8:lo+b-lo=b:=ap;have a6:¬(lo+b=lo):=ap
 go_quiet (fail)
 go_wp2;go_ret;refine ⟨_,_,rfl,?_,?_,Qa HB.o _⟩
 .omega
 .have:=(((K3.o.below HB.o).drewN nq).drop lo).take b
  rwa [dK,dH] at this
theorem lw:dM prog 54 103 (.agg #[Ra,Ra]) 2 48:=⟨underlying54,info_parts V1,rfl,by decide⟩
def rO (Z:N_) (h w:R8) (u:Value) (zs:Q_):Prop:=(∃c,u=.slice Z zs.length c/\zs.length<=c/\Rd h Z (aA .i64 zs)/\Rd w Z (aA .i64 zs))\/w.ownsRow h.heap.size 2 1 u zs.length (aA .i64 zs)
theorem rO.below {i:R8} (h:rO Z o w u zs) (hb:aq w i):rO Z o i u zs:=by
 rcases h with ⟨c,e,hc,p,h1⟩ | h
 .exact .inl ⟨c,e,hc,p,h1.below hb⟩
 .exact .inr (az h hb)
theorem rO.box {i:R8} (h:rO Z i w u zs) {x:R6} {A:Nat×Nat} (hb:w.heap[b]?=some (.cells x t A)) (y:t≠2) (hw:i.heap.size<=b) (k:Keep (λj=>j=b) w o):rO Z i o u zs:=by
 rcases h with ⟨c,e,hc,v,h1⟩ | h
 .exact .inl ⟨c,e,hc,v,Eb k v h1 (λj p=>ap)⟩
 .exact .inr (k.own h (λj p e=>ay hb y h (by rw [p,e])))
theorem rO.pushed {i x:R8} {e base:Nat} (h:rO Z i w u zs) (y:w.ownsRow base e size v n xs) (C:i.heap.size<=base) (hg:w.grownBy x v.ownBlock) (h1:e≠2):rO Z i x u zs:=by
 rcases h with ⟨c,e,hc,B,D⟩ | h
 .refine .inl ⟨c,e,hc,B,?_⟩
  cases zs with
  | nil=>exact Rd.nil _ _
  | cons z zs=>
   obtain ⟨b,o,rfl,c0⟩:=B.num (k:=0) V3;refine D.grown hg λa p=>?_;injection p with p
   intro H;have A:=(y.lt _ H.symm).1;have I:b<i.heap.size:=aB c0;rw [<-p] at A;dsimp only at A;omega
 .exact .inr (fx h y hg h1)
theorem rO.form {i:R8} (h:rO Z i w u zs):∃A c,u=.slice A zs.length c/\zs.length<=c/\Rd w A (aA .i64 zs):=by
 rcases h with ⟨c,e,hc,o,h1⟩ | h
 .exact ⟨Z,c,e,hc,h1⟩
 .obtain ⟨A,c,rfl,hc⟩:=aC h;exact ⟨A,c,rfl,hc,Rd.own h⟩
def RSt (Z:N_) (h w:R8) (i:R7) (x:Ex):Prop:=∃u v,i=[u,v]/\rO Z h w u x.1/\rO Z h w v x.2/\x.1.length<=1048576/\x.2.length<=1048576/\W64 x.1/\W64 x.2
theorem RSt.rd {I:R8} {i:R7} (h:RSt Z I w i x):rEx w i x:=by
 obtain ⟨u,v,rfl,h1,C,L,J,H,y⟩:=h;obtain ⟨A,c,rfl,hc,D⟩:=h1.form;obtain ⟨B,d,rfl,o,p⟩:=C.form;exact ⟨A,c,B,d,rfl,⟨hc,ap,D,H⟩,⟨o,ap,p,y⟩⟩
theorem RSt.below {p i:R8} {o:R7} (h:RSt Z p w o x) (hb:aq w i):RSt Z p i o x:=by
 obtain ⟨u,v,e,h1,y,A⟩:=h;exact ⟨u,v,e,h1.below hb,y.below hb,A⟩
theorem RSt.box {i:R8} {p:R7} (h:RSt Z i w p x) {C:R6} {D:Nat×Nat} (hb:w.heap[b]?=some (.cells C t D)) (y:t≠2) (hw:i.heap.size<=b) (k:Keep (λj=>j=b) w o):RSt Z i o p x:=by
 obtain ⟨u,v,e,h1,A,B⟩:=h;exact ⟨u,v,e,h1.box hb y hw k,A.box hb y hw k,B⟩
theorem RSt.pushed {p:R8} {A:R7} {e base:Nat} (h:RSt Z o w A x) (y:w.ownsRow base e size v n xs) (i:o.heap.size<=base) (hg:w.grownBy p v.ownBlock) (h1:e≠2):RSt Z o p A x:=by
 obtain ⟨u,v,e,B,C,D⟩:=h;exact ⟨u,v,e,B.pushed y i hg h1,C.pushed y i hg h1,D⟩
def m9 (Z:N_) (h:R8) (base:Nat) (w:R8) (i:Inp) (n:Nat) (v:Value):Prop:=∃rows,w.ownsRow base 103 2 v n (List.flatten rows)/\rows.length=n/\(∀r∈rows,r.length=2)/\(∀j,j<n->RSt Z h w (bS rows j) (dq i j))
theorem m9.form {base:Nat} (h:m9 Z o base w i n v):∃A c,v=.slice A n c/\n<=c:=by
 obtain ⟨rows,h1,_⟩:=h;exact aC h1
theorem m9.below {p:R8} {base:Nat} (h:m9 Z p base w i n v) (hb:aq w o):m9 Z p base o i n v:=by
 obtain ⟨rows,h1,u,A,x⟩:=h;exact ⟨rows,az h1 hb,u,A,λj y=>(x j y).below hb⟩
theorem m9.box {p u:R8} {base:Nat} (h:m9 Z p base w i n v) {D:R6} {H:Nat×Nat} (hb:w.heap[b]?=some (.cells D t H)) (B:t≠2) (hw:p.heap.size<=b) (x:b<base) (k:Keep (λj=>j=b) w u):m9 Z p base u i n v:=by
 obtain ⟨rows,h1,y,C,A⟩:=h;exact ⟨rows,k.own h1 (λj o e=>by have:=(h1.lt j o).1;omega),y,C,λj o=>(A j o).box hb B hw k⟩
theorem m9.rd {base:Nat} (h:m9 Z y base w i n (.slice A n c)):dx rEx 2 w A (jX i n):=by
 obtain ⟨rows,h1,u,B,v⟩:=h
 exact ⟨rows,Rd.own h1,by rw [vR];exact u,B,λj x o=>by
  have p:j<n:=by have:=(Qu.1 o).1;rwa [vR] at this
  rw [Iw i p] at o;injection o with o
  rw [<-o]
  exact (v j p).rd⟩
theorem m9.push {x:R8} {base:Nat} {p o:Value} (h1:w.ownsRow base 103 2 v k (List.flatten rows)) (A:rows.length=k) (H:∀r∈rows,r.length=2) (C:∀j,j<k->RSt Z x w (bS rows j) (dq i j)) (u:x.heap.size<=base) (D:RSt Z x w [p,o] (dq i k)) (B:y.ownsRow base 103 2 v' (k+1) (List.flatten rows++[p,o])) (hg:w.grownBy y v.ownBlock):m9 Z x base y i (k+1) v':=by
 refine ⟨rows++[[p,o]],by rw [QE,List.flatten_cons,List.flatten_nil,List.append_nil];exact B,by simp [A],?_,?_⟩
 .intro r hr;rcases QI.1 hr with hr | hr
  .exact H r hr
  .rw [List.mem_singleton.1 hr];rfl
 .intro j I;rcases Qf j k with h | h
  .have e:bS (rows++[[p,o]]) j=bS rows j:=by simp [bS,Qw (show j<rows.length by omega)]
   rw [e];exact (C j h).pushed h1 u hg V0
  .obtain rfl:j=k:=ap;have e:bS (rows++[[p,o]]) j=[p,o]:=by rw [<-A];simp [bS]
   rw [e];exact D.pushed h1 u hg V0
theorem m9.one {p:R8} {base:Nat} {o h:Value} (hb:base<=w.heap.size) (u:RSt Z p w [o,h] (dq i 0)):m9 Z p base (w.alloc (.cells #[o,h] 103)) i 1 (Vf w.heap.size 0 1 1):=by
 refine ⟨[[o,h]],⟨by simp,.inr ⟨w.heap.size,1,#[o,h],rfl,hb,PW w _,PV _,by unfold maxLen;omega,by simp,by simp⟩⟩,rfl,by simp,λj v=>?_⟩;obtain rfl:j=0:=ap;exact u.below ((PY _ _).alloc (PV _) _)
theorem Iv (i:Inp) (h:W64 i.start):∀k,W64 (dq i k).1/\W64 (dq i k).2:=by
 intro k
 cases k with
 | zero=>exact ⟨h,λk hk=>by rw [dq] at hk |-;rw [dN _ _ hk];simp⟩
 | succ k=>exact ⟨Gc _ _ _ _ _ _,Ge _ _ _ _⟩
def LZ (i:Inp) (w:R8) (e:Ending) (h:R8):Prop:=aq w h/\ ((iX i/\∃A c,e=.returned (.tuple #[.slice A (i.cfg.steps.toNat+1) c,QZ 0])/\dx rEx 2 h A (jX i (i.cfg.steps.toNat+1)))\/(¬iX i/\e=.returned (.tuple #[Ra,QZ (ez i)])))
def yL (T:N_) (i:Inp) (w:R8) (e:Ending) (h:R8):Prop:=aq w h/\∃A c base,e=.returned (.tuple #[.slice A (i.cfg.steps.toNat+1) c,QZ 0])/\m9 T w base h i (i.cfg.steps.toNat+1) (.slice A (i.cfg.steps.toNat+1) c)/\w.heap.size<=base
theorem yL.is {e:Ending} (hg:iX i) (h:yL T i w e o):LZ i w e o:=by
 obtain ⟨hb,A,c,base,he,hm,_⟩:=h;exact ⟨hb,.inl ⟨hg,A,c,he,hm.rd⟩⟩
def vt (w wr:R8) (l:Rl) (k:Nat) (v:Value):Prop:=∃rows,wr.ownsRow w.heap.size 103 2 v k (List.flatten rows)/\rows.length=k/\(∀r∈rows,r.length=2)/\(∀j x,j<k->l[j]?=some x->rEx w (bS rows j) x)/\aq w wr
theorem vt.push {A u:R8} {l:Rl} {o i:Value} (v:rows.length=k) (I:∀r∈rows,r.length=2) (C:∀j x,j<k->l[j]?=some x->rEx w (bS rows j) x) (D:aq w A) (J:l[k]?=some x) (H:rEx w [o,i] x) (B:u.ownsRow w.heap.size 103 2 v' (k+1) (List.flatten rows++[o,i])) (hb:Below (Ve w) A u):vt w u l (k+1) v':=by
 refine ⟨rows++[[o,i]],by rw [QE,List.flatten_cons,List.flatten_nil,List.append_nil];exact B,by simp [v],?_,?_,D.trans hb⟩
 .intro r hr;rcases QI.1 hr with hr | hr
  .exact I r hr
  .rw [List.mem_singleton.1 hr];rfl
 .intro j y L p;rcases Qf j k with h | h
  .have e:bS (rows++[[o,i]]) j=bS rows j:=by simp [bS,Qw (show j<rows.length by omega)]
   rw [e];exact C j y h p
  .obtain rfl:j=k:=ap;rw [J] at p;injection p with p;subst p
   have e:bS (rows++[[o,i]]) j=[o,i]:=by rw [<-v];simp [bS]
   rw [e];exact H
theorem vt.rd {wr:R8} {l:Rl} (h:vt w wr l n (.slice A n c)) (hn:l.length=n):dx rEx 2 wr A l:=by
 obtain ⟨rows,h1,v,u,o,p⟩:=h;exact ⟨rows,Rd.own h1,ap,u,λj x i=>dB p (o j x (by rw [<-hn];exact (Qu.1 i).1) i)⟩
theorem xr (A:N_) (l:Rl) (c:Nat) (w:R8) (h:dx rEx 2 w A l) (hl:l.length<=1048577):Vj 25 #[.slice A l.length c] w λe w'=>∃A' c',Vi e (.slice A' l.length c')/\dx rEx 2 w' A' l/\aq w w':=by
 obtain ⟨n,hn⟩:=Vb l.length;rw [hn] at hl |-;obtain ⟨H,Hn⟩:=ae h hn;clear h hn;go_enter func25,ntmps25;go_wp2
 go_loopw [3,8] (λv i wr=>∃k:Nat,k<=n/\i=QZ k/\vt w wr l k v) (λ_ i _=>n-(intOf i).toNat)
 .exact ⟨0,PZ _,rfl,[],Qb _ _ _ _,rfl,by simp,λj x hj=>ap,PY _ _⟩
 case round=>
  obtain ⟨k,hk,rfl,rows,h1,h2,h3,h4,Z⟩:=hrel;obtain ⟨Al,cl,rfl,_⟩:=aC h1;obtain ⟨R1,R2,R3,R4,R⟩:=ah h1 h2 h3 h4 Z;have O:=Z.size;clear h1 h2 h3 h4 Z;by_cases B:k<n
  .have a4:(k:Int)<n:=ap;obtain ⟨x,hx⟩:∃x,l[k]?=some x:=⟨_,Qv (by rw [Hn.o];exact B)⟩;obtain ⟨b,o,A1,c1,A2,c2,rfl,C,p1,p2,r1,r2⟩:=fS H.o hx;have q1:=(R.o.cell (p:=(ar b (o+k*2))) C).trans p1;have q2:=(R.o.cell (p:=(ar b (o+k*2+1))) C).trans p2;have hu:rEx w [.slice A1 x.1.length c1,.slice A2 x.2.length c2] x:=⟨_,_,_,_,rfl,r1,r2⟩;obtain ⟨U,D⟩:=Vb x.1.length;obtain ⟨V,I⟩:=Vb x.2.length;rw [D,I] at hu;rw [D] at q1;rw [I] at q2;obtain ⟨Hu,Hx⟩:=ae hu hx;have a5:b<(Ve wr):=P6 C O;clear hu hx D I r1 r2 p1 p2;go_wp2_with fail;refine (LJ A1 A2 U c1 V c2 _).mono ?_;rintro e w3 ⟨rfl,J⟩;have u:aq w w3:=(R.o.alloc O _).trans (J.mono V6);have N:=az (R1.o.alloc _) J;have a3:=u.size;obtain ⟨Y,a0⟩:=ae u N;clear J u N q1 q2;go_wp2_with (at_builtin;refine aV lw _ rfl (.tmp 12) (.tmp 15) rfl (Ve w) (.slice Al k cl) k _ rfl a0.o [.slice A1 U c1,.slice A2 V c2] rfl rfl V5 ap V2 a3 ?_);intro g6 c6 w6 L Q a2;have T:=vt.push R2.o R3.o R4.o Y.o Hx.o Hu.o L Q;have a1:=aa T;clear L Q a2 T;go_wp2;go_roundw
   .exact ⟨k+1,B,Vc,a1.o⟩
   .exact JY B
  .obtain rfl:n=k:=ap;have y:dx rEx 2 wr Al l:=vt.rd ⟨rows,R1.o,R2.o,R3.o,R4.o,R.o⟩ Hn.o;have HF:=aa y;clear y;go_wp2;go_ret;exact ⟨_,_,rfl,HF.o,R.o⟩
theorem vW (A1 A2:N_) (l1 B:Rl) (c1 c2:Nat) (w:R8) (h1:dx rEx 2 w A1 l1) (h2:dx rEx 2 w A2 B) (a5:l1.length<=1048577) (a2:B.length<=1048577):Vj 24 #[.slice A1 l1.length c1,.slice A2 B.length c2] w λe v=>Vi e (.bool (decide (l1=B)))/\aq w v:=by
 obtain ⟨n,hn⟩:=Vb l1.length;obtain ⟨m,hm⟩:=Vb B.length;obtain ⟨b,hb⟩:=Vb (decide (l1=B));rw [hn] at a5 |-;rw [hm] at a2 |-;rw [hb];obtain ⟨H1,H2,Hn,Hm,Hb⟩:=ah h1 h2 hn hm hb;clear h1 h2 hn hm hb;by_cases a0:n≠m
 .have hq:((n:Int) != (m:Int))=true:=by rw [bne_iff_ne];omega
  have D:b=false:=by
   rw [<-Hb.o];refine QT λe=>a0 ?_;rw [<-Hn.o,<-Hm.o,e]
  go_enter func24,ntmps24;go_wp2;go_ret;exact ⟨by rw [D];rfl,PY _ _⟩
 obtain rfl:n=m:=ap;clear a0;go_enter func24,ntmps24;go_wp2
 go_loopw [5] (λi wr=>∃k:Nat,k<=n/\i=QZ k/\an (∀j,j<k->l1[j]?=B[j]?)/\aq w wr) (λi _=>n-(intOf i).toNat)
 .exact ⟨0,PZ _,rfl,aa λj hj=>ap,PY _ _⟩
 case round=>
  obtain ⟨k,hk,rfl,C,T⟩:=hrel;have U:=aa T;clear T;by_cases Q:k<n
  .have a7:(k:Int)<n:=ap;obtain ⟨x,hx⟩:∃x,l1[k]?=some x:=⟨_,Qv (by rw [Hn.o];exact Q)⟩;obtain ⟨y,hy⟩:∃y,B[k]?=some y:=⟨_,Qv (by rw [Hm.o];exact Q)⟩;have g1:dx rEx 2 wr A1 l1:=H1.o.below dB U.o;have g2:dx rEx 2 wr A2 B:=H2.o.below dB U.o;obtain ⟨b1,o1,P1,d1,Q1,f1,rfl,a6,p1,p2,r1,r2⟩:=fS g1 hx;obtain ⟨b2,o2,P2,d2,Q2,f2,rfl,a8,q1,q2,s1,s2⟩:=fS g2 hy;have O:=λv (k:aq wr v)=>BC P1 Q1 P2 Q2 x.1 x.2 y.1 y.2 d1 f1 d2 f2 v (r1.below k) (r2.below k) (s1.below k) (s2.below k);obtain ⟨eq,I⟩:=Vb (decide (x.1=y.1)&&decide (x.2=y.2))
   have Y:eq=true↔x=y:=by
    rw [<-I,Bool.and_eq_true,QV,QV];exact ⟨λh=>Prod.ext h.1 h.2,λh=>by rw [h];exact ⟨rfl,rfl⟩⟩
   obtain ⟨n1,H⟩:∃n,x.1.length=n:=⟨_,rfl⟩;obtain ⟨n2,N⟩:∃n,x.2.length=n:=⟨_,rfl⟩;obtain ⟨m1,J⟩:∃n,y.1.length=n:=⟨_,rfl⟩;obtain ⟨m2,L⟩:∃n,y.2.length=n:=⟨_,rfl⟩;rw [I,H,N,J,L] at O;rw [H] at p1;rw [N] at p2;rw [J] at q1;rw [L] at q2;obtain ⟨a1,Hx,Hy,V⟩:=ag O hx hy Y;clear O hx hy Y I H N J L g1 g2 r1 r2 s1 s2;go_wp2_with fail;have u:(λv:R8=>Vh v b1 (o1+k*2) (.slice P1 n1 d1)/\Vh v b1 (o1+k*2+1) (.slice Q1 n2 f1)/\Vh v b2 (o2+k*2) (.slice P2 m1 d2)/\Vh v b2 (o2+k*2+1) (.slice Q2 m2 f2)) wr.drew:=⟨p1,p2,q1,q2⟩;refine HA.g (λv:R8=>Vh v b1 (o1+k*2) (.slice P1 n1 d1)/\Vh v b1 (o1+k*2+1) (.slice Q1 n2 f1)/\Vh v b2 (o2+k*2) (.slice P2 m1 d2)/\Vh v b2 (o2+k*2+1) (.slice Q2 m2 f2)) ?_;refine HA.t ?_ [0,1,2,3,4,5,6,7] u ?_;refine HA.o 8 (λK hK=>?_);go_simp;refine (a1.o _ ((PY _ _).drew)).mono ?_;rintro e w3 ⟨rfl,A⟩;have Z:=P7 (aw A u.1) (P7 (aw A u.2.1) (P7 (aw A u.2.2.1) (aw A u.2.2.2)));have R:=aa (U.o.trans (((PY (Ve wr) wr).drew.trans A).mono U.o.size));clear A u;dsimp only;refine hK.out _ _ Z (λu=>?_);clear hK K Z;refine HA.t ?_ [9] u ?_;refine HA.d ?_;clear u p1 p2 q1 q2;rcases eD eq with rfl | rfl
   .go_wp2;go_ret
    have D:b=false:=by
     rw [<-Hb.o];refine QT λe=>?_;have h:=Hx.o;rw [e,Hy.o] at h;injection h with h
     have:=V.o.2 h.symm;cases this
    exact ⟨by rw [D];rfl,R.o⟩
   .have a4:=aa (V.o.1 rfl);go_wp2;go_roundw
    case rel=>exact ⟨k+1,ap,Vc,aa (p:=∀j,j<k+1->l1[j]?=B[j]?) λj hj=>by
     rcases Qf j k with h | h
     .exact C.out j h
     .obtain rfl:j=k:=ap
      rw [Hx.o,Hy.o,a4.o],R.o⟩
    case measure=>exact Va
  .obtain rfl:n=k:=ap
   have a3:b=true:=by
    rw [<-Hb.o];refine QS (List.ext_getElem? λj=>?_);rcases Qf j n with h | h
    .exact C.out j h
    .rw [List.getElem?_eq_none (by rw [Hn.o];exact h),List.getElem?_eq_none (by rw [Hm.o];exact h)]
   go_wp2;go_ret;exact ⟨by rw [a3];rfl,U.o⟩
def vl (w:R8):List Obj->R8
 | []=>w
 | o::l=>vl (w.alloc o) l
theorem eJ:∀(l:List Obj) (w:R8),aq w (vl w l)
 | [],w=>br w
 | o::l,w=>bt ((br w).alloc (PV _) o) (eJ l _)
theorem cu:∀(l:List Obj) (w:R8) (k:Nat) {o:Obj},l[k]?=some o->(vl w l).heap[w.heap.size+k]?=some o
 | [],_,_,_,h=>by simp at h
 | o::l,w,0,_,h=>by
  simp only [Qp,Option.some.injEq] at h;subst h;exact sb (PW w o) _ (eJ l _)
 | o::l,w,k+1,_,h=>by
  have:=cu l (w.alloc o) k (by simpa using h)
  rwa [show (w.alloc o).heap.size+k=w.heap.size+(k+1) by rw [Qg];omega] at this
theorem sR (y:Itm):∃(C h p:Int) (v u:Bool) (o i D x B A H:Int),bj y=[QZ C,QZ h,QZ p,.bool v,.bool u,QZ o,QZ i,QZ D,QZ x,QZ B,QZ A,QZ H]:=by
 obtain ⟨k,s,n,a⟩:=y
 cases a with
 | none=>exact ⟨_,_,_,_,_,_,_,_,_,_,_,_,rfl⟩
 | some a=>exact ⟨_,_,_,_,_,_,_,_,_,_,_,_,rfl⟩
theorem mD:dg prog 152 12:=⟨⟨_,underlying152,rfl⟩,by kernel_rfl⟩
theorem sw {i:R8} {o:Nat} {p:R7} (h:w.rangeAt b o p) (q:aq w i):i.rangeAt b o p:=λj v u=>aw q (h j v u)
theorem D7 {x:Nat} (h:aU H w b i x a m) (hn:(cC i x m.st).length<=m.nx) (u v:Value):Vj 216 #[(au b),u,v] w λe B=>Vi e (QZ 13)/\aq w B:=by
 have A:=aa (yn h hn);clear h hn;go_enter func216,ntmps216;go_wp2_with fail;refine A.o.mono ?_;rintro e C ⟨rfl,p⟩;have y:=aa (p.alloc p.size (.cells Rh 152));clear p;go_wp2;go_ret;exact ⟨rfl,y.o⟩
theorem zy (h:Vg w b xs.toArray e):Rd w (some (ar b 0)) xs:=λk u i=>⟨b,0,rfl,by
 rw [QP,PX w b k _ _ _ h];simpa using i⟩
theorem xH (h:∀z∈l,0<=z/\z<=1048576):W64 l:=λk hk=>by
 have:=h _ (ym hk);omega
theorem vh {x y:Value} (i p o:Value) (h:Vg w b #[u,x,y] t): Vg (((w.setCell (ar b 0) i).setCell (ar b 1) p).setCell (ar b 2) o) b #[i,p,o] t:=by
 have h1:=QX w b 0 _ _ i h;have v:=QX _ b 1 _ _ p h1;exact QX _ b 2 _ _ o v
theorem rF (h o p:Value):Keep (λi=>i=b) w (((w.setCell (ar b 0) h).setCell (ar b 1) o).setCell (ar b 2) p):=
 Vk b (Vk b (Vk b (Keep.refl _ w) (ar b 0) (.inr rfl) h) (ar b 1) (.inr rfl) o) (ar b 2) (.inr rfl) p
theorem Kg (r c:Nat) (w:R8) (hr:1<=r/\r<=1048576) (hc:1<=c/\c<=1048576) (hm:r*c<=1048576):Vj 258 #[QZ r,QZ c] w λe y=>∃A,Vi e (.agg #[QZ r,QZ c,.slice A (r*c) (r*c)])/\y.ownsRow w.heap.size 2 1 (.slice A (r*c) (r*c)) (r*c) (aA .i64 (List.replicate (r*c) 0))/\aq w y:=by
 have e1:(r:Int)*(c:Int)=((r*c:Nat):Int):=(Int.natCast_mul r c).symm;have hs:=λy=>vY r c y ⟨ap,ap⟩ ⟨ap,ap⟩;obtain ⟨p,J⟩:=Vb (r*c);rw [J] at e1 hm |-;clear J;have x:(8:Nat)*p<=281474976710656:=ap;obtain ⟨D,Q⟩:=ae x hs;clear x hs;go_enter func258,ntmps258;go_wp2_with fail;refine (Q.o _).mono ?_;rintro e w1 ⟨rfl,C⟩;subst C;go_wp2_with (at_make;refine vN mY _ rfl (.tmp 20) (.tmp 20) rfl rfl p rfl rfl D.o V2 ?_);intro H i hb;rw [fB] at i;have h:=(hb.block w.heap.size V3).trans (PW w _);obtain ⟨⟨T,O,r2⟩,V⟩:=bx3 h;have Z:w.heap.size<H.heap.size:=PU h;obtain ⟨HO,R,Y⟩:=af i hb h;clear i hb h;go_wp2_with fail;have L:=vh (QZ r) (QZ c) (.slice (some (ar (w.heap.size+1) 0)) p p) Y.o;have B:=rF (w:=H) (b:=w.heap.size) (QZ r) (QZ c) (.slice (some (ar (w.heap.size+1) 0)) p p);obtain ⟨I,u⟩:∃I,I=(((H.setCell (ar w.heap.size 0) (QZ r)).setCell (ar w.heap.size 1) (QZ c)).setCell (ar w.heap.size 2) (.slice (some (ar (w.heap.size+1) 0)) p p)):=⟨_,rfl⟩;rw [<-u] at L B |-;clear u T O r2 V;obtain ⟨⟨N,U,q2⟩,qf⟩:=bx3 L;refine Qd (v:=.agg #[QZ r,QZ c,.slice (some (ar (w.heap.size+1) 0)) p p]) (by simp [results,results258,go_sem,N,U,q2]) rfl ⟨_,rfl,?_,?_⟩
 .refine aF (base:=w.heap.size+1) (B.own HO.o (λk hk e=>?_)) ap;simp [Value.ownBlock] at hk;omega
 .exact (Below.trans ((PY _ w).alloc (PV _) _) (R.o.mono V3)).trans (B.toBelow ap (λk hk=>ap))
section
open Go.Shelf
attribute [local go_sem] Oper.semAt_some
def OA (r c:Nat) (ys xs:Q_) (A B:N_) (h d e:Nat) (q:Int) (w:R8) (G N M:Nat) (i:List (Fin r)) (W:R8):Prop:= (W.ownsRow w.heap.size 2 1 (.slice (some (ar G 0)) h h) h (aA .i64 (oT r c ys xs q (i.map (·.1)) 0 0))/\Boxed W w.heap.size 139 (.slice A r d)/\Boxed W (w.heap.size+1) 139 (.slice B c e)/\Boxed W (w.heap.size+1+1) 3 (QZ q)/\
  W.heap[w.heap.size+1+1+1]?=some (.cells #[QZ 0,QZ 0,Ra] 354 (0,0))/\W.heap[N]?=some (.cells #[QZ r,QZ c,.slice (some (ar G 0)) h h] 354 (0,0))/\
  W.heap[M]?=some (.cells #[QZ r,QZ c,.slice (some (ar G 0)) h h] 354 (0,0)))/\aq w W
theorem JP (r c:Nat) (ys xs:Q_) (A B:N_) (C d e:Nat) (q:Int) (w:R8) (G N M K:Nat) (v:w.heap.size<=K):OwnFrom K (OA r c ys xs A B C d e q w G N M):=by
 intro s W H row hs hg hr;obtain ⟨⟨h1,o,D,p,x,u,i⟩,h⟩:=hs;have y:=ownFrom_below (β:=Unit) (PV _) v () W H row h hg hr;exact ⟨⟨zJ h1 hg hr,eQ rfl o hg hr,eQ rfl D hg hr,eQ rfl p hg hr,eQ rfl x hg hr,eQ rfl u hg hr,eQ rfl i hg hr⟩,y⟩
theorem FN (r c:Nat) (A B:N_) (ys xs:Q_) (d e:Nat) (q:Int) (w:R8) (hr:1<=r/\r<=1048576) (hc:1<=c/\c<=1048576) (hm:r*c<=1048576) (hA:Rd w A (aA .i64 ys)) (wy:W64 ys) (cb:ys.length=r) (hB:Rd w B (aA .i64 xs)) (bz:xs.length=c) (wx:W64 xs):Vj 250 #[.slice A r d,.slice B c e,QZ q] w λe J=>∃A',Vi e (.agg #[QZ r,QZ c,.slice A' (r*c) (r*c)])/\J.ownsRow w.heap.size 2 1 (.slice A' (r*c) (r*c)) (r*c) (aA .i64 (mN r c ys xs q))/\aq w J:=by
 obtain ⟨C,a8⟩:=Vb (r*c);have cP:1<=C:=by rw [<-a8];exact Nat.mul_pos hr.1 hc.1
 have b4:=λJ=>Kg r c J hr hc hm;have bw:=λA' J=>nX r c A' C C J hr hc a8.symm ap;have c6:=λcs J=>tI cs J;rw [a8] at b4 hm |-;obtain ⟨cn,cv,cx,a9,co,cy,HA,HB⟩:=ak b4 bw c6 a8 bz cb hA hB;obtain ⟨WX,WY⟩:=ae wx wy;clear b4 bw c6 a8 bz cb hA hB wx wy;refine (callsIn_wide (n:=3)).1 ?_;refine callsIn_of_wp_marks func250 rfl trivial ?_ rfl;simp only [ntmps250,List.size_toArray,List.length_cons,List.length_nil,Nat.reduceAdd,Nat.reduceSub,Array.replicate_succ,Array.replicate_zero,List.push_toArray,List.append_toArray,List.nil_append,List.cons_append]
 gi_wp2_with fail
 refine ⟨trivial,?_⟩;refine (callsIn_wide.2 (cn.o _)).mono ?_;rintro e w1 ⟨A',rfl,L,a0⟩;have aP:aq w w1:=Below.trans (((((PY _ w).alloc (PV _) _).alloc V3 _).alloc V6 _).alloc V6 _) (a0.mono V8)
 have h2:Boxed w1 w.heap.size 139 (.slice A r d):=by
  refine (a0.block w.heap.size V8).trans ?_;refine (Qc _ _ _ V8).trans ((Qc _ _ _ V8).trans ((Qc _ _ _ V3).trans (PW w _)))
 have h3:Boxed w1 (w.heap.size+1) 139 (.slice B c e):=by
  refine (a0.block (w.heap.size+1) V8).trans ?_;refine (Qc _ _ _ V8).trans ((Qc _ _ _ V3).trans ?_);have:=PW (w.alloc (.cells #[.slice A r d] 139)) (.cells #[.slice B c e] 139);simpa using this
 have h4:Boxed w1 (w.heap.size+1+1) 3 (QZ q):=by
  refine (a0.block (w.heap.size+1+1) V8).trans ?_;refine (Qc _ _ _ V3).trans ?_;have:=PW ((w.alloc (.cells #[.slice A r d] 139)).alloc (.cells #[.slice B c e] 139)) (.cells #[QZ q] 3);simpa using this
 have h5:Vg w1 (w.heap.size+1+1+1) #[QZ 0,QZ 0,Ra] 354:=by
  refine (a0.block (w.heap.size+1+1+1) V3).trans ?_;have:=PW (((w.alloc (.cells #[.slice A r d] 139)).alloc (.cells #[.slice B c e] 139)).alloc (.cells #[QZ q] 3)) (.cells #[QZ 0,QZ 0,Ra] 354);simpa using this
 obtain ⟨G,dG,bA,hG,bo⟩:=L.form ap;simp only [QH] at bA;obtain ⟨rfl,_,rfl⟩:=bA;have c7:w.heap.size+1+1+1+1<=G:=by simpa using hG
 have L:=aF L (base':=w.heap.size) V8;obtain ⟨bi,a6,H2,H3,H4,H5,bf,cd⟩:=ak L aP h2 h3 h4 h5 c7 bo;clear L aP h2 h3 h4 h5 c7 bo hG a0
 gi_wp2_with fail
 refine ⟨trivial,?_⟩;refine (callsIn_wide.2 (cv.o _ _)).mono ?_;rintro e w2 ⟨rfl,rfl⟩
 gi_wp2_with fail
 refine ⟨trivial,?_⟩;refine (callsIn_wide.2 (cx.o _ _)).mono ?_;rintro e w3 ⟨rfl,rfl⟩
 gi_wp2_with fail
 obtain ⟨U,V⟩:∃U,U=(w1.alloc (.cells #[QZ r,QZ c,Vf G 0 C C] 354)).alloc (.cells #[QZ r,QZ c,Vf G 0 C C] 354):=⟨_,rfl⟩;rw [<-V];have ab:U.heap.size=w1.heap.size+1+1:=by rw [V];simp
 have bN:Vg U w1.heap.size #[QZ r,QZ c,Vf G 0 C C] 354:=by
  rw [V];exact (Qc _ _ _ V3).trans (PW w1 _)
 have bM:Vg (U.alloc (.cells #[QZ r,QZ c,Vf G 0 C C] 354)) U.heap.size #[QZ r,QZ c,Vf G 0 C C] 354:=PW U _
 have hl:∀b o,w1.heap[b]?=some o->(U.alloc (.cells #[QZ r,QZ c,Vf G 0 C C] 354)).heap[b]?=some o:=λb o h=>by
  have hb:=PU h;rw [V];exact (Qc _ _ _ V6).trans ((Qc _ _ _ V6).trans ((Qc _ _ _ hb).trans h))
 have R:aq w U:=by rw [V];exact (a6.o.alloc a6.o.size _).alloc (by have:=a6.o.size;simp;omega) _
 have r0:U.ownsRow w.heap.size 2 1 (Vf G 0 C C) C (aA .i64 (List.replicate C 0)):=by rw [V];exact (bi.o.alloc _).alloc _
 rw [<-a9.o,FO r c ys xs q 0,a9.o] at r0;obtain ⟨N,hN⟩:∃N,N=w1.heap.size:=⟨_,rfl⟩;rw [<-hN] at bN ab |-;rw [<-ab];have bO:OA r c ys xs A B C d e q w G N U.heap.size [] (U.alloc (.cells #[QZ r,QZ c,Vf G 0 C C] 354)):=⟨⟨r0.alloc _,hl _ _ H2.o,hl _ _ H3.o,hl _ _ H4.o,hl _ _ H5.o,(Qc U _ _ (PU bN)).trans bN,bM⟩,R.alloc R.size _⟩;obtain ⟨bv,aM,cM,HN,cO⟩:=ah ab R bM hN bO;clear ab R bM bN r0 hN V hl bO
 refine' wpIn_rangeFunc_ownG (F:=Fence.wide) (n:=3) rfl ap (gf:=268) (lb:=#[(au U.heap.size)]) rfl trivial (enters_of func268 V1 rfl)
  (pJ _ U.heap.size w.heap.size G 0 r c C C hr.2 hc a9.o.symm (PV _) _ cM.o) mG (mH (by have:=aM.o.size;simp;omega) V3) (PY _ _) (λ_=>rfl)
  (OA r c ys xs A B C d e q w G N U.heap.size)
  (λ_ _ _=>False)
  (JP r c ys xs A B C d e q w G N U.heap.size _ (by have:=aM.o.size;simp;omega))
  (λ_ _ _ _ _ hs _ _=>hs)
  cO.o
  _ ?assign ?body ?done ?stop
 case assign=>
  intro l x W K Q;unfold qZ
  gi_wp2
  exact Q
 case body=>
  rintro l b9 x W ⟨⟨O,aR,b8,b3,a1,ad,b6⟩,a2⟩ a3;have O:W.ownsRow w.heap.size 2 1 (Vf G 0 C C) C (aA .i64 (oT r c ys xs q (b9.map (·.1)) x.1 0)):=by rw [CC x.1 0];exact O
  obtain ⟨av,H2,H3,H4,H5,cj,be,ao⟩:=ak O aR b8 b3 a1 ad b6 a2;have d2:=aa a3;clear O aR b8 b3 a1 ad b6 a2 a3
  gi_wp2_with fail
  gi_loopw [26] (λi wr=>∃j:Nat,j<=c/\i=QZ j/\wr.ownsRow w.heap.size 2 1 (Vf G 0 C C) C (aA .i64 (oT r c ys xs q (b9.map (·.1)) x.1 j))/\Keep (λi=>i=G) W wr) (λi _=>c-(intOf i).toNat)
  .exact ⟨0,PZ _,rfl,av.o,Keep.refl _ _⟩
  case round=>
   obtain ⟨j,hj,rfl,a7,Q⟩:=hrel;by_cases a3:j<c
   .have b0:x.1<ys.length:=by rw [cy.o];exact x.2
    have bn:j<xs.length:=by rw [co.o];exact a3
    have d1:=bf.o;obtain ⟨b1,o1,cL,bb⟩:=HA.o.num b0;obtain ⟨b2,o2,cl,b7⟩:=HB.o.num bn;have l1:b1<w.heap.size:=aB bb;have l2:b2<w.heap.size:=aB b7;subst cL;subst cl;have hk:∀b v,b≠G->∀o,Vh W b o v->Vh wr b o v:=λb v hb o h=>Q.cell h hb;have H:(λJ:R8=>Vh J w.heap.size 0 (Vf b1 o1 r d)/\Vh J (w.heap.size+1) 0 (Vf b2 o2 c e)/\Vh J (w.heap.size+1+1) 0 (QZ q)/\Vh J b1 (o1+x.1) (QZ (nth ys x.1))/\Vh J b2 (o2+j) (QZ (nth xs j))) wr.drew:=⟨hk _ _ ap _ (Boxed.cell H2.o),hk _ _ ap _ (Boxed.cell H3.o),hk _ _ ap _ (Boxed.cell H4.o),hk _ _ ap _ ((ao.o.cell (p:=(ar b1 (o1+x.1))) l1).trans bb),hk _ _ ap _ ((ao.o.cell (p:=(ar b2 (o2+j))) l2).trans b7)⟩;have d0:(x.1:Int)<r:=by have:=x.2;omega
    have a4:x.1*c+j<C:=by rw [<-a9.o];have:=rv (c:=c) x.2;omega
    have c9:=λJ=>uK (nth ys x.1) (nth xs j) q J (WY.o _ b0) (WX.o _ bn);obtain ⟨cr,cf,HK,bl⟩:=ag c9 a7 Q a4;clear c9 a7 Q hk a4 b0 bn bb b7
    gi_wp2_with fail
    refine nl (λJ:R8=>Vh J w.heap.size 0 (Vf b1 o1 r d)/\Vh J (w.heap.size+1) 0 (Vf b2 o2 c e)/\Vh J (w.heap.size+1+1) 0 (QZ q)/\Vh J b1 (o1+x.1) (QZ (nth ys x.1))/\Vh J b2 (o2+j) (QZ (nth xs j))) V1 V1 (by rintro ⟨_,_,h⟩;exact h) ?_;refine wpAnyH_take (i:=0) (v:=?_) rfl V1 V1 V1 (λ_ _ _ h=>h) (Or.inl ⟨by rfl,?_⟩) H ?_;rotate_left
    .intro w9 y;(try dsimp only at y);obtain ⟨s1,s2,Z,Y,s5⟩:=y;go_simp;(try with_reducible rfl)
    simp only [Qh,Qi,Qj,Act.put,Qk,Ql,Qm];refine wpAnyH_take (i:=1) (v:=?_) rfl V1 V1 V1 (λ_ _ _ h=>h) (Or.inl ⟨by rfl,?_⟩) H ?_;rotate_left
    .intro w9 y;(try dsimp only at y);obtain ⟨s1,s2,Z,Y,s5⟩:=y;go_simp;(try with_reducible rfl)
    simp only [Qh,Qi,Qj,Act.put,Qk,Ql,Qm];refine wpAnyH_take (i:=2) (v:=?_) rfl V1 V1 V1 (λ_ _ _ h=>h) (Or.inl ⟨by rfl,?_⟩) H ?_;rotate_left
    .intro w9 y;(try dsimp only at y);obtain ⟨s1,s2,Z,Y,s5⟩:=y;go_simp;(try with_reducible rfl)
    simp only [Qh,Qi,Qj,Act.put,Qk,Ql,Qm];refine wpAnyH_take (i:=3) (v:=?_) rfl V1 V1 V1 (λ_ _ _ h=>h) (Or.inl ⟨by rfl,?_⟩) H ?_;rotate_left
    .intro w9 y;(try dsimp only at y);obtain ⟨s1,s2,Z,Y,s5⟩:=y;go_simp;(try with_reducible rfl)
    simp only [Qh,Qi,Qj,Act.put,Qk,Ql,Qm];refine wpAnyH_take (i:=4) (v:=?_) rfl V1 V1 V1 (λ_ _ _ h=>h) (Or.inl ⟨by rfl,?_⟩) H ?_;rotate_left
    .intro w9 y;(try dsimp only at y);obtain ⟨s1,s2,Z,Y,s5⟩:=y;go_simp;(try with_reducible rfl)
    simp only [Qh,Qi,Qj,Act.put,Qk,Ql,Qm];refine wpAnyH_take (i:=5) (v:=?_) rfl V1 V1 V1 (λ_ _ _ h=>h) (Or.inl ⟨by rfl,?_⟩) H ?_;rotate_left
    .intro w9 y;(try dsimp only at y);obtain ⟨s1,s2,Z,Y,s5⟩:=y;go_simp;(try with_reducible rfl)
    simp only [Qh,Qi,Qj,Act.put,Qk,Ql,Qm];refine wpAnyH_take (i:=6) (v:=?_) rfl V1 V1 V1 (λ_ _ _ h=>h) (Or.inl ⟨by rfl,?_⟩) H ?_;rotate_left
    .intro w9 y;(try dsimp only at y);obtain ⟨s1,s2,Z,Y,s5⟩:=y;go_simp;(try with_reducible rfl)
    simp only [Qh,Qi,Qj,Act.put,Qk,Ql,Qm];refine wpAnyH_take (i:=7) (v:=?_) rfl V1 V1 V1 (λ_ _ _ h=>h) (Or.inl ⟨by rfl,?_⟩) H ?_;rotate_left
    .intro w9 y;(try dsimp only at y);obtain ⟨s1,s2,Z,Y,s5⟩:=y;go_simp;(try with_reducible rfl)
    simp only [Qh,Qi,Qj,Act.put,Qk,Ql,Qm];refine wpAnyH_take (i:=8) (v:=?_) rfl V1 V1 V1 (λ_ _ _ h=>h) (Or.inl ⟨by rfl,?_⟩) H ?_;rotate_left
    .intro w9 y;(try dsimp only at y);obtain ⟨s1,s2,Z,Y,s5⟩:=y;go_simp;(try with_reducible rfl)
    simp only [Qh,Qi,Qj,Act.put,Qk,Ql,Qm];refine wpAnyH_take (i:=9) (v:=?_) rfl V1 V1 V1 (λ_ _ _ h=>h) (Or.inl ⟨by rfl,?_⟩) H ?_;rotate_left
    .intro w9 y;(try dsimp only at y);obtain ⟨s1,s2,Z,Y,s5⟩:=y;go_simp;(try with_reducible rfl)
    simp only [Qh,Qi,Qj,Act.put,Qk,Ql,Qm];refine wpAnyH_take (i:=10) (v:=?_) rfl V1 V1 V1 (λ_ _ _ h=>h) (Or.inl ⟨by rfl,?_⟩) H ?_;rotate_left
    .intro w9 y;(try dsimp only at y);obtain ⟨s1,s2,Z,Y,s5⟩:=y;go_simp;(try with_reducible rfl)
    simp only [Qh,Qi,Qj,Act.put,Qk,Ql,Qm];refine wpAnyH_ready (rs:=[11]) V1 V3 ?_;refine AllReadyH.cons rfl (λK Q=>?_) AllReadyH.nil;simp only [Qh,Qi,Qj];go_simp;refine (cr.o _).mono ?_;rintro e w3 ⟨rfl,T⟩;dsimp only;have b5:(λJ:R8=>Vh J w.heap.size 0 (Vf b1 o1 r d)/\Vh J (w.heap.size+1) 0 (Vf b2 o2 c e)/\Vh J (w.heap.size+1+1) 0 (QZ q)/\Vh J b1 (o1+x.1) (QZ (nth ys x.1))/\Vh J b2 (o2+j) (QZ (nth xs j))) w3:=⟨aw T H.1,aw T H.2.1,aw T H.2.2.1,aw T H.2.2.2.1,aw T H.2.2.2.2⟩;refine Q.out _ _ b5 (λ_=>?_);clear Q K H;have H:=b5;clear b5;have I:=az (w:=wr.drew) cf.o T;have cA:∃u,Vh w3 G (x.1*c+j) u:=⟨_,cS I bl.o⟩;obtain ⟨u3,p3⟩:=cA;have f3:=I.frozenAt (x.1*c+j);obtain ⟨bd,cw⟩:=ae I T;clear I T;refine wpAnyH_take (i:=12) (v:=?_) rfl V1 V1 V1 (λ_ _ _ h=>h) (Or.inl ⟨by rfl,?_⟩) H ?_;rotate_left
    .intro w9 y;(try dsimp only at y);obtain ⟨s1,s2,Z,Y,s5⟩:=y;go_simp;(try with_reducible rfl)
    simp only [Qh,Qi,Qj,Act.put,Qk,Ql,Qm];refine wpAnyH_ready (rs:=[13]) V1 V3 ?_;refine AllReadyH.cons rfl (λK Q=>?_) AllReadyH.nil;simp only [Qh,Qi,Qj];go_simp;refine Q.out _ _ ?_ (λ_=>?_)
    .obtain ⟨s1,s2,Z,Y,s5⟩:=H;exact ⟨(World.cell?_setCell_far _ _ _ _ (show G≠w.heap.size by omega)).trans s1,(World.cell?_setCell_far _ _ _ _ (show G≠w.heap.size+1 by omega)).trans s2,(World.cell?_setCell_far _ _ _ _ (show G≠w.heap.size+1+1 by omega)).trans Z,(World.cell?_setCell_far _ _ _ _ (show G≠b1 by omega)).trans Y,(World.cell?_setCell_far _ _ _ _ (show G≠b2 by omega)).trans s5⟩
    refine wpAnyH_done V1 ?_ _;clear H p3 f3 Q K
    gi_wp2_with fail
    refine ⟨⟨j+1,ap,Vc,?_,?_⟩,by simp [intOf];omega⟩
    .rw [<-JN x.2 a3];exact eC bd.o _ _
    .exact Keep.setCell (HK.o.drew.trans (Keep.below cw.o)) (ar G _) (.inr rfl) _
   .obtain rfl:j=c:=ap
    gi_wp2_with fail
    have ci:=bf.o;have bX:=cd.o;have bG:=bv.o;have bV:=HN.o;have cc:Below w.heap.size W wr:=Q.toBelow ao.o.size (λk hk=>ap);have bs:=(Q.block _ (PU be.o) ap).trans be.o;refine ⟨(no Q λk o hk ho=>?_).from _,⟨cc,λ_=>bs.trans be.o.symm⟩,⟨⟨?_,?_,?_,?_,?_,?_,bs⟩,ao.o.trans cc⟩⟩
    .subst hk;exact wJ av.o ho
    .rw [List.map_append,List.map_singleton,<-JO hc.1];exact a7
    .exact (Q.block _ (PU H2.o) ap).trans H2.o
    .exact (Q.block _ (PU H3.o) ap).trans H3.o
    .exact (Q.block _ (PU H4.o) ap).trans H4.o
    .exact (Q.block _ (PU H5.o) ap).trans H5.o
    .exact (Q.block _ (PU cj.o) ap).trans cj.o
 case done=>
  rintro D zs W hD rfl ⟨⟨O,aR,b8,b3,a1,ad,b6⟩,a2⟩ Q;obtain ⟨⟨n0,n1,n2⟩,nf⟩:=bx3 ad;obtain ⟨⟨m0,m1,m2⟩,mf⟩:=bx3 a1
  gi_wp2
  have aG:(List.finRange r).map (·.1)=List.range r:=List.ext_getElem V3 V3;rw [aG,FQ hc.1] at O;have h3:=vh (QZ r) (QZ c) (Vf G 0 C C) a1;have k3:=rF (w:=W) (b:=w.heap.size+1+1+1) (QZ r) (QZ c) (Vf G 0 C C);have ci:=bf.o;have bX:=cd.o;have bG:=bv.o;have bV:=HN.o;simp only [Qg] at hD;obtain ⟨W3,c8⟩:∃W3,W3=(((W.setCell (ar (w.heap.size+1+1+1) 0) (QZ r)).setCell (ar (w.heap.size+1+1+1) 1) (QZ c)).setCell (ar (w.heap.size+1+1+1) 2) (Vf G 0 C C)):=⟨_,rfl⟩;rw [<-c8] at h3 k3 |-;clear c8;have bh:W3.heap[D]?=some (.deferred (some [])):=(k3.block D (PU Q) ap).trans Q;refine ⟨by simp,.inl ⟨_,_,rfl,run_takeDeferred bh,?_⟩⟩;have h4:Vg (W3.putObj D (.deferred none)) (w.heap.size+1+1+1) #[QZ r,QZ c,Vf G 0 C C] 354:=(World.putObj_heap_other ap).trans h3;have I:=ownsRow_putObj (k3.own O (λk hk e=>by simp [Value.ownBlock] at hk;omega)) (.deferred none) bh rfl;have a5:aq w (W3.putObj D (.deferred none)):=(a2.trans (k3.toBelow a2.size (λk hk=>ap))).trans (belowK_b (w:=w) (PV _) W3 D _ _ ap bh rfl rfl);obtain ⟨W4,bI⟩:∃W4,W4=W3.putObj D (.deferred none):=⟨_,rfl⟩;rw [<-bI] at h4 I a5 |-;clear bI ci bX bG bV aG;obtain ⟨⟨q0,q1,q2⟩,qf⟩:=bx3 h4;refine ⟨.agg #[QZ r,QZ c,Vf G 0 C C],by simp [results,results250,go_sem,q0,q1,q2],_,rfl,I,a5⟩
 case stop=>
  rintro D c b9 W _ _ h _;exact h.elim
end
theorem qg {o:Oper} {a:Ro} (p:o.guard=none) (d s:Operand) (y C:R9) (D:o.op=.call {callee:=.builtin .copy,args:=#[d,s],argTypes:=#[y,C]}) (elem:R9) (hu:P.underlying y=some (.slice elem)) (hsz:(P.info? elem).map (·.size)=some 1) (dp sp:N_) (n dCap sCap:Nat) (hd:a.eval d=.slice dp n dCap) (hs:a.eval s=.slice sp n sCap) (g off:Nat) (cur:R7) (t:R9) (hg:Vg w g cur.toArray t) (cs:R7) (hn:cs.length=n) (hdp:0<n->dp=some (ar g off)) (hr:Rd w sp cs) (hfit:off+cs.length<=cur.length) (h1:∀v∈cs,v.oneCell'=true) (h:∀B,an (B.heap[g]?=some (.cells (splice cur off cs).toArray t (0,0)))->Keep (λi=>i=g) w B->wpList P ops Q rest (a.put o.dst (goInt cs.length)) B):
  wpList P ops Q (o::rest) a w:=by
 by_cases I:cs.length=0
 .obtain rfl:cs=[]:=List.eq_nil_of_length_eq_zero I;refine wpList_copy_nothing p d s y C D elem hu hsz dp sp n dCap n sCap hd hs (by simp at hn;subst hn;rfl) ?_;exact h w (show _=_ by simpa [splice] using hg) (Keep.refl _ _)
 .obtain rfl:=hdp ap
  have J:∃A,sp=some A/\∀j v,cs[j]?=some v->w.cell? (A.add j)=some v:=by
   obtain ⟨b,O,u,_⟩:=hr 0 cs[0] (Qv ap);refine ⟨_,u,λj v H=>?_⟩;obtain ⟨L,N,e,hc⟩:=hr j v H;rw [u] at e;injection e with e
   injection e with e1 e2 _
   subst e1;subst e2;rw [Addr.add_lit];exact hc
  obtain ⟨A,rfl,x⟩:=J;refine wpList_copy_own p d s y C D elem hu hsz g off n dCap A n sCap hd hs cur.toArray t hg cs (by rw [hn];exact (Nat.min_self n).symm) x (by simpa using hfit) h1 ?_;exact h _ (show _=_ by simpa [splice] using setRow_heap w g _ _ t _ hg) ⟨rfl,rfl,rfl,by simp [World.setRow],λk hk hn=>setRow_other w g k _ hn⟩
theorem BE {I:R6} {o:Oper} {a:Ro} (d s:Operand) (y D:R9) (B:o.guard=none) (H:o.op=.call {callee:=.builtin .copy,args:=#[d,s],argTypes:=#[y,D]}) (elem:R9) (hu:P.underlying y=some (.slice elem)) (hsz:(P.info? elem).map (·.size)=some 1) (dp sp:N_) (n dCap sCap:Nat) (hd:a.eval d=.slice dp n dCap) (hs:a.eval s=.slice sp n sCap) (g off:Nat) (cur:R7) (t:R9) (hg:Vg w g cur.toArray t) (cs:R7) (hn:cs.length=n) (hdp:0<n->dp=some (ar g off)) (hr:Rd w sp cs) (hfit:off+cs.length<=cur.length) (h1:∀v∈cs,v.oneCell'=true) (h:∀C,an (C.heap[g]?=some (.cells (splice cur off cs).toArray t (0,0)))->Keep (λi=>i=g) w C->K (a.put o.dst (goInt cs.length)) C):
  if Region.wanted o (yielded ops I)=true then Oper.wp P o a w K Q else E:=by
 rw [if_pos (by simp [Region.wanted,B])];by_cases L:cs.length=0
 .obtain rfl:cs=[]:=List.eq_nil_of_length_eq_zero L;have p:=run_copy_none (P:=P) w y D o.type elem dp sp n dCap n sCap hu hsz (by simp at hn;subst hn;rfl);unfold Oper.wp;simp [execOp,H,resolve,invoke,builtin,hd,hs,p,Result.andThen];exact h w (show _=_ by simpa [splice] using hg) (Keep.refl _ _)
 .obtain rfl:=hdp ap
  have N:∃A,sp=some A/\∀j v,cs[j]?=some v->w.cell? (A.add j)=some v:=by
   obtain ⟨b,T,u,_⟩:=hr 0 cs[0] (Qv ap);refine ⟨_,u,λj v J=>?_⟩;obtain ⟨O,R,e,hc⟩:=hr j v J;rw [u] at e;injection e with e
   injection e with e1 e2 _
   subst e1;subst e2;rw [Addr.add_lit];exact hc
  obtain ⟨A,rfl,x⟩:=N;have p:=run_copy_row (P:=P) w y D o.type elem g off n dCap A n sCap cur.toArray t cs hu hsz hg (by rw [hn];exact (Nat.min_self n).symm) x (by simpa using hfit) h1;unfold Oper.wp;simp [execOp,H,resolve,invoke,builtin,hd,hs,p,Result.andThen];exact h _ (show _=_ by simpa [splice] using setRow_heap w g _ _ t _ hg) ⟨rfl,rfl,rfl,by simp [World.setRow],λk hk hn=>setRow_other w g k _ hn⟩
theorem JM {base:Nat} (h:w.ownsRow base e 1 (Vf g 0 n n) n xs):Vg w g xs.toArray e:=by
 rcases h.2 with ⟨u,_⟩ | ⟨v,cap,i,o,_,hg,_,_,hs,p⟩
 .cases u
 .simp only [QH,Option.some.injEq,Addr.mk.injEq,and_true,true_and] at o;obtain ⟨rfl,rfl⟩:=o;rw [Nat.mul_one] at hs p
  have:i=xs.toArray:=by
   rw [<-p,List.take_of_length_le (by simp [hs])]
  rw [<-this];exact hg
theorem nr (q:IntKind) (a b:Q_) (off:Nat):splice (aA q a) off (aA q b)=aA q (splice a off b):=by
 unfold splice;rw [dH,cq,dK,<-dd,<-dd]
theorem tW (h:Vg w g xs.toArray e):Rd w (some (ar g 0)) xs:=λk u i=>by
 refine ⟨g,0,rfl,?_⟩;rw [QP,PX w g k xs.toArray e (0,0) h];simpa using i
theorem KP {base:Nat} (h:Vg w g xs.toArray e) (hb:base<=g) (hm:xs.length<=maxLen):w.ownsRow base e 1 (Vf g 0 xs.length xs.length) xs.length xs:=
 ⟨by simp,.inr ⟨g,xs.length,xs.toArray,rfl,hb,h,PV _,hm,by simp,by simp⟩⟩
theorem xM {o W D:Q_} (h:lo+W.length+D.length<=o.length):(splice (splice o lo W) (lo+W.length) D).drop lo=W++(D++o.drop (lo+W.length+D.length)):=by
 have p:splice o lo W=(o.take lo++W)++o.drop (lo+W.length):=by unfold splice;rw [Qz]
 have l1:(o.take lo++W).length=lo+W.length:=by rw [Qt,Qy];omega
 have u:(splice o lo W).take (lo+W.length)=o.take lo++W:=by rw [p,<-l1,List.take_left]
 have x:(splice o lo W).drop (lo+W.length+D.length)=o.drop (lo+W.length+D.length):=by
  rw [p,List.drop_append,l1,List.drop_of_length_le (by rw [l1];omega),List.nil_append,List.drop_drop]
  congr 1
  omega
 have v:splice (splice o lo W) (lo+W.length) D=o.take lo++(W++(D++o.drop (lo+W.length+D.length))):=by
  show (splice o lo W).take (lo+W.length)++(D++(splice o lo W).drop (lo+W.length+D.length))=_
  rw [u,x,Qz]
 have i:(o.take lo).length=lo:=by rw [Qy];omega
 rw [v]
 conv=>lhs;rw [<-i]
 rw [i,List.drop_append_of_le_length (by rw [i];exact PV _),List.drop_of_length_le (by rw [i];exact PV _),List.nil_append]
end Go.Proofs.YtgmajkppbhiopaaGreat
