/- No condition. -/
import Derived.Test.YtgmajkppbhiopaaGreatC06
set_option linter.unusedSimpArgs false
set_option linter.unusedVariables false
set_option maxRecDepth 100000
set_option maxHeartbeats 4000000
namespace Go.Proofs.YtgmajkppbhiopaaGreat
open Go.RowKit
open Tryz
def StL (base:Nat) (w:World) (l:List Ex) (v:Value):Prop:=∃rows:List (List Value),w.ownsRow base 141 2 v l.length (List.flatten rows)/\rows.length=l.length/\(∀r∈rows,r.length=2)/\∀j x,l[j]?=some x->dP w base (cq rows j) x
theorem StL.form {base:Nat} {w:World} {l:List Ex} {v:Value} (h:StL base w l v):∃A c,v=.slice A l.length c/\l.length<=c:=by
 obtain ⟨rows,h1,_⟩:=h
 exact aC h1
theorem StL.below {base:Nat} {w i:World} {l:List Ex} {v:Value} (h:StL base w l v) (hb:aq w i):StL base i l v:=by
 obtain ⟨rows,h1,o,u,p⟩:=h
 exact ⟨rows,ay h1 hb,o,u,fun j x y=>(p j x y).keep (S:=fun _=>False) (Keep.below hb) (fun _ h=>h.elim)⟩
theorem StL.nil (base:Nat) (w:World):StL base w [] (M9):=⟨[],Mn _ _ _ _,rfl,by simp,by simp⟩
theorem StL.push {base:Nat} {w u:World} {l:List Ex} {x:Ex} {v v' o i:Value} {rows:List (List Value)} (h1:w.ownsRow base 141 2 v l.length (List.flatten rows)) (A:rows.length=l.length) (I:∀r∈rows,r.length=2) (D:∀j x,l[j]?=some x->dP w base (cq rows j) x)
  (H:dP w base [o,i] x) (B:u.ownsRow base 141 2 v' (l.length+1) (List.flatten rows++[o,i])) (hg:w.grownBy u v.ownBlock):StL base u (l++[x]) v':=by
 refine ⟨rows++[[o,i]],?_,by simp [A],?_,?_⟩
 ·rw [ME,MO,List.flatten_cons,List.flatten_nil,List.append_nil];exact B
 ·intro r hr
  rcases MS.1 hr with hr | hr
  ·exact I r hr
  ·rw [List.mem_singleton.1 hr];rfl
 ·intro j y p
  rcases Mq j l.length with h | h
  ·rw [MH h] at p
   have e:cq (rows++[[o,i]]) j=cq rows j:=by simp [cq,MH (show j<rows.length by omega)]
   rw [e];exact (D j y p).pushed h1 hg (by decide)
  ·have C:j=l.length:=by have:=(MF.1 p).1;simp at this;omega
   subst C
   simp at p
   subst p
   have e:cq (rows++[[o,i]]) l.length=[o,i]:=by rw [<-A];simp [cq]
   rw [e];exact H.pushed h1 hg (by decide)
theorem uW.rd {H:Nat->Prop} {w:World} {b x:Nat} {i:Inp} {a:MAd} {m:Mst} (h:aU H w b i x a m):dA rEx 2 w (some (ar a.rb 0)) m.rc:=by
 obtain ⟨rows,h1,o,u,p⟩:=h.re
 exact ⟨rows,Rd.own h1,o,u,fun j x v=>cN (p j x v) (et _ w)⟩
theorem JF {l:List Ex} {k:Nat} {x:Ex} (h:l[k]?=some x):l.take (k+1)=l.take k++[x]:=by
 obtain ⟨hk,e⟩:=MF.1 h
 rw [List.take_succ_eq_append_getElem hk,e]
theorem Ds {H:Nat->Prop} {w:World} {b x:Nat} {i:Inp} {a:MAd} {m:Mst} (h:aU H w b i x a m) (hn:∀y∈m.rc,y.1.length=i.start.length/\y.2.length=i.start.length) (hi:i.start.length<=60) (hl:m.rc.length<=100):
  Calls prog 220 #[(au b)] w fun e w'=>∃v,e=.returned v/\StL w.heap.size w' m.rc v/\aq w w':=by
 have tb:=KS h.blk
 have lb:=Ma h.blk
 have hr:=uW.rd h
 obtain ⟨N,hN⟩:∃N,m.rc.length=N:=⟨_,rfl⟩
 obtain ⟨n,Q⟩:∃n,i.start.length=n:=⟨_,rfl⟩
 rw [hN] at tb hl
 rw [Q] at hn hi
 obtain ⟨Hr,HN,Hn⟩:=af hr hN hn;clear hr h hN hn Q
 go_enter func220,ntmps220
 go_wp2_with fail
 clear tb
 go_loopw [3,13] (fun v y wr=>∃k:Nat,k<=N/\y=M8 k/\StL w.heap.size wr (m.rc.take k) v/\aq w wr) (fun _ y _=>N-(intOf y).toNat)
 case atStart=>exact ⟨0,Mf _,rfl,StL.nil _ _,Me _ _⟩
 case round=>
  obtain ⟨k,hk,rfl,hs,q⟩:=hrel
  by_cases a4:k<N
  ·have a6:(k:Int)<N:=ap
   have aR:IntKind.i64.wrap ((k:Int)+1)=((k+1:Nat):Int):=by rw [Mg _ ap];push_cast;rfl
   obtain ⟨y,hx⟩:∃x,m.rc[k]?=some x:=⟨_,MG (by rw [HN.o];exact a4)⟩
   have u:=Hn.o y (List.mem_of_getElem? hx)
   have a0:=JF hx
   obtain ⟨bb,o,A1,c1,A2,c2,e,T,p1,p2,r1,r2⟩:=iG Hr.o hx
   injection e with e
   injection e with e1 e2
   subst e1;subst e2
   rw [u.1] at p1
   rw [u.2] at p2
   have q1:=(q.cell (p:=(ar a.rb (0+k*2))) T).trans p1
   have q2:=(q.cell (p:=(ar a.rb (0+k*2+1))) T).trans p2
   rw [MW] at q1 q2
   obtain ⟨W1,B⟩:∃W1,wr.alloc (.cells #[.slice A1 n c1,.slice A2 n c2] 141)=W1:=⟨_,rfl⟩
   have g1:W1.heap[wr.heap.size]?=some (.cells #[.slice A1 n c1,.slice A2 n c2] 141 (0,0)):=by rw [<-B];exact Mc wr _
   have k1:aq wr W1:=by rw [<-B];exact (br wr).alloc (Mb _) _
   have qW:aq w W1:=q.trans (k1.mono q.size)
   have a1:=jM A1 A2 n c1 c2 y.1 y.2 W1 (r1.hr.below qW) (r2.hr.below qW) u.1 u.2 ap
   have C:=Mj r1.hw r2.hw
   have V:=hs.below k1
   have lr:=q.size
   have tg:=bx2 g1
   obtain ⟨aP,aM,QW,av,ao,O,D⟩:=aj a1 B qW V a0 u C;clear a1 B qW V a0 u C g1 k1 r1 r2 p1 p2 hx q
   have b0:a.rb<wr.heap.size:=ap
   have J:(m.rc.take k).length=k:=by rw [MJ,HN.o];omega
   have A:=aa J
   obtain ⟨Av,cv,e,_⟩:=hs.form
   rw [J] at e
   subst e
   clear hs J
   go_wp2_with fail
   rw [aM.o]
   refine aP.o.mono ?_
   rintro e w3 ⟨B1,d1,B2,d2,rfl,aG,ad,o1,o2,Z,k3⟩
   have a2:=av.o.below k3
   obtain ⟨rows,u1,u2,u3,u4⟩:=a2
   have I:=QW.o.trans (k3.mono QW.o.size)
   have hu:=Ez (base:=w.heap.size) (x:=y) o1 o2 QW.o.size O.o.1 O.o.2 ap D.o.1 D.o.2
   rw [A.o] at u1 u2
   obtain ⟨L,a9,ab,a8,Hu,a7⟩:=ai u1 u2 u3 u4 hu I
   have a3:=I.size
   clear u1 u2 u3 u4 hu I Z o1 o2 k3 aG ad tg q1 q2
   go_wp2_with (at_builtin;refine aY GO _ rfl (.tmp 17) (.tmp 20) rfl w.heap.size (.slice Av k cv) k _ rfl L.o [.slice B1 n d1,.slice B2 n d2] rfl rfl (by simp [Value.oneCell']) ap (by unfold maxLen;omega) a3 ?_)
   intro g6 c6 w6 R U Y
   have hp:=StL.push (x:=y) (v':=.slice (some (ar g6 0)) (k+1) c6) (by rw [A.o];exact L.o) (by rw [A.o];exact a9.o) ab.o a8.o Hu.o (by rw [A.o];exact R) Y
   rw [<-ao.o] at hp
   obtain ⟨Hp,a5⟩:=ae hp (a7.o.trans U);clear hp R U Y
   go_wp2_with fail
   go_roundw
   case rel=>exact ⟨k+1,by omega,by go_num,Hp.o,a5.o⟩
   case measure=>simp [intOf];omega
  ·have a6:¬((k:Int)<N):=ap
   rw [List.take_of_length_le (by rw [HN.o];omega)] at hs
   obtain ⟨Hs,Hq⟩:=ae hs q;clear hs q
   go_wp2_with fail
   go_ret
   exact ⟨_,rfl,Hs.o,Hq.o⟩
def fy (i:Inp):Mst:=⟨i.start,List.replicate i.start.length 0,List.replicate i.start.length 0,[(i.start,List.replicate i.start.length 0)],0,0,[]⟩
theorem An {T:TypeId} {B b:Nat} {w:World} {sz:List Int} (h:cG T (fK B w) b sz):cG T w.drew b sz:=(mC h (Agr.refl B w)).below ((br w).drew)
structure LF (sz:List Int) (L wk bh mi sn bu ch wi ca n Q:Nat) (A:Option Addr) (c:Nat) (sh ra mo:Int) (D:Option Addr) (cd:Nat) (T:Option Addr) (ct:Nat) (R:Option Addr) (cr:Nat) (data:List Ex) (ps draws:List Int) (w:World):Prop where
 inp:∀N,N=data.length->∀w',aq w w'->Calls prog 43 #[.agg #[.slice A L c,M8 sh,M8 ra,M8 mo,M8 (wk:Nat),M8 (bh:Nat),M8 (mi:Nat),M8 (sn:Nat),M8 (bu:Nat),M8 (ch:Nat),M8 (wi:Nat),M8 (ca:Nat),.slice D N cd,.slice T n ct,.slice R Q cr]] w' fun e w''=>e=.returned (M8 0)/\aq w' w''
 snew:∀w',aq w w'->Calls prog 77 #[.slice A L c] w' fun e w''=>∃F,e=.returned (.tuple #[(au F),M8 0])/\cG 212 (fK w.heap.size w'') F sz/\aq w' w''
 samp:∀N,N=data.length->∀w',aq w w'->Calls prog 81 #[M8 (N:Nat),M8 (bh:Nat),M8 (sn:Nat),.slice R Q cr] w' fun e w''=>∃S,e=.returned (.tuple #[(au S),M8 0])/\fN (fK w.heap.size w'') S data.length bh sn draws/\aq w' w''
 cnt:∀F w',cG 212 w' F sz->Calls prog 79 #[(au F)] w' fun e w''=>e=.returned (M8 (n:Nat))/\w'=w''
 chk:∀w',aq w w'->Calls prog 76 #[.agg #[.slice A L c,M8 sh,M8 ra,M8 mo,M8 (wk:Nat),M8 (bh:Nat),M8 (mi:Nat),M8 (sn:Nat),M8 (bu:Nat),M8 (ch:Nat),M8 (wi:Nat),M8 (ca:Nat)]] w' fun e w''=>e=.returned (M8 0)/\aq w' w''
 dat:dA rEx 2 w D data
 dl:data.length<=1048576
 st:Rd w T (aB .i64 ps)
 sl:ps.length=n
def Win (h:Nat) (i:World) (ms:List Nat) (Q:World->Prop):Prop:=∃lo u,h<=lo/\Q (fK lo u)/\aq u i/\∀k∈ms,k<lo\/u.heap.size<=k
theorem ms5 {a b c d e lo h:Nat} (h1:a<lo\/h<=a) (i:b<lo\/h<=b) (u:c<lo\/h<=c) (o:d<lo\/h<=d) (p:e<lo\/h<=e):∀k∈[a,b,c,d,e],k<lo\/h<=k:=by
 intro k hk
 simp only [List.mem_cons,List.not_mem_nil,or_false] at hk
 rcases hk with rfl | rfl | rfl | rfl | rfl<;>assumption
structure LE (sz:List Int) (x L wk bh mi sn bu ch wi ca N n:Nat) (A:Option Addr) (c:Nat) (sh ra mo:Int) (data:List Ex) (ps draws:List Int) (its:List Itm) (w w':World) (b:Nat) (a:MAd):Prop where
 blk:w'.heap[b]?=some (.cells #[M8 (x:Nat),M8 (wk:Nat),M8 (mi:Nat),(au a.F),.slice a.E N a.ce,(au a.S),(au a.PP),.slice a.BA (Pln.buks ⟨wk,mi,bu,ch,wi,n⟩).length a.bc,M8 ra,M8 mo,M8 sh,.slice (some (ar a.bp 0)) n a.cp,.slice (some (ar a.bm 0)) n a.cm,.slice (some (ar a.bg 0)) n a.cg,.slice (some (ar a.rb 0)) 1 a.rc,.slice a.IA its.length a.ic,M8 0,M8 0,M9] 179 (0,0))
 fo:Win w.heap.size w' [b,a.bp,a.bm,a.bg,a.rb] fun V=>cG 212 V a.F sz
 sa:Win w.heap.size w' [b,a.bp,a.bm,a.bg,a.rb] fun V=>fN V a.S data.length bh sn draws
 pl:Win w.heap.size w' [b,a.bp,a.bm,a.bg,a.rb] fun V=>eK V a.PP ⟨wk,mi,bu,ch,wi,n⟩ (.slice A L c) (M8 sh) (M8 ra) (M8 mo) (M8 (bh:Nat)) (M8 (sn:Nat)) (M8 (ca:Nat))
 ex:Win w.heap.size w' [b,a.bp,a.bm,a.bg,a.rb] fun V=>dA rEx 2 V a.E data
 bu:Win w.heap.size w' [b,a.bp,a.bm,a.bg,a.rb] fun V=>Rd V a.BA (aN (Pln.buks ⟨wk,mi,bu,ch,wi,n⟩))
 it:Win w.heap.size w' [b,a.bp,a.bm,a.bg,a.rb] fun V=>Rd V a.IA (cu its)
 re:∃A1 c1 A2 c2,n<=c1/\n<=c2/\w'.heap[a.rb]?=some (.cells #[.slice A1 n c1,.slice A2 n c2] 141 (0,0))/\(Win w.heap.size w' [b,a.bp,a.bm,a.bg,a.rb] fun V=>Rd V A1 (aB .i64 ps))/\(Win w.heap.size w' [b,a.bp,a.bm,a.bg,a.rb] fun V=>Rd V A2 (aB .i64 (List.replicate n 0)))
 oP:w'.ownsRow 0 2 1 (.slice (some (ar a.bp 0)) n a.cp) n (aB .i64 ps)
 oM:w'.ownsRow 0 2 1 (.slice (some (ar a.bm 0)) n a.cm) n (aB .i64 (List.replicate n 0))
 oG:w'.ownsRow 0 2 1 (.slice (some (ar a.bg 0)) n a.cg) n (aB .i64 (List.replicate n 0))
 lo:w.heap.size<=b/\w.heap.size<=a.bp/\w.heap.size<=a.bm/\w.heap.size<=a.bg/\w.heap.size<=a.rb
 dj:a.bp≠a.bm/\a.bp≠a.bg/\a.bm≠a.bg
 ov:a.ov=M9
 rc:a.rc=1
 k:aq w w'
theorem Du (sz:List Int) (x L H bh mi sn bu ch wi ca N n Q:Nat) (A:Option Addr) (c:Nat) (sh ra O:Int) (D:Option Addr) (cd:Nat) (T:Option Addr) (ct:Nat) (R:Option Addr) (cr:Nat) (data:List Ex) (ps draws:List Int) (w:World) (a9:Ending->World->Prop)
  (h:LF sz L H bh mi sn bu ch wi ca n Q A c sh ra O D cd T ct R cr data ps draws w) (hN:N=data.length) (hx:x<H) (hp:cO ⟨H,mi,bu,ch,wi,n⟩) (hn:1<=n) (cj:bu<=1048576) (cc:wi<=1048576) (J:List Itm)
  (a8:∀P C,eK C P ⟨H,mi,bu,ch,wi,n⟩ (.slice A L c) (M8 sh) (M8 ra) (M8 O) (M8 (bh:Nat)) (M8 (sn:Nat)) (M8 (ca:Nat))->Calls prog 87 #[(au P),M8 (x:Nat),M8 0] C fun e bn=>∃v,e=.returned v/\bn.ownsRow C.heap.size 152 12 v J.length (cu J)/\aq C bn)
  (a7:∀C b a,LE sz x L H bh mi sn bu ch wi ca N n A c sh ra O data ps draws J w C b a->a9 (.returned (.tuple #[(au b),M8 0])) C):Calls prog 44 #[.agg #[.slice A L c,M8 sh,M8 ra,M8 O,M8 (H:Nat),M8 (bh:Nat),M8 (mi:Nat),M8 (sn:Nat),M8 (bu:Nat),M8 (ch:Nat),M8 (wi:Nat),M8 (ca:Nat),.slice D N cd,.slice T n ct,.slice R Q cr],M8 (x:Nat)] w a9:=by
 obtain ⟨W0,a4⟩:∃W0,w.alloc (.cells #[.slice A L c,M8 sh,M8 ra,M8 O,M8 (H:Nat),M8 (bh:Nat),M8 (mi:Nat),M8 (sn:Nat),M8 (bu:Nat),M8 (ch:Nat),M8 (wi:Nat),M8 (ca:Nat),.slice D N cd,.slice T n ct,.slice R Q cr] 29)=W0:=⟨_,rfl⟩
 have g0:W0.heap[w.heap.size]?=some (.cells #[.slice A L c,M8 sh,M8 ra,M8 O,M8 (H:Nat),M8 (bh:Nat),M8 (mi:Nat),M8 (sn:Nat),M8 (bu:Nat),M8 (ch:Nat),M8 (wi:Nat),M8 (ca:Nat),.slice D N cd,.slice T n ct,.slice R Q cr] 29 (0,0)):=by rw [<-a4];exact Mc w _
 have aG:aq w W0:=by rw [<-a4];exact (br w).alloc (Mb _) _
 have bv:=h.inp N hN W0 aG
 have cL:¬((H:Int)<=x):=ap
 have b0:=hp.n
 dsimp only at b0
 have t0:=fun C q=>j8 (sb g0 C q)
 obtain ⟨cl,be,bV,Hh,HN,bl,b6,Hl⟩:=ak a4 aG bv h hN a7 a8 h.sl;have cs:n<=1048576:=ap
 have q0:=br W0
 clear a4 g0 aG bv h hN a7 a8
 go_enter func44,ntmps44
 go_wp2_with fail
 rw [cl.o]
 refine bV.o.mono ?_
 rintro e w1 ⟨rfl,k1⟩
 have q1:=bt q0 k1
 obtain ⟨W2,a3⟩:∃W2,w1.alloc (.cells #[.slice A L c,M8 sh,M8 ra,M8 O,M8 (H:Nat),M8 (bh:Nat),M8 (mi:Nat),M8 (sn:Nat),M8 (bu:Nat),M8 (ch:Nat),M8 (wi:Nat),M8 (ca:Nat)] 24)=W2:=⟨_,rfl⟩
 have g2:W2.heap[w1.heap.size]?=some (.cells #[.slice A L c,M8 sh,M8 ra,M8 O,M8 (H:Nat),M8 (bh:Nat),M8 (mi:Nat),M8 (sn:Nat),M8 (bu:Nat),M8 (ch:Nat),M8 (wi:Nat),M8 (ca:Nat)] 24 (0,0)):=by rw [<-a3];exact Mc w1 _
 have k2:aq w1 W2:=by rw [<-a3];exact (br w1).alloc (Mb _) _
 have q2:=bt q1 k2
 have t2:=fun C q=>j9 (sb g2 C q)
 have u2:=fun C (q:aq W2 C)=>t0 C (bt q2 q)
 obtain ⟨bG,Q2⟩:=ae a3 (be.o.trans (q2.mono be.o.size));clear a3 g2 k1 k2
 go_wp2_with fail
 rw [bG.o]
 have cn:=br W2
 clear q0 q1 q2 t0
 refine (Hh.o.snew _ Q2.o).mono ?_
 rintro e w3 ⟨F,rfl,hF,k3⟩
 have q3:=bt cn k3
 obtain ⟨Q3,HF⟩:=ae (Q2.o.trans (k3.mono Q2.o.size)) hF;clear hF k3
 go_wp2_with fail
 refine (Hh.o.samp N HN.o _ Q3.o).mono ?_
 rintro e w4 ⟨S,rfl,hS,k4⟩
 have q4:=bt q3 k4
 obtain ⟨Q4,HS,K4⟩:=af (Q3.o.trans (k4.mono Q3.o.size)) hS k4
 have b4:=HF.o.below (Cl k4)
 have av:=aa b4;clear hS k4 b4
 go_wp2_with fail
 refine HA.g (fun C:World=>aq W2 C) ?_
 refine HA.t ?_ [0,1] q4.drew ?_
 refine HA.c 2 (Hh.o.cnt F _ (An av.o)) ?_
 rintro e w5 ⟨rfl,rfl⟩
 refine ⟨_,rfl,q4.drew,fun _=>?_⟩
 have aP:=C7 ⟨H,mi,bu,ch,wi,n⟩ (.slice A L c) (M8 sh) (M8 ra) (M8 O) (M8 (bh:Nat)) (M8 (sn:Nat)) (M8 (ca:Nat)) w4.drew hp hn cj cc (fun C q=>Hh.o.chk C (Q4.o.drew.trans (q.mono Q4.o.size)))
 dsimp only at aP
 refine HA.c 3 aP ?_
 rintro e w6 ⟨PP,rfl,cA,b3,k6⟩
 have q6:=bt q4.drew k6
 refine ⟨_,rfl,q6,fun _=>?_⟩
 refine HA.t ?_ [4,5,6,7,8] q6 ?_
 refine HA.d ?_
 try simp only [Exit.then]
 have K6:=aa (show aq w4 w6 from (br w4).drew.trans k6);obtain ⟨Q6,ao⟩:=ae (Q4.o.trans (K6.o.mono Q4.o.size)) b3;clear aP b3 k6 q4 q3
 have b8:=yL T n ct ps w6 (Hh.o.st.below Q6.o) Hh.o.sl ap
 have bz:=aa b8;clear b8
 go_wp2_with fail
 refine bz.o.mono ?_
 rintro e w7 ⟨Ap,cp,Am,cm,rfl,cv,c7,oP,oM,bs,k7⟩
 obtain ⟨bp,d0,e1,bw,b1⟩:=oP.form ap
 obtain ⟨bm,cw,e2,bf,bd⟩:=oM.form ap
 injection e1 with e1 _ e1c
 injection e2 with e2 _ e2c
 subst e1;subst e2;subst e1c;subst e2c
 obtain ⟨W8,a5⟩:∃W8,w7.alloc (.cells #[.slice (some (ar bp 0)) n cp,.slice (some (ar bm 0)) n cm] 141)=W8:=⟨_,rfl⟩
 have g8:W8.heap[w7.heap.size]?=some (.cells #[.slice (some (ar bp 0)) n cp,.slice (some (ar bm 0)) n cm] 141 (0,0)):=by rw [<-a5];exact Mc w7 _
 have k8:aq w7 W8:=by rw [<-a5];exact (br w7).alloc (Mb _) _
 have a6:=bt k7 k8
 have q8:=bt q6 a6
 have t8:=fun C q=>bx2 (sb g8 C q)
 have v8:=fun C (q:aq W8 C)=>u2 C (bt q8 q)
 have x8:=fun C (q:aq W8 C)=>t2 C (bt q8 q)
 have aR:bp≠bm:=fun e=>bs bp rfl (by rw [e];rfl)
 obtain ⟨bO,Q8,K8,OP,OM,c6⟩:=ai a5 (Q6.o.trans (a6.mono Q6.o.size)) a6 (ay oP k8) (ay oM k8) aR
 have b7:=br W8
 have p1:w6.heap.size<=bp:=bw
 have p2:bp<W8.heap.size:=Mi b1 k8.size
 have p3:w6.heap.size<=bm:=bf
 have p4:bm<W8.heap.size:=Mi bd k8.size
 clear a5 g8 k7 k8 a6 oP oM bs q6 q8 u2 t2 cv c7 aR
 go_wp2_with fail
 rw [bO.o]
 refine HA.g (fun C:World=>aq W8 C) ?_
 refine HA.t ?_ [0,1,2,3,4,5,6,7,9,10,11,13,14,15,16,17,18,19,21,22,25,28,29] b7.drew ?_
 have c8:dA rEx 2 W8.drew D data:=Hh.o.dat.below eP (Q8.o.drew)
 have b2:=yn D data cd W8.drew c8 Hh.o.dl
 rw [<-HN.o] at b2
 refine HA.c 8 b2 ?_
 rintro e w9 ⟨E,ce,rfl,hE,k9⟩
 have q9:=bt b7.drew k9
 refine ⟨_,rfl,q9,fun _=>?_⟩
 have bo:eK w9 PP ⟨H,mi,bu,ch,wi,n⟩ (.slice A L c) (M8 sh) (M8 ra) (M8 O) (M8 (bh:Nat)) (M8 (sn:Nat)) (M8 (ca:Nat)):=(ao.o.agr (Agr.refl _ w6)).below (bt K8.o q9)
 refine HA.c 12 (FF _ PP _ _ _ _ _ _ _ w9 hp bo) ?_
 rintro e x0 ⟨v10,rfl,ab,a0⟩
 have q0:=bt q9 a0
 obtain ⟨BA,bc,rfl,_⟩:=aC ab
 refine ⟨_,rfl,q0,fun _=>?_⟩
 have b9:cG 212 x0 F sz:=(mC av.o (Agr.refl _ w4)).below (bt (bt (bt K6.o K8.o) q9) a0)
 refine HA.t ?_ [20] q0 ?_
 refine HA.c 23 (Hh.o.cnt F x0 b9) ?_
 rintro e cy ⟨rfl,rfl⟩
 refine ⟨_,rfl,q0,fun _=>?_⟩
 have ci:w.heap.size<=w4.heap.size:=Q4.o.size
 have cx:w4.heap.size<=w6.heap.size:=K6.o.size
 have d1:w6.heap.size<=W8.heap.size:=K8.o.size
 have cM:W8.heap.size<=w9.heap.size:=k9.size
 have cb:w9.heap.size<=x0.heap.size:=a0.size
 -- BRANCHES
 obtain ⟨x9,aM⟩:∃x9,x9=x0:=⟨_,rfl⟩
 have y:aq x9 x0:=by rw [aM];exact br _
 rw [<-aM] at ab a0 cb
 clear aM
 have q:=q0
 clear q0
 obtain ⟨U,rfl⟩:∃U,U=x0:=⟨_,rfl⟩
 repeat' first
  | (refine HA.three 24 27 30 ?_ ?_ ?_)
  | (refine HA.two 24 26 ?_ ?_)
  | (refine HA.two 27 30 ?_ ?_)
  | (refine HA.two 24 30 ?_ ?_)
  | (refine HA.two 24 27 ?_ ?_)
  | (refine HA.sole 24 ?_)
  | (refine HA.sole 26 ?_)
  | (refine HA.sole 27 ?_)
  | (refine HA.sole 30 ?_)
  | (obtain ⟨V,bi,gG,p⟩:=lU lC U rfl n ap (by unfold maxLen;omega);refine HAS.v (i:=24) V (.slice (some (ar U.heap.size 0)) n n) (bt q p) ?_;clear bi;rw [eR] at gG;(try have:=u.size);(try have:=B.size);(try have:=Ma I);(try have:G<U.heap.size:=(fQ oG _ rfl).2);have:=y.size;(try replace oG:=ay oG p);(try replace I:=sb I _ p);(try replace u:=bt u p);(try replace B:=bt B p);replace y:=bt y p;replace q:=bt q p;have oG:=gG;have tG:U.heap.size<V.heap.size:=(fQ oG _ rfl).2;obtain ⟨G,hG⟩:∃G,U.heap.size=G:=⟨_,rfl⟩;rw [hG] at oG ⊢;clear gG p;obtain ⟨U,rfl⟩:∃U,U=V:=⟨_,rfl⟩)
  | (refine HAS.c (i:=26) (jM (some (ar bp 0)) (some (ar bm 0)) n cp cm ps (List.replicate n 0) U (Rd.own (ay OP.o q)) (Rd.own (ay OM.o q)) Hl.o (ML ..) cs) ?_;rintro e V ⟨A1,c1,A2,c2,rfl,bA,bM,o1,o2,_,p⟩;(try have:=u.size);(try have:=B.size);(try have:=Ma I);(try have:G<U.heap.size:=(fQ oG _ rfl).2);have:=y.size;(try replace oG:=ay oG p);(try replace I:=sb I _ p);(try replace u:=bt u p);(try replace B:=bt B p);replace y:=bt y p;replace q:=bt q p;refine ⟨_,rfl,q,fun _=>?_⟩;obtain ⟨a2,c9⟩:∃s,U.heap.size=s:=⟨_,rfl⟩;rw [c9] at o1 o2;have bX:=p.size;obtain ⟨Y,hw⟩:∃Y,Y=V:=⟨_,rfl⟩;have u:aq Y V:=(by rw [hw];exact br _);rw [<-hw] at o1 o2 bX;clear hw p;obtain ⟨U,rfl⟩:∃U,U=V:=⟨_,rfl⟩)
  | (have p:=(br U).alloc (Mb _) (.cells #[.slice A1 n c1,.slice A2 n c2] 141);have nR:=Mc U (.cells #[.slice A1 n c1,.slice A2 n c2] 141);refine HAS.v (i:=27) (U.alloc (.cells #[.slice A1 n c1,.slice A2 n c2] 141)) (.slice (some (ar U.heap.size 0)) 1 1) (bt q p) ?_;obtain ⟨V,hv⟩:∃V,U.alloc (.cells #[.slice A1 n c1,.slice A2 n c2] 141)=V:=⟨_,rfl⟩;rw [hv] at nR p ⊢;clear hv;(try have:=u.size);(try have:=B.size);(try have:=Ma I);(try have:G<U.heap.size:=(fQ oG _ rfl).2);have:=y.size;(try replace oG:=ay oG p);(try replace I:=sb I _ p);(try replace u:=bt u p);(try replace B:=bt B p);replace y:=bt y p;replace q:=bt q p;have I:=nR;have tR:=Ma I;obtain ⟨Z,hR⟩:∃r,U.heap.size=r:=⟨_,rfl⟩;rw [hR] at I ⊢;clear nR p;obtain ⟨U,rfl⟩:∃U,U=V:=⟨_,rfl⟩)
  | (refine HAS.c (i:=30) (b6.o PP U ((ao.o.agr (Agr.refl _ w6)).below (bt K8.o q))) ?_;rintro e V ⟨v,rfl,oS,p⟩;obtain ⟨IA,ic,rfl,_⟩:=aC oS;(try have:=u.size);(try have:=B.size);(try have:=Ma I);(try have:G<U.heap.size:=(fQ oG _ rfl).2);have:=y.size;(try replace oG:=ay oG p);(try replace I:=sb I _ p);(try replace u:=bt u p);(try replace B:=bt B p);replace y:=bt y p;replace q:=bt q p;refine ⟨_,rfl,q,fun _=>?_⟩;obtain ⟨ad,co⟩:∃s,U.heap.size=s:=⟨_,rfl⟩;rw [co] at oS;have bI:=p.size;obtain ⟨a1,hw⟩:∃a1,a1=V:=⟨_,rfl⟩;have B:aq a1 V:=(by rw [hw];exact br _);rw [<-hw] at oS bI;clear hw p;obtain ⟨U,rfl⟩:∃U,U=V:=⟨_,rfl⟩)
  | (refine HA.t ?_ [31] q ?_)
  | fail
 all_goals
  have gB:=Mc U (Obj.cells #[M8 (x:Nat),M8 (H:Nat),M8 (mi:Nat),(au F),.slice E N ce,(au S),(au PP),.slice BA (Pln.buks ⟨H,mi,bu,ch,wi,n⟩).length bc,M8 ra,M8 O,M8 sh,.slice (some (ar bp 0)) n cp,.slice (some (ar bm 0)) n cm,.slice (some (ar G 0)) n n,.slice (some (ar Z 0)) 1 1,.slice IA J.length ic,M8 0,M8 0,M9] 179)
  have p:=(br U).alloc (Mb _) (Obj.cells #[M8 (x:Nat),M8 (H:Nat),M8 (mi:Nat),(au F),.slice E N ce,(au S),(au PP),.slice BA (Pln.buks ⟨H,mi,bu,ch,wi,n⟩).length bc,M8 ra,M8 O,M8 sh,.slice (some (ar bp 0)) n cp,.slice (some (ar bm 0)) n cm,.slice (some (ar G 0)) n n,.slice (some (ar Z 0)) 1 1,.slice IA J.length ic,M8 0,M8 0,M9] 179)
  refine HA.v 32 (U.alloc (Obj.cells #[M8 (x:Nat),M8 (H:Nat),M8 (mi:Nat),(au F),.slice E N ce,(au S),(au PP),.slice BA (Pln.buks ⟨H,mi,bu,ch,wi,n⟩).length bc,M8 ra,M8 O,M8 sh,.slice (some (ar bp 0)) n cp,.slice (some (ar bm 0)) n cm,.slice (some (ar G 0)) n n,.slice (some (ar Z 0)) 1 1,.slice IA J.length ic,M8 0,M8 0,M9] 179)) ((au U.heap.size)) (bt q p) ?_
  obtain ⟨V,hv⟩:∃V,U.alloc (Obj.cells #[M8 (x:Nat),M8 (H:Nat),M8 (mi:Nat),(au F),.slice E N ce,(au S),(au PP),.slice BA (Pln.buks ⟨H,mi,bu,ch,wi,n⟩).length bc,M8 ra,M8 O,M8 sh,.slice (some (ar bp 0)) n cp,.slice (some (ar bm 0)) n cm,.slice (some (ar G 0)) n n,.slice (some (ar Z 0)) 1 1,.slice IA J.length ic,M8 0,M8 0,M9] 179)=V:=⟨_,rfl⟩
  rw [hv] at gB p ⊢
  clear hv
  refine HA.t ?_ [33] (bt q p) ?_
  refine HA.d ?_
  try simp only [Exit.then]
  (try have:=u.size);(try have:=B.size);(try have:=Ma I);(try have:G<U.heap.size:=(fQ oG _ rfl).2);have:=y.size
  obtain ⟨bb,hb⟩:∃b,U.heap.size=b:=⟨_,rfl⟩
  rw [hb] at gB ⊢
  have z8:=bt q p;have z6:=bt K8.o z8;have zz:=bt K6.o z6;have z0:=bt y p;have z9:=bt a0 z0;have b5:=bt u p;have cf:=bt B p
  have mF:∀k∈[bb,bp,bm,G,Z],k<w.heap.size\/w4.heap.size<=k:=by apply ms5<;>omega
  have mP:∀k∈[bb,bp,bm,G,Z],k<w4.heap.size\/w6.heap.size<=k:=by apply ms5<;>omega
  have mE:∀k∈[bb,bp,bm,G,Z],k<W8.heap.size\/w9.heap.size<=k:=by apply ms5<;>omega
  have mB:∀k∈[bb,bp,bm,G,Z],k<w9.heap.size\/x9.heap.size<=k:=by apply ms5<;>omega
  have mI:∀k∈[bb,bp,bm,G,Z],k<ad\/a1.heap.size<=k:=by apply ms5<;>omega
  have mS:∀k∈[bb,bp,bm,G,Z],k<a2\/Y.heap.size<=k:=by apply ms5<;>omega
  have lS:w.heap.size<=a2/\w.heap.size<=ad/\w.heap.size<=W8.heap.size/\w.heap.size<=w9.heap.size:=ap
  have l1:w.heap.size<=bb/\w.heap.size<=bp/\w.heap.size<=bm/\w.heap.size<=G/\w.heap.size<=Z:=ap
  have l6:bp≠G/\bm≠G:=ap
  have bN:=bl.o V bb ⟨F,E,ce,S,PP,BA,bc,bp,cp,bm,cm,G,n,Z,1,IA,ic,M9⟩ ⟨gB,⟨_,w4,Mb _,av.o,zz,mF⟩,⟨_,w4,Mb _,HS.o,zz,mF⟩,⟨_,w6,ci,ao.o,z6,mP⟩,⟨W8.heap.size,w9,lS.2.2.1,hE,z9,mE⟩,⟨w9.heap.size,x9,lS.2.2.2,Rd.own (fl ab (Mb _)),z0,mB⟩,⟨ad,a1,lS.2.1,Rd.own (fl oS (Mb _)),cf,mI⟩,⟨A1,c1,A2,c2,bA,bM,sb I _ p,⟨a2,Y,lS.1,Rd.own (fl o1 (Mb _)),b5,mS⟩,⟨a2,Y,lS.1,Rd.own (fl o2 (Mb _)),b5,mS⟩⟩,aE (ay OP.o z8) (Mf _),aE (ay OM.o z8) (Mf _),aE (ay oG p) (Mf _),l1,⟨c6.o,l6.1,l6.2⟩,rfl,rfl,bt Q4.o zz⟩
  go_wp2_with fail
  exact bN
theorem jJ {i:Nat} {p o:World} {ms:List Nat} {Q:World->Prop} {S:Nat->Prop} (h:Win i p ms Q) (C:∀{u v},Q u->Ext u v->Q v) (hk:Keep (fun k=>k<i) p o) (B:∀k,S k->k<i\/k∈ms):Q (aF S o):=by
 obtain ⟨lo,u,h1,y,x,A⟩:=h
 refine C y (GH (fun k hB hl=>(hk.block k (Mi hl x.size) ap).trans (x.block k hl)) fun k hB hl hs=>?_)
 rcases B k hs with h | h
 ·omega
 ·rcases A k h with h | h<;>omega
theorem Dp {H:Nat->Prop} {i:Inp} {x L:Nat} {A:Option Addr} {c:Nat} {w N B:World} {b:Nat} {a:MAd} (hr:LE i.cfg.sizes x L i.cfg.workers.toNat i.cfg.batch.toNat i.cfg.micros.toNat i.cfg.steps.toNat i.cfg.bucket.toNat i.cfg.chunk.toNat i.cfg.window.toNat i.cfg.cap.toNat i.data.length i.start.length A c i.cfg.shift i.cfg.rate i.cfg.mom i.data i.start i.draws (cI i x 0) w N b a)
  (hg:iZ i.cfg) (hw:W64 i.start) (hl:i.start.length<=1048576) (hx:x<(az i).W) (hk:Keep (fun k=>k<w.heap.size) N B) (hH:∀k,H k->k<w.heap.size):aU H B b i x a (fy i):=by
 have O:∀k,Mut b a k->k∈[b,a.bp,a.bm,a.bg,a.rb]:=by
  rintro k (rfl | rfl | rfl | rfl | rfl | h)
  ·simp
  ·simp
  ·simp
  ·simp
  ·simp
  ·rw [hr.ov] at h;exact absurd h (by simp [Value.ownBlock])
 have C:∀k,fT H b a k->k<w.heap.size\/k∈[b,a.bp,a.bm,a.bg,a.rb]:=fun k hk=>hk.elim (fun h=>.inr (O k h)) fun h=>.inl (hH k h)
 have a0:=hr.lo
 have I:∀k,k∈[b,a.bp,a.bm,a.bg,a.rb]->¬k<w.heap.size:=by
  intro k hk
  simp only [List.mem_cons,List.not_mem_nil,or_false] at hk
  rcases hk with rfl | rfl | rfl | rfl | rfl<;>omega
 have u:W64 (List.replicate i.start.length 0):=fun k hk=>by
  rw [du _ _ hk];simp
 have p:∀{v:Value} {e size n:Nat} {xs:List Value},(∀k,v.ownBlock=some k->Mut b a k)->N.ownsRow 0 e size v n xs->B.ownsRow 0 e size v n xs:=fun hv h=>hk.own h fun k U Q=>I k (O k (hv k U)) Q
 have D:∀{k:Nat} {o:Obj},Mut b a k->N.heap[k]?=some o->B.heap[k]?=some o:=fun hm hb=>(hk.block _ (Ma hb) (I _ (O _ hm))).trans hb
 obtain ⟨A1,c1,A2,c2,V,Z,gR,r1,r2⟩:=hr.re
 have R:=D (.inr (.inr (.inr (.inr (.inl rfl))))) gR
 have T:=hr.rc
 have ew:((i.cfg.workers.toNat:Nat):Int)=i.cfg.workers:=by have:=hg.w;omega
 have em:((i.cfg.micros.toNat:Nat):Int)=i.cfg.micros:=by have:=hg.mi;omega
 have J:=D (.inl rfl) hr.blk
 rw [ew,em] at J
 refine ⟨?_,jJ hr.fo fh hk C,jJ hr.ex (er cN) hk C,jJ hr.sa gD hk C,⟨_,_,_,_,_,_,jJ hr.pl gE hk C⟩,jJ hr.bu aW hk C,jJ hr.it aW hk C,?_,
  p (fun k e=>by cases e;exact .inr (.inl rfl)) hr.oP,p (fun k e=>by cases e;exact .inr (.inr (.inl rfl))) hr.oM,p (fun k e=>by cases e;exact .inr (.inr (.inr (.inl rfl)))) hr.oG,?_,hr.dj,fun k _ hm hh=>I k (O k hm) (hH k hh),
  ⟨rfl,hw⟩,⟨by simp [fy],u⟩,⟨by simp [fy],u⟩,?_,hx⟩
 ·have e0:bD i x (fy i)=0:=by simp [bD,fy]
  rw [e0,hr.ov]
  exact J
 ·refine ⟨[[.slice A1 i.start.length c1,.slice A2 i.start.length c2]],⟨rfl,.inr ⟨a.rb,1,_,by rw [T];first | done | rfl,Mf _,R,Mb _,by unfold maxLen;omega,by simp,rfl⟩⟩,rfl,by simp,?_⟩
  intro j y Y
  cases j with
  | succ j=>simp [fy] at Y
  | zero=>
   simp [fy] at Y
   subst Y
   exact ⟨A1,c1,A2,c2,by simp [cq],⟨V,by dsimp only;omega,jJ r1 aW hk C,hw⟩,⟨by rw [ML];exact Z,by rw [ML];omega,jJ r2 aW hk C,u⟩⟩
 ·rw [hr.ov];exact Mn _ _ _ _
 ·show (0<(cI i x 0).length)\/_
  unfold cI
  by_cases h:0<i.cfg.steps.toNat
  ·rw [if_pos h];exact .inl (jk _ _ _)
  ·exact .inr ⟨rfl,by show i.cfg.steps.toNat<=0;omega⟩
def LV (i:Inp) (x:Nat) (w:World) (e:Ending) (h:World):Prop:=∃b a,e=.returned (.tuple #[(au b),M8 0])/\aq w h/\(∀k,Mut b a k->w.heap.size<=k)/\
 ∀(H:Nat->Prop) w'',Keep (fun k=>k<w.heap.size) h w''->(∀k,H k->k<w.heap.size)->aU H w'' b i x a (fy i)
theorem Dv (A:Option Addr) (c:Nat) (D:Option Addr) (B:Nat) (T:Option Addr) (y:Nat) (R:Option Addr) (u:Nat) (i:Inp) (x:Nat) (w:World) (h:gh w A c D T y R i) (hs:cz i) (I:x<(az i).W):
  Calls prog 44 #[.agg (aQ A c D B T y R u i),M8 (x:Nat)] w (LV i x w):=by
 have hg:=hs.g.c
 have ew:((i.cfg.workers.toNat:Nat):Int)=i.cfg.workers:=by have:=hg.w;omega
 have eb:((i.cfg.batch.toNat:Nat):Int)=i.cfg.batch:=by have:=hg.ba;have:=hg.w;omega
 have em:((i.cfg.micros.toNat:Nat):Int)=i.cfg.micros:=by have:=hg.mi;omega
 have es:((i.cfg.steps.toNat:Nat):Int)=i.cfg.steps:=by have:=hg.st;omega
 have eu:((i.cfg.bucket.toNat:Nat):Int)=i.cfg.bucket:=by have:=hg.bu;omega
 have Z:((i.cfg.chunk.toNat:Nat):Int)=i.cfg.chunk:=by have:=hg.ch;omega
 have ei:((i.cfg.window.toNat:Nat):Int)=i.cfg.window:=by have:=hg.wi;omega
 have ea:((i.cfg.cap.toNat:Nat):Int)=i.cfg.cap:=by have:=hg.ca;omega
 have hv:aQ A c D B T y R u i=#[.slice A i.cfg.sizes.length c,M8 i.cfg.shift,M8 i.cfg.rate,M8 i.cfg.mom,M8 (i.cfg.workers.toNat:Nat),M8 (i.cfg.batch.toNat:Nat),M8 (i.cfg.micros.toNat:Nat),M8 (i.cfg.steps.toNat:Nat),M8 (i.cfg.bucket.toNat:Nat),M8 (i.cfg.chunk.toNat:Nat),M8 (i.cfg.window.toNat:Nat),M8 (i.cfg.cap.toNat:Nat),.slice D i.data.length B,.slice T i.start.length y,.slice R i.draws.length u]:=by
  rw [ew,eb,em,es,eu,Z,ei,ea]
 have O:df A c i.cfg=#[.slice A i.cfg.sizes.length c,M8 i.cfg.shift,M8 i.cfg.rate,M8 i.cfg.mom,M8 (i.cfg.workers.toNat:Nat),M8 (i.cfg.batch.toNat:Nat),M8 (i.cfg.micros.toNat:Nat),M8 (i.cfg.steps.toNat:Nat),M8 (i.cfg.bucket.toNat:Nat),M8 (i.cfg.chunk.toNat:Nat),M8 (i.cfg.window.toNat:Nat),M8 (i.cfg.cap.toNat:Nat)]:=by
  rw [ew,eb,em,es,eu,Z,ei,ea]
 have C:=hs.g.s
 unfold cnt at C
 have U:LF i.cfg.sizes i.cfg.sizes.length i.cfg.workers.toNat i.cfg.batch.toNat i.cfg.micros.toNat i.cfg.steps.toNat i.cfg.bucket.toNat i.cfg.chunk.toNat i.cfg.window.toNat i.cfg.cap.toNat i.start.length i.draws.length A c i.cfg.shift i.cfg.rate i.cfg.mom D B T y R u i.data i.start i.draws w:=by
  constructor
  ·intro N Y o q
   subst Y
   have:=uz A c D B T y R u i o (h.below q)
   rw [pd.2 hs.g,hv] at this
   exact this
  ·intro o q
   refine (rx A i.cfg.sizes c o (h.c.hr.below q) h.c.hc h.c.hm).mono ?_
   rintro e v ⟨hb,L⟩
   rcases L with ⟨_,S,he,V,_⟩ | ⟨J,_⟩
   ·exact ⟨S,he,mC V (Ca q.size),hb⟩
   ·exact absurd hg.z J
  ·intro N Y o q
   subst Y
   have gd:=hs.g.d;have gb:=hs.g.b;have g1:=hg.w;have g2:=hg.ba;have g3:=hg.st
   unfold mg at gd
   refine (vi R i.draws u i.data.length i.cfg.batch.toNat i.cfg.steps.toNat o (h.r.below q) h.rl h.ru ap ap gb.2 ap gd).mono ?_
   rintro e v ⟨S,he,V,_,hb⟩
   exact ⟨S,he,El V (Ca q.size),hb⟩
  ·intro F o hF
   have:=jO F i.cfg.sizes o hF
   rw [<-C] at this
   exact this
  ·intro o q
   have:=pZ A c i.cfg o (h.c.below q)
   rw [gM.2 hg,O] at this
   exact this
  ·exact h.d
  ·exact h.dl
  ·exact h.t.hr
  ·rfl
 rw [hv]
 refine Du i.cfg.sizes x i.cfg.sizes.length _ _ _ _ _ _ _ _ i.data.length i.start.length i.draws.length A c _ _ _ D B T y R u i.data i.start i.draws w _ U rfl I hs.ok hs.n1 (by have:=hg.bu;omega) (by have:=hg.wi;omega) (cI i x 0) ?_ ?_
 ·intro P o hP
  unfold cI
  by_cases Q:0<i.cfg.steps.toNat
  ·rw [if_pos Q]
   exact ue (az i) P x 0 i.cfg.steps.toNat _ _ _ _ _ _ o hs.ok hs.n1 I Q hP
  ·rw [if_neg Q]
   refine (ud (az i) P x 0 i.cfg.steps.toNat _ _ _ _ _ _ o I ap hP).mono ?_
   rintro e v ⟨rfl,rfl⟩
   exact ⟨_,rfl,Mn _ _ _ _,br _⟩
 ·intro o b a hr
  refine ⟨b,a,rfl,hr.k,?_,fun H v hk hH=>Dp hr hg h.t.hw h.tl I hk hH⟩
  have p:=hr.lo
  rintro k (rfl | rfl | rfl | rfl | rfl | hh)
  ·exact p.1
  ·exact p.2.1
  ·exact p.2.2.1
  ·exact p.2.2.2.1
  ·exact p.2.2.2.2
  ·rw [hr.ov] at hh;exact absurd hh (by simp [Value.ownBlock])
theorem lW (A:Option Addr) (L c:Nat) (sh ra p u x mi sn bu ch wi ca:Int) (D:Option Addr) (N V:Nat) (T:Option Addr) (n Z:Nat) (R:Option Addr) (Q O:Nat) (w:World):
  Calls prog 29 #[.agg #[.slice A L c,M8 sh,M8 ra,M8 p,M8 u,M8 x,M8 mi,M8 sn,M8 bu,M8 ch,M8 wi,M8 ca,.slice D N V,.slice T (n:Nat) Z,.slice R Q O]] w fun e B=>e=.returned (.agg #[.slice A L c,M8 sh,M8 ra,M8 p,M8 u,M8 x,M8 mi,M8 sn,M8 bu,M8 ch,M8 wi,M8 ca,M8 (n:Nat)])/\aq w B:=by
 obtain ⟨i,h⟩:∃i,w.alloc (.cells #[.slice A L c,M8 sh,M8 ra,M8 p,M8 u,M8 x,M8 mi,M8 sn,M8 bu,M8 ch,M8 wi,M8 ca,.slice D N V,.slice T (n:Nat) Z,.slice R Q O] 29)=i:=⟨_,rfl⟩
 have I:i.heap[w.heap.size]?=some (.cells #[.slice A L c,M8 sh,M8 ra,M8 p,M8 u,M8 x,M8 mi,M8 sn,M8 bu,M8 ch,M8 wi,M8 ca,.slice D N V,.slice T (n:Nat) Z,.slice R Q O] 29 (0,0)):=by rw [<-h];exact Mc w _
 have H:aq w i:=by rw [<-h];exact (br w).alloc (Mb _) _
 have y:i.heap.size=w.heap.size+1:=by rw [<-h];exact Array.size_push _
 have g1:(i.alloc (.cells #[.slice A L c,M8 sh,M8 ra,M8 p,M8 u,M8 x,M8 mi,M8 sn,M8 bu,M8 ch,M8 wi,M8 ca,M8 (n:Nat)] 64)).heap[w.heap.size+1]?=some (.cells #[.slice A L c,M8 sh,M8 ra,M8 p,M8 u,M8 x,M8 mi,M8 sn,M8 bu,M8 ch,M8 wi,M8 ca,M8 (n:Nat)] 64 (0,0)):=by rw [<-y];exact Mc i _
 have HB:=aa (H.alloc H.size (.cells #[.slice A L c,M8 sh,M8 ra,M8 p,M8 u,M8 x,M8 mi,M8 sn,M8 bu,M8 ch,M8 wi,M8 ca,M8 (n:Nat)] 64))
 have t0:=fun B (q:aq i B)=>j8 (sb I B q)
 obtain ⟨C,G1⟩:=ae h g1
 have l0:=Ma I
 have p1:=br i
 clear h I g1 H y
 go_enter func29,ntmps29
 go_wp2_with fail
 rw [C.o]
 obtain ⟨⟨r0,r1,r2,r3,r4,r5,r6,r7,r8,r9,J,U,Y⟩,rf⟩:=vU G1.o
 exact Mp (v:=.agg #[.slice A L c,M8 sh,M8 ra,M8 p,M8 u,M8 x,M8 mi,M8 sn,M8 bu,M8 ch,M8 wi,M8 ca,M8 (n:Nat)]) (by simp [results,results29,go_sem,r0,r1,r2,r3,r4,r5,r6,r7,r8,r9,J,U,Y]) rfl ⟨rfl,HB.o⟩
def btB (x lo h:Int):Bool:=decide (lo<=x/\x<=h)
theorem mY (x lo h:Int) (w:World):Calls prog 55 #[M8 x,M8 lo,M8 h] w fun e i=>e=.returned (.bool (btB x lo h))/\w=i:=by
 by_cases h1:lo<=x
 ·by_cases o:x<=h
  ·go_enter func55,ntmps55
   go_wp2
   go_ret
   exact ⟨dN (by unfold btB;simp [h1,o]),rfl⟩
  ·go_enter func55,ntmps55
   go_wp2
   go_ret
   exact ⟨dN (by unfold btB;simp;omega),rfl⟩
 ·go_enter func55,ntmps55
  go_wp2
  go_ret
  exact ⟨dN (by unfold btB;simp;omega),rfl⟩
theorem EZ (A:Option Addr) (sz:List Int) (c:Nat) (w:World) (hA:Rd w A (aB .i64 sz)) (hl:sz.length<=17592186043904):
  Calls prog 92 #[.slice A sz.length c] w fun e o=>e=.returned (M8 (eg sz))/\∃n,o=w.drewN n:=by
 by_cases h:2<=sz.length/\sz.length<=16
 ·refine (xa A sz c w hA h).mono fun e o ⟨h1,p⟩=>⟨?_,p⟩
  rcases h1 with ⟨i,rfl⟩ | ⟨i,rfl⟩
  ·refine bq ?_
   unfold uK
   by_cases hc:1048576<bQ sz (sz.length-1)
   ·rw [if_pos hc,lR (fun hg=>by have:=hg.2;omega) i]
   ·rw [if_neg hc,jK ⟨i,by omega⟩]
  ·exact bq (gj i).symm
 ·exact (vt A sz c w hl h).mono fun e o ⟨h1,p⟩=>⟨by rw [h1,gj (fun hr=>h hr.1)],0,p.symm⟩
theorem ED (a b c d e f:Int) {g:Bool} {l:List Int} (hl:[a,b,c,d,e,f]=l) {k:Nat} (hk:k<5) (h:okB (nth l k)=false):(okB a&&okB b&&okB c&&okB d&&okB e&&g)=false:=by
 subst hl
 match k,hk with
 | 0,_=>simp only [show nth [a,b,c,d,e,f] 0=a from rfl] at h;simp [h]
 | 1,_=>simp only [show nth [a,b,c,d,e,f] 1=b from rfl] at h;simp [h]
 | 2,_=>simp only [show nth [a,b,c,d,e,f] 2=c from rfl] at h;simp [h]
 | 3,_=>simp only [show nth [a,b,c,d,e,f] 3=d from rfl] at h;simp [h]
 | 4,_=>simp only [show nth [a,b,c,d,e,f] 4=e from rfl] at h;simp [h]
theorem Cv (a b c d e f:Int) (g:Bool) {l:List Int} (hl:[a,b,c,d,e,f]=l) (h:∀j,j<5->okB (nth l j)=true) (hg:g=true):(okB a&&okB b&&okB c&&okB d&&okB e&&g)=true:=by
 subst hl
 have p:okB a=true:=h 0 ap
 have h1:okB b=true:=h 1 ap
 have i:okB c=true:=h 2 ap
 have u:okB d=true:=h 3 ap
 have o:okB e=true:=h 4 ap
 simp [p,h1,i,u,o,hg]
theorem oD (A:Option Addr) (c:Nat) (k:Cfg) (w:World) (h:jZ w A c k):
  Calls prog 54 #[.agg (df A c k)] w fun e J=>e=.returned (M8 (cC k))/\aq w J:=by
 have Y:=fun J (q:aq w J)=>EZ A k.sizes c J (h.hr.below q) h.hl
 have f6:=@Ij k;have f9:=@Ih k;have fs:=@Ig k;have f2:=@Ik k;have f7:=@Ii k;have f0:=@Il k
 unfold wkB shB oQ baB rv at *
 obtain ⟨R,D⟩:∃R,cC k=R:=⟨_,rfl⟩
 rw [D] at f6 f9 fs f2 f7 f0 ⊢
 clear D h
 obtain ⟨sz,sh,ra,mo,B,ba,mi,st,bu,ch,wi,ca⟩:=k
 dsimp only [df] at *
 obtain ⟨L,hL⟩:∃L,sz.length=L:=⟨_,rfl⟩
 obtain ⟨sc,a2⟩:∃sc,eg sz=sc:=⟨_,rfl⟩
 rw [hL,a2] at Y
 rw [a2] at fs f2 f7 f0
 rw [hL] at ⊢
 obtain ⟨a6,F6,F9,Fs,F2,F7,F0⟩:=aj Y f6 f9 fs f2 f7 f0;clear Y f6 f9 fs f2 f7 f0 hL a2
 go_enter func54,ntmps54
 go_wp2_with fail
 have hz:=Mc w (.cells #[.slice A L c,M8 sh,M8 ra,M8 mo,M8 B,M8 ba,M8 mi,M8 st,M8 bu,M8 ch,M8 wi,M8 ca] 24)
 have hB:=(Me _ w).alloc (Mb _) (.cells #[.slice A L c,M8 sh,M8 ra,M8 mo,M8 B,M8 ba,M8 mi,M8 st,M8 bu,M8 ch,M8 wi,M8 ca] 24)
 obtain ⟨W0,a3⟩:∃W0,W0=w.alloc (.cells #[.slice A L c,M8 sh,M8 ra,M8 mo,M8 B,M8 ba,M8 mi,M8 st,M8 bu,M8 ch,M8 wi,M8 ca] 24):=⟨_,rfl⟩
 rw [<-a3] at hz hB ⊢
 clear a3
 obtain ⟨⟨z0,z1,z2,z3,z4,z5,z6,z7,z8,z9,I,Q⟩,zf⟩:=j9 hz
 obtain ⟨y,HZ⟩:=ae hB hz;clear hB hz
 refine (mY B 1 64 _).mono ?_
 rintro e J ⟨rfl,rfl⟩
 obtain ⟨b1,u⟩:∃b1,btB B 1 64=b1:=⟨_,rfl⟩
 have V:=aa (show decide (1<=B/\B<=64)=b1 from u)
 rw [u]
 clear u
 rcases dZ b1 with rfl | rfl
 ·go_wp2_with fail
  go_ret
  exact ⟨bq (F6.o V.o).symm,y.o⟩
 go_wp2_with fail
 refine (mY sh 1 62 _).mono ?_
 rintro e J ⟨rfl,rfl⟩
 obtain ⟨b2,a0⟩:∃b2,btB sh 1 62=b2:=⟨_,rfl⟩
 have Z:=aa (show decide (1<=sh/\sh<=62)=b2 from a0)
 rw [a0]
 clear a0
 rcases dZ b2 with rfl | rfl
 ·go_wp2_with fail
  go_ret
  exact ⟨bq (F9.o V.o Z.o).symm,y.o⟩
 go_wp2_with fail
 refine (a6.o _ y.o).mono ?_
 rintro e J ⟨rfl,d,rfl⟩
 have u:=Mm y.o d
 have N:(W0.drewN d).heap[w.heap.size]?=some (.cells #[.slice A L c,M8 sh,M8 ra,M8 mo,M8 B,M8 ba,M8 mi,M8 st,M8 bu,M8 ch,M8 wi,M8 ca] 24 (0,0)):=HZ.o
 generalize W0.drewN d=W1 at u N ⊢
 clear z0 z1 z2 z3 z4 z5 z6 z7 z8 z9 I Q zf y HZ
 obtain ⟨⟨z0,z1,z2,z3,z4,z5,z6,z7,z8,z9,I,Q⟩,zf⟩:=j9 N
 obtain ⟨y,HZ⟩:=ae u N;clear u N
 by_cases h3:sc≠0
 ·have hq:(sc != 0)=true:=by rw [bne_iff_ne];exact h3
  have H3:=aa h3;clear h3
  go_wp2_with fail
  go_ret
  exact ⟨bq (Fs.o V.o Z.o H3.o).symm,y.o⟩
 obtain rfl:sc=0:=ap
 clear h3
 have lz:w.heap.size<W1.heap.size:=Ma HZ.o
 by_cases h4:st<0
 ·go_wp2_with fail
  go_ret
  exact ⟨bq (F2.o V.o Z.o trivial (by rw [MY (show ¬(0<=st/\st<=1048576) by omega),Bool.and_false])).symm,y.o.alloc y.o.size _⟩
 by_cases a8:1048576<st
 ·go_wp2_with fail
  go_ret
  exact ⟨bq (F2.o V.o Z.o trivial (by rw [MY (show ¬(0<=st/\st<=1048576) by omega),Bool.and_false])).symm,y.o.alloc y.o.size _⟩
 have GS:=aa (show decide (0<=st/\st<=1048576)=true by rw [M5];omega)
 have a4:=dD W1 (aB .i64 [mi,bu,ch,wi,ca,st+1]) 3 _ rfl
 have H:=(Mo W1 (.cells (aB .i64 [mi,bu,ch,wi,ca,st+1]).toArray 3) _ (Ma HZ.o)).trans HZ.o
 obtain ⟨O,a1⟩:=ae a4 H;clear a4 H
 go_wp2_with fail
 clear z0 z1 z2 z3 z4 z5 z6 z7 z8 z9 I Q zf
 have C:=aa (y.o.alloc y.o.size (.cells (aB .i64 [mi,bu,ch,wi,ca,st+1]).toArray 3))
 obtain ⟨l,hl⟩:∃l:List Int,[mi,bu,ch,wi,ca,st+1]=l:=⟨_,rfl⟩
 have HL:=aa hl
 change Code.wp _ _ _ _ (W1.alloc (.cells (aB .i64 [mi,bu,ch,wi,ca,st+1]).toArray 3))
 rw [hl] at O a1 C ⊢
 clear hl y HZ lz
 obtain ⟨p,hp⟩:∃p,W1.heap.size=p:=⟨_,rfl⟩
 rw [hp] at O ⊢
 generalize W1.alloc (.cells (aB .i64 l).toArray 3)=W2 at O a1 C ⊢
 clear hp
 go_loopw [5] (fun i wr=>∃k:Nat,k<=5/\i=M8 k/\an (∀j,j<k->okB (nth l j)=true)/\wr=W2) (fun i _=>5-(intOf i).toNat)
 case atStart=>exact ⟨0,Mf _,rfl,aa fun j hj=>ap,rfl⟩
 case round=>
  obtain ⟨k,hk,rfl,U,rfl⟩:=hrel
  by_cases a5:k<5
  ·have T:k<l.length:=by rw [<-HL.o];simp only [List.length_cons,List.length_nil];omega
   obtain ⟨b',o,e1,hc⟩:=O.o.num T
   have a7:(k:Int)<5:=ap
   injection e1 with e1;injection e1 with e1 e2 _;subst e1;subst e2
   obtain ⟨x,hx⟩:∃x,nth l k=x:=⟨_,rfl⟩
   rw [hx,MW] at hc
   have Hx:=aa hx;clear hx T
   go_wp2_with fail
   refine (mY x 1 1048576 _).mono ?_
   rintro e J ⟨rfl,rfl⟩
   obtain ⟨b3,v⟩:∃b3,btB x 1 1048576=b3:=⟨_,rfl⟩
   have G3:=aa (show okB x=b3 from v)
   rw [v]
   clear v
   rcases dZ b3 with rfl | rfl
   ·go_wp2_with fail
    go_ret
    exact ⟨bq (F2.o V.o Z.o trivial (ED mi bu ch wi ca _ HL.o a5 (by rw [Hx.o];exact G3.o))).symm,C.o⟩
   go_wp2_with fail
   go_roundw
   case rel=>exact ⟨k+1,by omega,by go_num,aa (p:=∀j,j<k+1->okB (nth l j)=true) fun j hj=>by
    rcases Mq j k with h | h
    ·exact U.out j h
    ·obtain rfl:j=k:=ap
     rw [Hx.o];exact G3.o,trivial⟩
   case measure=>simp [intOf];omega
  ·obtain rfl:k=5:=ap
   have hn:=Cv mi bu ch wi ca _ (decide (0<=st/\st<=1048576)) HL.o U.out GS.o
   have Hn:=aa hn;clear hn
   have H:=a1.o
   obtain ⟨⟨z0,z1,z2,z3,z4,z5,z6,z7,z8,z9,I,Q⟩,zf⟩:=j9 H
   clear H
   go_wp2_with fail
   refine (mY ba B 1048576 _).mono ?_
   rintro e J ⟨rfl,rfl⟩
   obtain ⟨b3,v⟩:∃b3,btB ba B 1048576=b3:=⟨_,rfl⟩
   have G3:=aa (show decide (B<=ba/\ba<=1048576)=b3 from v)
   rw [v]
   clear v
   rcases dZ b3 with rfl | rfl
   ·go_wp2_with fail
    go_ret
    exact ⟨bq (F7.o V.o Z.o trivial Hn.o G3.o).symm,C.o⟩
   go_wp2_with fail
   go_ret
   exact ⟨bq (F0.o V.o Z.o trivial Hn.o G3.o).symm,C.o⟩
theorem nu (n:Nat) (w:World) (hn:1<=n) (i:n<=1048576):Calls prog 94 #[M8 n] w fun e h=>e=.returned (M8 ((n-1:Nat):Int))/\w=h:=by
 have h1:(0:Int)<=(n:Int)-1:=ap
 go_enter func94,ntmps94
 go_wp2
 all_goals
  go_ret
  exact ⟨bq ap,rfl⟩
theorem BS {sn i t:Nat} (o:1<=i) (h:t*i<sn):t<(sn+i-1)/i:=by
 rw [Nat.lt_iff_add_one_le,Nat.le_div_iff_mul_le o,MU];omega
theorem BR {sn i t:Nat} (o:1<=i) (h:t<(sn+i-1)/i):t*i<sn:=by
 rw [Nat.lt_iff_add_one_le,Nat.le_div_iff_mul_le o,MU] at h;omega
theorem wR (A:Option Addr) (c n:Nat) (k:Cfg) (w:World) (h:jZ w A c k) (hg:iZ k) (hn:k.batch<=n/\(n:Int)<=1048576):
  Calls prog 93 #[.agg (df A c k),M8 n] w fun e H=>e=.returned (M8 (epN n k.batch.toNat k.steps.toNat:Int))/\aq w H:=by
 have x:=fun H (q:aq w H)=>oD A c k H (h.below q)
 rw [gM.2 hg] at x
 have g1:=hg.w;have g2:=hg.ba;have g3:=hg.st
 clear h hg
 obtain ⟨sz,sh,ra,mo,wk,ba,mi,st,bu,ch,wi,ca⟩:=k
 dsimp only [df] at *
 obtain ⟨bt,rfl⟩:∃bt:Nat,ba=bt:=⟨ba.toNat,by omega⟩
 obtain ⟨sn,rfl⟩:∃sn:Nat,st=sn:=⟨st.toNat,by omega⟩
 rw [Int.toNat_natCast,Int.toNat_natCast]
 obtain ⟨L,hL⟩:∃L,sz.length=L:=⟨_,rfl⟩
 rw [hL] at x ⊢
 obtain ⟨p,u⟩:∃p,n/bt=p:=⟨_,rfl⟩
 have v:1<=p:=by rw [<-u];exact Nat.div_pos ap ap
 have R:p<=n:=by rw [<-u];exact Nat.div_le_self _ _
 have hE:epN n bt sn=(sn+p-1)/p:=by unfold epN;rw [u,qU _ _ v]
 rw [hE]
 have Q:(sn+p-1)/p<=sn+p-1:=Nat.div_le_self _ _
 have C:=fun t=>BS (sn:=sn) (t:=t) v
 have y:=fun t=>BR (sn:=sn) (t:=t) v
 obtain ⟨E,N⟩:∃E,(sn+p-1)/p=E:=⟨_,rfl⟩
 rw [N] at Q C y ⊢
 have a2:(n:Int).tdiv (bt:Int)=(p:Int):=by rw [<-u];rfl
 have a0:(n:Int)/(bt:Int)=(p:Int):=by rw [<-u];rfl
 have a4:¬(bt=0):=ap
 obtain ⟨O,Y,V⟩:=af x C y
 have J:btB (n:Int) (bt:Int) 1048576=true:=by unfold btB;rw [MX];omega
 have U:=aa J;clear x hL u hE N C y J
 go_enter func93,ntmps93
 go_wp2_with fail
 have T:=Mc w (.cells #[.slice A L c,M8 sh,M8 ra,M8 mo,M8 wk,M8 bt,M8 mi,M8 sn,M8 bu,M8 ch,M8 wi,M8 ca] 24)
 have hB:=(Me _ w).alloc (Mb _) (.cells #[.slice A L c,M8 sh,M8 ra,M8 mo,M8 wk,M8 bt,M8 mi,M8 sn,M8 bu,M8 ch,M8 wi,M8 ca] 24)
 refine (O.o _ hB).mono ?_
 rintro e w1 ⟨rfl,B⟩
 have I:=(B.block _ (Ma T)).trans T
 have HB:=aa (hB.trans (B.mono hB.size))
 obtain ⟨⟨z0,z1,z2,z3,z4,z5,z6,z7,z8,z9,a3,a5⟩,zf⟩:=j9 I
 clear T hB B I
 go_wp2_with fail
 refine (mY n bt 1048576 _).mono ?_
 rintro e H ⟨rfl,rfl⟩
 rw [U.o]
 go_wp2_with fail
 go_loopw [5,6] (fun t i wr=>∃k m:Nat,k<=E/\t=M8 k/\i=M8 m/\an (m=k*p)/\m<sn+p/\wr=w1) (fun _ i _=>sn-(intOf i).toNat)
 case atStart=>exact ⟨0,0,Mf _,rfl,rfl,aa ap,by omega,rfl⟩
 case round=>
  obtain ⟨k,m,hk,rfl,rfl,Z,hm,rfl⟩:=hrel
  by_cases D:m<sn
  ·have a1:(m:Int)<sn:=ap
   go_wp2_with fail
   go_roundw
   case rel=>exact ⟨k+1,m+p,Y.o k (by rw [<-Z.out];exact D),by go_num,by go_num,aa (by rw [Z.out,MU]),by omega,trivial⟩
   case measure=>simp [intOf];omega
  ·obtain rfl:k=E:=by
    rcases Mq k E with h | h
    ·exact absurd (V.o k h) (by rw [<-Z.out];exact D)
    ·omega
   go_wp2_with fail
   go_ret
   exact ⟨rfl,HB.o⟩
theorem CQ (A:Option Addr) (c n:Nat) (k:Cfg) (w:World) (h:jZ w A c k) (hg:iZ k) (hn:k.batch<=n/\(n:Int)<=1048576):
  Calls prog 58 #[.agg (df A c k),M8 n] w fun e v=>e=.returned (M8 (mg n k.batch.toNat k.steps.toNat:Int))/\aq w v:=by
 have i:=fun v (q:aq w v)=>wR A c n k v (h.below q) hg hn
 have g1:=hg.w;have U:=hg.ba;have Y:=hg.st
 have u:=fun v=>nu n v ap ap
 have p:=xB (n:=n) (b:=k.batch.toNat) (st:=k.steps.toNat) ap ap
 unfold mg at p ⊢
 clear h hg
 obtain ⟨sz,sh,ra,H,I,ba,mi,st,bu,ch,wi,ca⟩:=k
 dsimp only [df] at *
 obtain ⟨L,J⟩:∃L,sz.length=L:=⟨_,rfl⟩
 rw [J] at i ⊢
 obtain ⟨E,N⟩:∃E,epN n ba.toNat st.toNat=E:=⟨_,rfl⟩
 obtain ⟨m,hm⟩:∃m,n-1=m:=⟨_,rfl⟩
 rw [N] at i p ⊢
 rw [hm] at u p ⊢
 obtain ⟨y,D⟩:∃y,E*m=y:=⟨_,rfl⟩
 rw [D] at p ⊢
 have O:(E:Int)*(m:Int)=(y:Int):=by rw [<-D];push_cast;rfl
 obtain ⟨B,C⟩:=ae i u;clear i u J N hm D
 go_enter func58,ntmps58
 go_wp2_with fail
 have R:=Mc w (.cells #[.slice A L c,M8 sh,M8 ra,M8 H,M8 I,M8 ba,M8 mi,M8 st,M8 bu,M8 ch,M8 wi,M8 ca] 24)
 have hB:=(Me _ w).alloc (Mb _) (.cells #[.slice A L c,M8 sh,M8 ra,M8 H,M8 I,M8 ba,M8 mi,M8 st,M8 bu,M8 ch,M8 wi,M8 ca] 24)
 refine (B.o _ hB).mono ?_
 rintro e T ⟨rfl,x⟩
 have Q:=aa (hB.trans (x.mono hB.size));clear R hB x
 go_wp2_with fail
 refine (C.o _).mono ?_
 rintro e V ⟨rfl,rfl⟩
 go_wp2_with fail
 go_ret
 exact ⟨rfl,Q.o⟩
theorem wV (a b c:Nat) (A:Option Addr) (l:List Ex) (w:World) (h:dA rEx 2 w A l) (hl:l.length<=1048576):
  Calls prog 56 #[.slice A l.length c,M8 a,M8 b] w (qj l a b w):=by
 unfold qj
 obtain ⟨n,hn⟩:∃n,l.length=n:=⟨_,rfl⟩
 rw [hn] at hl ⊢
 obtain ⟨H,V⟩:=ae h hn;clear h hn
 go_enter func56,ntmps56
 go_wp2_with fail
 go_loopw [8] (fun i wr=>∃k:Nat,k<=n/\i=M8 k/\an (∀j x,j<k->l[j]?=some x->eZ a b x)/\wr=w) (fun i _=>n-(intOf i).toNat)
 case atStart=>exact ⟨0,Mf _,rfl,aa fun j x L=>ap,rfl⟩
 case round=>
  obtain ⟨k,hk,rfl,u,rfl⟩:=hrel
  by_cases N:k<n
  ·obtain ⟨x,I⟩:∃x,l[k]?=some x:=⟨_,MG (by rw [V.o];exact N)⟩
   obtain ⟨b',o,A1,c1,A2,c2,rfl,a0,p1,p2,r1,r2⟩:=iG H.o I
   have O:=aa I
   obtain ⟨C,v⟩:∃C,x.1.length=C:=⟨_,rfl⟩
   obtain ⟨D,B⟩:∃D,x.2.length=D:=⟨_,rfl⟩
   rw [v] at p1
   rw [B] at p2
   have J:eZ a b x↔C=a/\D=b:=by unfold eZ;rw [v,B]
   have R:=aa J
   have Y:(k:Int)<n:=ap
   clear r1 r2 I v B J
   by_cases T:C≠a
   ·have hq:((C:Int) != (a:Int))=true:=by rw [bne_iff_ne];omega
    go_wp2_with fail
    go_ret2
    exact ⟨Me _ _,k,.inr ⟨fun h=>T (R.o.1 (h x (List.mem_of_getElem? O.o))).1,rfl⟩⟩
   have Z:((C:Int) != (a:Int))=false:=by rw [bne_eq_false_iff_eq];omega
   by_cases Q:D≠b
   ·have hq:((D:Int) != (b:Int))=true:=by rw [bne_iff_ne];omega
    have E2:=aa Q;clear T Q
    go_wp2_with fail
    go_ret2
    exact ⟨Me _ _,k,.inr ⟨fun h=>E2.o (R.o.1 (h x (List.mem_of_getElem? O.o))).2,rfl⟩⟩
   have a1:((D:Int) != (b:Int))=false:=by rw [bne_eq_false_iff_eq];omega
   have He:=aa (R.o.2 ⟨by omega,by omega⟩)
   clear T Q
   go_wp2_with fail
   go_roundw
   case rel=>exact ⟨k+1,by omega,by go_num,aa (p:=∀j x,j<k+1->l[j]?=some x->eZ a b x) fun j y L U=>by
    rcases Mq j k with h | h
    ·exact u.out j y h U
    ·obtain rfl:j=k:=ap
     have:=O.o;rw [U] at this;injection this with this;rw [this];exact He.o,trivial⟩
   case measure=>simp [intOf];omega
  ·obtain rfl:n=k:=ap
   go_wp2_with fail
   go_ret2
   exact ⟨Me _ _,0,.inl ⟨fun x I=>by
    obtain ⟨j,L,e⟩:=List.mem_iff_getElem.1 I
    exact u.out j x (by rw [<-V.o];exact L) (by rw [MG L,e]),rfl⟩⟩
def JX (q:Prop) (w:World) (e:Ending) (h:World):Prop:=(∃b:Bool,e=.returned (.bool b)/\(b=true->q))/\∃n,h=w.drewN n
theorem GG {q:Prop} (h:q) (b:Bool) (w:World) (d:Nat):JX q w (.returned (.bool b)) (w.drewN d):=⟨⟨b,rfl,fun _=>h⟩,d,rfl⟩
theorem BK (q:Prop) (w:World) (d:Nat):JX q w (.returned (.bool false)) (w.drewN d):=⟨⟨false,rfl,fun h=>by cases h⟩,d,rfl⟩
theorem Fk (c:Nat) (A:Option Addr) (l:List Ex) (w:World) (h:dA rEx 2 w A l) (hl:l.length<=17592186043904):
  Calls prog 153 #[.slice A l.length c] w (JX (l.length<=60) w):=by
 obtain ⟨n,hn⟩:∃n,l.length=n:=⟨_,rfl⟩
 rw [hn] at hl ⊢
 obtain ⟨H,Hn⟩:=ae h hn;clear h hn
 go_enter func153,ntmps153
 go_wp2_with fail
 go_loopw [3,4] (fun v i wr=>∃k:Nat,∃x:Int,k<=n/\i=M8 k/\v=M8 x/\∃d,wr=w.drewN d) (fun _ i _=>n-(intOf i).toNat)
 case atStart=>exact ⟨0,0,Mf _,rfl,rfl,0,rfl⟩
 case round=>
  obtain ⟨k,x,hk,rfl,rfl,d,rfl⟩:=hrel
  by_cases I:k<n
  ·have V:(k:Int)<n:=ap
   by_cases R:k<100
   ·have p:(k:Int)<100:=ap
    obtain ⟨y,U⟩:∃y,l[k]?=some y:=⟨_,MG (by rw [Hn.o];exact I)⟩
    obtain ⟨Q,o,A1,c1,A2,c2,rfl,Y,T,O,Z,r2⟩:=iG H.o U
    obtain ⟨J,C⟩:∃J,y.1.length=J:=⟨_,rfl⟩
    obtain ⟨L,D⟩:∃L,y.2.length=L:=⟨_,rfl⟩
    rw [C] at T
    rw [D] at O
    clear Z r2 U C D
    have q1:(w.drewN d).cell? (ar Q (o+k*2))=some (.slice A1 J c1):=T
    have q2:(w.drewN d).cell? (ar Q (o+k*2+1))=some (.slice A2 L c2):=O
    generalize hW:w.drewN d=W at q1 q2 ⊢
    have HW:=aa hW;clear hW
    go_wp2_with fail
    go_region
    all_goals
     go_wp2_with fail
     go_roundw
     case rel=>exact ⟨k+1,_,by omega,by go_num,rfl,d+1,by rw [<-HW.o];rfl⟩
     case measure=>simp [intOf];omega
   ·have p:¬((k:Int)<100):=ap
    have u:¬((n:Int)<=60):=ap
    have N:¬(n<=60):=ap
    go_wp2_with fail
    all_goals
     go_ret
     exact BK _ _ _
  ·obtain rfl:n=k:=ap
   by_cases B:n<=60
   ·have u:(n:Int)<=60:=ap
    have G:=aa B
    go_wp2_with fail
    all_goals
     go_ret
     exact GG G.o _ _ _
   ·have u:¬((n:Int)<=60):=ap
    go_wp2_with fail
    all_goals
     go_ret
     exact BK _ _ _
theorem js (A:Option Addr) (c:Nat) (D:Option Addr) (cd:Nat) (T:Option Addr) (ct:Nat) (R:Option Addr) (cr:Nat) (i:Inp) (w:World) (h:gh w A c D T ct R i):
  Calls prog 18 #[.agg (aQ A c D cd T ct R cr i)] w fun e v=>e=.returned (M8 (dS i))/\aq w v:=by
 have aG:=fun v (q:aq w v)=>oD A c i.cfg v (h.c.below q)
 have aP:=fun (hR:cR i.cfg.sizes) v (q:aq w v)=>jt A i.cfg.sizes i.cfg.sizes.length c v (h.c.hr.below q) hR (by have:=hR.1;omega) (Mb _)
 have av:=fun a b v (q:aq w v)=>wV a b cd D i.data v (h.d.below eP q) h.dl
 have H:=fun (hg:iZ i.cfg) (hb:i.cfg.batch<=i.data.length/\(i.data.length:Int)<=1048576) v (q:aq w v)=>CQ A c i.data.length i.cfg v (h.c.below q) hg hb
 have fc:=@KA i;have f7:=@KE i;have Z:=@KF i;have B:=@KD i;have C:=@KG i
 have b5:=@gM i.cfg
 have be:=h.c.hr
 have c6:=h.dl;have cb:=h.tl;have hrl:=h.rl
 unfold qj at av
 unfold mx at f7 Z B C
 unfold kK KH inN vz cnt at Z B C
 unfold pY at B C
 obtain ⟨b2,a9⟩:∃b2,dS i=b2:=⟨_,rfl⟩
 rw [a9] at fc f7 Z B C ⊢
 clear a9 h
 obtain ⟨⟨sz,sh,ra,O,U,ba,mi,st,bu,ch,wi,ca⟩,data,start,draws⟩:=i
 dsimp only [aQ,df] at *
 obtain ⟨L,hL⟩:∃L,sz.length=L:=⟨_,rfl⟩
 obtain ⟨N,hN⟩:∃N,data.length=N:=⟨_,rfl⟩
 obtain ⟨M,hM⟩:∃M,start.length=M:=⟨_,rfl⟩
 obtain ⟨Q,hQ⟩:∃Q,draws.length=Q:=⟨_,rfl⟩
 obtain ⟨cc,bw⟩:∃cc,cC ⟨sz,sh,ra,O,U,ba,mi,st,bu,ch,wi,ca⟩=cc:=⟨_,rfl⟩
 rw [hL] at aG aP H Z B C ⊢
 rw [hN] at av H f7 Z B C c6 ⊢
 rw [hM] at Z B C cb ⊢
 rw [hQ] at B C hrl ⊢
 rw [bw] at aG fc f7 Z B C b5
 obtain ⟨CN,b7⟩:∃CN,bQ sz (L-1)=CN:=⟨_,rfl⟩
 rw [b7] at aP Z B C
 obtain ⟨ND,bf⟩:∃ND,mg N ba.toNat st.toNat=ND:=⟨_,rfl⟩
 rw [bf] at H B C
 obtain ⟨c9,c8,cl,cf,Fc,F7,F5,F8⟩:=ak aG aP av H fc f7 Z B;obtain ⟨F0,bX,bi,HL,cs⟩:=ah C b5 be hL b7;clear aG aP av H fc f7 Z B C b5 be hL hN hM hQ bw b7 bf
 go_enter func18,ntmps18
 go_wp2_with fail
 have hz:=(Mo (w.alloc (.cells #[.slice A L c,M8 sh,M8 ra,M8 O,M8 U,M8 ba,M8 mi,M8 st,M8 bu,M8 ch,M8 wi,M8 ca,.slice D N cd,.slice T M ct,.slice R Q cr] 29)) (.cells #[.slice A L c,M8 sh,M8 ra,M8 O,M8 U,M8 ba,M8 mi,M8 st,M8 bu,M8 ch,M8 wi,M8 ca] 24) w.heap.size (by simp)).trans (Mc w _)
 have hy:=Mc (w.alloc (.cells #[.slice A L c,M8 sh,M8 ra,M8 O,M8 U,M8 ba,M8 mi,M8 st,M8 bu,M8 ch,M8 wi,M8 ca,.slice D N cd,.slice T M ct,.slice R Q cr] 29)) (.cells #[.slice A L c,M8 sh,M8 ra,M8 O,M8 U,M8 ba,M8 mi,M8 st,M8 bu,M8 ch,M8 wi,M8 ca] 24)
 rw [show (w.alloc (.cells #[.slice A L c,M8 sh,M8 ra,M8 O,M8 U,M8 ba,M8 mi,M8 st,M8 bu,M8 ch,M8 wi,M8 ca,.slice D N cd,.slice T M ct,.slice R Q cr] 29)).heap.size=w.heap.size+1 by simp] at hy
 have hB:aq w ((w.alloc (.cells #[.slice A L c,M8 sh,M8 ra,M8 O,M8 U,M8 ba,M8 mi,M8 st,M8 bu,M8 ch,M8 wi,M8 ca,.slice D N cd,.slice T M ct,.slice R Q cr] 29)).alloc (.cells #[.slice A L c,M8 sh,M8 ra,M8 O,M8 U,M8 ba,M8 mi,M8 st,M8 bu,M8 ch,M8 wi,M8 ca] 24)):=((Me _ w).alloc (Mb _) _).alloc (by simp) _
 obtain ⟨W0,bl⟩:∃W0,W0=(w.alloc (.cells #[.slice A L c,M8 sh,M8 ra,M8 O,M8 U,M8 ba,M8 mi,M8 st,M8 bu,M8 ch,M8 wi,M8 ca,.slice D N cd,.slice T M ct,.slice R Q cr] 29)).alloc (.cells #[.slice A L c,M8 sh,M8 ra,M8 O,M8 U,M8 ba,M8 mi,M8 st,M8 bu,M8 ch,M8 wi,M8 ca] 24):=⟨_,rfl⟩
 rw [<-bl] at hz hy hB ⊢
 clear bl
 refine (c9.o _ hB).mono ?_
 rintro e w1 ⟨rfl,I⟩
 have aR:=(I.block _ (Ma hz)).trans hz
 have ao:=(I.block _ (Ma hy)).trans hy
 have HB:=aa (hB.trans (I.mono hB.size))
 obtain ⟨⟨z0,z1,z2,z3,z4,z5,z6,z7,z8,z9,a6,ad,J,a7,a3⟩,zf⟩:=j8 aR
 obtain ⟨⟨y0,y1,y2,y3,y4,y5,y6,y7,y8,y9,a0,a2⟩,yf⟩:=j9 ao
 have lz:=Ma aR;have ly:=Ma ao
 obtain ⟨HZ,HY⟩:=ae aR ao;clear hz hy hB I aR ao
 by_cases h3:cc≠0
 ·have hq:(cc != 0)=true:=by rw [bne_iff_ne];exact h3
  have H3:=aa h3;clear h3
  go_wp2_with fail
  go_ret
  exact ⟨bq (Fc.o H3.o).symm,HB.o⟩
 obtain rfl:cc=0:=ap
 clear h3
 have hg:=bX.o.1 rfl
 have g1:=hg.w;have g2:=hg.ba;have g3:=hg.st;have gz:=hg.z
 have HG:=aa hg
 dsimp only at g1 g2 g3 gz
 clear hg
 have bo:=gz.1.1
 rw [HL.o] at bo
 have s0:=gz.1.at (k:=0) (by have:=HL.o;omega)
 have s1:=gz.1.at (k:=L-1) (by have:=HL.o;omega)
 obtain ⟨bz,oz,rfl,p0⟩:=bi.o.num (show 0<sz.length by have:=HL.o;omega)
 obtain ⟨_,_,e',p1⟩:=bi.o.num (show L-1<sz.length by have:=HL.o;omega)
 injection e' with e';injection e' with e1 e2 _;subst e1;subst e2
 rw [s0.2.2,Nat.add_zero] at p0
 rw [s1.2.2] at p1
 obtain ⟨n0,b8⟩:∃n0,szN sz 0=n0:=⟨_,rfl⟩
 obtain ⟨n1,b6⟩:∃n1,szN sz (L-1)=n1:=⟨_,rfl⟩
 have Z:=F5.o;have B:=F8.o;have C:=F0.o
 rw [b8,b6] at Z B C
 rw [b8] at p0 s0
 rw [b6] at p1 s1
 obtain ⟨F5,F8,F0,ci⟩:=ag Z B C gz
 have bM:bz<w.heap.size:=aA p0
 obtain ⟨P0,P1⟩:=ae p0 p1;clear Z B C gz b8 b6 p0 p1 s0 s1
 obtain ⟨bt,rfl⟩:∃bt:Nat,ba=bt:=⟨ba.toNat,by omega⟩
 go_wp2_with fail
 refine (mY N bt 1048576 _).mono ?_
 rintro e v ⟨rfl,rfl⟩
 obtain ⟨b1,I⟩:∃b1,btB (N:Int) bt 1048576=b1:=⟨_,rfl⟩
 have G0:=aa (show decide ((bt:Int)<=N/\(N:Int)<=1048576)=b1 from I)
 rw [I]
 clear I
 rcases dZ b1 with rfl | rfl
 ·have cj:=of_decide_eq_false G0.o
  go_wp2_with fail
  go_ret
  exact ⟨bq (F7.o trivial (by rw [MZ];omega)).symm,HB.o⟩
 have cj:=of_decide_eq_true G0.o
 have G1:=aa (show decide ((bt:Int)<=N/\N<=1048576)=true by rw [M5];omega)
 have p0:=(HB.o.cell (p:=(ar bz oz)) bM).trans P0.o
 have p1:=(HB.o.cell (p:=⟨bz,oz+(L-1),none⟩) bM).trans P1.o
 have bN:IntKind.i64.wrap ((L:Int)-1)=((L-1:Nat):Int):=by rw [Mg _ ap];omega
 have cw:((L-1:Nat):Int)<L:=ap
 have cv:L-1<L:=ap
 have co:0<L:=ap
 have cn:(0:Int)<L:=ap
 go_wp2_with fail
 have u:(fun v:World=>v.cell? (ar w.heap.size 12)=some (.slice D N cd)/\v.cell? (ar (w.heap.size+1) 0)=some (.slice (some (ar bz oz)) L c)/\v.cell? (ar bz oz)=some (M8 n0)/\v.cell? ⟨bz,oz+(L-1),none⟩=some (M8 n1)) w1.drew:=⟨J,y0,p0,p1⟩
 refine HA.g (fun v:World=>v.cell? (ar w.heap.size 12)=some (.slice D N cd)/\v.cell? (ar (w.heap.size+1) 0)=some (.slice (some (ar bz oz)) L c)/\v.cell? (ar bz oz)=some (M8 n0)/\v.cell? ⟨bz,oz+(L-1),none⟩=some (M8 n1)) ?_
 refine HA.t ?_ [0,1,2,3,4,5,6,7,8,9,10,11,12,13] u ?_
 refine HA.o 14 (fun K hK=>?_)
 go_simp
 refine (cl.o n0 n1 _ HB.o.drew).mono ?_
 rintro e w3 ⟨a4,d,hd⟩
 have bd:=Mj (aw a4 u.1) (Mj (aw a4 u.2.1) (Mj (aw a4 u.2.2.1) (aw a4 u.2.2.2)))
 have Y:aq w1 w3:=(Me w1.heap.size w1).drew.trans a4
 have a1:=(Y.block _ lz).trans HZ.o
 have a5:=(Y.block _ ly).trans HY.o
 obtain ⟨ab,bA,bh⟩:=af (HB.o.trans (Y.mono HB.o.size)) a1 a5
 obtain ⟨aM,rfl,b4⟩:∃aM,e=.returned (.tuple #[M8 d,.bool aM])/\decide (∀x∈data,eZ n0 n1 x)=aM:=by
  rcases hd with ⟨ha,rfl⟩ | ⟨ha,rfl⟩
  ·exact ⟨true,rfl,MX ha⟩
  ·exact ⟨false,rfl,MY ha⟩
 have a8:=aa b4;clear a4 Y a1 a5 hd b4 u
 dsimp only
 refine hK.out _ _ bd (fun u=>?_)
 clear hK K bd
 refine HA.t ?_ [15,16,17,18,19] u ?_
 refine HA.d ?_
 clear u z0 z1 z2 z3 z4 z5 z6 z7 z8 z9 a6 ad J a7 a3 zf y0 y1 y2 y3 y4 y5 y6 y7 y8 y9 a0 a2 yf lz ly bN p0 p1
 have a1:=bA.o;have a5:=bh.o
 obtain ⟨⟨z0,z1,z2,z3,z4,z5,z6,z7,z8,z9,a6,ad,J,a7,a3⟩,zf⟩:=j8 a1
 obtain ⟨⟨y0,y1,y2,y3,y4,y5,y6,y7,y8,y9,a0,a2⟩,yf⟩:=j9 a5
 have lz:=Ma a1;have ly:=Ma a5
 clear a1 a5
 rcases dZ aM with rfl | rfl
 ·go_wp2_with fail
  go_quiet (fail)
  go_wp2_with fail
  go_ret
  exact ⟨bq (F5.o trivial G1.o (by rw [a8.o];rfl)).symm,Mm ab.o _⟩
 have b0:=fun v (q:aq w3 v)=>c8.o ci.o.1 v (ab.o.trans (q.mono ab.o.size))
 have b3:=aa b0;clear b0
 by_cases h5:M≠CN
 ·have hq:((M:Int) != (CN:Int))=true:=by rw [bne_iff_ne];omega
  have H5:=aa h5;clear h5
  go_wp2_with fail
  go_quiet ((go_at_call 57;refine Calls.quiet_of (b3.o _ ?_);exact am))
  go_wp2_with fail
  go_ret
  exact ⟨bq (F5.o trivial G1.o (by rw [a8.o,MY H5.o];rfl)).symm,Mm ab.o _⟩
 have hq:((M:Int) != (CN:Int))=false:=by rw [bne_eq_false_iff_eq];omega
 have G2:=aa (show (decide (∀x∈data,eZ n0 n1 x)&&decide (M=CN))=true by rw [a8.o,MX (show M=CN by omega)];rfl);clear h5
 go_wp2_with fail
 go_quiet ((go_at_call 57;refine Calls.quiet_of (b3.o _ ?_);exact am))
 go_wp2_with fail
 obtain ⟨V,hV⟩:∃V,V=w3.drewN nq:=⟨_,rfl⟩
 have bI:aq w V:=by rw [hV];exact Mm ab.o _
 have bb:V.heap[w.heap.size]?=some (.cells #[.slice (some (ar bz oz)) L c,M8 sh,M8 ra,M8 O,M8 U,M8 bt,M8 mi,M8 st,M8 bu,M8 ch,M8 wi,M8 ca,.slice D N cd,.slice T M ct,.slice R Q cr] 29 (0,0)):=by rw [hV];exact bA.o
 have bG:V.heap[w.heap.size+1]?=some (.cells #[.slice (some (ar bz oz)) L c,M8 sh,M8 ra,M8 O,M8 U,M8 bt,M8 mi,M8 st,M8 bu,M8 ch,M8 wi,M8 ca] 24 (0,0)):=by rw [hV];exact bh.o
 clear z0 z1 z2 z3 z4 z5 z6 z7 z8 z9 a6 ad J a7 a3 zf y0 y1 y2 y3 y4 y5 y6 y7 y8 y9 a0 a2 yf
 rw [<-hV]
 clear hV
 obtain ⟨⟨z0,z1,z2,z3,z4,z5,z6,z7,z8,z9,a6,ad,J,a7,a3⟩,zf⟩:=j8 bb
 obtain ⟨⟨y0,y1,y2,y3,y4,y5,y6,y7,y8,y9,a0,a2⟩,yf⟩:=j9 bG
 have b9:=aa bI;clear bI bb bG
 have H:=cf.o HG.o ap V.drew b9.o.drew
 have bn:=aa H;clear H
 have u:(fun v:World=>v.cell? (ar w.heap.size 14)=some (.slice R Q cr)/\v.cell? (ar w.heap.size 12)=some (.slice D N cd)/\v.cell? (ar (w.heap.size+1) 0)=some (.slice (some (ar bz oz)) L c)/\v.cell? (ar (w.heap.size+1) 1)=some (M8 sh)/\v.cell? (ar (w.heap.size+1) 2)=some (M8 ra)/\v.cell? (ar (w.heap.size+1) 3)=some (M8 O)/\v.cell? (ar (w.heap.size+1) 4)=some (M8 U)/\v.cell? (ar (w.heap.size+1) 5)=some (M8 bt)/\v.cell? (ar (w.heap.size+1) 6)=some (M8 mi)/\v.cell? (ar (w.heap.size+1) 7)=some (M8 st)/\v.cell? (ar (w.heap.size+1) 8)=some (M8 bu)/\v.cell? (ar (w.heap.size+1) 9)=some (M8 ch)/\v.cell? (ar (w.heap.size+1) 10)=some (M8 wi)/\v.cell? (ar (w.heap.size+1) 11)=some (M8 ca)) V.drew:=⟨a3,J,y0,y1,y2,y3,y4,y5,y6,y7,y8,y9,a0,a2⟩
 refine HA.g (fun v:World=>v.cell? (ar w.heap.size 14)=some (.slice R Q cr)/\v.cell? (ar w.heap.size 12)=some (.slice D N cd)/\v.cell? (ar (w.heap.size+1) 0)=some (.slice (some (ar bz oz)) L c)/\v.cell? (ar (w.heap.size+1) 1)=some (M8 sh)/\v.cell? (ar (w.heap.size+1) 2)=some (M8 ra)/\v.cell? (ar (w.heap.size+1) 3)=some (M8 O)/\v.cell? (ar (w.heap.size+1) 4)=some (M8 U)/\v.cell? (ar (w.heap.size+1) 5)=some (M8 bt)/\v.cell? (ar (w.heap.size+1) 6)=some (M8 mi)/\v.cell? (ar (w.heap.size+1) 7)=some (M8 st)/\v.cell? (ar (w.heap.size+1) 8)=some (M8 bu)/\v.cell? (ar (w.heap.size+1) 9)=some (M8 ch)/\v.cell? (ar (w.heap.size+1) 10)=some (M8 wi)/\v.cell? (ar (w.heap.size+1) 11)=some (M8 ca)) ?_
 refine HA.t ?_ [0,1,2,3,4,5,6] u ?_
 refine HA.o 7 (fun K hK=>?_)
 go_simp
 refine bn.o.mono ?_
 rintro e w4 ⟨rfl,y⟩
 have bs:=aa (b9.o.trans ((Me V.heap.size V).drew.trans y |>.mono b9.o.size))
 have bv:=Mj (aw y u.1) (Mj (aw y u.2.1) (Mj (aw y u.2.2.1) (Mj (aw y u.2.2.2.1) (Mj (aw y u.2.2.2.2.1) (Mj (aw y u.2.2.2.2.2.1) (Mj (aw y u.2.2.2.2.2.2.1) (Mj (aw y u.2.2.2.2.2.2.2.1) (Mj (aw y u.2.2.2.2.2.2.2.2.1) (Mj (aw y u.2.2.2.2.2.2.2.2.2.1) (Mj (aw y u.2.2.2.2.2.2.2.2.2.2.1) (Mj (aw y u.2.2.2.2.2.2.2.2.2.2.2.1) (Mj (aw y u.2.2.2.2.2.2.2.2.2.2.2.2.1) (aw y u.2.2.2.2.2.2.2.2.2.2.2.2.2)))))))))))))
 clear y u
 dsimp only
 refine hK.out _ _ bv (fun u=>?_)
 clear hK K bv
 refine HA.t ?_ [8] u ?_
 refine HA.d ?_
 clear u z0 z1 z2 z3 z4 z5 z6 z7 z8 z9 a6 ad J a7 a3 zf y0 y1 y2 y3 y4 y5 y6 y7 y8 y9 a0 a2 yf
 by_cases h8:ND<=Q
 ·have bO:¬((Q:Int)<ND):=ap
  have c7:decide ((Q:Int)<ND)=false:=by simp;omega
  have bV:decide (Q<ND)=false:=by simp;omega
  have G8:=aa (MX h8)
  go_wp2_with fail
  go_ret
  exact ⟨bq (F0.o trivial G1.o G2.o G8.o).symm,bs.o⟩
 ·have bO:(Q:Int)<ND:=ap
  have c7:decide ((Q:Int)<ND)=true:=by simp;omega
  have bV:decide (Q<ND)=true:=by simp;omega
  have G8:=aa (MY h8)
  go_wp2_with fail
  go_ret
  exact ⟨bq (F8.o trivial G1.o G2.o G8.o).symm,bs.o⟩
structure jF (w:World) (A:Option Addr) (c:Nat) (D:Option Addr) (T:Option Addr) (ct:Nat) (R:Option Addr) (i:Inp):Prop where
 c:jZ w A c i.cfg
 d:dA rEx 2 w D i.data
 dl:i.data.length<=17592186043904
 t:cJ w T i.start ct
 r:Rd w R (aB .u64 i.draws)
 rl:i.draws.length<=17592186043904
 ru:U64 i.draws
 ra: -9223372036854775808<=i.cfg.rate/\i.cfg.rate<=9223372036854775807
 rm: -9223372036854775808<=i.cfg.mom/\i.cfg.mom<=9223372036854775807
theorem jF.below {w p:World} {A:Option Addr} {c:Nat} {D T R:Option Addr} {o:Nat} {i:Inp} (h:jF w A c D T o R i) (hb:aq w p):jF p A c D T o R i:=
 ⟨h.c.below hb,h.d.below eP hb,h.dl,h.t.below hb,h.r.below hb,h.rl,h.ru,h.ra,h.rm⟩
def ke (i:Inp):Prop:=i.data.length<=60/\i.start.length<=600/\i.draws.length<=2000/\i.cfg.sizes.length<=40
theorem jF.rd {w:World} {A:Option Addr} {c:Nat} {D T R:Option Addr} {o:Nat} {i:Inp} (h:jF w A c D T o R i) (hs:ke i):gh w A c D T o R i:=
 ⟨h.c,h.d,by have:=hs.1;omega,h.t,by have:=hs.2.1;omega,h.r,by have:=hs.2.2.1;omega,h.ru,h.ra,h.rm⟩
def th (q:Prop) (w:World) (e:Ending) (h:World):Prop:=(∃b:Bool,e=.returned (.bool b)/\(b=true->q))/\aq w h
theorem sG {q:Prop} {w h:World} (b:Bool) (i:q) (hb:aq w h):th q w (.returned (.bool b)) h:=⟨⟨b,rfl,fun _=>i⟩,hb⟩
theorem vN {q:Prop} {w i:World} (hb:aq w i):th q w (.returned (.bool false)) i:=⟨⟨false,rfl,fun h=>by cases h⟩,hb⟩
theorem GF {p:Prop} [Decidable p] {q:Prop} {w i:World} (o:p->q) (hb:aq w i):th q w (.returned (.bool (decide p))) i:=⟨⟨_,rfl,fun h=>o (of_decide_eq_true h)⟩,hb⟩
theorem Gv (A:Option Addr) (c:Nat) (D:Option Addr) (x:Nat) (T:Option Addr) (B:Nat) (R:Option Addr) (C:Nat) (i:Inp) (w:World) (h:jF w A c D T B R i):
  Calls prog 110 #[.agg (aQ A c D x T B R C i)] w (th (ke i) w):=by
 have hf:=fun w' (q:aq w w')=>Fk x D i.data w' (h.d.below eP q) h.dl
 have hq:i.data.length<=60->i.start.length<=600->i.draws.length<=2000->i.cfg.sizes.length<=40->ke i:=fun a b c d=>⟨a,b,c,d⟩
 generalize ke i=Q at hq ⊢
 clear h
 unfold JX at hf
 obtain ⟨⟨sz,sh,ra,H,V,ba,mi,st,bu,ch,wi,ca⟩,data,start,draws⟩:=i
 dsimp only [aQ,df] at *
 obtain ⟨L,hL⟩:∃L,sz.length=L:=⟨_,rfl⟩
 obtain ⟨N,hN⟩:∃N,data.length=N:=⟨_,rfl⟩
 obtain ⟨M,hM⟩:∃M,start.length=M:=⟨_,rfl⟩
 obtain ⟨P,hP⟩:∃P,draws.length=P:=⟨_,rfl⟩
 rw [hL,hN,hM,hP] at hq
 rw [hN] at hf
 rw [hL,hN,hM,hP]
 obtain ⟨Hf,Hq⟩:=ae hf hq;clear hf hq hL hN hM hP
 have U:¬(L<=40)->¬((L:Int)<=40):=ap
 have J:L<=40->(L:Int)<=40:=ap
 have Z:¬(M<=600)->¬((M:Int)<=600):=ap
 have O:M<=600->(M:Int)<=600:=ap
 have Y:¬(P<=2000)->¬((P:Int)<=2000):=ap
 have I:P<=2000->(P:Int)<=2000:=ap
 obtain ⟨NL,YL,NM,YM,NP,YP⟩:=ai U J Z O Y I;clear U J Z O Y I
 by_cases h1:¬(L<=40)
 ·have k1:=NL.o h1
  go_enter func110,ntmps110
  go_wp2_with fail
  all_goals
   go_ret
   exact vN ((Me _ w).alloc (Mb _) _)
 have y:L<=40:=ap
 have k1:=YL.o y
 have G1:=aa y;clear h1 y
 go_enter func110,ntmps110
 go_wp2_with fail
 have hz:=Mc w (.cells #[.slice A L c,M8 sh,M8 ra,M8 H,M8 V,M8 ba,M8 mi,M8 st,M8 bu,M8 ch,M8 wi,M8 ca,.slice D N x,.slice T M B,.slice R P C] 29)
 have hB:=(Me _ w).alloc (Mb _) (.cells #[.slice A L c,M8 sh,M8 ra,M8 H,M8 V,M8 ba,M8 mi,M8 st,M8 bu,M8 ch,M8 wi,M8 ca,.slice D N x,.slice T M B,.slice R P C] 29)
 refine (Hf.o _ hB).mono ?_
 rintro e w' ⟨⟨b,rfl,hb⟩,d,rfl⟩
 have u:((w.alloc (.cells #[.slice A L c,M8 sh,M8 ra,M8 H,M8 V,M8 ba,M8 mi,M8 st,M8 bu,M8 ch,M8 wi,M8 ca,.slice D N x,.slice T M B,.slice R P C] 29)).drewN d).heap[w.heap.size]?=some (.cells #[.slice A L c,M8 sh,M8 ra,M8 H,M8 V,M8 ba,M8 mi,M8 st,M8 bu,M8 ch,M8 wi,M8 ca,.slice D N x,.slice T M B,.slice R P C] 29 (0,0)):=hz
 have p:=Mm hB d
 have Hb:=aa hb;clear hz hB hb
 generalize (w.alloc (.cells #[.slice A L c,M8 sh,M8 ra,M8 H,M8 V,M8 ba,M8 mi,M8 st,M8 bu,M8 ch,M8 wi,M8 ca,.slice D N x,.slice T M B,.slice R P C] 29)).drewN d=W1 at u p ⊢
 have HB:=aa p
 obtain ⟨⟨z0,z1,z2,z3,z4,z5,z6,z7,z8,z9,a0,a4,a3,a1,a2⟩,zf⟩:=j8 u
 clear u p
 rcases dZ b with rfl | rfl
 ·go_wp2_with fail
  all_goals
   go_ret
   exact vN HB.o
 by_cases h2:¬(M<=600)
 ·have k2:=NM.o h2
  go_wp2_with fail
  all_goals
   go_ret
   exact vN HB.o
 have v:M<=600:=ap
 have k2:=YM.o v
 have G2:=aa v;clear h2 v;clear NL YL NM YM YP
 go_wp2_with fail
 all_goals
  go_ret
  exact GF (fun h=>Hq.o (Hb.o trivial) G2.o ap G1.o) HB.o
theorem Ai (A:Option Addr) (c:Nat) (D:Option Addr) (cd:Nat) (T:Option Addr) (U:Nat) (R:Option Addr) (Z:Nat) (i:Inp) (w:World) (h:jF w A c D T U R i):
  Calls prog 74 #[.agg (aQ A c D cd T U R Z i)] w (th (ke i) w):=by
 have p:=fun u (q:aq w u)=>Gv A c D cd T U R Z i u (h.below q)
 have J:=fun u (q:aq w u)=>oD A c i.cfg u (h.c.below q)
 have V:=fun (hR:cR i.cfg.sizes) u (q:aq w u)=>jt A i.cfg.sizes i.cfg.sizes.length c u (h.c.hr.below q) hR (by have:=hR.1;omega) (Mb _)
 have a0:=@gM i.cfg
 generalize ke i=QQ at p ⊢
 clear h
 have p:∀u,aq w u->Calls prog 110 #[.agg (aQ A c D cd T U R Z i)] u (fun e aR=>∃b:Bool,e=.returned (.bool b)/\(b=true->QQ)/\aq u aR):=fun u q=>(p u q).mono fun e aR ⟨⟨b,h1,h2⟩,h3⟩=>⟨b,h1,h2,h3⟩
 obtain ⟨⟨sz,sh,ra,H,I,ba,mi,st,bu,ch,wi,ca⟩,data,start,draws⟩:=i
 dsimp only [aQ,df] at *
 obtain ⟨cc,b0⟩:∃cc,cC ⟨sz,sh,ra,H,I,ba,mi,st,bu,ch,wi,ca⟩=cc:=⟨_,rfl⟩
 rw [b0] at J a0
 have av:cc=0->cR sz:=fun e=>(a0.1 e).z.1
 obtain ⟨L,hL⟩:∃L,sz.length=L:=⟨_,rfl⟩
 obtain ⟨N,hN⟩:∃N,data.length=N:=⟨_,rfl⟩
 obtain ⟨M,hM⟩:∃M,start.length=M:=⟨_,rfl⟩
 obtain ⟨Q,hQ⟩:∃Q,draws.length=Q:=⟨_,rfl⟩
 rw [hL] at J V p ⊢
 rw [hN,hM,hQ] at p ⊢
 obtain ⟨CN,aM⟩:∃CN,bQ sz (L-1)=CN:=⟨_,rfl⟩
 rw [aM] at V
 obtain ⟨b4,b3,ad,b2⟩:=ag J V p av;clear J V p a0 hL hN hM hQ b0 aM av
 go_enter func74,ntmps74
 go_wp2_with fail
 have hz:=(Mo (w.alloc (.cells #[.slice A L c,M8 sh,M8 ra,M8 H,M8 I,M8 ba,M8 mi,M8 st,M8 bu,M8 ch,M8 wi,M8 ca,.slice D N cd,.slice T M U,.slice R Q Z] 29)) (.cells #[.slice A L c,M8 sh,M8 ra,M8 H,M8 I,M8 ba,M8 mi,M8 st,M8 bu,M8 ch,M8 wi,M8 ca] 24) w.heap.size (by simp)).trans (Mc w _)
 have hy:=Mc (w.alloc (.cells #[.slice A L c,M8 sh,M8 ra,M8 H,M8 I,M8 ba,M8 mi,M8 st,M8 bu,M8 ch,M8 wi,M8 ca,.slice D N cd,.slice T M U,.slice R Q Z] 29)) (.cells #[.slice A L c,M8 sh,M8 ra,M8 H,M8 I,M8 ba,M8 mi,M8 st,M8 bu,M8 ch,M8 wi,M8 ca] 24)
 rw [show (w.alloc (.cells #[.slice A L c,M8 sh,M8 ra,M8 H,M8 I,M8 ba,M8 mi,M8 st,M8 bu,M8 ch,M8 wi,M8 ca,.slice D N cd,.slice T M U,.slice R Q Z] 29)).heap.size=w.heap.size+1 by simp] at hy
 have hB:aq w ((w.alloc (.cells #[.slice A L c,M8 sh,M8 ra,M8 H,M8 I,M8 ba,M8 mi,M8 st,M8 bu,M8 ch,M8 wi,M8 ca,.slice D N cd,.slice T M U,.slice R Q Z] 29)).alloc (.cells #[.slice A L c,M8 sh,M8 ra,M8 H,M8 I,M8 ba,M8 mi,M8 st,M8 bu,M8 ch,M8 wi,M8 ca] 24)):=((Me _ w).alloc (Mb _) _).alloc (by simp) _
 obtain ⟨W0,aP⟩:∃W0,W0=(w.alloc (.cells #[.slice A L c,M8 sh,M8 ra,M8 H,M8 I,M8 ba,M8 mi,M8 st,M8 bu,M8 ch,M8 wi,M8 ca,.slice D N cd,.slice T M U,.slice R Q Z] 29)).alloc (.cells #[.slice A L c,M8 sh,M8 ra,M8 H,M8 I,M8 ba,M8 mi,M8 st,M8 bu,M8 ch,M8 wi,M8 ca] 24):=⟨_,rfl⟩
 rw [<-aP] at hz hy hB ⊢
 clear aP
 refine (ad.o _ hB).mono ?_
 rintro e w1 ⟨b,rfl,hb,Y⟩
 have y:=(Y.block _ (Ma hz)).trans hz
 have v:=(Y.block _ (Ma hy)).trans hy
 obtain ⟨HB,Hb⟩:=ae (hB.trans (Y.mono hB.size)) hb
 obtain ⟨⟨z0,z1,z2,z3,z4,z5,z6,z7,z8,z9,a1,ao,ab,a3,a6⟩,zf⟩:=j8 y
 obtain ⟨⟨y0,y1,y2,y3,y4,y5,y6,y7,y8,y9,a2,a4⟩,yf⟩:=j9 v
 obtain ⟨HZ,HY⟩:=ae y v;clear hz hy hB Y hb
 rcases dZ b with rfl | rfl
 ·clear y v
  go_wp2_with fail
  refine (ad.o _ HB.o).mono ?_
  rintro e w2 ⟨b',rfl,C,B⟩
  obtain ⟨a7,a8⟩:=ae (HB.o.trans (B.mono HB.o.size)) C;clear B C
  go_wp2_with fail
  go_ret
  exact ⟨⟨b',rfl,a8.o⟩,a7.o⟩
 have HQ:=aa (Hb.o rfl)
 go_wp2_with fail
 refine (b4.o _ HB.o).mono ?_
 rintro e w3 ⟨rfl,O⟩
 have aG:=(O.block _ (Ma y)).trans y
 have b1:=(O.block _ (Ma v)).trans v
 have x:=aa (HB.o.trans (O.mono HB.o.size));clear z0 z1 z2 z3 z4 z5 z6 z7 z8 z9 a1 ao ab a3 a6 zf y0 y1 y2 y3 y4 y5 y6 y7 y8 y9 a2 a4 yf y v O HZ HY
 obtain ⟨⟨z0,z1,z2,z3,z4,z5,z6,z7,z8,z9,a1,ao,ab,a3,a6⟩,zf⟩:=j8 aG
 obtain ⟨⟨y0,y1,y2,y3,y4,y5,y6,y7,y8,y9,a2,a4⟩,yf⟩:=j9 b1
 clear aG b1
 by_cases h3:cc≠0
 ·have hq:(cc != 0)=true:=by rw [bne_iff_ne];exact h3
  go_wp2_with fail
  refine (ad.o _ x.o).mono ?_
  rintro e w2 ⟨b',rfl,C,B⟩
  obtain ⟨a7,a8⟩:=ae (x.o.trans (B.mono x.o.size)) C;clear B C
  go_wp2_with fail
  go_ret
  exact ⟨⟨b',rfl,a8.o⟩,a7.o⟩
 obtain rfl:cc=0:=ap
 clear h3
 have HR:=aa (b2.o rfl)
 by_cases h4:12<st
 ·have hq:¬(st<=12):=ap
  go_wp2_with fail
  all_goals
   go_ret
   exact sG _ HQ.o x.o
 have hq:st<=12:=ap
 go_wp2_with fail
 refine (b3.o HR.o _ x.o).mono ?_
 rintro e w4 ⟨rfl,d,rfl⟩
 have a9:=aa (Mm x.o d)
 obtain ⟨W4,a5⟩:∃W4,W4=w3.drewN d:=⟨_,rfl⟩
 have b5:W4.cell? (ar (w.heap.size+1) 5)=some (M8 ba):=by rw [a5];exact y5
 rw [<-a5] at a9 ⊢
 clear a5 z0 z1 z2 z3 z4 z5 z6 z7 z8 z9 a1 ao ab a3 a6 zf y0 y1 y2 y3 y4 y5 y6 y7 y8 y9 a2 a4 yf
 by_cases h5:CN<=150
 ·have k5:(CN:Int)<=150:=ap
  go_wp2_with fail
  all_goals
   go_ret
   exact sG _ HQ.o a9.o
 ·have k5:¬((CN:Int)<=150):=ap
  go_wp2_with fail
  all_goals
   go_ret
   exact sG _ HQ.o a9.o
theorem ip:dq prog 104 191 (.agg Nd) 12 88:=⟨underlying104,info_parts (by kernel_rfl),rfl,by decide⟩
def iR (w:World) (v:Value) (h:World) (v':Value):Prop:=Keep (fun j=>v.ownBlock=some j) w h/\(v'.ownBlock=v.ownBlock\/∀k,v'.ownBlock=some k->w.heap.size<=k)
theorem iR.trans {a b c:World} {v v' i:Value} (h:iR a v b v') (k:iR b v' c i):iR a v c i:=by
 refine ⟨⟨k.1.os.trans h.1.os,k.1.tape.trans h.1.tape,k.1.output.trans h.1.output,Mh h.1.size k.1.size,fun j o hn=>(k.1.block j (Mi o h.1.size) fun x=>?_).trans (h.1.block j o hn)⟩,?_⟩
 ·rcases h.2 with u | u
  ·exact hn (u▸x)
  ·have:=u j x;omega
 ·rcases k.2 with p | p
  ·rw [p];exact h.2
  ·exact .inr fun j o=>Mh h.1.size (p j o)
theorem iR.below {b c:World} {v:Value} (h:aq b c):iR b v c v:=⟨Keep.below h,.inl rfl⟩
theorem iR.refl (w:World) (v:Value):iR w v w v:=⟨Keep.refl _ _,.inl rfl⟩
theorem gi {P:Program} {t e:TypeId} {z:Value} {size i:Nat} (T:dq P t e z size i) (w:World) {ops:Array Oper} {rest:List Oper} {o:Oper} {a:Act} {Q:Exit->Act->World->Prop}
  (B:o.guard=none) (s x:Operand) (C:o.op=.call {callee:=.builtin .append,args:=#[s,x],argTypes:=#[t,t]})
  (base:Nat) (v:Value) (n:Nat) (xs:List Value) (hs:a.eval s=v) (hown:w.ownsRow base e size v n xs)
  (us:List Value) (hx:a.eval x=.slice (some (ar w.heap.size 0)) 1 1) (hus:us.length=size) (h1:∀u∈us,u.oneCell'=true)
  (hb:(n+1)*i<=140737488355328) (h63:n+1<=maxLen) (hbase:base<=w.heap.size)
  (h:∀A y p,p.ownsRow base e size (.slice A (n+1) y) (n+1) (xs++us)->iR w v p (.slice A (n+1) y)->
   wpList P ops Q rest (a.put o.dst (.slice A (n+1) y)) p):wpList P ops Q (o::rest) a (w.alloc (.cells us.toArray e)):=by
 refine dy T (w:=w.alloc (.cells us.toArray e)) B s x C base v n xs hs (hown.alloc _) (some (ar w.heap.size 0)) 1 1 us hx (dD w us e w.heap.size rfl) ap h1 hb h63 (by simp;omega) ?_
 intro A y p D _ hg hn
 refine h A y p D ⟨((Keep.refl _ w).alloc _).grown hg (fun k hk=>.inr hk),?_⟩
 rcases hn with hn | hn
 ·exact .inl hn
 ·exact .inr fun k hk=>by rw [hn] at hk;simp at hk;omega
theorem ss6 {w:World} {b:Nat} {t:TypeId} {x p i v o u v0 v1 v2 v3 v4 v5:Value} (h:w.heap[b]?=some (.cells #[x,p,i,v,o,u] t (0,0))):
  ((((((w.setCell (ar b 0) v0).setCell (ar b 1) v1).setCell (ar b 2) v2).setCell (ar b 3) v3).setCell (ar b 4) v4).setCell (ar b 5) v5).heap[b]?=some (.cells #[v0,v1,v2,v3,v4,v5] t (0,0)):=
 ss (ss (ss3 (ss h rfl) rfl) rfl) (by simp)
theorem rK (p:Pln) (R a1 T J L Q I u x:Value) (w:World) (O:cO p) (B:p.bu<=1048576):
  Calls prog 91 #[.agg #[R,a1,T,J,M8 (p.W:Nat),L,Q,I,M8 (p.bu:Nat),M8 (p.ck:Nat),u,x,M8 (p.n:Nat)]] w fun e H=>∃v,e=.returned v/\H.ownsRow w.heap.size 187 2 v p.buks.length (aN p.buks)/\aq w H:=by
 obtain ⟨A,i⟩:∃A,w.alloc (.cells #[R,a1,T,J,M8 (p.W:Nat),L,Q,I,M8 (p.bu:Nat),M8 (p.ck:Nat),u,x,M8 (p.n:Nat)] 64)=A:=⟨_,rfl⟩
 have y:aq w A:=by rw [<-i];exact (br w).alloc (Mb _) _
 have hb:=zx p.n p.bu A (by have:=O.n;omega) O.bu B
 obtain ⟨C,h,V⟩:=af i y hb;clear i y hb
 go_enter func91,ntmps91
 go_wp2_with fail
 rw [C.o]
 refine V.o.mono ?_
 rintro e Z ⟨v,rfl,N,D⟩
 obtain ⟨Y,U⟩:=ae (aE (base':=w.heap.size) N h.o.size) (h.o.trans (D.mono h.o.size));clear N D
 go_wp2_with fail
 go_ret
 exact ⟨_,rfl,Y.o,U.o⟩
theorem Fi (p:Pln) (Y a1 Z Q R V N u x:Value) (st j:Nat) (w:World) (hp:cO p) (a4:p.bu<=1048576) (hj:j<p.buks.length):
  Calls prog 150 #[.agg #[Y,a1,Z,Q,M8 (p.W:Nat),R,V,N,M8 (p.bu:Nat),M8 (p.ck:Nat),u,x,M8 (p.n:Nat)],M8 (st:Nat),M8 (j:Nat)] w fun e L=>e=.returned (.agg #[M8 (st:Nat),M8 (j:Nat),M8 ((aL p.buks j).1:Nat),M8 ((aL p.buks j).2:Nat),M8 (p.W:Nat),M8 (p.ck:Nat)])/\aq w L:=by
 obtain ⟨h,i⟩:∃h,(w.alloc (.cells #[Y,a1,Z,Q,M8 (p.W:Nat),R,V,N,M8 (p.bu:Nat),M8 (p.ck:Nat),u,x,M8 (p.n:Nat)] 64)).alloc (.cells Ng 261)=h:=⟨_,rfl⟩
 have g0:h.heap[w.heap.size]?=some (.cells #[Y,a1,Z,Q,M8 (p.W:Nat),R,V,N,M8 (p.bu:Nat),M8 (p.ck:Nat),u,x,M8 (p.n:Nat)] 64 (0,0)):=by
  rw [<-i,Mo _ _ _ (by simp)];exact Mc w _
 have g1:h.heap[w.heap.size+1]?=some (.cells Ng 261 (0,0)):=by
  rw [<-i];have:=Mc (w.alloc (.cells #[Y,a1,Z,Q,M8 (p.W:Nat),R,V,N,M8 (p.bu:Nat),M8 (p.ck:Nat),u,x,M8 (p.n:Nat)] 64)) (.cells Ng 261);simpa using this
 have U:aq w h:=by rw [<-i];exact ((br w).alloc (Mb _) _).alloc (by simp) _
 have t0:=fun L (q:Keep (fun j=>j=w.heap.size+1) h L)=>vU ((q.block _ (Ma g0) ap).trans g0)
 have ao:(j:Int)<p.buks.length:=ap
 obtain ⟨a9,J,G1⟩:=af i U g1
 have q0:Keep (fun j=>j=w.heap.size+1) h h.drew:=(Keep.refl _ _).drew
 clear i g0 g1 U
 go_enter func150,ntmps150
 go_wp2_with fail
 rw [a9.o]
 refine HA.g (fun L:World=>Keep (fun j=>j=w.heap.size+1) h L) ?_
 refine HA.t ?_ [0,1,2,4,7,8,9,10,11,12] q0 ?_
 refine HA.c 3 (rK p Y a1 Z Q R V N u x _ hp a4) ?_
 rintro e D ⟨v2,rfl,o2,k2⟩
 have b2:=bt (br h).drew k2
 have H:Keep (fun j=>j=w.heap.size+1) h D:=Keep.below b2
 obtain ⟨g,c2,rfl,_⟩:=o2.form ap
 obtain ⟨d0,d1⟩:=ix o2 hj
 obtain ⟨I,C⟩:∃b,(aL p.buks j).1=b:=⟨_,rfl⟩
 obtain ⟨T,A⟩:∃b,(aL p.buks j).2=b:=⟨_,rfl⟩
 rw [C] at d0
 rw [A] at d1
 refine ⟨_,rfl,H,fun _=>?_⟩
 refine HA.v 5 D (.pointer (some (ar g (j*2)))) H ?_
 refine HA.v 6 D (.agg #[M8 (I:Nat),M8 (T:Nat)]) H ?_
 refine HA.v 13 D (.agg #[M8 (st:Nat),M8 (j:Nat),M8 (I:Nat),M8 (T:Nat),M8 (p.W:Nat),M8 (p.ck:Nat)]) H ?_
 have h2:=sb G1.o D b2
 have u2:=bx6 h2
 have O:=ss6 (v0:=M8 (st:Nat)) (v1:=M8 (j:Nat)) (v2:=M8 (I:Nat)) (v3:=M8 (T:Nat)) (v4:=M8 (p.W:Nat)) (v5:=M8 (p.ck:Nat)) h2
 have a8:=Ma h2
 obtain ⟨W9,y⟩:∃W9,((((((D.setCell (ar (w.heap.size+1) 0) (M8 (st:Nat))).setCell (ar (w.heap.size+1) 1) (M8 (j:Nat))).setCell (ar (w.heap.size+1) 2) (M8 (I:Nat))).setCell (ar (w.heap.size+1) 3) (M8 (T:Nat))).setCell (ar (w.heap.size+1) 4) (M8 (p.W:Nat))).setCell (ar (w.heap.size+1) 5) (M8 (p.ck:Nat)))=W9:=⟨_,rfl⟩
 have k9:Keep (fun j=>j=w.heap.size+1) D W9:=by rw [<-y];exact Keep.setCell (S:=fun j=>j=w.heap.size+1) (Keep.setCell (S:=fun j=>j=w.heap.size+1) (Keep.setCell (S:=fun j=>j=w.heap.size+1) (Keep.setCell (S:=fun j=>j=w.heap.size+1) (Keep.setCell (S:=fun j=>j=w.heap.size+1) (Keep.setCell (S:=fun j=>j=w.heap.size+1) (Keep.refl _ _) _ (.inr rfl) _) _ (.inr rfl) _) _ (.inr rfl) _) _ (.inr rfl) _) _ (.inr rfl) _) _ (.inr rfl) _
 refine HA.s 14 W9 (H.trans k9) ?_ (he:=by subst y;go_simp)
 refine HA.d ?_
 rw [y] at O
 obtain ⟨E6,HB⟩:=ae O (J.o.trans ((H.trans k9).toBelow (B:=w.heap.size) J.o.size (fun j hj=>ap)))
 obtain ⟨⟨r0,r1,r2,r3,r4,r5⟩,rf⟩:=bx6 O
 have av:=Ma O
 obtain ⟨ad,ab⟩:=ae C A;clear O h2 u2 a8 q0 H b2 k9 k2 t0 o2 d0 d1 C A
 go_wp2_with fail
 rw [ad.o,ab.o]
 exact Mp (v:=.agg #[M8 (st:Nat),M8 (j:Nat),M8 (I:Nat),M8 (T:Nat),M8 (p.W:Nat),M8 (p.ck:Nat)]) (by simp [results,results150,go_sem,r0,r1,r2,r3,r4,r5]) rfl ⟨rfl,HB.o⟩
abbrev fY (w:World) (base:Nat) (v:Value) (l:List Itm):Prop:=w.ownsRow base 191 12 v l.length (cu l)
theorem zl (p:Pln) (base st x lo u:Nat) (a0 a1 a2 a3 a5 a6 a7 a4 a8:Value) (v:Value) (l:List Itm) (w:World)
  (hp:cO p) (dr:p.bu<=1048576) (hl:fY w base v l) (hb:base<=w.heap.size) (hx:x<p.W) (bi:lo<=u) (hg:u<=p.buks.length) (ds:l.length<=8000000):
  Calls prog 103 #[v,.agg #[a0,a1,a2,a3,M8 (p.W:Nat),a5,a6,a7,M8 (p.bu:Nat),M8 (p.ck:Nat),a4,a8,M8 (p.n:Nat)],M8 x,M8 (st:Nat),.agg #[M8 (lo:Nat),M8 (u:Nat)]] w fun e A=>∃v',e=.returned v'/\fY A base v' (l++de p x st (lo,u))/\iR w v A v':=by
 obtain ⟨J,ab⟩:∃J,(w.alloc (.cells #[a0,a1,a2,a3,M8 (p.W:Nat),a5,a6,a7,M8 (p.bu:Nat),M8 (p.ck:Nat),a4,a8,M8 (p.n:Nat)] 64)).alloc (.cells #[M8 (lo:Nat),M8 (u:Nat)] 187)=J:=⟨_,rfl⟩
 have g0:J.heap[w.heap.size]?=some (.cells #[a0,a1,a2,a3,M8 (p.W:Nat),a5,a6,a7,M8 (p.bu:Nat),M8 (p.ck:Nat),a4,a8,M8 (p.n:Nat)] 64 (0,0)):=by
  rw [<-ab,Mo _ _ _ (by simp)];exact Mc w _
 have g1:J.heap[w.heap.size+1]?=some (.cells #[M8 (lo:Nat),M8 (u:Nat)] 187 (0,0)):=by
  rw [<-ab];have:=Mc (w.alloc (.cells #[a0,a1,a2,a3,M8 (p.W:Nat),a5,a6,a7,M8 (p.bu:Nat),M8 (p.ck:Nat),a4,a8,M8 (p.n:Nat)] 64)) (.cells #[M8 (lo:Nat),M8 (u:Nat)] 187);simpa using this
 have av:aq w J:=by rw [<-ab];exact ((br w).alloc (Mb _) _).alloc (by simp) _
 have aP:fY J base v l:=ay hl av
 have kP:=fun A (q:Keep (fun j=>v.ownBlock=some j) J A)=>(q.block _ (Ma g0) (fun h=>ax g0 (by decide) aP h.symm)).trans g0
 have kG:=fun A (q:Keep (fun j=>v.ownBlock=some j) J A)=>(q.block _ (Ma g1) (fun h=>ax g1 (by decide) aP h.symm)).trans g1
 obtain ⟨m,hm⟩:∃m,p.W-1=m:=⟨_,rfl⟩
 have dc:=hp.W1;have e7:=hp.W8;have d0:=hp.ck;have cj:=hp.ck2;have eb:=hp.buks
 have cb:=fun j=>hp.buk j
 have hrl:=fun ph r j=>hp.round x st ph r j
 have ea:(p.W:Int)-1=(m:Int):=ap
 have e6:IntKind.i64.wrap (m:Int)=m:=Mg _ ap
 have bo:=uC p x st lo u
 rw [hm] at bo
 have bX:=Mh hb av.size
 have d8:=av.size
 obtain ⟨dw,d9,cA,HP,HG,d5,b6,Hm⟩:=ak ab av aP kP kG cb hrl hm;obtain ⟨dG,b0⟩:=ae bo bX
 have tG:=fun A (q:aq J A)=>bx2 (kG A (Keep.below q))
 have q0:=br J
 clear ab g0 g1 av aP hl kP kG cb hrl hm bX bo d8
 go_enter func103,ntmps103
 go_wp2_with fail
 rw [dw.o]
 clear tG q0
 have cn:=aa ds
 go_loopw [0,11] (fun H y wr=>∃j:Nat,lo<=j/\j<=u/\y=M8 j/\fY wr base H (l++cZ st lo (j-lo) 2)/\iR J v wr H) (fun _ y _=>u-(intOf y).toNat)
 case atStart=>exact ⟨lo,Mb _,bi,rfl,by simpa [cZ] using cA.o,iR.refl _ _⟩
 case round=>
  obtain ⟨j,hj,ct,rfl,l3,L⟩:=hrel
  have uR:=fun A (q:aq wr A)=>bx2 (sb (HG.o wr L.1) A q)
  have q1:=br wr
  have B:(l++cZ st lo (j-lo) 2).length<=8388608:=by
   have:=cn.o
   simp only [ME,ji]
   omega
  obtain ⟨Av,cv,rfl,_⟩:=aC l3
  obtain ⟨n,hn⟩:∃n,(l++cZ st lo (j-lo) 2).length=n:=⟨_,rfl⟩
  have T:wr.ownsRow base 191 12 (.slice Av n cv) n (cu (l++cZ st lo (j-lo) 2)):=by rw [<-hn];exact l3
  rw [hn] at B L ⊢
  have Z:=L.1.size
  by_cases bG:j<u
  ·have ao:(j:Int)<u:=ap
   have cM:IntKind.i64.wrap ((j:Int)+1)=((j+1:Nat):Int):=by rw [Mg _ ap];push_cast;rfl
   have e:l++cZ st lo (j+1-lo) 2=(l++cZ st lo (j-lo) 2)++[(⟨2,st,j,none⟩:Itm)]:=by rw [show j+1-lo=(j-lo)+1 by omega,lq,show lo+(j-lo)=j by omega];simp only [MK]
   obtain ⟨Q,L3,He,V⟩:=ag L T e hn;clear l3 T L e hn
   go_wp2_with (at_builtin;refine gi ip _ rfl (.tmp 27) (.tmp 31) rfl base (.slice Av n cv) n _ rfl L3.o [M8 2,M8 (st:Nat),M8 (j:Nat),.bool false,.bool false,M8 0,M8 0,M8 0,M8 0,M8 0,M8 0,M8 0] rfl rfl (by simp [Value.oneCell']) ap (by unfold maxLen;omega) (Mh b0.o Z) ?_)
   intro g6 c6 w6 C D
   obtain ⟨R,U⟩:=ae C (Q.o.trans D);clear C D
   go_wp2_with fail
   go_roundw
   case rel=>exact ⟨j+1,by omega,by omega,by go_num,by unfold fY;rw [He.o,ME,V.o,fv];exact R.o,U.o⟩
   case measure=>simp [intOf];omega
  ·have ao:¬((j:Int)<u):=ap
   obtain rfl:u=j:=ap
   obtain ⟨L3,Q,V⟩:=af l3 L hn;clear l3 T L B hn
   obtain ⟨l1,b4⟩:∃l1,l++cZ st lo (u-lo) 2=l1:=⟨_,rfl⟩
   have bb:l1.length<=8000060:=by
    have:=cn.o
    rw [<-b4]
    simp only [ME,ji]
    omega
   rw [V.o] at L3
   have L4:an (wr.ownsRow base 191 12 (.slice Av n cv) l1.length (cu l1)):=aa (by have:=L3.o;unfold fY at this;rw [V.o] at this;rw [<-b4,V.o];exact this)
   obtain ⟨d6,b9⟩:=ae b4 bb;clear b4 bb L3
   go_wp2_with fail
   clear uR q1
   go_loopw [0,12] (fun H y wr=>∃ph:Nat,ph<=2/\y=M8 ph/\fY wr base H (l1++cE p x st (lo,u) (ph*m))/\iR J v wr H) (fun _ y _=>2-(intOf y).toNat)
   case atStart=>exact ⟨0,Mf _,rfl,by simpa [cE] using L4.out,Q.o⟩
   case round=>
    obtain ⟨ph,e9,rfl,l2,A2⟩:=hrel
    by_cases dk:ph<2
    ·have da:(ph:Int)<2:=ap
     have e2:IntKind.i64.wrap ((ph:Int)+1)=((ph+1:Nat):Int):=by rw [Mg _ ap];push_cast;rfl
     obtain ⟨L2,O⟩:=ae l2 A2;clear l2 A2
     go_wp2_with fail
     go_loopw [0,13] (fun H y wr=>∃r:Nat,r<=m/\y=M8 r/\fY wr base H (l1++cE p x st (lo,u) (ph*m+r))/\iR J v wr H) (fun _ y _=>m-(intOf y).toNat)
     case atStart=>exact ⟨0,Mf _,rfl,L2.o,O.o⟩
     case round=>
      obtain ⟨r,hr,rfl,l2,A2⟩:=hrel
      have uP:=fun A (q:aq wr A)=>vU (sb (HP.o wr A2.1) A q)
      have uR:=fun A (q:aq wr A)=>bx2 (sb (HG.o wr A2.1) A q)
      have q1:=br wr
      by_cases hrl:r<m
      ·have d2:(r:Int)<m:=ap
       have e5:IntKind.i64.wrap ((r:Int)+1)=((r+1:Nat):Int):=by rw [Mg _ ap];push_cast;rfl
       obtain ⟨k,hk⟩:∃k,ph*m+r=k:=⟨_,rfl⟩
       have cd:k/m=ph:=by rw [<-hk,Nat.mul_comm,Nat.mul_add_div ap,Nat.div_eq_of_lt hrl,Nat.add_zero]
       have bA:k%m=r:=by rw [<-hk,Nat.mul_comm,Nat.mul_add_mod,Nat.mod_eq_of_lt hrl]
       have bO:k<=14:=by
        have:ph*m<=1*7:=Nat.mul_le_mul ap (by have:=Hm.o;omega)
        omega
       rw [hk] at l2
       obtain ⟨L2,O,Hk,dv,cy⟩:=ah l2 A2 hk cd bA;clear l2 A2 hk cd bA
       go_wp2_with fail
       clear uP uR q1
       go_loopw [0,14] (fun H y wr=>∃j:Nat,lo<=j/\j<=u/\y=M8 j/\fY wr base H (l1++cE p x st (lo,u) k++fX p x st k lo (j-lo))/\iR J v wr H) (fun _ y _=>u-(intOf y).toNat)
       case atStart=>exact ⟨lo,Mb _,bi,rfl,by simpa [fX] using L2.o,O.o⟩
       case round=>
        obtain ⟨j,hj,ct,rfl,I,A4⟩:=hrel
        have uP:=fun A (q:aq wr A)=>vU (sb (HP.o wr A4.1) A q)
        have uR:=fun A (q:aq wr A)=>bx2 (sb (HG.o wr A4.1) A q)
        have q1:=br wr
        by_cases bG:j<u
        ·have ao:(j:Int)<u:=ap
         have dn:j<p.buks.length:=ap
         obtain ⟨wj,rfl⟩:∃wj:World,wj=wr:=⟨_,rfl⟩
         obtain ⟨Aw,cw,rfl,_⟩:=aC I
         obtain ⟨l4,b5⟩:∃l4,l1++cE p x st (lo,u) k++fX p x st k lo (j-lo)=l4:=⟨_,rfl⟩
         have b7:l4.length<=8200000:=by
          have h1:=jq (w:=x) (st:=st) (k:=k) (g:=(lo,u)) (M:=120) (p:=p) (fun ph r j=>b6.o ph r j)
          have h2:=sw (w:=x) (st:=st) (k:=k) (lo:=lo) (n:=j-lo) (M:=120) (p:=p) (fun ph r j=>b6.o ph r j)
          have h4:k*((u-lo)*120)<=14*(60*120):=Nat.mul_le_mul bO (Nat.mul_le_mul ap (Mb _))
          have h5:(j-lo)*120<=60*120:=Nat.mul_le_mul ap (Mb _)
          have h6:=b9.o
          rw [<-b5]
          simp only [ME]
          dsimp only at h1
          omega
         rw [b5] at I A4 ⊢
         obtain ⟨v4,bV⟩:∃v4,Value.slice Aw l4.length cw=v4:=⟨_,rfl⟩
         rw [bV] at I A4 ⊢
         have bh:=d5.o j
         have e8:bW p x st (k/(p.W-1)) (k%(p.W-1)) j=(cX st j (aL p.buks j) p.W p.ck x ph r).map (gw st):=by
          unfold bW
          rw [Hm.o,dv.o,cy.o]
         have aM:=b6.o (k/(p.W-1)) (k%(p.W-1)) j
         rw [e8,List.length_map] at aM
         obtain ⟨b1,b2,bM⟩:∃b1 b2,aL p.buks j=(b1,b2):=⟨_,_,rfl⟩
         have Y:=Fi p a0 a1 a2 a3 a5 a6 a7 a4 a8 st j wj hp dr dn
         rw [bM] at bh e8 aM Y
         dsimp only at bh Y
         obtain ⟨ci,E8,aR,a9,b3,d1,cx⟩:=aj Y e8 aM I A4 b5 b7;clear Y e8 aM I A4 b5 b7 bM bV
         go_wp2_with fail
         refine ci.o.mono ?_
         rintro e w7 ⟨rfl,k7⟩
         have q7:=bt q1 k7
         go_wp2_with fail
         refine (za st j b1 b2 p.W p.ck x ph r w7 dc ap hx dk (by have:=Hm.o;omega) bh.1 ap d0 cj).mono ?_
         rintro e w8 ⟨v8,rfl,o8,k8⟩
         have q8:=bt q7 k8
         obtain ⟨A8,c8,rfl,_⟩:=aC o8
         obtain ⟨X,hX⟩:∃X,cX st j (b1,b2) p.W p.ck x ph r=X:=⟨_,rfl⟩
         rw [hX] at E8 aR o8 ⊢
         obtain ⟨N,hN⟩:∃N,X.length=N:=⟨_,rfl⟩
         rw [hN] at aR o8 ⊢
         have l8:fY w8 base v4 l4:=ay a9.o q8
         have bI:iR J v w8 v4:=b3.o.trans (iR.below q8)
         have cl:=fun A (q:Keep (fun j=>v4.ownBlock=some j) w8 A)=>q.own o8 (fun k hk e=>by
          have h1:=(o8.lt k hk).1
          have h5:k<wj.heap.size:=(a9.o.lt k e).2
          have h6:=q7.size
          omega)
         obtain ⟨L8,be,d7,HN⟩:=ag l8 bI cl hN;clear o8 l8 bI cl k8 k7 q8 q7 q1 hX hN uP uR a9 b3
         go_wp2_with fail
         go_loopw [0,16] (fun H y wr=>∃i:Nat,i<=N/\y=M8 i/\fY wr base H (l4++(X.take i).map (gw st))/\iR w8 v4 wr H) (fun _ y _=>N-(intOf y).toNat)
         case atStart=>exact ⟨0,Mf _,rfl,by simpa using L8.o,iR.refl _ _⟩
         case round=>
          obtain ⟨i,e3,rfl,l5,A5⟩:=hrel
          by_cases e0:i<N
          ·have dT:(i:Int)<N:=ap
           have e4:IntKind.i64.wrap ((i:Int)+1)=((i+1:Nat):Int):=by rw [Mg _ (by have:=aR.o;omega)];push_cast;rfl
           have oX:=d7.o wr A5.1
           obtain ⟨ga,rfl⟩:∃ga,A8=some (ar ga 0):=by
            obtain ⟨g,e,hv,_⟩:=oX.form ap
            simp only [MR] at hv
            exact ⟨g,hv.1⟩
           have dp:i<X.length:=by rw [HN.o];exact e0
           obtain ⟨a,ha⟩:∃a,X[i]=a:=⟨_,rfl⟩
           have cs:X[i]?=some a:=by rw [<-ha];simp
           have cf:=yy oX cs HN.o
           have co:X.take (i+1)=X.take i++[a]:=by rw [List.take_succ_eq_append_getElem dp,ha]
           have B:(l4++(X.take i).map (gw st)).length<=8388607:=by
            have:=cx.o
            have:=aR.o
            simp only [ME,List.length_map,MJ]
            omega
           obtain ⟨snd,ad,bn,bw,bd,bf,bs,bv,bl⟩:=a
           have c0:wr.cell? (ar ga (i*9))=some (.bool snd):=cf 0 ap
           have c1:wr.cell? (ar ga (i*9+1))=some (.bool ad):=cf 1 ap
           have c2:wr.cell? (ar ga (i*9+2))=some (M8 (bn:Nat)):=cf 2 ap
           have c3:wr.cell? (ar ga (i*9+3))=some (M8 (bw:Nat)):=cf 3 ap
           have c4:wr.cell? (ar ga (i*9+4))=some (M8 (bd:Nat)):=cf 4 ap
           have c5:wr.cell? (ar ga (i*9+5))=some (M8 (bf:Nat)):=cf 5 ap
           have c6:wr.cell? (ar ga (i*9+6))=some (M8 (bs:Nat)):=cf 6 ap
           have c7:wr.cell? (ar ga (i*9+7))=some (M8 (bv:Nat)):=cf 7 ap
           have c8:wr.cell? (ar ga (i*9+8))=some (M8 (bl:Nat)):=cf 8 ap
           obtain ⟨Av,cv,rfl,_⟩:=aC l5
           obtain ⟨n,hn⟩:∃n,(l4++(X.take i).map (gw st)).length=n:=⟨_,rfl⟩
           have cr:wr.ownsRow base 191 12 (.slice Av n cv) n (cu (l4++(X.take i).map (gw st))):=by rw [<-hn];exact l5
           rw [hn] at B A5 ⊢
           have Z:=A5.1.size
           obtain ⟨bN,L5,cc,V⟩:=ag A5 cr co hn;clear oX cf l5 cr A5 co cs hn ha
           cases snd
           ·go_wp2_with (at_builtin;refine gi ip _ rfl (.tmp 72) (.tmp 80) rfl base (.slice Av n cv) n _ rfl L5.o [M8 4,M8 (st:Nat),M8 0,.bool false,.bool ad,M8 (bn:Nat),M8 (bw:Nat),M8 (bd:Nat),M8 (bf:Nat),M8 (bs:Nat),M8 (bv:Nat),M8 (bl:Nat)] rfl rfl (by simp [Value.oneCell']) ap (by unfold maxLen;omega) (Mh (Mh b0.o be.o.1.size) Z) ?_)
            intro g6 cL w6 C D
            obtain ⟨R,U⟩:=ae C (bN.o.trans D);clear C D
            go_wp2_with fail
            go_roundw
            case rel=>exact ⟨i+1,by omega,by go_num,by unfold fY;rw [cc.o,List.map_append,<-MK,ME,V.o,List.map_cons,List.map_nil,fv,List.map_take];exact R.o,U.o⟩
            case measure=>simp [intOf];omega
           ·go_wp2_with (at_builtin;refine gi ip _ rfl (.tmp 72) (.tmp 80) rfl base (.slice Av n cv) n _ rfl L5.o [M8 3,M8 (st:Nat),M8 0,.bool true,.bool ad,M8 (bn:Nat),M8 (bw:Nat),M8 (bd:Nat),M8 (bf:Nat),M8 (bs:Nat),M8 (bv:Nat),M8 (bl:Nat)] rfl rfl (by simp [Value.oneCell']) ap (by unfold maxLen;omega) (Mh (Mh b0.o be.o.1.size) Z) ?_)
            intro g6 cL w6 C D
            obtain ⟨R,U⟩:=ae C (bN.o.trans D);clear C D
            go_wp2_with fail
            go_roundw
            case rel=>exact ⟨i+1,by omega,by go_num,by unfold fY;rw [cc.o,List.map_append,<-MK,ME,V.o,List.map_cons,List.map_nil,fv,List.map_take];exact R.o,U.o⟩
            case measure=>simp [intOf];omega
          ·obtain rfl:N=i:=ap
           have dT:¬((N:Int)<N):=ap
           have e1:IntKind.i64.wrap ((j:Int)+1)=((j+1:Nat):Int):=by rw [Mg _ ap];push_cast;rfl
           rw [List.take_of_length_le (by rw [HN.o];exact Mb _),<-E8.o,<-d1.o,MK,show fX p x st k lo (j-lo)++bW p x st (k/(p.W-1)) (k%(p.W-1)) j=fX p x st k lo (j+1-lo) from by rw [show j+1-lo=(j-lo)+1 by omega,nH,show lo+(j-lo)=j by omega]] at l5
           obtain ⟨L5,B5⟩:=ae l5 (be.o.trans A5);clear l5 A5
           go_wp2_with fail
           go_roundw
           case rel=>exact ⟨j+1,by omega,by omega,by go_num,L5.o,B5.o⟩
           case measure=>simp [intOf];omega
        ·have ao:¬((j:Int)<u):=ap
         obtain rfl:u=j:=ap
         have e:=gq p x st (lo,u) k
         dsimp only at e
         rw [MK,<-e,<-Hk.o,MV] at I
         obtain ⟨a9,b3⟩:=ae I A4;clear I A4 e uP
         go_wp2_with fail
         go_roundw
         case rel=>exact ⟨r+1,by omega,by go_num,a9.o,b3.o⟩
         case measure=>simp [intOf];omega
      ·have d2:¬((r:Int)<m):=ap
       obtain rfl:m=r:=ap
       rw [<-MU] at l2
       obtain ⟨L2,O⟩:=ae l2 A2;clear l2 A2 uR
       go_wp2_with fail
       go_roundw
       case rel=>exact ⟨ph+1,by omega,by go_num,L2.o,O.o⟩
       case measure=>simp [intOf];omega
    ·have da:¬((ph:Int)<2):=ap
     obtain rfl:ph=2:=ap
     have hrl:(cE p x st (lo,u) (2*m)).length<=100800:=by
      have h1:=jq (w:=x) (st:=st) (k:=2*m) (g:=(lo,u)) (M:=120) (p:=p) (fun ph r j=>b6.o ph r j)
      have h4:2*m*((u-lo)*120)<=14*(60*120):=Nat.mul_le_mul (by have:=Hm.o;omega) (Nat.mul_le_mul ap (Mb _))
      dsimp only at h1
      omega
     have aG:(l1++cE p x st (lo,u) (2*m)).length<=8200000:=by
      have:=b9.o
      rw [ME];omega
     obtain ⟨l9,bz⟩:∃l9,l1++cE p x st (lo,u) (2*m)=l9:=⟨_,rfl⟩
     rw [bz] at l2 aG
     have uR:=fun A (q:aq wr A)=>bx2 (sb (HG.o wr A2.1) A q)
     have q1:=br wr
     obtain ⟨L2,O,d4,c9⟩:=ag l2 A2 bz aG;clear l2 A2 bz aG hrl
     go_wp2_with fail
     clear uR q1
     go_loopw [0,18] (fun H y wr=>∃j:Nat,lo<=j/\j<=u/\y=M8 j/\fY wr base H (l9++cZ st lo (j-lo) 5)/\iR J v wr H) (fun _ y _=>u-(intOf y).toNat)
     case atStart=>exact ⟨lo,Mb _,bi,rfl,by simpa [cZ] using L2.o,O.o⟩
     case round=>
      obtain ⟨j,hj,ct,rfl,l3,L⟩:=hrel
      have uR:=fun A (q:aq wr A)=>bx2 (sb (HG.o wr L.1) A q)
      have q1:=br wr
      have B:(l9++cZ st lo (j-lo) 5).length<=8388608:=by
       have:=c9.o
       simp only [ME,ji]
       omega
      obtain ⟨Av,cv,rfl,_⟩:=aC l3
      obtain ⟨n,hn⟩:∃n,(l9++cZ st lo (j-lo) 5).length=n:=⟨_,rfl⟩
      have T:wr.ownsRow base 191 12 (.slice Av n cv) n (cu (l9++cZ st lo (j-lo) 5)):=by rw [<-hn];exact l3
      rw [hn] at B L ⊢
      have Z:=L.1.size
      by_cases bG:j<u
      ·have ao:(j:Int)<u:=ap
       have cM:IntKind.i64.wrap ((j:Int)+1)=((j+1:Nat):Int):=by rw [Mg _ ap];push_cast;rfl
       have e:l9++cZ st lo (j+1-lo) 5=(l9++cZ st lo (j-lo) 5)++[(⟨5,st,j,none⟩:Itm)]:=by rw [show j+1-lo=(j-lo)+1 by omega,lq,show lo+(j-lo)=j by omega];simp only [MK]
       obtain ⟨Q,L3,He,V⟩:=ag L T e hn;clear l3 T L e hn
       go_wp2_with (at_builtin;refine gi ip _ rfl (.tmp 90) (.tmp 94) rfl base (.slice Av n cv) n _ rfl L3.o [M8 5,M8 (st:Nat),M8 (j:Nat),.bool false,.bool false,M8 0,M8 0,M8 0,M8 0,M8 0,M8 0,M8 0] rfl rfl (by simp [Value.oneCell']) ap (by unfold maxLen;omega) (Mh b0.o Z) ?_)
       intro g6 c6 w6 C D
       obtain ⟨R,U⟩:=ae C (Q.o.trans D);clear C D
       go_wp2_with fail
       go_roundw
       case rel=>exact ⟨j+1,by omega,by omega,by go_num,by unfold fY;rw [He.o,ME,V.o,fv];exact R.o,U.o⟩
       case measure=>simp [intOf];omega
      ·have ao:¬((j:Int)<u):=ap
       obtain rfl:u=j:=ap
       obtain ⟨L3,Q,V⟩:=af l3 L hn;clear l3 T L B hn
       rw [V.o] at L3
       have b8:l9++cZ st lo (u-lo) 5=l++de p x st (lo,u):=by
        rw [<-d4.o,<-d6.o,dG.o];simp only [MK]
       have L9:an (fY wr base (.slice Av n cv) (l++de p x st (lo,u))):=aa (by have:=L3.o;unfold fY at this ⊢;rw [V.o] at this;rw [<-b8,V.o];exact this)
       have d3:=aa ((iR.below (v:=v) d9.o).trans Q.o);clear b8 L3
       go_wp2_with fail
       go_ret
       exact ⟨_,rfl,L9.out,d3.o⟩
def zO (st k:Nat):List Itm:=(List.range k).map (fun a=>(⟨1,st,a,none⟩:Itm))
theorem Dz (st k:Nat):zO st (k+1)=zO st k++[(⟨1,st,k,none⟩:Itm)]:=qA st k
theorem Gf (st k:Nat):(zO st k).length=k:=by simp [zO]
theorem zk (p:Pln) (st x:Nat) (a0 a1 a2 a3 a5 a7 C:Value) (w:World) (V:cO p) (b6:p.bu<=1048576) (bn:p.wi<=1048576) (hx:x<p.W):
  Calls prog 67 #[.agg #[a0,a1,a2,a3,M8 (p.W:Nat),a5,M8 (p.mi:Nat),a7,M8 (p.bu:Nat),M8 (p.ck:Nat),M8 (p.wi:Nat),C,M8 (p.n:Nat)],M8 x,M8 (st:Nat)] w fun e u=>∃v,e=.returned v/\u.ownsRow w.heap.size 191 12 v (aJ p x st).length (cu (aJ p x st))/\aq w u:=by
 obtain ⟨i,N⟩:∃i,w.alloc (.cells #[a0,a1,a2,a3,M8 (p.W:Nat),a5,M8 (p.mi:Nat),a7,M8 (p.bu:Nat),M8 (p.ck:Nat),M8 (p.wi:Nat),C,M8 (p.n:Nat)] 64)=i:=⟨_,rfl⟩
 have g0:i.heap[w.heap.size]?=some (.cells #[a0,a1,a2,a3,M8 (p.W:Nat),a5,M8 (p.mi:Nat),a7,M8 (p.bu:Nat),M8 (p.ck:Nat),M8 (p.wi:Nat),C,M8 (p.n:Nat)] 64 (0,0)):=by rw [<-N];exact Mc w _
 have b5:aq w i:=by rw [<-N];exact (br w).alloc (Mb _) _
 have bO:¬((p.W:Int)<=x):=ap
 have bN:=V.buks;have bI:=V.grps;have bV:=V.mi;have aM:=V.wi
 have bM:w.heap.size<i.heap.size:=Ma g0
 have T:p.grps=fk p.buks.length p.wi:=rfl
 obtain ⟨bA,ad,G0,b0⟩:=ag N b5 g0 T
 have tP:=fun u (q:aq i u)=>vU (sb g0 u q)
 have q0:=br i
 clear N g0 b5 T
 go_enter func67,ntmps67
 go_wp2_with fail
 rw [bA.o]
 clear q0
 go_loopw [7,8] (fun vv y wr=>∃k:Nat,k<=p.mi/\y=M8 k/\wr.ownsRow i.heap.size 191 12 vv k (cu (zO st k))/\aq i wr) (fun _ y _=>p.mi-(intOf y).toNat)
 case atStart=>exact ⟨0,Mf _,rfl,Mn _ _ _ _,br i⟩
 case round=>
  obtain ⟨k,hk,rfl,ho,q⟩:=hrel
  obtain ⟨Av,cv,rfl,_⟩:=aC ho
  have J:=q.size
  by_cases L:k<p.mi
  ·have a6:(k:Int)<p.mi:=ap
   have bh:IntKind.i64.wrap ((k:Int)+1)=((k+1:Nat):Int):=by rw [Mg _ ap];push_cast;rfl
   obtain ⟨Ho,Hq⟩:=ae ho q;clear ho
   go_wp2_with (at_builtin;refine aY ip _ rfl (.tmp 27) (.tmp 31) rfl i.heap.size (.slice Av k cv) k _ rfl Ho.o [M8 1,M8 (st:Nat),M8 (k:Nat),.bool false,.bool false,M8 0,M8 0,M8 0,M8 0,M8 0,M8 0,M8 0] rfl rfl (by simp [Value.oneCell']) ap (by unfold maxLen;omega) J ?_)
   intro g6 c6 w6 I b3 bz
   obtain ⟨bw,a4⟩:=ae I (Hq.o.trans b3);clear I b3 bz q
   go_wp2_with fail
   go_roundw
   case rel=>exact ⟨k+1,by omega,by go_num,by rw [Dz,fv];exact bw.o,a4.o⟩
   case measure=>simp [intOf];omega
  ·obtain rfl:p.mi=k:=ap
   have a6:¬((p.mi:Int)<p.mi):=ap
   have Ho:=aa ho;clear ho
   go_wp2_with fail
   refine HA.g (fun u:World=>aq i u) ?_
   refine HA.t ?_ [0,3,4,5] q.drew ?_
   refine HA.c 1 (rK p a0 a1 a2 a3 a5 (M8 (p.mi:Nat)) a7 (M8 (p.wi:Nat)) C _ V b6) ?_
   rintro e w2 ⟨v2,rfl,o2,k2⟩
   have q2:=bt q.drew k2
   obtain ⟨D,c2,rfl,_⟩:=aC o2
   refine ⟨_,rfl,q2,fun _=>?_⟩
   refine HA.t ?_ [2] q2 ?_
   refine HA.c 6 (wJ p.buks.length p.wi w2 ap aM bn) ?_
   rintro e w3 ⟨v3,rfl,o3,k3⟩
   have q3:=bt q2 k3
   obtain ⟨A3,c3,rfl,_⟩:=aC o3
   rw [<-b0.o] at o3 ⊢
   refine ⟨_,rfl,q3,fun _=>?_⟩
   refine HA.t ?_ [7] q3 ?_
   refine HA.d ?_
   try simp only [Exit.then]
   have b1:=Rd.own o3
   have l3:fY w3 i.heap.size (.slice Av p.mi cv) (zO st p.mi):=by
    unfold fY
    rw [Gf]
    exact ay (ay (bT Ho.o 1) k2) k3
   have aR:∀y,A3=some y->w2.heap.size<=y.block/\y.block<w3.heap.size:=fun y hy=>jw o3 y hy
   have b7:∀k,(Value.slice Av p.mi cv).ownBlock=some k->k<w2.heap.size:=fun k hk=>by
    have:=(Ho.o.lt k hk).2
    have:=k2.size
    have e:wr.drew.heap.size=wr.heap.size:=rfl
    omega
   obtain ⟨bv,L3,b9,a9,Q3⟩:=ah b1 l3 aR b7 q3;clear b1 l3 aR b7 o2 o3 k2 k3 q q2
   go_wp2_with fail
   obtain ⟨v3,b4⟩:∃v,Value.slice Av p.mi cv=v:=⟨_,rfl⟩
   rw [b4] at L3 a9 ⊢
   clear b4
   go_loopw [7,10] (fun vv y wr=>∃k:Nat,k<=p.grps.length/\y=M8 k/\fY wr i.heap.size vv (dz p x st k)/\iR w3 v3 wr vv) (fun _ y _=>p.grps.length-(intOf y).toNat)
   case atStart=>exact ⟨0,Mf _,rfl,by simpa [dz,zO] using L3.o,iR.refl _ _⟩
   case round=>
    obtain ⟨k,hk,rfl,U,D⟩:=hrel
    obtain ⟨Aw,cw,rfl,_⟩:=aC U
    have R:=mr V x st hk
    have J:=Mh Q3.o.size D.1.size
    by_cases L:k<p.grps.length
    ·have a6:(k:Int)<p.grps.length:=ap
     have bh:IntKind.i64.wrap ((k:Int)+1)=((k+1:Nat):Int):=by rw [Mg _ ap];push_cast;rfl
     have ao:=D.1.rd bv.o (fun y hy e=>by
      have h1:=(b9.o y hy).1
      have h2:=a9.o _ e
      omega)
     have Y:=dV L
     obtain ⟨bb,bo,rfl,O⟩:=ao _ _ Y.1
     obtain ⟨av,bG,e',H⟩:=ao _ _ Y.2
     obtain ⟨rfl,rfl⟩:av=bb/\bG=bo:=by simpa using e'.symm
     rw [<-MV] at H
     have Q:=V.grp L
     have A:=nK (p:=p) x st L
     obtain ⟨lo,hi,bf⟩:∃lo hi,aL p.grps k=(lo,hi):=⟨_,_,rfl⟩
     rw [bf] at Q O H A
     dsimp only at Q O H
     obtain ⟨lk,aP⟩:∃lk,dz p x st k=lk:=⟨_,rfl⟩
     rw [aP] at U D A R ⊢
     obtain ⟨v2,b2⟩:∃v,Value.slice Aw lk.length cw=v:=⟨_,rfl⟩
     rw [b2] at U D ⊢
     have kP:wr.heap[w.heap.size]?=some (.cells #[a0,a1,a2,a3,M8 (p.W:Nat),a5,M8 (p.mi:Nat),a7,M8 (p.bu:Nat),M8 (p.ck:Nat),M8 (p.wi:Nat),C,M8 (p.n:Nat)] 64 (0,0)):=(D.1.block _ (by have:=Q3.o.size;omega) (fun e=>by have:=(L3.o.lt _ e).1;omega)).trans (sb G0.o w3 Q3.o)
     have nP:¬v2.ownBlock=some w.heap.size:=fun e=>by have:=(U.lt _ e).1;omega
     have nB:¬v2.ownBlock=some av:=fun e=>by
      have h1:=b9.o _ rfl
      dsimp only at h1
      rcases D.2 with h | h
      ·rw [h] at e
       have h2:=a9.o _ e
       omega
      ·have h2:=h _ e
       omega
     have uP:=fun u (q':Keep (fun j=>v2.ownBlock=some j) wr u)=>vU ((q'.block _ (Ma kP) nP).trans kP)
     have d0:=fun u (q':Keep (fun j=>v2.ownBlock=some j) wr u)=>q'.cell O nB
     have d1:=fun u (q':Keep (fun j=>v2.ownBlock=some j) wr u)=>q'.cell H nB
     have Z:=zl p i.heap.size st x lo hi a0 a1 a2 a3 a5 (M8 (p.mi:Nat)) a7 (M8 (p.wi:Nat)) C v2 lk wr.drew V b6 (bT U 1) J hx Q.1 Q.2 ap
     rw [<-A] at Z
     obtain ⟨bl,ab⟩:=ae Z D
     have q1:Keep (fun j=>v2.ownBlock=some j) wr wr.drew:=(Keep.refl _ _).drew
     clear Z U D A aP b2 kP O H ao Y e' bf
     go_wp2_with fail
     refine HA.g (fun u:World=>Keep (fun j=>v2.ownBlock=some j) wr u) ?_
     refine HA.t ?_ [0,1,2,3,4,5,6,7] q1 ?_
     refine HA.c 8 bl.o ?_
     rintro e w8 ⟨v8,rfl,l8,aG⟩
     have A8:iR wr v2 w8 v8:=(iR.below (br wr).drew).trans aG
     have q8:Keep (fun j=>v2.ownBlock=some j) wr w8:=A8.1
     refine ⟨_,rfl,q8,fun _=>?_⟩
     refine HA.t ?_ [9] q8 ?_
     refine HA.d ?_
     try simp only [Exit.then]
     obtain ⟨L8,B8⟩:=ae l8 (ab.o.trans A8);clear l8 A8 aG q8 q1 uP d0 d1 nP nB
     go_wp2_with fail
     go_roundw
     case rel=>exact ⟨k+1,by omega,by go_num,L8.o,B8.o⟩
     case measure=>simp [intOf];omega
    ·have a6:¬((p.grps.length:Int)<p.grps.length):=ap
     have bi:k=p.grps.length:=ap
     subst bi
     obtain ⟨n,hn⟩:∃n,(dz p x st p.grps.length).length=n:=⟨_,rfl⟩
     have be:wr.ownsRow i.heap.size 191 12 (.slice Aw n cw) n (cu (dz p x st p.grps.length)):=by rw [<-hn];exact U
     rw [hn] at D R ⊢
     have e:cu (dz p x st p.grps.length)++[M8 6,M8 (st:Nat),M8 0,.bool false,.bool false,M8 0,M8 0,M8 0,M8 0,M8 0,M8 0,M8 0]=cu (aJ p x st):=by
      have:aJ p x st=dz p x st p.grps.length++[(⟨6,st,0,none⟩:Itm)]:=by
       unfold dz aJ
       rw [MP]
      rw [this,fv];rfl
     have bd:n+1=(aJ p x st).length:=by
      rw [<-hn]
      unfold dz aJ
      rw [MP];simp only [ME,List.length_cons,List.length_nil]
     obtain ⟨ab,L2,He,bs⟩:=ag D be e bd;clear U be D hn e bd
     go_wp2_with (at_builtin;refine gi ip _ rfl (.tmp 55) (.tmp 58) rfl i.heap.size (.slice Aw n cw) n _ rfl L2.o [M8 6,M8 (st:Nat),M8 0,.bool false,.bool false,M8 0,M8 0,M8 0,M8 0,M8 0,M8 0,M8 0] rfl rfl (by simp [Value.oneCell']) ap (by unfold maxLen;omega) J ?_)
     intro g6 c6 w6 I b8
     have a8:w6.ownsRow i.heap.size 191 12 (.slice g6 (n+1) c6) (n+1) (cu (dz p x st p.grps.length)++[M8 6,M8 (st:Nat),M8 0,.bool false,.bool false,M8 0,M8 0,M8 0,M8 0,M8 0,M8 0,M8 0]):=I
     rw [He.o] at a8
     have B6:=(ab.o.trans b8).1.toBelow (B:=i.heap.size) Q3.o.size (fun j hj=>(L3.o.lt j hj).1)
     have O6:an (w6.ownsRow w.heap.size 191 12 (.slice g6 (n+1) c6) (aJ p x st).length (cu (aJ p x st))):=aa (by rw [<-bs.o];exact aE a8 ad.o.size)
     have a4:=aa (ad.o.trans ((Q3.o.trans B6).mono ad.o.size));clear I a8 b8 B6
     go_wp2_with fail
     go_ret
     exact ⟨_,rfl,O6.out,a4.o⟩
def yI (p:Pln) (k:Nat):Nat:=((p.buks.take k).map fun b=>4*(p.W-1)*lO b p.W p.ck).sum
theorem Cp {p:Pln} {k:Nat} (hk:k<p.buks.length):yI p (k+1)=yI p k+4*(p.W-1)*lO (aL p.buks k) p.W p.ck:=by
 unfold yI
 rw [List.take_succ_eq_append_getElem hk,<-cP _ _ hk]
 simp
theorem FY {p:Pln} (i:cO p) (k:Nat):lO (aL p.buks k) p.W p.ck<=480:=by
 rw [xD]
 have h:∀n,bK n (fun s=>(chR (aL (dR (aL p.buks k) p.W) s) p.ck).length)<=n*60:=by
  intro n
  induction n with
  | zero=>simp [bK]
  | succ n ih=>
   rw [eH]
   have:=sU (c:=p.ck) (s:=n) i.W1 (i.buk k).1 (i.buk k).2
   omega
 have:=h p.W
 have:=i.W8
 omega
theorem AT {p:Pln} (h:cO p):∀{k:Nat},k<=p.buks.length->yI p k<=k*13440
 | 0,_=>by simp [yI]
 | k+1,hk=>by
  rw [Cp ap]
  have h1:=AT h (k:=k) ap
  have i:=FY h k
  have o:4*(p.W-1)*lO (aL p.buks k) p.W p.ck<=28*480:=Nat.mul_le_mul (by have:=h.W8;omega) i
  omega
def wh (p:Pln):Nat:=p.W*(p.mi+2*p.buks.length+1)+yI p p.buks.length
theorem IT {p:Pln} (h:cO p) (st:Nat):bK p.W (fun w=>(aJ p w st).length)=wh p:=by
 rw [DJ p st h.wi,wh,yI,MP]
noncomputable def pR (k:Cfg) (n:Int):Bool:=decide (cC k=0)&&(decide (1<=n)&&decide (n<=1048576))
theorem vn (A:Option Addr) (c:Nat) (k:Cfg) (n:Int) (w:World) (h:jZ w A c k):
  Calls prog 73 #[.agg #[.slice A k.sizes.length c,M8 k.shift,M8 k.rate,M8 k.mom,M8 k.workers,M8 k.batch,M8 k.micros,M8 k.steps,M8 k.bucket,M8 k.chunk,M8 k.window,M8 k.cap,M8 n]] w fun e N=>e=.returned (.bool (pR k n))/\aq w N:=by
 obtain ⟨H,y⟩:∃H,w.alloc (.cells #[.slice A k.sizes.length c,M8 k.shift,M8 k.rate,M8 k.mom,M8 k.workers,M8 k.batch,M8 k.micros,M8 k.steps,M8 k.bucket,M8 k.chunk,M8 k.window,M8 k.cap,M8 n] 64)=H:=⟨_,rfl⟩
 have O:H.heap[w.heap.size]?=some (.cells #[.slice A k.sizes.length c,M8 k.shift,M8 k.rate,M8 k.mom,M8 k.workers,M8 k.batch,M8 k.micros,M8 k.steps,M8 k.bucket,M8 k.chunk,M8 k.window,M8 k.cap,M8 n] 64 (0,0)):=by rw [<-y];exact Mc w _
 have D:aq w H:=by rw [<-y];exact (br w).alloc (Mb _) _
 have hc:=oD A c k H (h.below D)
 have t0:=fun N q=>vU (sb O N q)
 obtain ⟨x,i,I⟩:=af y D hc
 have J:=br H
 clear y O D hc h
 unfold pR
 obtain ⟨v,u⟩:∃v,cC k=v:=⟨_,rfl⟩
 rw [u] at I ⊢
 clear u
 by_cases h1:v=0
 ·by_cases Q:1<=n
  ·by_cases R:n<=1048576
   ·go_enter func73,ntmps73
    go_wp2_with fail
    rw [x.o]
    refine I.o.mono ?_
    rintro e L ⟨rfl,p⟩
    have C:=bt J p
    have B:=aa (i.o.trans (C.mono i.o.size));clear p
    go_wp2_with fail
    go_ret
    exact ⟨by simp [h1,Q,R],B.o⟩
   ·go_enter func73,ntmps73
    go_wp2_with fail
    rw [x.o]
    refine I.o.mono ?_
    rintro e L ⟨rfl,p⟩
    have C:=bt J p
    have B:=aa (i.o.trans (C.mono i.o.size));clear p
    go_wp2_with fail
    go_ret
    exact ⟨by rw [show decide (n<=1048576)=false from MY ap];simp,B.o⟩
  ·go_enter func73,ntmps73
   go_wp2_with fail
   rw [x.o]
   refine I.o.mono ?_
   rintro e L ⟨rfl,p⟩
   have C:=bt J p
   have B:=aa (i.o.trans (C.mono i.o.size));clear p
   go_wp2_with fail
   go_ret
   exact ⟨by rw [show decide (1<=n)=false from MY ap];simp,B.o⟩
 ·go_enter func73,ntmps73
  go_wp2_with fail
  rw [x.o]
  refine I.o.mono ?_
  rintro e L ⟨rfl,p⟩
  have C:=bt J p
  have B:=aa (i.o.trans (C.mono i.o.size));clear p
  go_wp2_with fail
  go_ret
  exact ⟨by simp [h1],B.o⟩
def AP (k:Cfg) (n:Int) (r:Bool):Prop:=r=true->n<=60/\k.workers<=8/\k.micros<=20/\k.steps<=12
def LY (q:Prop) (w:World) (e:Ending) (h:World):Prop:=(∃b:Bool,e=.returned (.bool b)/\(b=true->q))/\aq w h
theorem zp (A:Option Addr) (c:Nat) (k:Cfg) (n:Int) (w:World) (h:jZ w A c k):
  Calls prog 75 #[.agg #[.slice A k.sizes.length c,M8 k.shift,M8 k.rate,M8 k.mom,M8 k.workers,M8 k.batch,M8 k.micros,M8 k.steps,M8 k.bucket,M8 k.chunk,M8 k.window,M8 k.cap,M8 n]] w (LY (AP k n (pR k n)) w):=by
 obtain ⟨D,x⟩:∃D,w.alloc (.cells #[.slice A k.sizes.length c,M8 k.shift,M8 k.rate,M8 k.mom,M8 k.workers,M8 k.batch,M8 k.micros,M8 k.steps,M8 k.bucket,M8 k.chunk,M8 k.window,M8 k.cap,M8 n] 64)=D:=⟨_,rfl⟩
 have R:D.heap[w.heap.size]?=some (.cells #[.slice A k.sizes.length c,M8 k.shift,M8 k.rate,M8 k.mom,M8 k.workers,M8 k.batch,M8 k.micros,M8 k.steps,M8 k.bucket,M8 k.chunk,M8 k.window,M8 k.cap,M8 n] 64 (0,0)):=by rw [<-x];exact Mc w _
 have C:aq w D:=by rw [<-x];exact (br w).alloc (Mb _) _
 have hc:=vn A c k n D (h.below C)
 have t0:=fun V q=>vU (sb R V q)
 obtain ⟨p,i,B⟩:=af x C hc
 have H:=br D
 clear x R C hc h
 obtain ⟨r,hr⟩:∃r,pR k n=r:=⟨_,rfl⟩
 rw [hr] at B ⊢
 clear hr
 obtain ⟨L,T⟩:∃L,k.sizes.length=L:=⟨_,rfl⟩
 rw [T] at p B t0 ⊢
 clear T
 by_cases hl:(L:Int)<=40
 ·have N:¬(40<(L:Int)):=ap
  cases r with
  | false=>
   go_enter func75,ntmps75
   go_wp2_with fail
   rw [p.o]
   refine B.o.mono ?_
   rintro e J ⟨rfl,u⟩
   have y:=bt H u
   have v:=aa (i.o.trans (y.mono i.o.size));clear u
   go_wp2_with fail
   go_ret
   exact ⟨⟨_,rfl,fun _ h=>by cases h⟩,v.o⟩
  | true=>
   have I:∀b:Bool,(b=true->n<=60/\k.workers<=8/\k.micros<=20/\k.steps<=12)->b=true->AP k n true:=fun b hb O _=>hb O
   have Fin:=aa I;clear I
   by_cases h1:n<=60
   ·by_cases Q:k.workers<=8
    ·by_cases U:k.micros<=20
     ·go_enter func75,ntmps75
      go_wp2_with fail
      rw [p.o]
      refine B.o.mono ?_
      rintro e J ⟨rfl,u⟩
      have y:=bt H u
      have v:=aa (i.o.trans (y.mono i.o.size));clear u
      go_wp2_with fail
      go_ret
      exact ⟨⟨_,rfl,Fin.o _ (fun hb=>⟨h1,Q,U,by simpa using hb⟩)⟩,v.o⟩
     ·go_enter func75,ntmps75
      go_wp2_with fail
      rw [p.o]
      refine B.o.mono ?_
      rintro e J ⟨rfl,u⟩
      have y:=bt H u
      have v:=aa (i.o.trans (y.mono i.o.size));clear u
      go_wp2_with fail
      go_ret
      exact ⟨⟨_,rfl,fun hb=>by simp [U] at hb⟩,v.o⟩
    ·go_enter func75,ntmps75
     go_wp2_with fail
     rw [p.o]
     refine B.o.mono ?_
     rintro e J ⟨rfl,u⟩
     have y:=bt H u
     have v:=aa (i.o.trans (y.mono i.o.size));clear u
     go_wp2_with fail
     go_ret
     exact ⟨⟨_,rfl,fun hb=>by simp [Q] at hb⟩,v.o⟩
   ·go_enter func75,ntmps75
    go_wp2_with fail
    rw [p.o]
    refine B.o.mono ?_
    rintro e J ⟨rfl,u⟩
    have y:=bt H u
    have v:=aa (i.o.trans (y.mono i.o.size));clear u
    go_wp2_with fail
    go_ret
    exact ⟨⟨_,rfl,fun hb=>by simp [h1] at hb⟩,v.o⟩
 ·have N:40<(L:Int):=ap
  go_enter func75,ntmps75
  go_wp2_with fail
  rw [p.o]
  try go_wp2_with fail
  go_ret
  exact ⟨⟨_,rfl,fun hb=>by simp at hb⟩,i.o⟩
theorem mU {p:Pln} (h:cO p) (x st:Nat):(aJ p x st).length<=8000000:=by
 have h1:=mr h x st (Mb p.grps.length)
 have i:=h.grps
 have:(aJ p x st).length=(dz p x st p.grps.length).length+1:=by simp [aJ,dz];omega
 omega
end Go.Proofs.YtgmajkppbhiopaaGreat
