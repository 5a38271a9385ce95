/- No condition. -/
import Derived.Test.YtgmajkppbhiopaaGreatE07
set_option linter.unusedSimpArgs false
set_option linter.unusedVariables false
set_option maxRecDepth 100000
set_option maxHeartbeats 4000000
namespace Go.Proofs.YtgmajkppbhiopaaGreat
open Go.RowKit
open Tryz
theorem jE:dt prog 26 2 (MO 0) 1 8:=⟨underlying26,info_parts (by kernel_rfl),rfl,by decide⟩
theorem yG (A:Option Addr) (n c:Nat) (w:World) (hn:n<=1048576):
  Calls prog 59 #[.slice A n c] w fun e I=>∃U,e=.returned (.agg #[.slice A n c,.slice U n n])/\I.ownsRow w.heap.size 2 1 (.slice U n n) n (aA .i64 (List.replicate n 0))/\aq w I:=by
 have p:=fun I=>lV jE I rfl n ap (by unfold maxLen;omega)
 simp only [eZ] at p
 have O:=aa p;clear p
 have L:=LP w (.cells #[MP,MP] 103)
 have D:aq w (w.alloc (.cells #[MP,MP] 103)):=(LR _ w).alloc (LO _) _
 have y:=LN L
 obtain ⟨V,C,x,u⟩:=O.o (w.alloc (.cells #[MP,MP] 103))
 rw [show (w.alloc (.cells #[MP,MP] 103)).heap.size=w.heap.size+1 by simp] at C x
 obtain ⟨h,B,H⟩:=af ((u.block w.heap.size y).trans L) (aE (base':=w.heap.size) x ap) (D.trans (u.mono ap))
 have i:=h.o
 obtain ⟨⟨z0,z1⟩,zf⟩:=bx2 i
 have Z:=LN i
 clear L D x u i y
 go_enter func59,ntmps59
 go_wp2_with fail
 have e1:=MM V w.heap.size 0 _ _ (.slice A n c) h.o
 have e2:=MM _ w.heap.size 1 _ _ (.slice (some (ar (w.heap.size+1) 0)) n n) e1
 have R:((V.setCell (ar w.heap.size 0) (.slice A n c)).setCell (ar w.heap.size 1) (.slice (some (ar (w.heap.size+1) 0)) n n)).heap[w.heap.size]?=some (.cells #[.slice A n c,.slice (some (ar (w.heap.size+1) 0)) n n] 103 (0,0)):=by simpa using e2
 have hk:Keep (fun j=>j=w.heap.size) V ((V.setCell (ar w.heap.size 0) (.slice A n c)).setCell (ar w.heap.size 1) (.slice (some (ar (w.heap.size+1) 0)) n n)):=Keep.setCell (S:=fun j=>j=w.heap.size) (Keep.setCell (S:=fun j=>j=w.heap.size) (Keep.refl _ _) _ (.inr rfl) _) _ (.inr rfl) _
 obtain ⟨Q,J⟩:∃Q,Q=(V.setCell (ar w.heap.size 0) (.slice A n c)).setCell (ar w.heap.size 1) (.slice (some (ar (w.heap.size+1) 0)) n n):=⟨_,rfl⟩
 rw [<-J] at R hk ⊢
 obtain ⟨⟨r0,Y⟩,rf⟩:=bx2 R
 have N:=hk.own B.o (fun j T e=>ax h.o (by decide) B.o (by rw [T,e]))
 exact L7 (v:=.agg #[.slice A n c,.slice (some (ar (w.heap.size+1) 0)) n n]) (by simp [results,results59,go_sem,r0,Y]) rfl ⟨_,rfl,N,H.o.trans (hk.toBelow H.o.size (fun j T=>ap))⟩
def fY (w:World) (vs:Array Value) (i:Inp) (x:Nat) (m:Mst):Prop:=∃A c D H T v R J h y o p C u B I IA ic,vs=#[.slice A i.cfg.sizes.length c,MO i.cfg.shift,MO i.cfg.rate,MO i.cfg.mom,MO i.cfg.workers,MO i.cfg.batch,MO i.cfg.micros,MO i.cfg.steps,MO i.cfg.bucket,MO i.cfg.chunk,MO i.cfg.window,MO i.cfg.cap,.slice D i.data.length H,.slice T i.start.length v,.slice R i.draws.length J,MO (x:Nat),.slice h i.start.length y,.slice o i.start.length p,.slice C i.start.length u,.slice B m.rc.length I,.slice IA (dQ i x).length ic,MO (bD i x m:Nat)]/\
 ge w A c D T v R i/\cH w h m.P y/\cH w o m.M p/\cH w C m.G u/\dA rEx 2 w B m.rc/\Rd w IA (cu (dQ i x))/\m.P.length=i.start.length/\m.M.length=i.start.length/\m.G.length=i.start.length
theorem vC {i:Inp} (h:cK i) (x:Nat) {k:Nat} (hk:k<=i.cfg.steps.toNat):(iX i x k).length<=48000000:=by
 rw [pz h.ok]
 have h1:=mQ h.ok x 0
 have o:k<=6:=by have:=h.s;omega
 have:=Nat.mul_le_mul o h1
 omega
theorem qE (n:Nat):W64 (List.replicate n 0):=by
 intro k hk
 rw [dE _ _ hk];simp
def LF (i:Inp) (x:Nat) (A:Option Addr) (c:Nat) (D:Option Addr) (T:Option Addr) (p:Nat) (R:Option Addr) (w:World) (e:Ending) (o:World):Prop:=
 ∃vs,e=.returned (.tuple #[.agg vs,MO 0])/\vs.size=22/\(vs.toList.all (·.oneCell')=true)/\aq w o/\∀h,Keep (fun k=>k<w.heap.size) o h->ge h A c D T p R i->fY h vs i x (fB i)
theorem Gk (l:List Itm):∀u∈cu l,u.oneCell'=true:=by
 intro u i
 unfold cu at i
 obtain ⟨x,_,h⟩:=List.mem_flatMap.1 i
 obtain ⟨k,s,n,a⟩:=x
 cases a<;>simp only [bq,Iv,aX,List.mem_cons,List.not_mem_nil,or_false] at h<;>(repeat (first | (rcases h with rfl | h; · rfl) | (subst h;rfl)))
theorem J5 {A:Option Addr} {c:Nat} {D:Option Addr} {Y:Nat} {T:Option Addr} {p:Nat} {R:Option Addr} {Q:Nat} {i:Inp} {x:Nat} {w I o:World} {C:Option Addr} {g rb:Nat} {v:Value} (hn:i.start.length<=60) (O:Keep (fun k=>k<w.heap.size) I o) (L:ge o A c D T p R i)
  (oM:I.ownsRow w.heap.size 2 1 (.slice C i.start.length i.start.length) i.start.length (aA .i64 (List.replicate i.start.length 0))) (oG:I.ownsRow w.heap.size 2 1 (.slice (some (ar g 0)) i.start.length i.start.length) i.start.length (aA .i64 (List.replicate i.start.length 0)))
  (hr:I.heap[rb]?=some (.cells #[.slice T i.start.length p,.slice C i.start.length i.start.length] 103 (0,0))) (hrb:w.heap.size<=rb) (V:I.ownsRow w.heap.size 191 12 v (dQ i x).length (cu (dQ i x))):fY o #[.slice A i.cfg.sizes.length c,MO i.cfg.shift,MO i.cfg.rate,MO i.cfg.mom,MO i.cfg.workers,MO i.cfg.batch,MO i.cfg.micros,MO i.cfg.steps,MO i.cfg.bucket,MO i.cfg.chunk,MO i.cfg.window,MO i.cfg.cap,.slice D i.data.length Y,.slice T i.start.length p,.slice R i.draws.length Q,MO (x:Nat),.slice T i.start.length p,.slice C i.start.length i.start.length,.slice (some (ar g 0)) i.start.length i.start.length,.slice (some (ar rb 0)) 1 1,v,MO 0] i x (fB i):=by
 obtain ⟨IA,ic,rfl,_⟩:=aD V
 have H:∀{u:Value} {e size n xs},I.ownsRow w.heap.size e size u n xs->o.ownsRow w.heap.size e size u n xs:=fun h=>O.own h fun k hk e=>by have:=(h.lt k hk).1;omega
 have Z:bD i x (fB i)=0:=by simp [bD,fB]
 have B:(List.replicate i.start.length (0:Int)).length<=i.start.length:=by simp
 have U:cH o C (List.replicate i.start.length 0) i.start.length:=⟨B,by rw [Mv];omega,Rd.own (H oM),qE _⟩
 have J:o.heap[rb]?=some (.cells #[.slice T i.start.length p,.slice C i.start.length i.start.length] 103 (0,0)):=(O.block _ (LN hr) ap).trans hr
 refine ⟨A,c,D,Y,T,p,R,Q,T,p,C,i.start.length,some (ar g 0),i.start.length,some (ar rb 0),1,IA,ic,?_,L,L.t,U,⟨B,by show (List.replicate i.start.length (0:Int)).length<=_;rw [Mv];omega,Rd.own (H oG),qE _⟩,?_,Rd.own (H V),rfl,by simp [fB],by simp [fB]⟩
 ·rw [Z];rfl
 ·refine ⟨[[.slice T i.start.length p,.slice C i.start.length i.start.length]],fun k u hu=>⟨_,_,rfl,by rw [MH,LQ _ rb k _ _ _ J];simpa using hu⟩,rfl,by simp,?_⟩
  intro j y N
  cases j with
  | succ j=>simp [fB] at N
  | zero=>
   simp only [fB,Mk,Option.some.injEq] at N
   subst N
   exact ⟨T,p,C,i.start.length,by simp [cq],L.t,U⟩
theorem J3 {h V i:World} {n g rb b:Nat} {X:Obj} {Z:Array Value} {xs:List Value} (x:aq h V) (v:V.ownsRow h.heap.size 2 1 (.slice (some (ar g 0)) n n) n xs) {Y:Array Value} (hr:V.heap[rb]?=some (.cells Y 103 (0,0))) (hb:h.heap.size<=rb)
  (u:V.heap[b]?=some (.cells Z 106 (0,0))) (o:h.heap.size<=b) (A:i.heap[b]?=some X) (p:Keep (fun j=>j=b) V i):i.heap[b]?=some X/\i.ownsRow h.heap.size 2 1 (.slice (some (ar g 0)) n n) n xs/\i.heap[rb]?=some (.cells Y 103 (0,0))/\h.heap.size<=rb/\h.heap.size<=b/\aq h i:=by
 refine ⟨A,p.own v (fun k hk e=>ax u (by decide) v (by rw [hk,e])),(p.block _ (LN hr) (fun e=>?_)).trans hr,hb,o,x.trans (p.toBelow x.size (fun j y=>by rw [y];exact o))⟩
 rw [<-e,hr] at u
 simp at u
theorem yP (A:Option Addr) (c:Nat) (D:Option Addr) (cd:Nat) (T:Option Addr) (B:Nat) (R:Option Addr) (cr:Nat) (i:Inp) (x:Nat) (w:World) (h:ge w A c D T B R i) (hs:cK i) (hx:x<(aB i).W):
  Calls prog 46 #[.agg (aO A c D cd T B R cr i),MO (x:Nat)] w (LF i x A c D T B R w):=by
 have hc:=hs.g.c
 have ew:(((aB i).W:Nat):Int)=i.cfg.workers:=by have:=hc.w;simp only [aB];omega
 have em:(((aB i).mi:Nat):Int)=i.cfg.micros:=by have:=hc.mi;simp only [aB];omega
 have eu:(((aB i).bu:Nat):Int)=i.cfg.bucket:=by have:=hc.bu;simp only [aB];omega
 have ec:(((aB i).ck:Nat):Int)=i.cfg.chunk:=by have:=hc.ch;simp only [aB];omega
 have ei:(((aB i).wi:Nat):Int)=i.cfg.window:=by have:=hc.wi;simp only [aB];omega
 have en:(aB i).n=i.start.length:=rfl
 obtain ⟨s,a4⟩:∃s:Nat,i.cfg.steps=(s:Int):=⟨i.cfg.steps.toNat,by have:=hc.st;omega⟩
 have bd:i.cfg.steps.toNat=s:=ap
 have bG:s<=6:=by have:=hs.s;omega
 have hn:=hs.n
 have bO:¬i.cfg.workers<=(x:Int):=ap
 have bN:¬(x:Int)<0:=ap
 have a2:=fun k (hk:k<=s)=>vC hs x (k:=k) ap
 have bb:=fun st=>mQ hs.ok x st
 have N:=fun p=>yG T i.start.length B p ap
 have Z:=fun p=>lX A i.cfg.sizes.length c i.cfg.shift i.cfg.rate i.cfg.mom i.cfg.workers i.cfg.batch i.cfg.micros i.cfg.steps i.cfg.bucket i.cfg.chunk i.cfg.window i.cfg.cap D i.data.length cd T i.start.length B R i.draws.length cr p
 have H:=fun k (hk:k<s) p=>Cu (aB i) k s x A i.cfg.sizes.length c i.cfg.shift i.cfg.rate i.cfg.mom i.cfg.batch i.cfg.cap p hs.ok (by have:=hc.bu;simp only [aB];omega) (by have:=hc.wi;simp only [aB];omega) hx hk
 rw [<-a4] at H
 simp only [ew,em,eu,ec,ei,en] at H
 have bz:(x:Int)<=1048576:=by have:=hc.w;omega
 obtain ⟨W0,W1,aR,aP,g0,g1,k1, -⟩:=fQ w (aO A c D cd T B R cr i) MR 29 106
 have a7:=jr A c D cd T B R cr i W1 (h.below k1)
 rw [oV.2 hs.g] at a7
 obtain ⟨b9,b5,bh,G0,G1,K1,a0,a5⟩:=ak aR aP a7 g0 g1 k1 N Z;obtain ⟨a6,ad,bX,HT,a8,Hh,Hc⟩:=aj H a2 bb bd a4 h hc
 have t4:∀p,aq W1 p->p.cell? (ar w.heap.size 4)=some (MO i.cfg.workers):=fun p q=>LQ p w.heap.size 4 _ _ _ (sb g0 p q)
 have a3:∀p,aq W1 p->p.cell? (ar w.heap.size 13)=some (.slice T i.start.length B):=fun p q=>LQ p w.heap.size 13 _ _ _ (sb g0 p q)
 have tl:=sl g0
 have q0:=br W1
 clear aR aP g0 g1 a7 h k1 N Z H a2 bb bd a4 ew em eu ec ei en hs hc
 go_enter func46,ntmps46
 go_wp2_with (refine aS (b:=w.heap.size) (aO A c D cd T B R cr i) (by rw [b9.o,b5.o];exact G0.o) ib rfl rfl rfl rfl ?_)
 rw [b9.o,b5.o]
 refine bh.o.mono ?_
 rintro e w1 ⟨rfl,k2⟩
 have q1:=bt q0 k2
 clear k2 q0
 go_wp2_with fail
 refine (a0.o w1).mono ?_
 rintro e w2 ⟨Y,rfl,aM,O⟩
 have q2:=bt q1 O
 have O2:=aa (aE aM q1.size);clear aM O q1
 obtain ⟨I,Q⟩:∃I,w2.alloc (.cells #[.slice T i.start.length B,.slice Y i.start.length i.start.length] 103)=I:=⟨_,rfl⟩
 have O:aq w2 I:=by rw [<-Q];exact (br w2).alloc (LO _) _
 have g3:I.heap[w2.heap.size]?=some (.cells #[.slice T i.start.length B,.slice Y i.start.length i.start.length] 103 (0,0)):=by rw [<-Q];exact LP w2 _
 obtain ⟨Q3,c6,G3,O3⟩:=ag (bt q2 O) Q g3 (ay O2.o O)
 go_wp2_with fail
 clear g3 O Q q2
 go_cut [8] (fun v wx=>∃C g rb,v=(au C)/\wx.heap[C]?=some (.cells #[.slice A i.cfg.sizes.length c,MO i.cfg.shift,MO i.cfg.rate,MO i.cfg.mom,MO i.cfg.workers,MO i.cfg.batch,MO i.cfg.micros,MO i.cfg.steps,MO i.cfg.bucket,MO i.cfg.chunk,MO i.cfg.window,MO i.cfg.cap,.slice D i.data.length cd,.slice T i.start.length B,.slice R i.draws.length cr,MO (x:Nat),.slice T i.start.length B,.slice Y i.start.length i.start.length,.slice (some (ar g 0)) i.start.length i.start.length,.slice (some (ar rb 0)) 1 1,MP,MO 0] 106 (0,0))/\wx.ownsRow I.heap.size 2 1 (.slice (some (ar g 0)) i.start.length i.start.length) i.start.length (aA .i64 (List.replicate i.start.length 0))/\wx.heap[rb]?=some (.cells #[.slice T i.start.length B,.slice Y i.start.length i.start.length] 103 (0,0))/\I.heap.size<=rb/\I.heap.size<=C/\aq I wx)
 case first=>
  have s7:=fun p q=>bx2 (sb G3.o p q)
  have bi:=sl G3.o
  have b0:=fun p (q:aq I p)=>a3 p (bt Q3.o q)
  have bn:=fun p (q:aq I p)=>tl p (bt Q3.o q)
  clear t4 a3 tl
  have q3:aq I I.drew:=(br I).drew
  refine HA.g (fun p:World=>aq I p) ?_
  refine HA.ld 0 (aO A c D cd T B R cr i) (fun p q=>sb G0.o p (bt Q3.o q)) ib q3 ?_
  refine HA.t ?_ [1,2,3,4,5,7] q3 ?_
  obtain ⟨U,hU⟩:∃U,I.drew=U:=⟨_,rfl⟩
  rw [hU] at q3 ⊢
  clear hU
  have q:=q3
  clear q3
  repeat' first
   | (refine HA.three 6 8 10 ?_ ?_ ?_)
   | (refine HA.two 8 10 ?_ ?_)
   | (refine HA.two 6 10 ?_ ?_)
   | (refine HA.two 6 8 ?_ ?_)
   | (refine HA.sole 6 ?_)
   | (refine HA.sole 8 ?_)
   | (refine HA.sole 10 ?_)
   | (obtain ⟨V,hV,oG,L⟩:=lV jE U rfl i.start.length ap (by unfold maxLen;omega);rw [eZ] at oG;replace oG:=aE oG q.size;replace q:=q.trans (L.mono q.size);(try replace gR:=sb gR _ L);(try replace gB:=sb gB _ L);refine HAS.v (i:=6) V (.slice (some (ar U.heap.size 0)) i.start.length i.start.length) q ?_;clear hV L;obtain ⟨U,rfl⟩:∃U,U=V:=⟨_,rfl⟩)
   | (have bs:=q.size;have L:=(br U).alloc (LO _) (.cells #[.slice T i.start.length B,.slice Y i.start.length i.start.length] 103);have gR:=LP U (.cells #[.slice T i.start.length B,.slice Y i.start.length i.start.length] 103);(try replace oG:=ay oG L);(try replace gB:=sb gB _ L);replace q:=q.alloc q.size (.cells #[.slice T i.start.length B,.slice Y i.start.length i.start.length] 103);refine HAS.v (i:=8) (U.alloc (.cells #[.slice T i.start.length B,.slice Y i.start.length i.start.length] 103)) (.slice (some (ar U.heap.size 0)) 1 1) q ?_;obtain ⟨V,hv⟩:∃V,U.alloc (.cells #[.slice T i.start.length B,.slice Y i.start.length i.start.length] 103)=V:=⟨_,rfl⟩;rw [hv] at L gR q ⊢;(try rw [hv] at oG);(try rw [hv] at gB);clear hv L;obtain ⟨U,rfl⟩:∃U,U=V:=⟨_,rfl⟩)
   | (have bo:=q.size;have L:=(br U).alloc (LO _) (.cells MR 106);have gB:=LP U (.cells MR 106);(try replace oG:=ay oG L);(try replace gR:=sb gR _ L);replace q:=q.alloc q.size (.cells MR 106);refine HAS.v (i:=10) (U.alloc (.cells MR 106)) ((au U.heap.size)) q ?_;obtain ⟨V,hv⟩:∃V,U.alloc (.cells MR 106)=V:=⟨_,rfl⟩;rw [hv] at L gB q ⊢;(try rw [hv] at oG);(try rw [hv] at gR);clear hv L;obtain ⟨U,rfl⟩:∃U,U=V:=⟨_,rfl⟩)
   | (refine HA.t ?_ [9] q ?_)
   | (refine HA.st 11 gB dO (fun w9 e9 k9=>?_);have F:=J3 q oG gR bs gB bo e9 k9;refine ⟨F.2.2.2.2.2,HA.d ?_⟩;clear s7 bi b0 bn e9 k9;have HF:=aa F;clear F;go_wp2_with fail;go_meet;exact ⟨_,_,_,rfl,HF.o⟩)
   | fail
 case rest=>
  obtain ⟨C,g,rb,rfl,h8,oG,hR,hrb,bM,hB⟩:=hcut
  have qc:=bt Q3.o hB
  have c9:=tl W1 (br W1)
  have bA:=LN G1.o
  have Q:=Q3.o.size
  have gI:=sb G0.o wc qc
  have kI:=fun p (q:Keep (fun j=>j=C) wc p)=>(q.block w.heap.size (tl wc qc) ap).trans gI
  have j7:∀p,Keep (fun j=>j=C) wc p->p.cell? (ar w.heap.size 7)=some (MO i.cfg.steps):=fun p q=>LQ p w.heap.size 7 _ _ _ (kI p q)
  have be:=LN h8
  have gZ:=sb G1.o wc qc
  obtain ⟨H8,OG,HR,HB,KI,GZ⟩:=ai h8 oG hR hB kI gZ
  have bw:=Keep.refl (fun j=>j=C) wc
  have b3:w.heap.size<wc.heap.size:=tl wc qc
  clear t4 a3 tl h8 oG hR hB gI kI gZ qc
  go_wp2_with fail
  clear bw
  go_loopw [9] (fun y wr=>∃k:Nat,k<=s/\y=MO k/\∃v,wr.heap[C]?=some (.cells #[.slice A i.cfg.sizes.length c,MO i.cfg.shift,MO i.cfg.rate,MO i.cfg.mom,MO i.cfg.workers,MO i.cfg.batch,MO i.cfg.micros,MO i.cfg.steps,MO i.cfg.bucket,MO i.cfg.chunk,MO i.cfg.window,MO i.cfg.cap,.slice D i.data.length cd,.slice T i.start.length B,.slice R i.draws.length cr,MO (x:Nat),.slice T i.start.length B,.slice Y i.start.length i.start.length,.slice (some (ar g 0)) i.start.length i.start.length,.slice (some (ar rb 0)) 1 1,v,MO 0] 106 (0,0))/\wr.ownsRow wc.heap.size 191 12 v (iX i x k).length (cu (iX i x k))/\Keep (fun j=>j=C) wc wr) (fun y _=>s-(intOf y).toNat)
  case atStart=>exact ⟨0,LS _,rfl,_,H8.o,by simpa [iX,cu] using LZ _ _ _ _,Keep.refl _ _⟩
  case round=>
   obtain ⟨k,hk,rfl,v,e8,oI,qk⟩:=hrel
   by_cases aG:k<s
   ·have bf:(k:Int)<i.cfg.steps:=by rw [a8.o];omega
    have bI:IntKind.i64.wrap ((k:Int)+1)=((k+1:Nat):Int):=by rw [LT _ ap];push_cast;rfl
    have a9:∀j,j<wc.heap.size->¬v.ownBlock=some j:=fun j J e=>by have:=(oI.lt j e).1;omega
    have kb:=fun p (q:Keep (fun j=>v.ownBlock=some j) wr p)=>(q.block C (LN e8) (a9 C be)).trans e8
    have kj:=fun p (q:Keep (fun j=>v.ownBlock=some j) wr p)=>(q.block w.heap.size (LV b3 qk.size) (a9 _ b3)).trans (KI.o wr qk)
    obtain ⟨KB,KJ,OI,QK⟩:=ag kb kj oI qk
    go_wp2_with fail
    clear j7 qk
    have ab:∀p,Keep (fun j=>v.ownBlock=some j) wr p->p.cell? (ar C 20)=some v:=fun p q=>LQ p C 20 _ _ _ (KB.o p q)
    have q0:Keep (fun j=>v.ownBlock=some j) wr wr.drew:=(Keep.refl _ _).drew
    refine XA.g 8 (fun p:World=>Keep (fun j=>v.ownBlock=some j) wr p) ?_
    refine XA.t ?_ [0,1,4,5] q0 ?_
    refine XA.ld 2 (aO A c D cd T B R cr i) (fun p q=>KJ.o p q) ib q0 ?_
    refine XA.c 3 (a5.o _) ?_
    rintro e w3 ⟨rfl,O⟩
    refine ⟨_,rfl,q0.trans (Keep.below O),fun _=>?_⟩
    have q3:=q0.trans (Keep.below (S:=fun j=>v.ownBlock=some j) O)
    refine XA.c 6 (a6.o k aG w3) ?_
    rintro e w4 ⟨u,rfl,oU,k4⟩
    have q4:=q3.trans (Keep.below (S:=fun j=>v.ownBlock=some j) k4)
    refine ⟨_,rfl,q4,fun _=>?_⟩
    obtain ⟨UA,uc,rfl,_⟩:=aD oU
    have b2:=ay (ay (OI.o.drew) O) k4
    have a1:aq wr w4:=((br wr).drew.trans O).trans (k4.mono O.size)
    have av:=ad.o (k+1) aG
    rw [jl,Mo] at av
    have ao:((iX i x k).length+(aI (aB i) x k).length)*88<=140737488355328:=ap
    refine XA.o 7 (fun K' hK=>?_)
    refine bR im (.tmp 47) (.tmp 52) rfl rfl wc.heap.size v _ _ rfl b2 UA _ uc _ rfl (Rd.own oU) oU.1 (Gk _) ao (by unfold maxLen;omega) (LU QK.o.size a1.size) ?_
    intro A7 c7 w7 o7 b7 g7 _
    have q7:Keep (fun j=>v.ownBlock=some j) wr w7:=((Keep.below a1).grown g7 (fun k hk=>.inr hk))
    refine hK.out _ _ q7 fun _=>?_
    refine XA.e ?_
    simp only [Mm,Mn]
    have e7:=KB.o w7 q7
    have f7:=LX w7 C 20 _ _ e7
    have l7:=LN e7
    rw [<-zG,<-jl,<-Mo,<-jl] at o7
    have k8:Keep (fun j=>j=C) wc (w7.setCell (ar C 20) (.slice A7 ((iX i x (k+1)).length) c7)):=((QK.o.trans (Keep.below a1)).grown g7 (fun k hk=>.inl (by have:=(OI.o.lt k hk).1;omega))).setCell _ (.inr rfl) _
    have b1:=ss (i:=20) (v:=.slice A7 ((iX i x (k+1)).length) c7) e7 rfl
    have o8:=(Keep.setCell (S:=fun j=>j=C) (Keep.refl _ w7) (ar C 20) (.inr rfl) (.slice A7 ((iX i x (k+1)).length) c7)).own o7 (fun j J e=>by have:=(o7.lt j J).1;omega)
    obtain ⟨K8,E8,O8⟩:=af k8 b1 o8
    rw [<-Mo,<-jl]
    have cb:=ab w7 q7
    clear hK K' k8 b1 o8 o7 b7 g7 q7 e7 ab q0 q3 q4 a1 b2 O k4 av ao oU
    go_wp2_with fail
    go_roundw
    case rel=>exact ⟨k+1,by omega,by go_num,_,by simpa using E8.o,O8.o,K8.o⟩
    case measure=>simp [intOf];omega
   ·obtain rfl:k=s:=ap
    have bf:¬(k:Int)<i.cfg.steps:=by rw [a8.o];omega
    obtain ⟨IA,ic,rfl,_⟩:=aD oI
    have gZ:=(qk.block (w.heap.size+1) (LN GZ.o) ap).trans GZ.o
    obtain ⟨E8,bl,OI,QK⟩:=ag e8 gZ oI qk;clear e8 gZ oI
    go_wp2_with (first | (refine aS #[.slice A i.cfg.sizes.length c,MO i.cfg.shift,MO i.cfg.rate,MO i.cfg.mom,MO i.cfg.workers,MO i.cfg.batch,MO i.cfg.micros,MO i.cfg.steps,MO i.cfg.bucket,MO i.cfg.chunk,MO i.cfg.window,MO i.cfg.cap,.slice D i.data.length cd,.slice T i.start.length B,.slice R i.draws.length cr,MO (x:Nat),.slice T i.start.length B,.slice Y i.start.length i.start.length,.slice (some (ar g 0)) i.start.length i.start.length,.slice (some (ar rb 0)) 1 1,.slice IA (iX i x k).length ic,MO 0] E8.o dO rfl rfl rfl rfl ?_) | (refine aJ bl.o dO rfl rfl rfl rfl rfl rfl rfl ?_;intro w9 e9 k9;obtain ⟨E9,K9⟩:=ae e9 k9;clear e9 k9))
    refine L7 (dC rfl rfl E9.o dO) rfl ⟨_,rfl,rfl,rfl,?_,fun c8 kk hI=>?_⟩
    ·exact ((K1.o.trans (Q3.o.mono K1.o.size)).trans (HB.o.mono ap)).trans ((QK.o.toBelow ap (fun j J=>ap)).trans (K9.o.toBelow (by have:=QK.o.size;omega) (fun j J=>ap)))
    ·have kf:∀{u:Value} {e size n xs base},base<=wc.heap.size->W1.heap.size<=base->wc.ownsRow base e size u n xs->(∀j,u.ownBlock=some j->j≠C)->w9.ownsRow w.heap.size e size u n xs:=fun h1 h2 h3 h4=>aE (K9.o.own (QK.o.own h3 (fun j J e=>h4 j J e)) (fun j J e=>by have:=(h3.lt j J).1;omega)) ap
     have b4:rb≠C:=fun e=>by
      have h8:=H8.o
      rw [<-e,HR.o] at h8
      simp at h8
     have bv:w9.heap[rb]?=some (.cells #[.slice T i.start.length B,.slice Y i.start.length i.start.length] 103 (0,0)):=((K9.o.block rb (LV (LN HR.o) QK.o.size) ap).trans (QK.o.block rb (LN HR.o) b4)).trans HR.o
     have hT:=HT.o
     have b6:=aE (base':=w.heap.size) (K9.o.own OI.o (fun j J e=>by have:=(OI.o.lt j J).1;omega)) ap
     rw [<-hT] at b6 ⊢
     exact J5 hn kk hI (kf (by have:=HB.o.size;have:=Q3.o.size;omega) (LO _) (ay O3.o HB.o) (fun j J=>by have:=(O3.o.lt j J).2;omega)) (kf HB.o.size Q OG.o (fun j J e=>ax H8.o (by decide) OG.o (by rw [J,e]))) bv ap b6
theorem iR:cW prog 191 12:=⟨⟨_,underlying191,rfl⟩,by kernel_rfl⟩
theorem Bn (y:Itm):∀u∈bq y,u.oneCell'=true:=fun u h=>Gk [y] u (by simpa [cu] using h)
theorem Gj {w:World} {A:Option Addr} {l:List Itm} (h:Rd w A (cu l)) {k:Nat} {y:Itm} (u:l[k]?=some y):∃b o,A=some (ar b o)/\w.rangeAt b (o+k*12) (bq y):=by
 obtain ⟨b,o,hA,hc⟩:=Bp h u
 refine ⟨b,o,hA,fun j v i=>?_⟩
 have p:=(Mp.1 i).1
 rw [pP] at p
 rw [MG,hc j p,i]
theorem EG (A:Option Addr) (c:Nat) (k:Cfg) (w:World):
  Calls prog 64 #[.agg (dh A c k)] w fun e B=>e=.returned (.agg #[MO k.rate,MO k.mom,MO k.shift])/\aq w B:=by
 obtain ⟨sz,sh,ra,h,o,ba,mi,st,bu,ch,wi,ca⟩:=k
 dsimp only [dh]
 obtain ⟨L,u⟩:∃L,sz.length=L:=⟨_,rfl⟩
 rw [u]
 clear u
 go_enter func64,ntmps64
 go_wp2_with fail
 have p:=LP (w.alloc (.cells #[.slice A L c,MO sh,MO ra,MO h,MO o,MO ba,MO mi,MO st,MO bu,MO ch,MO wi,MO ca] 24)) (.cells #[MO ra,MO h,MO sh] 136)
 rw [show (w.alloc (.cells #[.slice A L c,MO sh,MO ra,MO h,MO o,MO ba,MO mi,MO st,MO bu,MO ch,MO wi,MO ca] 24)).heap.size=w.heap.size+1 by simp] at p
 have hB:aq w ((w.alloc (.cells #[.slice A L c,MO sh,MO ra,MO h,MO o,MO ba,MO mi,MO st,MO bu,MO ch,MO wi,MO ca] 24)).alloc (.cells #[MO ra,MO h,MO sh] 136)):=((LR _ w).alloc (LO _) _).alloc (by simp) _
 obtain ⟨x,i⟩:∃x,x=(w.alloc (.cells #[.slice A L c,MO sh,MO ra,MO h,MO o,MO ba,MO mi,MO st,MO bu,MO ch,MO wi,MO ca] 24)).alloc (.cells #[MO ra,MO h,MO sh] 136):=⟨_,rfl⟩
 rw [<-i] at p hB ⊢
 clear i
 obtain ⟨⟨D,C,y⟩,H⟩:=bx3 p
 exact L7 (v:=.agg #[MO ra,MO h,MO sh]) (by simp [results,results64,go_sem,D,C,y]) rfl ⟨rfl,hB⟩
theorem yO (A:Option Addr) (c:Nat) (D:Option Addr) (x:Nat) (T:Option Addr) (y:Nat) (R:Option Addr) (p:Nat) (i:Inp) (P:Option Addr) (h o:Nat) (w:World):
  Calls prog 98 #[.agg (aO A c D x T y R p i),.slice P h o] w fun e Y=>e=.returned (.agg #[.slice A i.cfg.sizes.length c,.slice P h o,MO i.cfg.shift])/\aq w Y:=by
 obtain ⟨⟨sz,sh,ra,B,C,ba,mi,st,bu,ch,wi,ca⟩,data,start,draws⟩:=i
 dsimp only [aO]
 obtain ⟨L,O⟩:∃L,sz.length=L:=⟨_,rfl⟩
 obtain ⟨N,V⟩:∃N,data.length=N:=⟨_,rfl⟩
 obtain ⟨M,I⟩:∃M,start.length=M:=⟨_,rfl⟩
 obtain ⟨Q,J⟩:∃Q,draws.length=Q:=⟨_,rfl⟩
 rw [O,V,I,J]
 clear O V I J
 go_enter func98,ntmps98
 go_wp2_with fail
 have H:=LP (w.alloc (.cells #[.slice A L c,MO sh,MO ra,MO B,MO C,MO ba,MO mi,MO st,MO bu,MO ch,MO wi,MO ca,.slice D N x,.slice T M y,.slice R Q p] 29)) (.cells #[.slice A L c,.slice P h o,MO sh] 198)
 rw [show (w.alloc (.cells #[.slice A L c,MO sh,MO ra,MO B,MO C,MO ba,MO mi,MO st,MO bu,MO ch,MO wi,MO ca,.slice D N x,.slice T M y,.slice R Q p] 29)).heap.size=w.heap.size+1 by simp] at H
 have hB:aq w ((w.alloc (.cells #[.slice A L c,MO sh,MO ra,MO B,MO C,MO ba,MO mi,MO st,MO bu,MO ch,MO wi,MO ca,.slice D N x,.slice T M y,.slice R Q p] 29)).alloc (.cells #[.slice A L c,.slice P h o,MO sh] 198)):=((LR _ w).alloc (LO _) _).alloc (by simp) _
 obtain ⟨U,u⟩:∃U,U=(w.alloc (.cells #[.slice A L c,MO sh,MO ra,MO B,MO C,MO ba,MO mi,MO st,MO bu,MO ch,MO wi,MO ca,.slice D N x,.slice T M y,.slice R Q p] 29)).alloc (.cells #[.slice A L c,.slice P h o,MO sh] 198):=⟨_,rfl⟩
 rw [<-u] at H hB ⊢
 clear u
 obtain ⟨⟨r0,Z,r2⟩,rf⟩:=bx3 H
 exact L7 (v:=.agg #[.slice A L c,.slice P h o,MO sh]) (by simp [results,results98,go_sem,r0,Z,r2]) rfl ⟨rfl,hB⟩
def zg:eE (List Int):=fun w h zs=>∃A c,h=[.slice A zs.length c]/\zs.length<=c/\zs.length<=17592186043904/\Rd w A (aA .i64 zs)
theorem tt:BI zg:=fun hb ⟨A,c,h1,h,o,i⟩=>⟨A,c,h1,h,o,i.below hb⟩
theorem CR {w:World} {V:Option Addr} {p:List (List Int)} (h:dA zg 1 w V p) {k:Nat} {x:List Int} (D:p[k]?=some x):
  ∃b o A c,V=some (ar b o)/\b<w.heap.size/\w.cell? (ar b (o+k))=some (.slice A x.length c)/\Rd w A (aA .i64 x)/\x.length<=17592186043904/\x.length<=c:=by
 obtain ⟨b,o,H,rfl,hb,B,y,i,_⟩:=h.get (by decide) D
 obtain ⟨A,c,rfl,u,C,v⟩:=y
 exact ⟨b,o,A,c,rfl,hb,by rw [Nat.mul_one] at i;exact i,v,C,u⟩
def tK:eE (List Int):=fun w h zs=>∃A c,h=[.slice A zs.length c]/\zs.length<=17592186043904/\Rd w A (aA .i64 zs)
theorem yu:BI tK:=fun hb ⟨A,c,h1,i,h⟩=>⟨A,c,h1,i,h.below hb⟩
theorem nv {w:World} {V:Option Addr} {p:List (List Int)} (h:dA tK 1 w V p) {k:Nat} {x:List Int} (C:p[k]?=some x):
  ∃b o A c,V=some (ar b o)/\b<w.heap.size/\w.cell? (ar b (o+k))=some (.slice A x.length c)/\Rd w A (aA .i64 x)/\x.length<=17592186043904:=by
 obtain ⟨b,o,D,rfl,hb,y,v,i,_⟩:=h.get (by decide) C
 obtain ⟨A,c,rfl,B,u⟩:=v
 exact ⟨b,o,A,c,rfl,hb,by rw [Nat.mul_one] at i;exact i,u,B⟩
theorem ut:∀vals:List Value,List.flatten (vals.map fun v=>[v])=vals
 | []=>rfl
 | v::l=>by simp [ut l]
theorem vR {α:Type} {R:eE α} {w:World} {A:Option Addr} {vals:List Value} {l:List α} (hA:Rd w A vals) (hl:vals.length=l.length) (h:∀(j:Nat) (x:α),l[j]?=some x->∃v,vals[j]?=some v/\R w [v] x):dA R 1 w A l:=by
 refine ⟨vals.map fun v=>[v],by rw [ut];exact hA,by simp [hl],by simp,fun j x p=>?_⟩
 obtain ⟨v,i,o⟩:=h j x p
 have:cq (vals.map fun v=>[v]) j=[v]:=by simp [cq,List.getD,i]
 rw [this];exact o
theorem Jj {S:Nat->Prop} {v w p:World} (h:Keep S w p) {A:Option Addr} {xs:List Value} (C:Rd v A xs) (hr:Rd w A xs) (B:∀k,S k->v.heap.size<=k):Rd p A xs:=fun k u x=>by
 obtain ⟨b,o,rfl,c0⟩:=C k u x
 obtain ⟨D,H,i,c1⟩:=hr k u x
 injection i with i;injection i with i1 i2 _;subst i1;subst i2
 exact ⟨b,o,rfl,h.cell c1 fun hs=>by have h1:=B _ hs;have y:=az c0;dsimp only at h1 y;omega⟩
theorem Em (W:World) (b:Nat) {o a1:Value} (x y:Value) {t:TypeId} (h:W.heap[b]?=some (.cells #[o,a1] t (0,0))):
  ((W.setCell (ar b 0) x).setCell (ar b 1) y).heap[b]?=some (.cells #[x,y] t (0,0))/\Keep (fun j=>j=b) W ((W.setCell (ar b 0) x).setCell (ar b 1) y):=by
 have p:=MM W b 0 _ _ x h
 have i:=MM _ b 1 _ _ y p
 exact ⟨by simpa using i,Keep.setCell (S:=fun j=>j=b) (Keep.setCell (S:=fun j=>j=b) (Keep.refl _ _) _ (.inr rfl) _) _ (.inr rfl) _⟩
theorem El (W:World) (b:Nat) {i a1 v B:Value} (x y z u:Value) {t:TypeId} (h:W.heap[b]?=some (.cells #[i,a1,v,B] t (0,0))):
  ((((W.setCell (ar b 0) x).setCell (ar b 1) y).setCell (ar b 2) z).setCell (ar b 3) u).heap[b]?=some (.cells #[x,y,z,u] t (0,0))/\Keep (fun j=>j=b) W ((((W.setCell (ar b 0) x).setCell (ar b 1) y).setCell (ar b 2) z).setCell (ar b 3) u):=by
 have o:=MM W b 0 _ _ x h
 have C:=MM _ b 1 _ _ y o
 have p:=MM _ b 2 _ _ z C
 have A:=MM _ b 3 _ _ u p
 exact ⟨by simpa using A,Keep.setCell (S:=fun j=>j=b) (Keep.setCell (S:=fun j=>j=b) (Keep.setCell (S:=fun j=>j=b) (Keep.setCell (S:=fun j=>j=b) (Keep.refl _ _) _ (.inr rfl) _) _ (.inr rfl) _) _ (.inr rfl) _) _ (.inr rfl) _⟩
theorem fG {w:World} {b:Nat} {x:Obj} (h:w.heap[b]?=some x) (o:Obj):(w.alloc o).heap[b]?=some x:=
 (L0 w o b (by rcases Ma b w.heap.size with q | q; · exact q
               ·rw [Array.getElem?_eq_none q] at h;cases h)).trans h
theorem lI (w:World) (xs:Array Value) (e:TypeId) {n:Nat} (hn:w.heap.size=n):(w.alloc (.cells xs e)).heap[n]?=some (.cells xs e (0,0)):=by
 subst hn;exact LP w _
theorem iu {w:World} {n:Nat} (h:w.heap.size=n) (o:Obj):(w.alloc o).heap.size=n+1:=by simp [h]
def mY (n:Nat) (h:List (List Int)):List Int:=h.foldl fj (List.replicate n 0)
theorem Ca (n:Nat) (h:List (List Int)) (x:List Int):mY n (h++[x])=fj (mY n h) x:=by simp [mY]
theorem qV (n:Nat) (h:List (List Int)):(mY n h).length=n:=by
 have:∀(l:List (List Int)) (a:List Int),(l.foldl fj a).length=a.length:=by
  intro l
  induction l with
  | nil=>intro a;rfl
  | cons x l ih=>intro a;rw [List.foldl_cons,ih,iI]
 unfold mY;rw [this];simp
def KG (i:List (List Int)) (n:Nat) (w:World) (e:Ending) (h:World):Prop:=∃v ok,e=.returned (.tuple #[v,.bool ok])/\aq w h/\((∀(j:Nat) (x:List Int),i[j]?=some x->x.length=n)->ok=true/\h.ownsRow w.heap.size 2 1 v n (aA .i64 (mY n i)))
theorem Ct (V:Option Addr) (v:List (List Int)) (c n:Nat) (x0:List Int) (w:World) (hV:dA tK 1 w V v) (hl:v.length<=17592186043904) (h0:v[0]?=some x0) (hn:x0.length=n):
  Calls prog 96 #[.slice V v.length c] w (KG v n w):=by
 obtain ⟨N,hN⟩:∃N,v.length=N:=⟨_,rfl⟩
 have aP:0<N:=by rw [<-hN];exact (Mp.1 h0).1
 obtain ⟨b,o,A0,c0,rfl,hb,p0,_,a4⟩:=nv hV h0
 rw [hN] at hl ⊢
 rw [hn,Nat.add_zero] at p0
 rw [hn] at a4
 have aM:¬(N=0):=ap
 have L:=fun w'=>lV jE w' rfl n ap (by unfold maxLen;omega)
 simp only [eZ] at L
 obtain ⟨a2,HV,HN⟩:=af L hV hN;clear L hV hN h0 hn
 have a9:(0:Int)<N:=ap
 have ao:((N:Int)==0)=false:=by simp;omega
 go_enter func96,ntmps96
 obtain ⟨W2,Y,a3,a1⟩:=a2.o w
 go_wp2_with fail
 obtain ⟨D,a8⟩:=ae a3 a1;clear Y a3 a1 p0 a2
 go_loopw [5] (fun x wr=>∃k:Nat,k<=N/\x=MO k/\wr.ownsRow w.heap.size 2 1 (.slice (some (ar w.heap.size 0)) n n) n (aA .i64 (mY n (v.take k)))/\an (∀(j:Nat) (x:List Int),j<k->v[j]?=some x->x.length=n)/\aq w wr) (fun x _=>N-(intOf x).toNat)
 case atStart=>exact ⟨0,LS _,rfl,D.o,aa fun j x hj=>ap,a8.o⟩
 case round=>
  obtain ⟨W1,rfl⟩:∃W1:World,W1=wr:=⟨_,rfl⟩
  obtain ⟨k,hk,rfl,u,U,C⟩:=hrel
  by_cases a6:k<N
  ·obtain ⟨x,hx⟩:∃x,v[k]?=some x:=⟨_,Mq (by rw [HN.o];exact a6)⟩
   have ab:(k:Int)<N:=ap
   have g1:dA tK 1 W1 (some (ar b o)) v:=HV.o.below yu C
   obtain ⟨b',o',A,cA,e1,aR,p,hA,R⟩:=nv g1 hx
   injection e1 with e1;injection e1 with e1 e2 _;subst e1;subst e2
   obtain ⟨HX,HO,O,HA,P⟩:=ah hx u C hA p
   obtain ⟨m,hm⟩:∃m,x.length=m:=⟨_,rfl⟩
   have Hm:=aa hm
   rw [hm] at p R
   clear hx u C hA hm g1
   by_cases a0:m=n
   ·subst a0
    go_wp2_with fail
    clear p
    go_loopw [6] (fun y wr=>∃t:Nat,t<=m/\y=MO t/\wr.ownsRow w.heap.size 2 1 (.slice (some (ar w.heap.size 0)) m m) m (aA .i64 (jZ (mY m (v.take k)) t (fun t=>wrap64 (nth (mY m (v.take k)) t+nth x t))))/\Keep (fun i=>i=w.heap.size) W1 wr) (fun y _=>m-(intOf y).toNat)
    case atStart=>exact ⟨0,LS _,rfl,by rw [ii];exact HO.o,Keep.refl _ _⟩
    case round=>
     obtain ⟨t,ht,rfl,u,Q⟩:=hrel
     by_cases B:t<m
     ·have a7:(t:Int)<m:=ap
      have J:t<(mY m (v.take k)).length:=by rw [qV];exact B
      have p1:=cE u B
      rw [fV _ J,if_neg ap] at p1
      have f1:=u.frozenAt t
      obtain ⟨b2,o2,rfl,p3⟩:=HA.o.num (show t<x.length by rw [Hm.o];exact B)
      have ad:b<w.heap.size:=hb
      have p2:wr.cell? (ar b (o+k))=some (.slice (some (ar b2 o2)) m cA):=Q.cell (by rw [P.o,Hm.o]) (by dsimp only;omega)
      have aG:b2<w.heap.size:=by
       obtain ⟨_,_,A9,c9,I,_,q9,r9,_⟩:=nv HV.o HX.o
       injection I with I;injection I with I H _;subst I;subst H
       have:=(O.o.cell (p:=(ar b (o+k))) hb).trans q9
       rw [P.o] at this
       injection this with this
       simp only [MC] at this
       rw [<-this.1] at r9
       obtain ⟨b8,o8,H,q8⟩:=r9.num (show t<x.length by rw [Hm.o];exact B)
       injection H with H;injection H with H _ _;subst H
       exact az q8
      have p4:wr.cell? (ar b2 (o2+t))=some (MO (nth x t)):=Q.cell p3 (by dsimp only;omega)
      have T:=jf (l:=mY m (v.take k)) (k:=t) (fun t=>wrap64 (nth (mY m (v.take k)) t+nth x t)) J
      obtain ⟨HK,D,a5⟩:=af Q u T;clear Q u T J p3
      go_wp2_with fail
      go_region
      all_goals go_wp2_with fail
      all_goals
       go_roundw
       case rel=>
        refine ⟨t+1,by omega,by go_num,?_,?_⟩
        ·rw [<-a5.o];exact dS (bT D.o 1) t _
        ·exact Keep.setCell (HK.o.drewN 1) (ar w.heap.size t) (.inr rfl) _
       case measure=>simp [intOf];omega
     ·obtain rfl:m=t:=ap
      obtain ⟨HK,D⟩:=ae Q u;clear Q u
      go_wp2_with fail
      go_roundw
      case rel=>
       refine ⟨k+1,by omega,by go_num,?_,aa fun j y hj Z=>?_,O.o.trans (HK.o.toBelow (by have:=O.o.size;omega) (fun j hj=>ap))⟩
       ·rw [List.take_add_one,HX.o,Option.toList_some,Ca]
        have I:=D.o
        have H:=jg (mY m (v.take k)) (fun t=>wrap64 (nth (mY m (v.take k)) t+nth x t))
        rw [qV] at H
        unfold fj
        rw [qV,<-H]
        exact I
       ·rcases Ma j k with h | h
        ·exact U.out j y h Z
        ·obtain rfl:j=k:=ap
         rw [HX.o] at Z;injection Z with Z;rw [<-Z];exact Hm.o
      case measure=>simp [intOf];omega
   ·have av:((m:Int) != (n:Int))=true:=by rw [bne_iff_ne];omega
    go_wp2_with fail
    go_ret2
    refine ⟨_,_,rfl,O.o,fun h=>absurd ?_ a0⟩
    rw [<-Hm.o];exact h k x HX.o
  ·obtain rfl:k=N:=ap
   obtain ⟨HO,O⟩:=ae u C;clear u C
   go_wp2_with fail
   go_ret2
   refine ⟨_,_,rfl,O.o,fun h=>⟨rfl,?_⟩⟩
   have:=HO.o
   rwa [<-HN.o,Mz] at this
theorem GH:dt prog 247 252 (.agg #[MO 0,MO 0,MO 0]) 3 24:=⟨underlying247,info_parts (by kernel_rfl),rfl,by decide⟩
theorem vX (A:Option Addr) (sz:List Int) (c:Nat) (w:World) (hA:Rd w A (aA .i64 sz)) (hg:dH sz):
  Calls prog 142 #[.slice A sz.length c] w fun e w'=>∃A' c',e=.returned (.slice A' (bQ sz (sz.length-1)) c')/\w'.ownsRow w.heap.size 252 3 (.slice A' (bQ sz (sz.length-1)) c') (bQ sz (sz.length-1)) (plV (plL sz (sz.length-1)))/\aq w w':=by
 have ab:=hg.1.1
 obtain ⟨b,o,rfl,a6⟩:=hA.num (show 0<sz.length by omega)
 have J:b<w.heap.size:=az a6
 obtain ⟨L,hL⟩:∃L,sz.length=L:=⟨_,rfl⟩
 rw [hL] at ab ⊢
 obtain ⟨HA,HG,HL⟩:=af hA hg hL;clear hA hg hL a6
 go_enter func142,ntmps142
 go_wp2_with fail
 go_loopw [3,4] (fun v i wr=>∃k:Nat,k+1<=L/\i=MO k/\wr.ownsRow w.heap.size 252 3 v (bQ sz k) (plV (plL sz k))/\aq w wr) (fun _ i _=>L-(intOf i).toNat)
 case atStart=>exact ⟨0,by omega,rfl,LZ _ _ _ _,LR _ _⟩
 case round=>
  obtain ⟨wq,rfl⟩:∃wq:World,wq=wr:=⟨_,rfl⟩
  obtain ⟨k,hk,rfl,T,a9⟩:=hrel
  obtain ⟨A0,c9,rfl,_⟩:=aD T
  obtain ⟨a2,av⟩:=ae T a9;clear T a9
  have b9:IntKind.i64.wrap ((k:Int)+1)=(k:Int)+1:=LT _ ap
  by_cases bd:k+1<L
  ·have hR:=HG.o.1
   have b5:=HL.o
   have z0:=hR.at (k:=k) ap
   have z1:=hR.at (k:=k+1) ap
   obtain ⟨_,_,e',p0⟩:=HA.o.num (show k<sz.length by omega)
   injection e' with e';injection e' with e1 e2 _;subst e1;subst e2
   obtain ⟨_,_,e',p1⟩:=HA.o.num (show k+1<sz.length by omega)
   injection e' with e';injection e' with e1 e2 _;subst e1;subst e2
   rw [z0.2.2] at p0
   rw [z1.2.2] at p1
   have b7:=HG.o.bound (k:=k+1) ap
   have hm:=ft sz k
   have x:dq sz k=bQ sz k+szN sz (k+1)*szN sz k:=rfl
   have R:plK sz k=plW k (szN sz k) (szN sz (k+1)*szN sz k)++plB k (szN sz (k+1)):=rfl
   obtain ⟨c0,a7⟩:∃c0,szN sz k=c0:=⟨_,rfl⟩
   obtain ⟨Q,a3⟩:∃Q,szN sz (k+1)=Q:=⟨_,rfl⟩
   obtain ⟨N,hN⟩:∃N,bQ sz k=N:=⟨_,rfl⟩
   obtain ⟨M,hM⟩:∃M,dq sz k=M:=⟨_,rfl⟩
   rw [a7] at p0 x R z0
   rw [a3] at p1 x hm R z1
   rw [hN,hM] at x
   rw [hM] at hm
   rw [<-hm] at b7
   obtain ⟨b6,HN,Hm⟩:=af R hN hm
   have b3:(k:Int)+1<L:=ap
   have b8:(k:Int)<L:=ap
   clear a7 a3 R hm hN hM b5 hR
   go_wp2_with fail
   go_loopw [3,5] (fun v i wr=>∃r:Nat,r<=Q/\i=MO r/\wr.ownsRow w.heap.size 252 3 v (N+r*c0) (plV (plL sz k++plW k c0 (r*c0)))/\aq w wr) (fun _ i _=>Q-(intOf i).toNat)
   case atStart=>
    refine ⟨0,LS _,rfl,?_,av.o⟩
    rw [Nat.zero_mul,show plW k c0 0=[] from rfl,List.append_nil,Nat.add_zero,<-HN.o]
    exact a2.o
   case round=>
    obtain ⟨w1,rfl⟩:∃w1:World,w1=wr:=⟨_,rfl⟩
    obtain ⟨r,hr,rfl,a0,O⟩:=hrel
    obtain ⟨A1,d1,rfl,_⟩:=aD a0
    have ao:=(O.cell (p:=(ar b (o+k))) J).trans p0
    have a4:=(O.cell (p:=⟨b,o+(k+1),none⟩) J).trans p1
    obtain ⟨aM,ad⟩:=ae a0 O;clear a0 O
    by_cases bb:r<Q
    ·have a8:r*c0+c0<=Q*c0:=by
      have:=MN c0 (show r+1<=Q by omega)
      rwa [MF] at this
     have a1:(r+1)*c0=r*c0+c0:=MF r c0
     obtain ⟨rc,D⟩:∃rc,r*c0=rc:=⟨_,rfl⟩
     obtain ⟨m1,aG⟩:∃m1,Q*c0=m1:=⟨_,rfl⟩
     have V:=fun j (hj:j<c0)=>Fq k c0 r j hj
     rw [D] at a8 a1 V
     rw [aG] at a8 x
     obtain ⟨b4,b1,aR⟩:=af V a1 D;clear V a1 D aG
     go_wp2_with fail
     go_loopw [3,6] (fun v i wr=>∃j:Nat,j<=c0/\i=MO j/\wr.ownsRow w.heap.size 252 3 v (N+(rc+j)) (plV (plL sz k++plW k c0 (rc+j)))/\aq w wr) (fun _ i _=>c0-(intOf i).toNat)
     case atStart=>
      refine ⟨0,LS _,rfl,?_,ad.o⟩
      rw [Nat.add_zero,<-aR.o]
      exact aM.o
     case round=>
      obtain ⟨w2,rfl⟩:∃w2:World,w2=wr:=⟨_,rfl⟩
      obtain ⟨j,hj,rfl,u,h⟩:=hrel
      obtain ⟨A2,d2,rfl,_⟩:=aD u
      have bf:=(h.cell (p:=(ar b (o+k))) J).trans p0
      have hz:=h.size
      obtain ⟨y,B⟩:=ae u h;clear u h ao a4
      by_cases a5:j<c0
      ·have aP:=b4.o j a5
       have b0:=aa aP;clear aP
       go_wp2_with (at_builtin;refine aY GH w2 rfl (.tmp 32) (.tmp 37) rfl w.heap.size (.slice A2 (N+(rc+j)) d2) (N+(rc+j)) _ rfl y.o [MO k,MO r,MO j] rfl rfl (by simp [Value.oneCell']) ap (by unfold maxLen;omega) ap ?_)
       intro g7 c7 w7 C I Y
       have H:=B.o.trans I
       obtain ⟨U,Z⟩:=ae C H;clear C I Y H
       go_wp2_with fail
       go_roundw
       case rel=>
        refine ⟨j+1,by omega,by go_num,?_,Z.o⟩
        have:=U.o
        rw [<-AZ (k,r,(j:Int)),<-rE,Mu,<-b0.o,show N+(rc+j)+1=N+(rc+(j+1)) by omega,show rc+j+1=rc+(j+1) by omega] at this
        exact this
       case measure=>simp [intOf];omega
      ·obtain rfl:j=c0:=ap
       go_wp2_with fail
       go_roundw
       case rel=>
        refine ⟨r+1,by omega,by go_num,?_,B.o⟩
        rw [b1.o]
        exact y.o
       case measure=>simp [intOf];omega
    ·obtain rfl:r=Q:=ap
     have b2:=aa x;clear x
     go_wp2_with fail
     go_loopw [3,7] (fun v i wr=>∃t:Nat,t<=r/\i=MO t/\wr.ownsRow w.heap.size 252 3 v (M+t) (plV (plL sz k++plW k c0 (r*c0)++plB k t))/\aq w wr) (fun _ i _=>r-(intOf i).toNat)
     case atStart=>
      refine ⟨0,LS _,rfl,?_,ad.o⟩
      rw [show plB k 0=[] from rfl,List.append_nil,Nat.add_zero,b2.o]
      exact aM.o
     case round=>
      obtain ⟨w2,rfl⟩:∃w2:World,w2=wr:=⟨_,rfl⟩
      obtain ⟨t,ht,rfl,u,h⟩:=hrel
      obtain ⟨A2,d2,rfl,_⟩:=aD u
      have be:=(h.cell (p:=⟨b,o+(k+1),none⟩) J).trans p1
      have hz:=h.size
      obtain ⟨y,B⟩:=ae u h;clear u h ao a4
      by_cases a5:t<r
      ·go_wp2_with (at_builtin;refine aY GH w2 rfl (.tmp 48) (.tmp 52) rfl w.heap.size (.slice A2 (M+t) d2) (M+t) _ rfl y.o [MO k,MO t,MO (-1)] rfl rfl (by simp [Value.oneCell']) ap (by unfold maxLen;omega) ap ?_)
       intro g7 c7 w7 C I Y
       have H:=B.o.trans I
       obtain ⟨U,Z⟩:=ae C H;clear C I Y H
       go_wp2_with fail
       go_roundw
       case rel=>
        refine ⟨t+1,by omega,by go_num,?_,Z.o⟩
        have:=U.o
        rw [<-AZ (k,t, -1),<-rE,show M+t+1=M+(t+1) by omega] at this
        rw [Fr]
        simp only [Mu] at this ⊢
        exact this
       case measure=>simp [intOf];omega
      ·obtain rfl:t=r:=ap
       go_wp2_with fail
       go_roundw
       case rel=>
        refine ⟨k+1,by omega,by go_num,?_,B.o⟩
        rw [wH,b6.o,<-Mu,<-Hm.o]
        exact y.o
       case measure=>simp [intOf];omega
  ·obtain rfl:k=L-1:=ap
   have b3:¬((((L-1:Nat):Int)+1)<L):=ap
   go_wp2_with fail
   go_ret
   exact ⟨_,_,rfl,a2.o,av.o⟩
theorem CJ (As Ap Y V:Option Addr) (sz ps x y:List Int) (cs cp cy cv:Nat) (q:Int) (vals:List Value) (w:World) (h:sP w As Ap sz ps cs) (hx:x.length=szN sz 0) (hY:Rd w Y (aA .i64 y)) (hy:y.length=szN sz (sz.length-1))
  (hV:Rd w V vals) (a5:iN w vals sz.length (di sz ps q x)):
  Calls prog 144 #[.agg #[.slice As sz.length cs,.slice Ap ps.length cp,MO q],MO ((sz.length-1:Nat):Int),.slice V sz.length cv,.slice Y y.length cy] w fun e D=>∃A c,e=.returned (.slice A y.length c)/\D.ownsRow w.heap.size 2 1 (.slice A y.length c) y.length (aA .i64 (fM sz ps q x y 0))/\aq w D:=by
 have a6:=h.hg.1.1
 have Q:=fun D=>mC As Ap sz.length ps.length cs cp q D ap
 have a7:=(h.hg.1.at (k:=sz.length-1) ap).2.1
 obtain ⟨Aj,cj,e1,e2,e3⟩:=a5.2 (sz.length-1) ap
 have C:=eR (sz:=sz) (ps:=ps) (q:=q) hx (sz.length-1)
 obtain ⟨bo,oo,rfl,U⟩:=hV _ _ e1
 have a3:bo<w.heap.size:=az U
 rw [<-hy] at C a7
 have a9:fM sz ps q x y 0=dB y.length fun i=>wrap64 (nth (di sz ps q x (sz.length-1)) i-nth y i):=by
  show nc _ _=_
  unfold nc
  rw [C]
 obtain ⟨a,ha⟩:∃a,di sz ps q x (sz.length-1)=a:=⟨_,rfl⟩
 obtain ⟨L,hL⟩:∃L,sz.length=L:=⟨_,rfl⟩
 obtain ⟨m,hm⟩:∃m,ps.length=m:=⟨_,rfl⟩
 obtain ⟨O,T⟩:∃O,y.length=O:=⟨_,rfl⟩
 rw [a9]
 rw [ha] at U e3 C ⊢
 rw [hL] at Q a6 U ⊢
 rw [C] at U
 rw [hm] at Q ⊢
 rw [T] at U C a7 ⊢
 obtain ⟨ab,HY,aR,ao,aP⟩:=ah Q hY T C e3;clear Q hY T C e1 e2 e3 h hx hy hV a5 a9 ha hL hm
 have b2:((L-1:Nat):Int)<L:=ap
 have b3:L-1<L:=ap
 have hq:(((L-1:Nat):Int)==((L-1:Nat):Int))=true:=by simp
 go_enter func144,ntmps144
 go_wp2_with fail
 refine (ab.o _).mono ?_
 rintro e w1 ⟨rfl,a8⟩
 have a2:aq w w1:=((LR _ w).alloc (LO _) _).trans (a8.mono (by simp))
 have aG:=aa a2;clear a8 a2
 go_wp2_with fail
 clear hq
 go_loopw [9,10] (fun v i wr=>∃k:Nat,k<=O/\i=MO k/\wr.ownsRow w.heap.size 2 1 v k (aA .i64 (dB k fun i=>wrap64 (nth a i-nth y i)))/\aq w wr) (fun _ i _=>O-(intOf i).toNat)
 case atStart=>exact ⟨0,LS _,rfl,LZ _ _ _ _,aG.o⟩
 case round=>
  obtain ⟨k,hk,rfl,B,R⟩:=hrel
  obtain ⟨Al,cl,rfl,b4⟩:=aD B
  by_cases a0:k<O
  ·obtain ⟨ba,Z,rfl,p1⟩:=aP.o.num (show k<a.length by rw [ao.o];exact a0)
   obtain ⟨N,oy,rfl,p2⟩:=HY.o.num (show k<y.length by rw [aR.o];exact a0)
   have l1:ba<w.heap.size:=az p1
   have l2:N<w.heap.size:=az p2
   have s1:=(R.cell (p:=⟨bo,oo+(L-1),none⟩) a3).trans U
   have s2:=(R.cell (p:=(ar ba (Z+k))) l1).trans p1
   have s3:=(R.cell (p:=(ar N (oy+k))) l2).trans p2
   have hz:=R.size
   obtain ⟨I,HW⟩:=ae B R;clear B R p1 p2
   have b1:(k:Int)<O:=ap
   go_wp2_with fail
   have u:(fun D:World=>D.cell? ⟨bo,oo+(L-1),none⟩=some (.slice (some (ar ba Z)) O cj)/\D.cell? (ar ba (Z+k))=some (MO (nth a k))/\D.cell? (ar N (oy+k))=some (MO (nth y k))) wr.drew:=⟨s1,s2,s3⟩
   refine HA.g (fun D:World=>D.cell? ⟨bo,oo+(L-1),none⟩=some (.slice (some (ar ba Z)) O cj)/\D.cell? (ar ba (Z+k))=some (MO (nth a k))/\D.cell? (ar N (oy+k))=some (MO (nth y k))) ?_
   refine HA.t ?_ [0,1,2,3,4,5,6,7,8,9,10,11,12] u ?_
   refine HA.o 13 (fun K hK=>?_)
   go_simp
   refine hK.out _ _ ⟨aH u.1 _,aH u.2.1 _,aH u.2.2 _⟩ (fun u=>?_)
   clear hK K
   refine HA.o 14 (fun K hK=>?_)
   refine bR j4 (.tmp 25) (.tmp 38) rfl rfl w.heap.size (.slice Al k cl) k _ rfl (bT (I.o.alloc _) 1) (some (ar wr.heap.size 0)) 1 1 [MO (IntKind.i64.wrap (nth a k-nth y k))] rfl (dD wr _ _ _ rfl) rfl (by simp [Value.oneCell']) ap (by unfold maxLen;omega) (by simp;omega) ?_
   intro A4 c4 w4 H J av ad
   have a1:=LW ((J.cell (p:=⟨bo,oo+(L-1),none⟩) a3).trans u.1) (LW ((J.cell (p:=(ar ba (Z+k))) l1).trans u.2.1) ((J.cell (p:=(ar N (oy+k))) l2).trans u.2.2))
   have a4:aq w w4:=((HW.o.alloc hz _).drew).trans J
   obtain ⟨b0,aM⟩:=ae H a4;clear H J av ad a4 u
   dsimp only
   refine hK.out _ _ a1 (fun u=>?_)
   clear hK K a1
   refine HA.t ?_ [15] u ?_
   refine HA.d ?_
   clear u s1 s2 s3
   go_wp2_with fail
   go_roundw
   case rel=>
    have e9:IntKind.i64.wrap (nth a k-nth y k)=wrap64 (nth a k-nth y k):=by rw [IntKind.wrap_i64,wrap64]
    have H:=b0.o
    rw [e9] at H
    exact ⟨k+1,by omega,by go_num,by rw [gY,cQ];exact H,aM.o⟩
   case measure=>simp [intOf];omega
  ·obtain rfl:k=O:=ap
   obtain ⟨I,HW⟩:=ae B R;clear B R
   go_wp2_with fail
   go_ret
   exact ⟨_,_,rfl,I.o,HW.o⟩
theorem CI (j:Nat) (As Ap Y V:Option Addr) (sz ps x y:List Int) (cs cp cy cv:Nat) (q:Int) (vals:List Value) (w:World) (h:sP w As Ap sz ps cs) (hx:x.length=szN sz 0) (wx:W64 x)
  (hV:Rd w V vals) (bh:iN w vals sz.length (di sz ps q x)) (hj:j+2<=sz.length)
  (ih:∀H,aq w H->Calls prog 144 #[.agg #[.slice As sz.length cs,.slice Ap ps.length cp,MO q],MO ((sz.length-1-j:Nat):Int),.slice V sz.length cv,.slice Y y.length cy] H fun e U=>∃A c,e=.returned (.slice A (szN sz (sz.length-1-j)) c)/\U.ownsRow H.heap.size 2 1 (.slice A (szN sz (sz.length-1-j)) c) (szN sz (sz.length-1-j)) (aA .i64 (fM sz ps q x y j))/\aq H U):
  Calls prog 144 #[.agg #[.slice As sz.length cs,.slice Ap ps.length cp,MO q],MO ((sz.length-2-j:Nat):Int),.slice V sz.length cv,.slice Y y.length cy] w fun e U=>∃A c,e=.returned (.slice A (szN sz (sz.length-2-j)) c)/\U.ownsRow w.heap.size 2 1 (.slice A (szN sz (sz.length-2-j)) c) (szN sz (sz.length-2-j)) (aA .i64 (fM sz ps q x y (j+1)))/\aq w U:=by
 have bi:=h.hg.1.1
 have a7:=fun H=>mC As Ap sz.length ps.length cs cp q H ap
 obtain ⟨k,hk⟩:∃k,sz.length-2-j=k:=⟨_,rfl⟩
 have aR:sz.length-1-j=k+1:=ap
 have b0:k+1<sz.length:=ap
 rw [aR] at ih
 have z0:=h.hg.1.at (k:=k) ap
 have z1:=h.hg.1.at b0
 obtain ⟨Ak,ck,e1,e2,e3⟩:=bh.2 k ap
 have a4:=eR (sz:=sz) (ps:=ps) (q:=q) hx k
 rw [a4] at e1
 obtain ⟨bo,oo,rfl,pv⟩:=hV _ _ e1
 have cc:bo<w.heap.size:=az pv
 have T:=kz (sz:=sz) (ps:=ps) (q:=q) (x:=x) (y:=y) hx j
 rw [aR] at T
 have ao:=sy sz ps q x y j
 have C:=kz (sz:=sz) (ps:=ps) (q:=q) (x:=x) (y:=y) hx (j+1)
 rw [show sz.length-1-(j+1)=k by omega] at C
 have B:=fun c (hc:c<szN sz k)=>GP (sz:=sz) (ps:=ps) (q:=q) (x:=x) (y:=y) (j:=j) (c:=c) hx hj (by rw [hk];exact hc)
 have Q:=fun r c (hr:r<szN sz (k+1)) (hc:c<szN sz k) H (hb:aq w H)=>qm As Ap sz ps cs cp k r c q H (h.below hb) b0 hr hc
 obtain ⟨b,o,rfl,p0⟩:=h.hA.num (show k<sz.length by omega)
 rw [z0.2.2] at p0
 have ci:b<w.heap.size:=az p0
 have WP:=aa h.wp
 rw [hk] at B ⊢
 obtain ⟨ev,bv⟩:∃ev,fM sz ps q x y j=ev:=⟨_,rfl⟩
 obtain ⟨en,bz⟩:∃en,fM sz ps q x y (j+1)=en:=⟨_,rfl⟩
 obtain ⟨vv,bM⟩:∃vv,di sz ps q x k=vv:=⟨_,rfl⟩
 obtain ⟨L,hL⟩:∃L,sz.length=L:=⟨_,rfl⟩
 obtain ⟨m,hm⟩:∃m,ps.length=m:=⟨_,rfl⟩
 obtain ⟨Y0,b3⟩:∃Y0,y.length=Y0:=⟨_,rfl⟩
 obtain ⟨r1,b6⟩:∃r1,szN sz (k+1)=r1:=⟨_,rfl⟩
 obtain ⟨c1,b2⟩:∃c1,szN sz k=c1:=⟨_,rfl⟩
 rw [bv] at T ao B ih
 rw [bz] at C B ⊢
 rw [bM] at e3 a4 B
 rw [hL] at a7 bi b0 ih Q hj ⊢
 rw [hm] at a7 ih Q ⊢
 rw [b3] at ih ⊢
 rw [b6] at T ih Q z1
 rw [b2] at a4 C pv p0 B Q z0 ⊢
 rw [T] at B
 obtain ⟨cL,cd,cx,c6,cM,c9,ab,bO⟩:=ak a7 a4 e3 ih T ao C B;obtain ⟨cj,cY⟩:=ae Q b2;clear a7 a4 e3 ih T ao C B Q h hx hV bh bv bz bM hL hm b3 b6 b2 e1 e2 hk aR
 have bV:((k:Int)==((L-1:Nat):Int))=false:=by simp;omega
 have d4:k<L:=ap
 have da:(k:Int)<L:=ap
 go_enter func144,ntmps144
 go_wp2_with fail
 refine (cL.o _).mono ?_
 rintro e w1 ⟨rfl,b1⟩
 have Z:=(b1.block w.heap.size (by simp)).trans (LP w (.cells #[.slice (some (ar b o)) L cs,.slice Ap m cp,MO q] 198))
 have b4:aq w w1:=((LR _ w).alloc (LO _) _).trans (b1.mono (by simp))
 obtain ⟨⟨y0,y1,y2⟩,yf⟩:=bx3 Z
 obtain ⟨aP,a8⟩:=ae b4 Z;clear b1 b4 Z
 go_wp2_with fail
 refine (c6.o w1 aP.o).mono ?_
 rintro e U ⟨A2,c2,rfl,bd,aM⟩
 have O:=(aM.block _ (LN a8.o)).trans a8.o
 have bb:=aP.o.trans (aM.mono aP.o.size)
 have a9:=Rd.own bd
 clear y0 y1 y2 yf bV
 obtain ⟨⟨y0,y1,y2⟩,yf⟩:=bx3 O
 have N:w.heap.size<U.heap.size:=LN O
 obtain ⟨a0,d1,bn⟩:=af bb O a9;clear bd aM bb O a9
 go_wp2_with fail
 go_loopw [9,12] (fun v i wr=>∃c:Nat,c<=c1/\i=MO c/\wr.ownsRow U.heap.size 2 1 v c (aA .i64 (en.take c))/\aq U wr) (fun _ i _=>c1-(intOf i).toNat)
 case atStart=>exact ⟨0,LS _,rfl,LZ _ _ _ _,LR _ _⟩
 case round=>
  obtain ⟨wq,rfl⟩:∃wq:World,wq=wr:=⟨_,rfl⟩
  obtain ⟨c,hc,rfl,a2,a5⟩:=hrel
  obtain ⟨Al,cl,rfl,dc⟩:=aD a2
  have x0:=(a5.cell (p:=(ar w.heap.size 0)) N).trans y0
  have a1:=a0.o.trans (a5.mono a0.o.size)
  have d5:=(a1.cell (p:=(ar b (o+k))) ci).trans p0
  have d9:U.heap.size<=wq.heap.size:=a5.size
  obtain ⟨ad,bN,bG⟩:=af a2 a5 a1;clear a2 a5 a1
  by_cases a6:c<c1
  ·have B:=bO.o c a6
   have bf:=aa B;clear B
   go_wp2_with fail
   go_loopw [13,14] (fun s i wx=>∃r:Nat,r<=r1/\i=MO r/\s=MO (sx sz ps q k c ev r)/\aq wq wx) (fun _ i _=>r1-(intOf i).toNat)
   case atStart=>exact ⟨0,LS _,rfl,rfl,LR _ _⟩
   case round=>
    obtain ⟨wo,rfl⟩:∃wo:World,wo=wr:=⟨_,rfl⟩
    obtain ⟨r,hr,rfl,rfl,I⟩:=hrel
    have u:=bN.o.trans (I.mono bN.o.size)
    have D:=a0.o.trans (u.mono a0.o.size)
    by_cases b7:r<r1
    ·obtain ⟨be,oe,rfl,pe⟩:=bn.o.num (show r<ev.length by rw [cM.o];exact b7)
     have d0:be<U.heap.size:=az pe
     have cO:=(u.cell (p:=(ar be (oe+r))) d0).trans pe
     have bX:=(u.cell (p:=(ar w.heap.size 0)) N).trans y0
     have c8:=(u.cell (p:=(ar w.heap.size 1)) N).trans y1
     have ct:=(u.cell (p:=(ar w.heap.size 2)) N).trans y2
     have b5:=cj.o r c b7 a6 wo.drew D.drew
     have bA:=fun H=>rv (nth ps (bQ sz k+r*c1+c)) (nth ev r) q H (WP.o.nth _) (c9.o.nth _)
     obtain ⟨cA,cb,av⟩:=af b5 bA I;clear b5 bA I pe u D
     have d3:(r:Int)<r1:=ap
     go_wp2_with fail
     go_region_held3 (fun H=>H.cell? (ar w.heap.size 0)=some (.slice (some (ar b o)) L cs)/\H.cell? (ar w.heap.size 1)=some (.slice Ap m cp)/\H.cell? (ar w.heap.size 2)=some (MO q)/\H.cell? (ar be (oe+r))=some (MO (nth ev r))) (simp [go_sem, *])
      ((first | (go_at_call 170;refine cA.o.mono ?_;rintro e w3 ⟨rfl,R⟩;have g0:=aw R bX;have g1:=aw R c8;have g2:=aw R ct;have g3:=aw R cO;have b8:=av.o.trans (((LR wo.heap.size wo).drew.trans R).mono av.o.size);have cr:=aa b8;clear R b8) | (go_at_call 100;refine (cb.o _).mono ?_;rintro e w4 ⟨rfl,rfl⟩)))
     go_wp2_with fail
     go_roundw
     case rel=>exact ⟨r+1,by omega,by go_num,by rw [IntKind.wrap_i64,sx,wrap64,cY.o],cr.o⟩
     case measure=>simp [intOf];omega
    ·obtain rfl:r=r1:=ap
     obtain ⟨ba,oa,rfl,pa⟩:=cx.o.num (show c<vv.length by rw [cd.o];exact a6)
     have cP:ba<w.heap.size:=az pa
     have d2:=(D.cell (p:=(ar ba (oa+c))) cP).trans pa
     have d8:=(D.cell (p:=(ar bo (oo+k))) cc).trans pv
     have a3:=ay ad.o I
     have d6:=I.size
     have bs:=ir en c (by rw [ab.o];exact a6)
     obtain ⟨av,aG,cn,bl⟩:=ag I a3 bs u;clear I a3 bs pa u D
     have d7:(c:Int)<c1:=ap
     go_wp2_with fail
     refine (tD _ _ _).mono ?_
     rintro e w7 ⟨rfl,rfl⟩
     rw [<-bf.o]
     go_wp2_with (at_builtin;refine aY j4 wo rfl (.tmp 76) (.tmp 86) rfl U.heap.size (.slice Al c cl) c _ rfl aG.o [MO (nth en c)] rfl rfl (by simp [Value.oneCell']) ap (by unfold maxLen;omega) ap ?_)
     intro g7 c7 w7 b9 bI co
     have bw:=bl.o.trans bI
     obtain ⟨cf,cw⟩:=ae b9 bw;clear b9 bI co bw
     go_wp2_with fail
     go_roundw
     case rel=>exact ⟨c+1,by omega,by go_num,by rw [cn.o,cQ];exact cf.o,cw.o⟩
     case measure=>simp [intOf];omega
  ·obtain rfl:c=c1:=ap
   have J:=ad.o
   rw [List.take_of_length_le (by rw [ab.o];exact LO _)] at J
   have Hf:=aa (aE J (base':=w.heap.size) (by have:=a0.o.size;omega));clear J
   go_wp2_with fail
   go_ret
   exact ⟨_,_,rfl,Hf.o,bG.o⟩
theorem Fe (o v Y V:Option Addr) (sz ps x y:List Int) (p cp B C:Nat) (q:Int) (vals:List Value) (J:x.length=szN sz 0) (N:W64 x) (H:y.length=szN sz (sz.length-1)):
  ∀(j:Nat) (w:World),j+1<=sz.length->sP w o v sz ps p->Rd w Y (aA .i64 y)->Rd w V vals->iN w vals sz.length (di sz ps q x)->
   Calls prog 144 #[.agg #[.slice o sz.length p,.slice v ps.length cp,MO q],MO ((sz.length-1-j:Nat):Int),.slice V sz.length C,.slice Y y.length B] w fun e I=>∃A c,e=.returned (.slice A (szN sz (sz.length-1-j)) c)/\I.ownsRow w.heap.size 2 1 (.slice A (szN sz (sz.length-1-j)) c) (szN sz (sz.length-1-j)) (aA .i64 (fM sz ps q x y j))/\aq w I:=by
 intro j
 induction j with
 | zero=>
  intro w _ h D u i
  have:=CJ o v Y V sz ps x y p cp B C q vals w h J D H u i
  rw [Nat.sub_zero,<-H]
  exact this
 | succ j ih=>
  intro w O h D u i
  have:=CI j o v Y V sz ps x y p cp B C q vals w h J N u i ap (fun L hb=>ih L ap (h.below hb) (D.below hb) (u.below hb) (i.below hb))
  rw [show sz.length-1-(j+1)=sz.length-2-j by omega]
  exact this
def KH (sz ps:List Int) (q:Int) (x y:List Int) (B:Nat) (k:Nat) (v:Value) (p:Obj) (u h w:World):Prop:=
 ∃A c vals,v=.slice A k c/\w.ownsRow h.heap.size 26 1 (.slice A k c) k vals/\
  (∀j,1<=j->j<k->∃o i,vals[j]?=some (.slice o (szN sz j) i)/\w.ownsRow h.heap.size 2 1 (.slice o (szN sz j) i) (szN sz j) (aA .i64 (fM sz ps q x y (sz.length-1-j))))/\aq h w
theorem zh {P:Program} {f:FuncId} {args:Array Value} {W:World} {a n:Nat} {v:Value} (h:∀o,Calls P f args o fun e i=>e=.returned v/\o=i):Calls P f args (W.drewN (a+n)) fun e i=>e=.returned v/\∃m,i=W.drewN (a+m):=
 (h _).mono fun _ _ h=>⟨h.1,n,h.2.symm⟩
theorem CF (As Ap X Y:Option Addr) (sz ps x y:List Int) (cs cp cx cy:Nat) (q:Int) (w:World) (h:sP w As Ap sz ps cs) (hX:Rd w X (aA .i64 x)) (hx:x.length=szN sz 0) (wx:W64 x) (cP:x.length<=cx) (hY:Rd w Y (aA .i64 y)) (hy:y.length=szN sz (sz.length-1)):
  Calls prog 97 #[.agg #[.slice As sz.length cs,.slice Ap ps.length cp,.int .i64 q],.slice X x.length cx,.slice Y y.length cy] w fun e T=>∃A' c',e=.returned (.slice A' (bQ sz (sz.length-1)) c')/\Rd T A' (aA .i64 (gS sz ps q x y))/\aq w T:=by
 have dG:=h.hg.1.1
 have d4:=xz (sz:=sz) (ps:=ps) (q:=q) (x:=x) (y:=y) hx ap
 have b5:=Ba sz (sz.length-1)
 have b8:=fun T=>mC As Ap sz.length ps.length cs cp q T ap
 have a5:=fun T (hb:aq w T)=>yE As Ap X sz ps x cs cp cx q T (h.below hb) (hX.below hb) hx wx cP
 have bf:=fun T (hb:aq w T)=>vX As sz cs T (h.hA.below hb) h.hg
 have ad:=fun j V cv vals T (hb:aq w T) (hj:j+1<=sz.length) (hV:Rd T V vals) (b6:iN T vals sz.length (di sz ps q x))=>Fe As Ap Y V sz ps x y cs cp cy cv q vals hx wx hy j T hj (h.below hb) (hY.below hb) hV b6
 have ef:=h.hg.2
 have hG:=h.hg
 rw [d4]
 obtain ⟨L,hL⟩:∃L,sz.length=L:=⟨_,rfl⟩
 obtain ⟨m,hm⟩:∃m,ps.length=m:=⟨_,rfl⟩
 obtain ⟨Y0,cA⟩:∃Y0,y.length=Y0:=⟨_,rfl⟩
 obtain ⟨X0,ei⟩:∃X0,x.length=X0:=⟨_,rfl⟩
 rw [hL] at b8 a5 ad bf dG b5 ef ⊢
 rw [hm] at b8 a5 ad ⊢
 rw [cA] at ad ⊢
 rw [ei] at a5 ⊢
 obtain ⟨N,hN⟩:∃N,bQ sz (L-1)=N:=⟨_,rfl⟩
 rw [hN] at bf b5 ef ⊢
 obtain ⟨ej,g3,f7,eM,bN,HG,HL,Hx⟩:=ak b8 a5 ad bf b5 hG hL hx;have WX:=aa wx;clear b8 a5 ad bf b5 hG hX hx wx cP hY hy d4 hL hm cA ei hN h
 go_enter func97,ntmps97
 go_wp2_with fail
 refine (g3.o _ ?_).mono ?_
 ·exact am
 rintro e w1 ⟨V,cv,vals,rfl,hV,b6,fr,cr⟩
 have a4:=(cr.block w.heap.size (by simp)).trans (LP w (.cells #[.slice As L cs,.slice Ap m cp,.int .i64 q] 198))
 have cO:aq w w1:=((LR _ w).alloc (LO _) _).trans (cr.mono (by simp))
 obtain ⟨⟨z0,z1,z2⟩,zf⟩:=bx3 a4
 obtain ⟨ci,bi,g7,eB⟩:=ag cO a4 hV b6;clear cr a4 cO hV b6 fr
 go_wp2_with fail
 refine (eM.o _ ci.o).mono ?_
 rintro e w2 ⟨Pa,pc,rfl,em,a6⟩
 have a1:=(a6.block _ (LN bi.o)).trans bi.o
 have dc:=ci.o.trans (a6.mono ci.o.size)
 have ea:=g7.o.below a6
 have bl:=eB.o.below a6
 have dp:=Rd.own em
 clear z0 z1 z2 zf
 obtain ⟨⟨z0,z1,z2⟩,zf⟩:=bx3 a1
 have B:w.heap.size<w2.heap.size:=LN a1
 obtain ⟨b4,gf,dv,bh,bM⟩:=ah dc a1 ea bl dp;clear a6 a1 dc ea bl em dp
 go_wp2_with fail
 go_loopw [9,10] (fun v i wr=>∃k:Nat,k<=L/\i=.int .i64 k/\KH sz ps q x y w.heap.size k v (.cells #[] 0 (0,0)) w w2 wr) (fun _ i _=>L-(intOf i).toNat)
 case atStart=>exact ⟨0,LS _,rfl,none,0,[],rfl,LZ _ _ _ _,fun j h1 h2=>ap,LR _ _⟩
 case round=>
  obtain ⟨wq,rfl⟩:∃wq:World,wq=wr:=⟨_,rfl⟩
  obtain ⟨k,hk,rfl,Aa,ca,av,rfl,dT,ek,ab⟩:=hrel
  have x0:=(ab.cell (p:=⟨w.heap.size,0,none⟩) B).trans z0
  have x1:=(ab.cell (p:=⟨w.heap.size,1,none⟩) B).trans z1
  have x2:=(ab.cell (p:=⟨w.heap.size,2,none⟩) B).trans z2
  obtain ⟨b3,d5,bb⟩:=af dT ek ab;clear dT ek ab
  by_cases bO:k<L
  ·have fs:(k:Int)<=((L-1:Nat):Int):=ap
   go_wp2_with fail
   refine (ej.o _).mono ?_
   rintro e w3 ⟨rfl,O⟩
   have J:=bb.o.trans (O.mono bb.o.size)
   have U:=ay b3.o O
   have eY:=J.size
   clear x0 x1 x2
   obtain ⟨I,a3,fa⟩:=af J U O;clear O J U
   go_wp2_with (at_builtin;refine aY GD w3 rfl (.tmp 27) (.tmp 28) rfl w2.heap.size (.slice Aa k ca) k av rfl a3.o [.slice none 0 0] rfl rfl (by simp [Value.oneCell']) ap (by unfold maxLen;omega) eY ?_)
   intro g4 c4 w4 es ew en
   have da:=I.o.trans ew
   have gb:=b3.o.1
   have bX:∀{mm:Nat} {u:Value} {ys:List Value} {b0:Nat},w3.ownsRow b0 2 1 u mm ys->w4.ownsRow b0 2 1 u mm ys:=fun h=>h.kept en (by
    rename_i u _ _
    cases hu:u.ownBlock with
    | none=>exact .inl rfl
    | some i=>exact .inr fun e9=>je a3.o h (by decide) i e9.symm hu)
   have bw:∀j,1<=j->j<k->∃Aj cj,(av++[Value.slice none 0 0])[j]?=some (.slice Aj (szN sz j) cj)/\w4.ownsRow w2.heap.size 2 1 (.slice Aj (szN sz j) cj) (szN sz j) (aA .i64 (fM sz ps q x y (sz.length-1-j))):=fun j h1 h2=>by
    obtain ⟨Aj,cj,e1,e2⟩:=d5.o j h1 h2
    exact ⟨Aj,cj,by rw [Mr ap];exact e1,bX (ay e2 fa.o)⟩
   obtain ⟨a8,H,e0⟩:=af es da bw;clear es ew en da bw
   have y0:=(H.o.cell (p:=⟨w.heap.size,0,none⟩) B).trans z0
   have y1:=(H.o.cell (p:=⟨w.heap.size,1,none⟩) B).trans z1
   have y2:=(H.o.cell (p:=⟨w.heap.size,2,none⟩) B).trans z2
   by_cases go:k=0
   ·have eG:¬(0:Int)<(k:Int):=ap
    go_wp2_with fail
    go_roundw
    case rel=>exact ⟨k+1,by omega,by go_num,some ⟨g4,0,none⟩,c4,_,rfl,a8.o,fun j h1 h2=>ap,H.o⟩
    case measure=>simp [intOf];omega
   ·have eG:(0:Int)<(k:Int):=ap
    have gl:0<k:=ap
    have b1:=f7.o (L-1-k) V cv vals w4 (b4.o.trans (H.o.mono b4.o.size)) ap (dv.o.below H.o) (bh.o.below H.o)
    rw [show L-1-(L-1-k)=k by omega] at b1
    have d9:=aa b1;clear b1
    have gk:k<k+1:=Nat.lt_succ_self k
    have gc:(k:Int)<(k:Int)+1:=ap
    go_wp2_with fail
    refine d9.o.mono ?_
    rintro e w5 ⟨A5,c5,rfl,d0,be⟩
    have dw:=H.o.trans (be.mono H.o.size)
    have Z:=ay a8.o be
    have g9:=H.o.size
    have q0:=Z.cellAt k ap
    have qk:(av++[Value.slice none 0 0])[k]?=some (.slice none 0 0):=by
     have:=a8.o.1
     rw [Ms (by simp at this;omega)]
     simp at this
     simp [show av.length=k by omega]
    rw [qk] at q0
    have qf:=Z.frozenAt k
    have d8:=(Z.stored k (.slice A5 (szN sz k) c5)).1
    obtain ⟨eL,eo,g0,fn,eb,gg⟩:=ai d8 dw d0 be Z qk;clear d8 dw d0 be Z qk y0 y1 y2
    go_wp2_with fail
    have cM:Keep (fun i=>i=g4) w5 (w5.setCell ⟨g4,k,none⟩ (.slice A5 (szN sz k) c5)):=Keep.setCell (S:=fun i=>i=g4) (Keep.refl _ _) ⟨g4,k,none⟩ (.inr rfl) _
    have a2:∀{mm:Nat} {u:Value} {ys:List Value} {b0:Nat},w5.ownsRow b0 2 1 u mm ys->(w5.setCell ⟨g4,k,none⟩ (.slice A5 (szN sz k) c5)).ownsRow b0 2 1 u mm ys:=fun h=>cM.own h (fun i hi e9=>by
     subst e9
     exact je eb.o h (by decide) i rfl hi)
    go_roundw
    case rel=>
     refine ⟨k+1,by omega,by go_num,some ⟨g4,0,none⟩,c4,_,rfl,eL.o,fun j h1 h2=>?_,eo.o.trans (cM.toBelow eo.o.size (fun i hi=>by subst hi;exact (a8.o.lt i rfl).1))⟩
     have gy:(av++[Value.slice none 0 0]).length=k+1:=by have:=a8.o.1;simpa using this
     rcases Ma j k with d7 | d7
     ·obtain ⟨Aj,cj,e1,e2⟩:=e0.o j h1 d7
      refine ⟨Aj,cj,?_,a2 (ay e2 fn.o)⟩
      rw [List.getElem?_set_ne ap];exact e1
     ·obtain rfl:j=k:=ap
      refine ⟨A5,c5,?_,?_⟩
      ·rw [List.getElem?_set_self ap]
      ·have:=a2 (aE g0.o (base':=w2.heap.size) g9)
       rw [HL.o];exact this
    case measure=>simp [intOf];omega
  ·obtain rfl:k=L:=ap
   have fs:¬((k:Int)<=((k-1:Nat):Int)):=ap
   have gm:1<=k:=ap
   go_wp2_with fail
   refine (ej.o _).mono ?_
   rintro e w3 ⟨rfl,O⟩
   obtain ⟨ga,gv,bo,gp,_⟩:=b3.o.form ap
   simp only [MC] at bo
   obtain ⟨rfl,eS,rfl⟩:=bo
   clear eS
   have J:=bb.o.trans (O.mono bb.o.size)
   have U:=ay b3.o O
   have bA:∀j,1<=j->j<k->∃Aj cj,av[j]?=some (.slice Aj (szN sz j) cj)/\w3.ownsRow w2.heap.size 2 1 (.slice Aj (szN sz j) cj) (szN sz j) (aA .i64 (fM sz ps q x y (sz.length-1-j))):=fun j h1 h2=>by
    obtain ⟨Aj,cj,e1,e2⟩:=d5.o j h1 h2
    exact ⟨Aj,cj,e1,ay e2 O⟩
   obtain ⟨I,a3,ec⟩:=af J U bA;clear O J U bA x0 x1 x2
   go_wp2_with fail
   have bn:decide (k<=k-1)=false:=MJ ap
   rw [bn]
   clear bn
   go_loopw [11,12] (fun v i wr=>∃t:Nat,t<=N/\i=.int .i64 t/\wr.ownsRow w3.heap.size 2 1 v t (aA .i64 (((plL sz (k-1)).map (gAt sz ps q x y)).take t))/\aq w3 wr) (fun _ i _=>N-(intOf i).toNat)
   case atStart=>exact ⟨0,LS _,rfl,LZ _ _ _ _,LR _ _⟩
   case round=>
    obtain ⟨wo,rfl⟩:∃wo:World,wo=wr:=⟨_,rfl⟩
    obtain ⟨t,ht,rfl,aG,d6⟩:=hrel
    obtain ⟨Al,cl,rfl,_⟩:=aD aG
    obtain ⟨aP,D⟩:=ae aG d6;clear aG d6
    by_cases bO:t<N
    ·obtain ⟨pp,bd⟩:∃pp,(plL sz (k-1))[t]?=some pp:=⟨_,Mq (by rw [bN.o];exact bO)⟩
     have bs:=I3 (List.mem_of_getElem? bd)
     have bz:nth ((plL sz (k-1)).map (gAt sz ps q x y)) t=gAt sz ps q x y pp:=by
      unfold nth
      rw [List.getD_eq_getElem?_getD,List.getElem?_map,bd]
      rfl
     have cn:=ir ((plL sz (k-1)).map (gAt sz ps q x y)) t (by rw [List.length_map,bN.o];exact bO)
     rw [bz] at cn
     obtain ⟨f0,f1,f2⟩:=Kb _ _ _ bd
     obtain ⟨bp,op,cb,c0⟩:=bM.o _ _ f0
     obtain ⟨_,_,e',c1⟩:=bM.o _ _ f1
     rw [cb] at e';injection e' with e';injection e' with i1 i2 _;subst i1;subst i2
     obtain ⟨_,_,e',c2⟩:=bM.o _ _ f2
     rw [cb] at e';injection e' with e';injection e' with i1 i2 _;subst i1;subst i2
     subst cb
     have A:=I.o.trans (D.o.mono I.o.size)
     have f6:=aw A c0
     have cL:=aw A c1
     have d2:=aw A c2
     rw [<-MG] at cL d2
     obtain ⟨K,R,C⟩:=pp
     dsimp only at bs f6 cL d2
     obtain ⟨m1,m2,m3⟩:=bs
     obtain ⟨A8,c8,g1,g2⟩:=ec.o (K+1) ap ap
     obtain ⟨_,_,e8,p8⟩:=(Rd.own a3.o) _ _ g1
     injection e8 with e8;injection e8 with i1 i2 _;subst i1;subst i2
     rw [MH] at p8
     have cc:=kz (sz:=sz) (ps:=ps) (q:=q) (x:=x) (y:=y) Hx.o (sz.length-2-K)
     have fi:=HL.o
     rw [show sz.length-1-(sz.length-2-K)=K+1 by omega] at cc
     rw [show sz.length-1-(K+1)=sz.length-2-K by omega] at g2
     have bG:=sy sz ps q x y (sz.length-2-K)
     obtain ⟨b9,o9,rfl,p9⟩:=(Rd.own g2).num (show R<(fM sz ps q x y (sz.length-2-K)).length by rw [cc];exact m2)
     have dn:=aw D.o p8
     have c9:=aw D.o p9
     obtain ⟨A7,c7,h1,h2,h3⟩:=bh.o.2 K ap
     have aM:=eR (sz:=sz) (ps:=ps) (q:=q) Hx.o K
     rw [aM] at h1
     obtain ⟨bv,ov,g8,p7⟩:=dv.o _ _ h1
     subst g8
     have ds:=aw A p7
     have bI:=h3.below A
     have cw:=nW (sz:=sz) (ps:=ps) (q:=q) WX.o K
     have g5:=HG.o.1.at (k:=K+1) ap
     have fd:=HG.o.1.at (k:=K) ap
     have y2:=(A.cell (p:=⟨w.heap.size,2,none⟩) B).trans z2
     obtain ⟨ev,co⟩:∃ev,fM sz ps q x y (sz.length-2-K)=ev:=⟨_,rfl⟩
     obtain ⟨vv,ct⟩:∃vv,di sz ps q x K=vv:=⟨_,rfl⟩
     obtain ⟨n1,cY⟩:∃n1,szN sz (K+1)=n1:=⟨_,rfl⟩
     obtain ⟨n0,dk⟩:∃n0,szN sz K=n0:=⟨_,rfl⟩
     have ee:gAt sz ps q x y (K,R,C)=if 0<=C then fm (nth ev R) (nth vv C.toNat) q else nth ev R:=by unfold gAt;rw [co,ct]
     rw [co] at c9 bG
     rw [ct] at bI cw aM
     rw [cY] at dn m2 g5
     rw [dk] at ds m3 fd aM
     obtain ⟨el,dr,f5,f9,eV,fb,gd⟩:=aj ee cn bI bG cw aM A;clear ee cn bI bG cw aM A bz bd f0 f1 f2 c0 c1 c2 g1 g2 p8 p9 h1 h2 h3 p7 cc co ct cY dk fi
     have gx:(t:Int)<N:=ap
     go_wp2_with fail
     have e1:IntKind.i64.wrap ((K:Int)+1)=(K:Int)+1:=LT _ ap
     have e2:(K:Int)+1<k:=ap
     have e3:K+1<k:=ap
     have e4:(R:Int)<n1:=ap
     have e5:(0:Int)<=(K:Int)+1:=ap
     have e6:((K:Int)+1).toNat=K+1:=ap
     have e7:¬((K:Int)+1<0):=ap
     have e8:¬((k:Int)<=(K:Int)+1):=ap
     have l8:ga<wo.heap.size:=az dn
     have l9:b9<wo.heap.size:=az c9
     have l7:bv<wo.heap.size:=az ds
     have l2:w.heap.size<wo.heap.size:=az y2
     go_quiet (fail)
     have pb:=aH (W:=wo) (p:=⟨b9,o9+R,none⟩) c9 (.cells #[.int .i64 (K:Int),.int .i64 (R:Int),.int .i64 C] 252)
     by_cases hC:0<=C
     ·obtain ⟨C1,rfl⟩:∃C1:Nat,C=(C1:Int):=⟨C.toNat,by omega⟩
      have fc:C1<n0:=ap
      have gz:(C1:Int)<n0:=ap
      have gs:¬((C1:Int)<0):=ap
      obtain ⟨b7,o7,rfl,p6⟩:=f5.o.num (show C1<vv.length by rw [fb.o];exact fc)
      have l6:b7<wo.heap.size:=az p6
      have f3:(K:Int)<k:=ap
      have f4:K<k:=ap
      have eu:=fun T=>rv (nth ev R) (nth vv C1) q T (f9.o.nth _) (eV.o.nth _)
      have f8:=aa eu;clear eu
      obtain ⟨na,rfl⟩:∃na:Nat,na=nq:=⟨_,rfl⟩
      go_wp2_with fail
      go_quiet ((go_at_call 100;exact zh f8.o))
      have fe:w3.heap.size<=wo.heap.size:=D.o.size
      have aR:=aa (show ((wo.alloc (.cells #[.int .i64 (K:Int),.int .i64 (R:Int),.int .i64 (C1:Int)] 252)).drewN (na+nq)).heap.size=wo.heap.size+1 by simp)
      have a0:=LY (D.o.alloc D.o.size (.cells #[.int .i64 (K:Int),.int .i64 (R:Int),.int .i64 (C1:Int)] 252)) (na+nq)
      have b2:=bT (aP.o.alloc (.cells #[.int .i64 (K:Int),.int .i64 (R:Int),.int .i64 (C1:Int)] 252)) (na+nq)
      go_wp2_with (at_builtin;go_loud (refine aY j4 _ rfl (.tmp 76) (.tmp 78) rfl w3.heap.size (.slice Al t cl) t _ rfl b2 [.int .i64 (fm (nth ev R) (nth vv C1) q)] (congrArg (fun b:Nat=>Value.slice (some ⟨b,0,none⟩) 1 1) aR.o.symm) rfl (by simp [Value.oneCell']) ap (by unfold maxLen;omega) a0.size ?_))
      intro g6 c6 w6 a9 ao cf
      have Q:=a0.trans ao
      obtain ⟨cd,bV⟩:=ae a9 Q;clear a9 ao cf Q b2 a0
      go_wp2_with fail
      go_roundw
      case rel=>
       refine ⟨t+1,by omega,by go_num,?_,bV.o⟩
       have hv:=el.o
       rw [if_pos (Int.natCast_nonneg _),Int.toNat_natCast] at hv
       rw [dr.o,hv,cQ]
       exact cd.o
      case measure=>simp [intOf];omega
     ·have HC:=aa hC
      have fe:w3.heap.size<=wo.heap.size:=D.o.size
      have aR:=aa (show ((wo.alloc (.cells #[.int .i64 (K:Int),.int .i64 (R:Int),.int .i64 C] 252)).drewN nq).heap.size=wo.heap.size+1 by simp)
      have a0:=LY (D.o.alloc D.o.size (.cells #[.int .i64 (K:Int),.int .i64 (R:Int),.int .i64 C] 252)) nq
      have b2:=bT (aP.o.alloc (.cells #[.int .i64 (K:Int),.int .i64 (R:Int),.int .i64 C] 252)) nq
      go_wp2_with (at_builtin;go_loud (refine aY j4 _ rfl (.tmp 76) (.tmp 78) rfl w3.heap.size (.slice Al t cl) t _ rfl b2 [.int .i64 (nth ev R)] (congrArg (fun b:Nat=>Value.slice (some ⟨b,0,none⟩) 1 1) aR.o.symm) rfl (by simp [Value.oneCell']) ap (by unfold maxLen;omega) a0.size ?_))
      intro g6 c6 w6 a9 ao cf
      have Q:=a0.trans ao
      obtain ⟨cd,bV⟩:=ae a9 Q;clear a9 ao cf Q b2 a0
      go_wp2_with fail
      go_roundw
      case rel=>
       refine ⟨t+1,by omega,by go_num,?_,bV.o⟩
       have hv:=el.o
       rw [if_neg (by have:=HC.o;omega)] at hv
       rw [dr.o,hv,cQ]
       exact cd.o
      case measure=>simp [intOf];omega
    ·obtain rfl:t=N:=ap
     have a7:=aP.o
     rw [List.take_of_length_le (by rw [List.length_map,bN.o];exact LO _)] at a7
     have d1:=aa (Rd.own a7);clear a7
     have d3:=b4.o.trans ((I.o.trans (D.o.mono I.o.size)).mono b4.o.size)
     have eX:=aa d3;clear d3
     go_wp2_with fail
     go_ret
     exact ⟨_,_,rfl,d1.o,eX.o⟩
theorem DU {n:Nat} {s:List Int} (hs:s.length=n) (h:W64 s):fj (List.replicate n 0) s=s:=by
 refine iU (by rw [iI,Mv,hs]) fun k hk=>?_
 rw [iI,Mv] at hk
 unfold fj
 rw [bS _ (by rw [Mv];exact hk),dE _ k (by rw [Mv];exact hk)]
 have h1:=h.nth k
 simp only [List.getElem_replicate]
 generalize nth s k=y at h1 ⊢
 unfold wrap64;omega
theorem Ek {n:Nat} {s g:List Int} (hs:s.length=n) (h:W64 s):mY n [s,g]=fj s g:=by
 unfold mY;simp only [List.foldl_cons,List.foldl_nil];rw [DU hs h]
theorem CW (l:List Ex) (h:List Int) {k:Nat} (hk:k<h.length) {x:Ex} {j:Nat} (i:nth h k=(j:Int)) (o:l[j]?=some x):dK l (h.take (k+1))=dK l (h.take k)++[x]:=by
 rw [ir _ _ hk];unfold dK;rw [List.map_append]
 simp [i,List.getD,o]
theorem Le {n k:Nat} (h:k<n):n-(k+1)<n-k:=ap
def DZ (i:Inp) (P h:List Int) (w:World) (e:Ending) (o:World):Prop:=aq w o/\
 ((iY i h/\∃v,e=.returned (.tuple #[v,.bool true])/\o.ownsRow w.heap.size 2 1 v (cnt i) (aA .i64 (eg i P (dK i.data h))))\/(¬iY i h/\e=.returned (.tuple #[MP,.bool false])))
theorem JU (w:World) (u v:Value) (A1 i:Option Addr) (n c1 c2:Nat) (s g:List Int) (A:u=.slice A1 n c1) (p:v=.slice i n c2) (hs:s.length=n) (hg:g.length=n) (hn:n<=1048576) (y:Rd w A1 (aA .i64 s)) (o:Rd w i (aA .i64 g)):
  dA tK 1 (w.alloc (.cells #[u,v] 26)) (some (ar w.heap.size 0)) [s,g]:=by
 refine vR (dD w [u,v] _ _ rfl) rfl fun j x h=>?_
 match j,h with
 | 0,h=>injection h with h;subst h;exact ⟨u,rfl,A1,c1,by rw [A,hs],by omega,y.alloc _⟩
 | 1,h=>injection h with h;subst h;exact ⟨v,rfl,i,c2,by rw [p,hg],by omega,o.alloc _⟩
theorem wg (A:Option Addr) (c:Nat) (D:Option Addr) (cd:Nat) (T:Option Addr) (ct:Nat) (R:Option Addr) (cr:Nat) (i:Inp) (Ap X:Option Addr) (P B:List Int) (n cp cx:Nat) (w:World) (hA:Rd w A (aA .i64 i.cfg.sizes)) (hc:i.cfg.sizes.length<=c) (hD:dA rEx 2 w D i.data) (hg:lL i) (hP:Rd w Ap (aA .i64 P)) (ao:P.length=n) (hn:cnt i=n) (wP:W64 P) (hX:Rd w X (aA .i64 B)) (cv:B.length<=17592186043904):
  Calls prog 61 #[.agg (aO A c D cd T ct R cr i),.slice Ap n cp,.slice X B.length cx] w (DZ i P B w):=by
 have bs:=hg.c.z.bound (k:=i.cfg.sizes.length-1) (by have:=hg.c.z.1.1;omega)
 have a3:bQ i.cfg.sizes (i.cfg.sizes.length-1)=n:=hn
 rw [a3] at bs
 have I:=fun J=>yO A c D cd T ct R cr i Ap n cp J
 have H:=fun J (q:aq w J) X1 Y1 x c1 c2 (hf:fh (inN i) (vg i) x) (r1:cH J X1 x.1 c1) (r2:cH J Y1 x.2 c2)=>CF A Ap X1 Y1 i.cfg.sizes P x.1 x.2 c cp c1 c2 i.cfg.shift J ⟨hA.below q,hP.below q,hg.c.z,by rw [ao,a3],hc,wP⟩ r1.hr hf.1 r1.hw r1.hc r2.hr hf.2
 rw [a3,ao] at H
 have aP:=fun J=>lV jE J rfl n ap (by unfold maxLen;omega)
 simp only [eZ] at aP
 have aM:eg i P (dK i.data (B.take 0))=List.replicate n 0:=by simp [eg,dK,hn]
 obtain ⟨m,hm⟩:∃m,B.length=m:=⟨_,rfl⟩
 obtain ⟨N,hN⟩:∃N,i.data.length=N:=⟨_,rfl⟩
 have cL:N<=1048576:=by rw [<-hN];exact hg.b.2
 rw [hm] at cv ⊢
 have b1:(w.alloc (.cells (aO A c D cd T ct R cr i) 29)).heap.size=w.heap.size+1:=by simp
 have C:=lI w (aO A c D cd T ct R cr i) 29 rfl
 have a4:aq w (w.alloc (.cells (aO A c D cd T ct R cr i) 29)):=(LR _ w).alloc (LO _) _
 obtain ⟨W1,b2⟩:∃W1,W1=w.alloc (.cells (aO A c D cd T ct R cr i) 29):=⟨_,rfl⟩
 rw [<-b2] at b1 C a4
 obtain ⟨W2,Q,b0,aR⟩:=aP W1
 rw [b1] at Q b0
 rw [b2] at Q
 dsimp only [aO] at Q
 have a8:=(aR.block _ ap).trans C
 have bh:=a4.trans (aR.mono a4.size)
 obtain ⟨HD,HX,bo,bO,Hm,HN,HG,c7⟩:=ak hD hX I H hm hN hg b0;obtain ⟨bn,c9,bN,Hn⟩:=ag a8 bh aM hn;clear hA hc hD hg hP ao hn wP hX I H aP hm hN b1 C a4 b0 a8 bh aR a3 aM b2
 go_enter func61,ntmps61
 dsimp only [aO]
 go_wp2_with fail
 clear Q
 go_loopw [8,9] (fun v x wr=>∃k:Nat,k<=m/\x=MO k/\wr.ownsRow w.heap.size 2 1 v n (aA .i64 (eg i P (dK i.data (B.take k))))/\an (∀j,j<k->jD N (nth B j))/\Below (w.heap.size+1) W2 wr) (fun _ x _=>m-(intOf x).toNat)
 case atStart=>exact ⟨0,LS _,rfl,by rw [bN.o];exact aE c7.o ap,aa fun j hj=>ap,LR _ _⟩
 case round=>
  obtain ⟨k,hk,rfl,a0,a7,a5⟩:=hrel
  obtain ⟨As,cs,rfl,hcs⟩:=aD a0
  have C:=(a5.block _ ap).trans bn.o
  have hB:=c9.o.trans (a5.mono ap)
  have cO:=hB.size
  obtain ⟨HO,co,HB,ci,cM⟩:=ah a0 a5 hB C hcs
  dsimp only [aO] at C
  obtain ⟨⟨t0,t1,t2,t3,t4,t5,t6,t7,t8,t9,c6,bI,cc,bG,cn⟩,tf⟩:=ki C
  have bX:=LN C
  clear a0 a5 hB C hcs
  by_cases V:k<m
  ·have cy:(k:Int)<m:=ap
   obtain ⟨bx,ox,rfl,px⟩:=HX.o.num (show k<B.length by rw [Hm.o];exact V)
   have b4:=(HB.o.cell (p:=(ar bx (ox+k))) (az px)).trans px
   clear px
   by_cases L:jD N (nth B k)
   ·obtain ⟨j,hj⟩:∃j:Nat,nth B k=(j:Int):=⟨(nth B k).toNat,by have:=L.1;omega⟩
    have cw:j<N:=by have:=L.2;omega
    rw [hj] at b4
    obtain ⟨x,hx⟩:∃x,i.data[j]?=some x:=⟨_,Mq (by rw [HN.o];exact cw)⟩
    obtain ⟨bd,od,X1,c1,Y1,c2,rfl,cA,p1,p2,r1,r2⟩:=iH (HD.o.below eU HB.o) hx
    have Z:fh (inN i) (vg i) x:=HG.o.f _ (by obtain ⟨q1,q2⟩:=Mp.1 hx;rw [<-q2];exact List.getElem_mem _)
    have H:=fun J (q:aq wr J)=>bO.o J (HB.o.trans (q.mono HB.o.size)) X1 Y1 x c1 c2 Z (r1.below q) (r2.below q)
    have av:=ur (sz:=i.cfg.sizes) (ps:=P) (q:=i.cfg.shift) (x:=x.1) (y:=x.2) Z.1 (by have:=HG.o.c.z.1.1;omega)
    have bb:bQ i.cfg.sizes (i.cfg.sizes.length-1)=n:=Hn.o
    rw [bb] at av
    have bi:=CW i.data B (k:=k) (by rw [Hm.o];exact V) hj hx
    have q1:¬((j:Int)<0):=ap
    have hN:=HN.o
    have q2:¬((i.data.length:Int)<=j):=ap
    have q3:(j:Int)<i.data.length:=ap
    obtain ⟨Hj,bz,b8,cb,bV⟩:=ah hj H av bi L
    obtain ⟨n1,ab⟩:∃n1,x.1.length=n1:=⟨_,rfl⟩
    obtain ⟨n2,b6⟩:∃n2,x.2.length=n2:=⟨_,rfl⟩
    rw [ab] at p1;rw [b6] at p2
    obtain ⟨c8,cf⟩:=ae ab b6;clear hj hx r1 r2 Z H av bb bi L hN ab b6
    go_upto_region 8 with (fail)
    clear b4 t0 t1 t2 t3 t4 t5 t6 t7 t8 t9 c6 bI cc bG cn tf
    have C:=ci.o
    dsimp only [aO] at C
    have u:(fun J:World=>J.heap[w.heap.size]?=some (.cells #[.slice A i.cfg.sizes.length c,MO i.cfg.shift,MO i.cfg.rate,MO i.cfg.mom,MO i.cfg.workers,MO i.cfg.batch,MO i.cfg.micros,MO i.cfg.steps,MO i.cfg.bucket,MO i.cfg.chunk,MO i.cfg.window,MO i.cfg.cap,.slice (some (ar bd od)) i.data.length cd,.slice T i.start.length ct,.slice R i.draws.length cr] 29 (0,0))/\J.cell? (ar bd (od+j*2))=some (.slice X1 n1 c1)/\J.cell? (ar bd (od+j*2+1))=some (.slice Y1 n2 c2)) wr.drew:=⟨C,p1,p2⟩
    refine HA.g (fun J:World=>J.heap[w.heap.size]?=some (.cells #[.slice A i.cfg.sizes.length c,MO i.cfg.shift,MO i.cfg.rate,MO i.cfg.mom,MO i.cfg.workers,MO i.cfg.batch,MO i.cfg.micros,MO i.cfg.steps,MO i.cfg.bucket,MO i.cfg.chunk,MO i.cfg.window,MO i.cfg.cap,.slice (some (ar bd od)) i.data.length cd,.slice T i.start.length ct,.slice R i.draws.length cr] 29 (0,0))/\J.cell? (ar bd (od+j*2))=some (.slice X1 n1 c1)/\J.cell? (ar bd (od+j*2+1))=some (.slice Y1 n2 c2)) ?_
    refine HA.t ?_ [0,1,2,4,5,6,7,8,9,10,11,12,13,14,15] u ?_
    refine HA.o 3 (fun K hK=>?_)
    clear C
    have I:=bo.o wr.drew
    dsimp only [aO] at I
    go_simp
    refine I.mono ?_
    clear I
    rintro e w3 ⟨rfl,Y⟩
    have b9:=LW ((Y.block _ bX).trans u.1) (LW (aw Y u.2.1) (aw Y u.2.2))
    have b3:=aa (show aq wr w3 from (LR _ wr).drew.trans Y);clear Y u
    dsimp only
    refine hK.out _ _ b9 (fun u=>?_)
    clear hK K b9
    refine HA.o 16 (fun K hK=>?_)
    have H:=bz.o w3 b3.o
    rw [c8.o,cf.o] at H
    go_simp
    refine H.mono ?_
    clear H
    rintro e w4 ⟨A4,c4,rfl,bv,a2⟩
    have bw:=LW ((a2.block _ (LN u.1)).trans u.1) (LW (aw a2 u.2.1) (aw a2 u.2.2))
    obtain ⟨b5,bM⟩:=ae (b3.o.trans (a2.mono b3.o.size)) bv;clear a2 u bv
    dsimp only
    refine hK.out _ _ bw (fun u=>?_)
    clear hK K bw
    refine HA.o 17 (fun K hK=>?_)
    go_simp
    have cl:=b5.o.size
    have bl:dA tK 1 (w4.alloc (.cells #[.slice As n cs,.slice A4 n c4] 26)) (some (ar w4.heap.size 0)) [eg i P (dK i.data (B.take k)),gS i.cfg.sizes P i.cfg.shift x.1 x.2]:=
     JU w4 _ _ As A4 n cs c4 _ _ rfl rfl (by rw [iG];exact Hn.o) b8.o bs (Rd.own (ay HO.o b5.o)) bM.o
    have O:=Ct (some (ar w4.heap.size 0)) [eg i P (dK i.data (B.take k)),gS i.cfg.sizes P i.cfg.shift x.1 x.2] 2 n _ _ bl (by simp) rfl (by rw [iG];exact Hn.o)
    have O:Calls prog 96 #[.slice (some (ar w4.heap.size 0)) 2 2] (w4.alloc (.cells #[.slice As n cs,.slice A4 n c4] 26)) _:=O
    have a6:=aa O;clear bl O
    refine hK.out _ _ ⟨fG u.1 _,aH u.2.1 _,aH u.2.2 _⟩ (fun u=>?_)
    clear hK K
    refine HA.o 18 (fun K hK=>?_)
    go_simp
    refine a6.o.mono ?_
    rintro e w5 ⟨v5,ok,rfl,a1,U⟩
    obtain ⟨rfl,ad⟩:=U (fun t y hy=>by
     match t,hy with
     | 0,hy=>injection hy with hy;rw [<-hy,iG];exact Hn.o
     | 1,hy=>injection hy with hy;rw [<-hy];exact b8.o)
    rw [Ek (by rw [iG];exact Hn.o) (xA _ _ _),<-vt,<-cb.o] at ad
    have be:=LW ((a1.block _ (LN u.1)).trans u.1) (LW (aw a1 u.2.1) (aw a1 u.2.2))
    have a9:aq wr w5:=(b5.o.alloc cl _).trans (a1.mono (by simp;omega))
    obtain ⟨bf,cj⟩:=ae (aE (base':=w.heap.size) ad (by simp;omega)) (co.o.trans (a9.mono ap))
    clear a1 a9 ad U u a6
    obtain ⟨A5,c5,rfl,_⟩:=aD bf.o
    dsimp only
    refine hK.out _ _ be (fun u=>?_)
    clear hK K be
    refine HA.t ?_ [19,20,21,22] u ?_
    refine HA.d ?_
    clear u p1 p2
    go_wp2_with fail
    go_roundw
    case rel=>
     refine ⟨k+1,V,by go_num,bf.o,aa fun t ht=>?_,cj.o⟩
     rcases Ma t k with h | h
     ·exact a7.out t h
     ·obtain rfl:t=k:=ap
      exact bV.o
    case measure=>exact Le V
   ·have aG:nth B k<0\/(i.data.length:Int)<=nth B k:=by
     have hN:=HN.o
     unfold jD at L;omega
    have b7:¬iY i B:=fun h=>L (by rw [<-HN.o];exact h k (by rw [Hm.o];exact V))
    have bA:=aa b7
    obtain ⟨z,hz⟩:∃z,nth B k=z:=⟨_,rfl⟩
    rw [hz] at b4 aG
    clear b7 L hz
    by_cases aM:z<0
    ·clear aG
     go_wp2_with fail
     go_ret2
     exact ⟨HB.o,.inr ⟨bA.o,rfl⟩⟩
    ·have cP:(i.data.length:Int)<=z:=ap
     clear aG
     go_wp2_with fail
     go_ret2
     exact ⟨HB.o,.inr ⟨bA.o,rfl⟩⟩
  ·obtain rfl:m=k:=ap
   go_wp2_with fail
   go_ret2
   refine ⟨HB.o,.inl ⟨fun j hj=>by rw [HN.o];exact a7.out j (by rw [<-Hm.o];exact hj),_,rfl,?_⟩⟩
   have:=HO.o
   rw [Hn.o]
   rwa [<-Hm.o,Mz] at this
theorem CD (c i m:Nat) (A:Option Addr) (l:List Int) (w:World) (hA:Rd w A (aA .u64 l)) (H:i<l.length) (hl:l.length<=17592186043904) (N:U64 l) (hm:1<=m) (Y:m<=1048576):
  Calls prog 167 #[.agg #[.slice A l.length c,MO i],MO m] w fun e Q=>e=.returned (.tuple #[.agg #[.slice A l.length c,MO ((i+1:Nat):Int)],MO (nth l i%m),.bool true])/\aq w Q:=by
 obtain ⟨h,u,rfl,p⟩:=hA.num H
 obtain ⟨x,O⟩:∃x,nth l i=x:=⟨_,rfl⟩
 have D:=N i H
 rw [O] at p D ⊢
 obtain ⟨n,hn⟩:∃n,l.length=n:=⟨_,rfl⟩
 rw [hn] at H hl ⊢
 have U:h<w.heap.size:=az p
 clear hn O N hA
 have a1:¬((m:Int)<1):=ap
 have a0:(i:Int)<n:=ap
 have L:¬((n:Int)<=i):=ap
 have hw:wrap64 (x%(m:Int))=x%(m:Int):=by
  have h1:=Int.emod_nonneg x (show (m:Int)≠0 by omega)
  have R:=Int.emod_lt_of_pos x (show (0:Int)<(m:Int) by omega)
  generalize x%(m:Int)=y at h1 R ⊢
  unfold wrap64;omega
 have Z:=aa hw;clear hw
 go_enter func167,ntmps167
 go_wp2_with fail
 go_region
 go_wp2_with fail
 have I:=LP (w.alloc (.cells #[.slice (some (ar h u)) n c,MO ((i:Int)+1)] 243)) (.cells #[.slice (some (ar h u)) n c,MO ((i:Int)+1)] 243)
 rw [show (w.alloc (.cells #[.slice (some (ar h u)) n c,MO ((i:Int)+1)] 243)).heap.size=w.heap.size+1 by simp] at I
 have hB:aq w ((w.alloc (.cells #[.slice (some (ar h u)) n c,MO ((i:Int)+1)] 243)).alloc (.cells #[.slice (some (ar h u)) n c,MO ((i:Int)+1)] 243)):=((LR _ w).alloc (LO _) _).alloc (by simp) _
 obtain ⟨C,B⟩:∃C,C=((w.alloc (.cells #[.slice (some (ar h u)) n c,MO ((i:Int)+1)] 243)).alloc (.cells #[.slice (some (ar h u)) n c,MO ((i:Int)+1)] 243)).drew:=⟨_,rfl⟩
 have e4:C.heap[w.heap.size+1]?=some (.cells #[.slice (some (ar h u)) n c,MO ((i:Int)+1)] 243 (0,0)):=by rw [B];exact I
 have J:aq w C:=by rw [B];exact hB.drew
 rw [<-B]
 clear B hB I
 obtain ⟨⟨V,T⟩,rf⟩:=bx2 e4
 rw [Z.o]
 exact L7 (v:=.tuple #[.agg #[.slice (some (ar h u)) n c,MO ((i:Int)+1)],MO (x%m),.bool true]) (by simp [results,results167,go_sem,V,T]) rfl ⟨by rw [Int.natCast_add];rfl,J⟩
theorem Lx {q n:Nat} (h:q<n) (i:n<=1048576):(q:Int)<=1048576:=ap
theorem Lw {q n k m:Nat} (h:n-1-k=q) (h1:k<m) (i:m<n):(q:Int)-1=(n:Int)-1-((k+1:Nat):Int):=ap
theorem Lv {q:Nat} (h:0<q):((q:Int)-1).toNat<(q:Int).toNat:=ap
theorem uZ (n c i:Nat) (A:Option Addr) (l:List Int) (w:World) (hA:Rd w A (aA .u64 l)) (hn:1<=n) (bz:n<=1048576) (hi:i+(n-1)<=l.length) (hl:l.length<=1048576) (hu:U64 l):
  Calls prog 140 #[MO n,.agg #[.slice A l.length c,MO i]] w fun e w'=>∃v,e=.returned (.tuple #[.agg #[.slice A l.length c,MO ((i+(n-1):Nat):Int)],v,.bool true])/\w'.ownsRow w.heap.size 3 1 v n (aA .i64 (fJ l n i))/\aq w w':=by
 obtain ⟨m,hm⟩:∃m,n-1=m:=⟨_,rfl⟩
 rw [hm] at hi ⊢
 have bA:fJ l n i=gq n (gK l n i) m:=by unfold fJ;rw [hm]
 rw [bA]
 have cf:m<n:=ap
 have cY:n<=m+1:=ap
 have aR:=fun w'=>np n w' hn bz
 rw [hm] at aR
 clear hm bA
 have y:=fun k (hk:k<m) w' (q:Rd w' A (aA .u64 l))=>CD c (i+k) (n-k) A l w' q ap ap hu ap ap
 obtain ⟨N,hN⟩:∃N,l.length=N:=⟨_,rfl⟩
 rw [hN] at hi hl y ⊢
 obtain ⟨HA,cv,cw,HN⟩:=ag hA y aR hN;clear hA y aR hu hN
 have aM:¬((n:Int)<0):=ap
 have bd:¬((1048576:Int)<n):=ap
 have bO:¬(((N:Int)-i)<m):=ap
 go_enter func140,ntmps140
 go_wp2_with fail
 have bI:IntKind.i64.wrap ((N:Int)-i)=(N:Int)-i:=LT _ ap
 go_quiet ((go_at_call 94;refine Calls.quiet_of ((cw.o _).mono fun e w' ⟨he,hw⟩=>⟨he,0,hw.symm⟩)))
 clear bI aM bd bO
 go_wp2_with fail
 rename_i h9 _ _
 clear h9
 have U:=(L0 (w.alloc (.cells #[.slice A N c,MO i] 243)) (.cells #[MP,MO 0] 243) w.heap.size (by simp)).trans (LP w _)
 have hy:=LP (w.alloc (.cells #[.slice A N c,MO i] 243)) (.cells #[MP,MO 0] 243)
 rw [show (w.alloc (.cells #[.slice A N c,MO i] 243)).heap.size=w.heap.size+1 by simp] at hy
 have hB:aq w ((w.alloc (.cells #[.slice A N c,MO i] 243)).alloc (.cells #[MP,MO 0] 243)):=((LR _ w).alloc (LO _) _).alloc (by simp) _
 obtain ⟨W0,Q⟩:∃W0,W0=((w.alloc (.cells #[.slice A N c,MO i] 243)).alloc (.cells #[MP,MO 0] 243)).drewN nq:=⟨_,rfl⟩
 have b7:W0.heap[w.heap.size]?=some (.cells #[.slice A N c,MO i] 243 (0,0)):=by rw [Q];exact U
 have aG:W0.heap[w.heap.size+1]?=some (.cells #[MP,MO 0] 243 (0,0)):=by rw [Q];exact hy
 have ao:aq w W0:=by rw [Q];exact LY hB _
 rw [<-Q]
 clear Q U hy hB
 have cP:=ao.size
 have cy:=LN aG
 obtain ⟨cL,bN,be⟩:=af b7 aG ao;clear b7 aG ao
 go_loopw [7,8] (fun v x wr=>∃k:Nat,k<=n/\x=MO k/\wr.ownsRow W0.heap.size 3 1 v k (aA .i64 (rW k))/\aq W0 wr) (fun _ x _=>n-(intOf x).toNat)
 case atStart=>exact ⟨0,LS _,rfl,LZ _ _ _ _,LR _ _⟩
 case round=>
  obtain ⟨k,hk,rfl,h,hb⟩:=hrel
  by_cases Z:k<n
  ·obtain ⟨Al,cl,rfl,_⟩:=aD h
   obtain ⟨bv,Hb⟩:=ae h hb;clear h hb
   go_wp2_with (at_builtin;refine aY iA _ rfl (.tmp 37) (.tmp 39) rfl W0.heap.size (.slice Al k cl) k _ rfl bv.o [MO (k:Int)] rfl rfl (cG .i64 [_]) ap (by unfold maxLen;omega) Hb.o.size ?_)
   intro g6 c6 w6 B bf cs
   have a1:=Hb.o.trans bf
   obtain ⟨ad,c7⟩:=ae B a1;clear B bf cs a1
   go_wp2_with fail
   go_roundw
   case rel=>
    refine ⟨k+1,by omega,by go_num,?_,c7.o⟩
    have:rW (k+1)=rW k++[(k:Int)]:=gY _ _
    rw [this,cQ];exact ad.o
   case measure=>simp [intOf];omega
  ·obtain rfl:n=k:=ap
   obtain ⟨g,c2,rfl,_⟩:=h.form hn
   obtain ⟨W1,rfl⟩:∃W1:World,W1=wr:=⟨_,rfl⟩
   have H:=(hb.block _ ap).trans cL.o
   have b4:=(hb.block _ cy).trans bN.o
   have bX:=h.lt g rfl
   have d1:=hb.size
   obtain ⟨b0,cn,av,bM⟩:=ag H b4 (be.o.trans (hb.mono be.o.size)) h;clear H b4 hb h
   go_wp2_with fail
   go_loopw [9] (fun x wr=>∃k:Nat,k<=m/\x=MO ((n:Int)-1-k)/\wr.heap[w.heap.size]?=some (.cells #[.slice A N c,MO ((i+k:Nat):Int)] 243 (0,0))/\wr.ownsRow W0.heap.size 3 1 (.slice (some (ar g 0)) n c2) n (aA .i64 (gq n (gK l n i) k))/\Keep (fun j=>j=w.heap.size\/j=g) W1 wr) (fun x _=>(intOf x).toNat)
   case atStart=>exact ⟨0,LS _,by go_num,b0.o,bM.o,Keep.refl _ _⟩
   case round=>
    obtain ⟨k,hk,rfl,U,h,hK⟩:=hrel
    by_cases Z:k<m
    ·obtain ⟨q,hq⟩:∃q,n-1-k=q:=⟨_,rfl⟩
     have b9:(n:Int)-1-k=(q:Int):=ap
     have aM:0<q:=ap
     have bd:(0:Int)<q:=ap
     have bs:Rd wr A (aA .u64 l):=hK.rd (HA.o.below av.o) (fun a ha e=>by
      obtain ⟨b,o,T,hc⟩:=HA.o.num (show 0<l.length by have:=HN.o;omega)
      rw [ha] at T;injection T with T;subst T
      have h5:b<w.heap.size:=az hc
      have h6:b=w.heap.size\/b=g:=e
      omega)
     have y:=cv.o k Z wr bs
     rw [<-uu l ap,show ((n-k:Nat):Int)=(q:Int)+1 by omega] at y
     have bb:=sB l (n:=n) (i:=i) (k:=k) ap
     obtain ⟨C,a4⟩:∃C,gK l n i k=C:=⟨_,rfl⟩
     rw [a4] at y bb
     obtain ⟨cd,O⟩:=ae (LV bX.2 hK.size) (show ¬g=w.heap.size by omega)
     have J:q<n:=ap
     have D:C<n:=ap
     have V:(C:Int)<n:=ap
     have a0:(q:Int)<n:=ap
     have bG:=LN U
     obtain ⟨⟨z0,z1⟩,zf⟩:=bx2 U
     simp only [Int.natCast_add,Int.cast_ofNat_Int] at y
     obtain ⟨bn,c9,HZ,HO,HK,Hq⟩:=ai y a4 U h hK hq
     rw [b9]
     have cA:wrap64 ((q:Int)+1)=(q:Int)+1:=by unfold wrap64;omega
     obtain ⟨a8,a3,cr,cb⟩:=ag J D V a0;clear y a4 U h hK bs hq b9 bb J D V a0
     go_wp2_with fail
     with_reducible refine bn.o.mono ?_
     rintro e w1 ⟨rfl,R⟩
     have H:=(R.block _ bG).trans HZ.o
     have I:=ay HO.o R
     have p1:=cE I a8.o
     have p2:=cE I a3.o
     have f1:=I.frozenAt q
     have f2:=I.frozenAt C
     clear z0 z1 zf
     obtain ⟨⟨z0,z1⟩,zf⟩:=bx2 H
     have bo:=LN H
     have a2:=R.size
     obtain ⟨b0,cc,bV,cM⟩:=ag H I R a2;clear H I R p1 p2 f1 f2;have cO:=aa (LV cd.o a2)
     go_upto_region 13 with (fail)
     clear z0 z1 zf
     have e1:=MM w1 w.heap.size 0 _ _ (.slice A N c) b0.o
     have T:=MM _ w.heap.size 1 _ _ (MO ((i:Int)+k+1)) e1
     have ab:Keep (fun j=>j=w.heap.size\/j=g) w1 (((w1.setCell (ar w.heap.size 0) (.slice A N c)).setCell (ar w.heap.size 1) (MO ((i:Int)+k+1))).alloc (.cells #[.slice A N c,MO ((i:Int)+k+1)] 243)):=(Keep.setCell (S:=fun j=>j=w.heap.size\/j=g) (Keep.setCell (S:=fun j=>j=w.heap.size\/j=g) (Keep.refl _ _) (ar w.heap.size 0) (.inr (.inl rfl)) _) (ar w.heap.size 1) (.inr (.inl rfl)) _).alloc _
     have e3:=(L0 ((w1.setCell (ar w.heap.size 0) (.slice A N c)).setCell (ar w.heap.size 1) (MO ((i:Int)+k+1))) (.cells #[.slice A N c,MO ((i:Int)+k+1)] 243) w.heap.size (by simpa using bo)).trans T
     have u:=((Keep.setCell (S:=fun j=>j=w.heap.size) (Keep.setCell (S:=fun j=>j=w.heap.size) (Keep.refl _ w1) (ar w.heap.size 0) (.inr rfl) (.slice A N c)) (ar w.heap.size 1) (.inr rfl) (MO ((i:Int)+k+1))).alloc (.cells #[.slice A N c,MO ((i:Int)+k+1)] 243)).own cc.o (fun j Y e=>O.o (by injection Y with Y;exact Y.trans e))
     obtain ⟨W5,bh⟩:∃W5,W5=((w1.setCell (ar w.heap.size 0) (.slice A N c)).setCell (ar w.heap.size 1) (MO ((i:Int)+k+1))).alloc (.cells #[.slice A N c,MO ((i:Int)+k+1)] 243):=⟨_,rfl⟩
     rw [<-bh] at e3 ab u ⊢
     clear bh e1 T
     have b5:=jX u
     have J:=a8.o;have D:=a3.o
     have p1:=cE u J
     have p2:=cE u D
     have f1:=u.frozenAt q
     have f2:=u.frozenAt C
     have a9:=vK (p:=gq n (gK l n i) k) (i:=q) (j:=C) (by rw [kr];exact J) (by rw [kr];exact D)
     have b2:gq n (gK l n i) (k+1)=swp (gq n (gK l n i) k) q C:=by rw [gq,Hq.o,c9.o]
     obtain ⟨sl,b8⟩:∃sl,gq n (gK l n i) k=sl:=⟨_,rfl⟩
     rw [b8] at u p1 p2 a9 b2
     obtain ⟨co,d3,d2,ci,ct,bl⟩:=ai u a9 J b2 ab e3
     have V:=cr.o;have a0:=cb.o
     clear u a9 b2 ab e3 b8 b5
     go_upto_region 14 with (fail)
     go_upto_region 15 with (fail)
     have B:=dS co.o q (nth sl C)
     have a7:Keep (fun j=>j=w.heap.size\/j=g) w1 (W5.setCell (ar g q) (MO (nth sl C))):=Keep.setCell (S:=fun j=>j=w.heap.size\/j=g) ct.o (ar g q) (.inr (.inr rfl)) _
     have a5:=((Keep.setCell (S:=fun j=>j=g) (Keep.refl _ W5) (ar g q) (.inr rfl) (MO (nth sl C))).block w.heap.size (LN bl.o) (fun e=>O.o e.symm)).trans bl.o
     obtain ⟨W6,b3⟩:∃W6,W6=W5.setCell (ar g q) (MO (nth sl C)):=⟨_,rfl⟩
     rw [<-b3] at B a7 a5 ⊢
     clear b3 p1 p2 f1 f2
     have D:=a3.o
     have p2:=cE B D
     have f2:=B.frozenAt C
     obtain ⟨ad,cx,bw⟩:=af B a7 a5;clear B a7 a5
     go_upto_region 10 with (fail)
     have d0:=Lx a8.o bz
     clear p2 f2 V a0 cA
     go_wp2_with fail
     go_roundw
     case rel=>
      refine ⟨k+1,Z,congrArg (Value.int .i64) (Lw Hq.o Z cf),?_,?_,?_⟩
      ·have h8:=(Keep.setCell (S:=fun j=>j=g) (Keep.refl _ W6) (ar g C) (.inr rfl) (MO (nth sl q))).block w.heap.size (LN bw.o) (fun e=>O.o e.symm)
       refine h8.trans (bw.o.trans ?_)
       simp [Int.add_assoc]
      ·rw [ci.o]
       exact dS ad.o C _
      ·exact HK.o.trans ((Keep.below bV.o).trans (Keep.setCell (S:=fun j=>j=w.heap.size\/j=g) cx.o (ar g C) (.inr (.inr rfl)) _))
     case measure=>exact Lv aM
    ·obtain rfl:m=k:=ap
     have a6:=(hK.block _ ap ap).trans cn.o
     have b1:aq w wr:=av.o.trans (hK.toBelow av.o.size (fun j Y=>ap))
     have e1:=MM wr (w.heap.size+1) 0 _ _ (.slice A N c) a6
     have T:=MM _ (w.heap.size+1) 1 _ _ (MO ((i:Int)+m)) e1
     have aP:Keep (fun j=>j=w.heap.size+1) wr ((wr.setCell (ar (w.heap.size+1) 0) (.slice A N c)).setCell (ar (w.heap.size+1) 1) (MO ((i:Int)+m))):=Keep.setCell (S:=fun j=>j=w.heap.size+1) (Keep.setCell (S:=fun j=>j=w.heap.size+1) (Keep.refl _ _) _ (.inr rfl) _) _ (.inr rfl) _
     have L:=aP.own h (fun j Y e=>by injection Y with Y;have h1:g=j:=Y;omega)
     obtain ⟨⟨z0,z1⟩,zf⟩:=bx2 U
     obtain ⟨⟨y0,y1⟩,yf⟩:=bx2 a6
     obtain ⟨c8,cj,E2⟩:=af L (b1.trans (aP.toBelow b1.size (fun j Y=>ap))) T;clear L b1 aP e1 T hK h U a6
     go_wp2_with fail
     have e3:=E2.o
     have L:=c8.o
     have b6:=cj.o
     obtain ⟨W9,bi⟩:∃W9,W9=(wr.setCell (ar (w.heap.size+1) 0) (.slice A N c)).setCell (ar (w.heap.size+1) 1) (MO ((i:Int)+m)):=⟨_,rfl⟩
     rw [<-bi] at e3 L b6 ⊢
     clear bi
     have e3:W9.heap[w.heap.size+1]?=some (.cells #[.slice A N c,MO ((i:Int)+m)] 243 (0,0)):=by simpa using e3
     clear y0 y1 yf z0 z1 zf
     obtain ⟨⟨r0,r1⟩,rf⟩:=bx2 e3
     exact L7 (v:=.tuple #[.agg #[.slice A N c,MO ((i:Int)+m)],.slice (some (ar g 0)) n c2,.bool true]) (by simp [results,results140,go_sem,r0,r1]) rfl ⟨_,by rw [Int.natCast_add],aE L ap,b6⟩
theorem vw (n bt sn:Nat) (w:World) (hb:1<=bt/\bt<=n) (hn:n<=1048576) (hs:sn<=1048576):
  Calls prog 139 #[MO n,MO bt,MO sn] w fun e R=>e=.returned (MO (epN n bt sn:Int))/\w=R:=by
 obtain ⟨p,u⟩:∃p,n/bt=p:=⟨_,rfl⟩
 have v:1<=p:=by rw [<-u];exact Nat.div_pos ap ap
 have D:p<=n:=by rw [<-u];exact Nat.div_le_self _ _
 have L:epN n bt sn=(sn+p-1)/p:=by unfold epN;rw [u,qL _ _ v]
 rw [L]
 have C:(sn+p-1)/p<=sn+p-1:=Nat.div_le_self _ _
 have y:=fun t=>Bw (sn:=sn) (t:=t) v
 have x:=fun t=>Bv (sn:=sn) (t:=t) v
 obtain ⟨E,B⟩:∃E,(sn+p-1)/p=E:=⟨_,rfl⟩
 rw [B] at C y x ⊢
 have Q:(n:Int).tdiv (bt:Int)=(p:Int):=by rw [<-u];rfl
 have O:(n:Int)/(bt:Int)=(p:Int):=by rw [<-u];rfl
 have T:¬(bt=0):=ap
 obtain ⟨I,H⟩:=ae y x;clear u L B y x
 go_enter func139,ntmps139
 go_wp2_with fail
 go_loopw [7,8] (fun t i wr=>∃k m:Nat,k<=E/\t=MO k/\i=MO m/\an (m=k*p)/\m<sn+p/\wr=w) (fun _ i _=>sn-(intOf i).toNat)
 case atStart=>exact ⟨0,0,LS _,rfl,rfl,aa ap,by omega,rfl⟩
 case round=>
  obtain ⟨k,m,hk,rfl,rfl,J,hm,rfl⟩:=hrel
  by_cases A:m<sn
  ·have N:(m:Int)<sn:=ap
   go_wp2_with fail
   go_roundw
   case rel=>exact ⟨k+1,m+p,I.o k (by rw [<-J.out];exact A),by go_num,by go_num,aa (by rw [J.out,MF]),by omega,trivial⟩
   case measure=>simp [intOf];omega
  ·obtain rfl:k=E:=by
    rcases Ma k E with h | h
    ·exact absurd (H.o k h) (by rw [<-J.out];exact A)
    ·omega
   go_wp2_with fail
   go_ret
   exact ⟨rfl,rfl⟩
theorem yX (n bt sn t c:Nat) (A:Option Addr) (Q:Nat) (w:World) (hb:1<=bt/\bt<=n) (hn:n<=1048576) (hs:sn<=1048576) (V:t<sn):
  Calls prog 99 #[.agg #[MO n,MO bt,MO sn,.slice A Q c],MO t] w fun e O=>e=.returned (.tuple #[MO (t/(n/bt):Nat),MO (t%(n/bt):Nat),.bool true])/\aq w O:=by
 obtain ⟨h,i⟩:∃h,n/bt=h:=⟨_,rfl⟩
 have B:1<=h:=by rw [<-i];exact Nat.div_pos ap ap
 have x:h<=n:=by rw [<-i];exact Nat.div_le_self _ _
 have N:(n:Int).tdiv (bt:Int)=(h:Int):=by rw [<-i];rfl
 have L:(n:Int)/(bt:Int)=(h:Int):=by rw [<-i];rfl
 rw [i]
 have y:t/h<=t:=Nat.div_le_self _ _
 have u:t%h<h:=Nat.mod_lt _ ap
 have D:(t:Int).tdiv (h:Int)=((t/h:Nat):Int):=rfl
 have o:(t:Int)/(h:Int)=((t/h:Nat):Int):=rfl
 have C:(t:Int).tmod (h:Int)=((t%h:Nat):Int):=rfl
 have p:(t:Int)%(h:Int)=((t%h:Nat):Int):=rfl
 obtain ⟨E,I⟩:∃E,t/h=E:=⟨_,rfl⟩
 obtain ⟨M,H⟩:∃M,t%h=M:=⟨_,rfl⟩
 rw [I] at y D o ⊢
 rw [H] at u C p ⊢
 have U:¬(bt=0):=ap
 have T:¬(h=0):=ap
 have R:¬((sn:Int)<=t):=ap
 have J:(t:Int)<sn:=ap
 clear i I H
 go_enter func99,ntmps99
 go_wp2_with fail
 go_quiet (fail)
 go_wp2_with fail
 exact L7 (v:=.tuple #[MO (E:Int),MO (M:Int),.bool true]) (by simp [results,results99,go_sem]) rfl ⟨rfl,LY ((LR _ w).alloc (LO _) _) _⟩
def mx (l:List Int) (n B k:Nat) (v:Value) (vs:List Value) (w:World):Prop:=w.ownsRow B 22 1 v k vs/\∀j,j<k->∃i h,vs[j]?=some (.slice i n h)/\n<=h/\w.ownsRow B 3 1 (.slice i n h) n (aA .i64 (fJ l n (j*(n-1))))
theorem mx.below {l:List Int} {n B k:Nat} {v:Value} {vs:List Value} {w i:World} (h:mx l n B k v vs w) (hb:aq w i):mx l n B k v vs i:=
 ⟨ay h.1 hb,fun j x=>by obtain ⟨A,y,o,p,u⟩:=h.2 j x;exact ⟨A,y,o,p,ay u hb⟩⟩
theorem mx.keep {l:List Int} {n B k:Nat} {v:Value} {vs:List Value} {S:Nat->Prop} {w p:World} (h:mx l n B k v vs w) (hk:Keep S w p) (u:∀k,S k->k<B):mx l n B k v vs p:=
 ⟨hk.own h.1 (fun j i e=>by have:=(h.1.lt j i).1;have:=u j e;omega),fun j i=>by
  obtain ⟨C,A,x,y,o⟩:=h.2 j i
  exact ⟨C,A,x,y,hk.own o (fun j i e=>by have:=(o.lt j i).1;have:=u j e;omega)⟩⟩
theorem mx.base {l:List Int} {n B i k:Nat} {v:Value} {vs:List Value} {w:World} (h:mx l n B k v vs w) (hb:i<=B):mx l n i k v vs w:=
 ⟨aE h.1 hb,fun j x=>by obtain ⟨A,y,o,p,u⟩:=h.2 j x;exact ⟨A,y,o,p,aE u hb⟩⟩
theorem mx.push {l:List Int} {n B k:Nat} {v v':Value} {vs:List Value} {w i:World} {A:Option Addr} {c:Nat} (h:mx l n B k v vs w) (hr:w.ownsRow B 3 1 (.slice A n c) n (aA .i64 (fJ l n (k*(n-1))))) (hc:n<=c)
  (x:i.ownsRow B 22 1 v' (k+1) (vs++[.slice A n c])) (hg:w.grownBy i v.ownBlock):mx l n B (k+1) v' (vs++[.slice A n c]) i:=
 ⟨x,fun j H=>by
  have o:vs.length=k:=by have:=h.1.1;simpa using this
  rcases Ma j k with q | q
  ·obtain ⟨D,C,p,u,y⟩:=h.2 j q
   exact ⟨D,C,by rw [Mr ap];exact p,u,ig y h.1 hg (by decide)⟩
  ·obtain rfl:j=k:=ap
   exact ⟨A,c,by rw [Ms ap,o];simp,hc,ig hr h.1 hg (by decide)⟩⟩
theorem mx.rd {l:List Int} {n B k c:Nat} {A:Option Addr} {vs:List Value} {w:World} (h:mx l n B k (.slice A k c) vs w) (hn:n<=1048576):dA zg 1 w A (iS l n k):=by
 have o:vs.length=k:=by have:=h.1.1;simpa using this
 refine vR (Rd.own h.1) (by rw [o,qp]) fun j x i=>?_
 have p:j<k:=by rw [<-qp l n k];exact (Mp.1 i).1
 rw [rH l n p] at i;injection i with i
 obtain ⟨D,C,u,v,y⟩:=h.2 j p
 refine ⟨_,u,D,C,?_,?_,?_,?_⟩
 ·rw [<-i,jd]
 ·rw [<-i,jd];exact v
 ·rw [<-i,jd];omega
 ·rw [<-i];exact Rd.own y
theorem Kh {k E m:Nat} (h:k<E) {N:Nat} (i:E*m<=N):k*m+m<=N:=by
 have h1:(k+1)*m<=E*m:=MN _ h
 rw [MF] at h1;omega
def Iy (l:List Int) (n b steps E:Nat) (w:World) (e:Ending) (h:World):Prop:=∃A c,e=.returned (.tuple #[.agg #[MO n,MO b,MO steps,.slice A E c],MO 0])/\(∃vs,mx l n w.heap.size E (.slice A E c) vs h)/\aq w h
theorem yN (n b steps E c:Nat) (A:Option Addr) (l:List Int) (w:World) (hA:Rd w A (aA .u64 l)) (hl:l.length<=1048576) (hu:U64 l) (hb:1<=b) (bo:b<=n) (hn:n<=1048576) (bG:steps<=1048576) (hE:epN n b steps=E) (hd:E*(n-1)<=l.length):
  Calls prog 95 #[MO n,MO b,MO steps,.slice A l.length c] w (Iy l n b steps E w):=by
 have ct:E<=steps:=by rw [<-hE];exact fE _ _
 have a5:=fun Y=>vw n b steps Y ⟨hb,bo⟩ hn bG
 rw [hE] at a5
 have a7:=fun Y=>np n Y ap hn
 obtain ⟨m,hm⟩:∃m,n-1=m:=⟨_,rfl⟩
 have p:=fun k Y (hk:k*m+m<=l.length) (q:Rd Y A (aA .u64 l))=>uZ n c (k*m) A l Y q ap hn (by rw [hm];exact hk) hl hu
 rw [hm] at hd a7
 simp only [hm] at p
 obtain ⟨N,hN⟩:∃N,l.length=N:=⟨_,rfl⟩
 rw [hN] at hd hl p ⊢
 have q1:¬((n:Int)<1):=ap
 have q2:¬((1048576:Int)<n):=ap
 have q3:¬((steps:Int)<0):=ap
 have q4:¬((1048576:Int)<steps):=ap
 have q5:¬((b:Int)<1):=ap
 have q6:¬((n:Int)<b):=ap
 have a2:(E:Int)*(m:Int)=((E*m:Nat):Int):=by push_cast;rfl
 have q7:¬((N:Int)<(E:Int)*(m:Int)):=by rw [a2];omega
 have q8:wrap64 ((E:Int)*(m:Int))=(E:Int)*(m:Int):=by rw [a2];unfold wrap64;omega
 obtain ⟨Q7,Q8⟩:=ae q7 q8;clear a2 q7 q8;obtain ⟨HA,bM,cf,c7,Hd,Hm,HN⟩:=aj hA a5 a7 p hd hm hN;clear hA a5 a7 p hd hu hE hb bo hm hN
 have D:=(L0 (w.alloc (.cells #[MO 0,MO 0,MO 0,MP] 128)) (.cells #[MO n,MO b,MO steps,MP] 128) w.heap.size (by simp)).trans (LP w _)
 have B:=LP (w.alloc (.cells #[MO 0,MO 0,MO 0,MP] 128)) (.cells #[MO n,MO b,MO steps,MP] 128)
 rw [show (w.alloc (.cells #[MO 0,MO 0,MO 0,MP] 128)).heap.size=w.heap.size+1 by simp] at B
 have hB:aq w ((w.alloc (.cells #[MO 0,MO 0,MO 0,MP] 128)).alloc (.cells #[MO n,MO b,MO steps,MP] 128)):=((LR _ w).alloc (LO _) _).alloc (by simp) _
 have u:((w.alloc (.cells #[MO 0,MO 0,MO 0,MP] 128)).alloc (.cells #[MO n,MO b,MO steps,MP] 128)).heap.size=w.heap.size+2:=by simp
 obtain ⟨HZ,HY,HB,av⟩:=ag D B hB u;clear D B hB u
 go_enter func95,ntmps95
 go_wp2_with fail
 refine (bM.o _).mono ?_
 rintro e Y ⟨rfl,rfl⟩
 clear q1 q2 q3 q4 q5 q6
 go_wp2_with fail
 refine (cf.o _).mono ?_
 rintro e Y ⟨rfl,rfl⟩
 have D:=HZ.o;have B:=HY.o;have hB:=HB.o;have u:=av.o
 generalize (w.alloc (.cells #[MO 0,MO 0,MO 0,MP] 128)).alloc (.cells #[MO n,MO b,MO steps,MP] 128)=W1 at D B hB u ⊢
 obtain ⟨b2,bl,O,i⟩:=ag D B hB u;clear D B hB u HZ HY HB av
 have q7:=Q7.o;have q8:=Q8.o
 go_wp2_with fail
 clear q7 q8
 rw [i.o]
 have H:=LP W1 (.cells #[.slice A N c,MO 0] 243)
 rw [i.o] at H
 have a4:=(L0 W1 (.cells #[.slice A N c,MO 0] 243) w.heap.size (by rw [i.o];omega)).trans b2.o
 have Z:=(L0 W1 (.cells #[.slice A N c,MO 0] 243) (w.heap.size+1) (by rw [i.o];omega)).trans bl.o
 have a1:=O.o.alloc (by rw [i.o];omega) (.cells #[.slice A N c,MO 0] 243)
 have ad:(W1.alloc (.cells #[.slice A N c,MO 0] 243)).heap.size=w.heap.size+3:=by simp [i.o]
 generalize W1.alloc (.cells #[.slice A N c,MO 0] 243)=W0 at H a4 Z a1 ad ⊢
 obtain ⟨HX,HZ,HY,HB,HS⟩:=ah H a4 Z a1 ad;clear H a4 Z a1 b2 bl O i W1
 go_loopw [13] (fun x wr=>∃(k:Nat) (U:Option Addr) (V:Nat) (vs:List Value),k<=E/\x=MO k/\wr.heap[w.heap.size+1]?=some (.cells #[MO n,MO b,MO steps,.slice U k V] 128 (0,0))/\
  wr.heap[w.heap.size+2]?=some (.cells #[.slice A N c,MO ((k*m:Nat):Int)] 243 (0,0))/\mx l n (w.heap.size+3) k (.slice U k V) vs wr/\Keep (fun j=>j=w.heap.size+1\/j=w.heap.size+2) W0 wr) (fun x _=>E-(intOf x).toNat)
 case atStart=>exact ⟨0,none,0,[],LS _,rfl,HY.o,by rw [Nat.zero_mul];exact HX.o,⟨LZ _ _ _ _,fun j R=>ap⟩,Keep.refl _ _⟩
 case round=>
  obtain ⟨k,U,V,vs,hk,rfl,B,H,hO,hK⟩:=hrel
  have a6:=hK.size
  rw [HS.o] at a6
  by_cases aP:k<E
  ·have cr:(k:Int)<E:=ap
   have bi:Rd wr A (aA .u64 l):=Jj hK HA.o (HA.o.below HB.o) (fun j R=>ap)
   have p:=c7.o k wr (Kh aP Hd.o) bi
   obtain ⟨T,HO,HK,bN,cd⟩:=ah p hO hK B H
   obtain ⟨⟨x0,x1⟩,xf⟩:=bx2 H
   have bA:=LN H
   clear p hO hK B H bi
   go_wp2_with fail
   refine T.o.mono ?_
   rintro e w1 ⟨v,rfl,C,y⟩
   obtain ⟨Av,cv,rfl,b5⟩:=aD C
   clear x0 x1 xf T
   have Q:=(y.block _ bA).trans cd.o
   have a8:=(y.block _ ap).trans bN.o
   have b9:=HO.o.below y
   have ao:=aE C a6
   have bd:=y.size
   obtain ⟨⟨x0,x1⟩,xf⟩:=bx2 Q
   have b4:=LN Q
   obtain ⟨c9,b6,bw,b3,O,bs,bX⟩:=aj Q a8 b9 ao y bd b5;clear Q a8 b9 ao y bd C b5
   go_upto_region 15 with (fail)
   obtain ⟨e2,k2⟩:=Em w1 (w.heap.size+2) (.slice A N c) (MO ((k:Int)*m+m)) c9.o
   have k5:=k2.alloc (.cells #[.slice A N c,MO ((k:Int)*m+m)] 243)
   have e5:=(L0 ((w1.setCell (ar (w.heap.size+2) 0) (.slice A N c)).setCell (ar (w.heap.size+2) 1) (MO ((k:Int)*m+m))) (.cells #[.slice A N c,MO ((k:Int)*m+m)] 243) (w.heap.size+2) (by simpa using b4)).trans e2
   generalize ((w1.setCell (ar (w.heap.size+2) 0) (.slice A N c)).setCell (ar (w.heap.size+2) 1) (MO ((k:Int)*m+m))).alloc (.cells #[.slice A N c,MO ((k:Int)*m+m)] 243)=W5 at k5 e5 ⊢
   have bO:=LU (LU a6 bs.o) k5.size
   have I:=(k5.block _ (LN b6.o) ap).trans b6.o
   have a9:=bw.o.keep k5 (fun j R=>ap)
   have b8:=k5.own b3.o (fun j R e=>by have:=(b3.o.lt j R).1;omega)
   have b0:Keep (fun j=>j=w.heap.size+1\/j=w.heap.size+2) W0 W5:=(HK.o.trans (Keep.below O.o)).trans (k5.mono fun j _ h=>.inr h)
   have ab:W5.heap[w.heap.size+2]?=some (.cells #[.slice A N c,MO ((((k+1)*m:Nat)):Int)] 243 (0,0)):=by rw [e5,MF];push_cast;rfl
   clear x0 x1 xf e2 k2 e5 k5
   obtain ⟨⟨y0,y1,y2,y3⟩,yf⟩:=bx4 I
   obtain ⟨c8,bI,aM,cj,cc⟩:=ah ab I a9 b8 b0
   have cn:=LN I
   clear ab I a9 b8 b0
   go_wp2_with (at_builtin;refine aY xI W5 rfl (.tmp 72) (.tmp 74) rfl (w.heap.size+3) (.slice U k V) k vs rfl aM.o.1 [.slice Av n cv] rfl rfl (by simp [Value.oneCell']) ap (by unfold maxLen;omega) bO ?_)
   intro g6 c6 w6 a3 L be
   have bh:=aM.o.push (by have h:=cj.o;rw [<-Hm.o] at h;exact h) bX.o a3 be
   have J:=(L.block _ ap).trans bI.o
   have bb:=(L.block _ ap).trans c8.o
   have aR:=cc.o.below2 (by rw [HS.o];exact L)
   have cl:g6≠w.heap.size+1:=fun e=>by
    have:=(a3.lt g6 rfl).1
    omega
   obtain ⟨⟨z0,z1,z2,z3⟩,zf⟩:=bx4 J
   have cs:=LN J
   obtain ⟨b7,bz,cb,ci⟩:=ag bb J bh aR;clear bb J bh aR a3 L be y0 y1 y2 y3 yf cl
   go_wp2_with fail
   go_roundw
   case rel=>
    have e1:=MM w6 (w.heap.size+1) 3 _ _ (.slice (some (ar g6 0)) (k+1) c6) bz.o
    have k1:Keep (fun j=>j=w.heap.size+1) w6 (w6.setCell (ar (w.heap.size+1) 3) (.slice (some (ar g6 0)) (k+1) c6)):=Keep.setCell (S:=fun j=>j=w.heap.size+1) (Keep.refl _ _) _ (.inr rfl) _
    exact ⟨k+1,some (ar g6 0),c6,_,aP,by go_num,by simpa using e1,(k1.block _ (LN b7.o) ap).trans b7.o,cb.o.keep k1 (fun j R=>ap),ci.o.trans (k1.mono fun j _ h=>.inl h)⟩
   case measure=>simp [intOf];omega
  ·obtain rfl:E=k:=ap
   have D:=(hK.block _ (by rw [HS.o];omega) ap).trans HZ.o
   have a0:aq w wr:=HB.o.trans (hK.toBelow (by rw [HS.o];omega) (fun j R=>ap))
   obtain ⟨e4,k4⟩:=El wr w.heap.size (MO n) (MO b) (MO steps) (.slice U E V) D
   have aG:=(hO.keep k4 (fun j R=>ap)).base (show w.heap.size<=w.heap.size+3 by omega)
   have bn:aq w ((((wr.setCell (ar w.heap.size 0) (MO n)).setCell (ar w.heap.size 1) (MO b)).setCell (ar w.heap.size 2) (MO steps)).setCell (ar w.heap.size 3) (.slice U E V)):=a0.trans (k4.toBelow a0.size (fun j R=>ap))
   obtain ⟨⟨y0,y1,y2,y3⟩,yf⟩:=bx4 B
   obtain ⟨⟨z0,z1,z2,z3⟩,zf⟩:=bx4 D
   obtain ⟨E4,bv,bV⟩:=af e4 aG bn;clear e4 k4 aG bn hO hK H B D a0
   go_wp2_with fail
   have e3:=E4.o
   have bf:=bv.o
   have b1:=bV.o
   generalize ((((wr.setCell (ar w.heap.size 0) (MO n)).setCell (ar w.heap.size 1) (MO b)).setCell (ar w.heap.size 2) (MO steps)).setCell (ar w.heap.size 3) (.slice U E V))=W9 at e3 bf b1 ⊢
   clear y0 y1 y2 y3 yf z0 z1 z2 z3 zf
   obtain ⟨⟨r0,r1,r2,r3⟩,rf⟩:=bx4 e3
   exact L7 (v:=.tuple #[.agg #[MO n,MO b,MO steps,.slice U E V],MO 0]) (by simp [results,results95,go_sem,r0,r1,r2,r3]) rfl ⟨_,_,rfl,⟨_,bf⟩,b1⟩
def epI (i:Inp):Nat:=epN i.data.length i.cfg.batch.toNat i.cfg.steps.toNat
def DX (i:Inp) (w:World) (e:Ending) (h:World):Prop:=∃A c,e=.returned (.agg #[MO i.data.length,MO i.cfg.batch,MO i.cfg.steps,.slice A (epI i) c])/\(∃vs,mx i.draws i.data.length w.heap.size (epI i) (.slice A (epI i) c) vs h)/\aq w h
theorem vW (A:Option Addr) (c:Nat) (D:Option Addr) (cd:Nat) (T:Option Addr) (ct:Nat) (R:Option Addr) (O:Nat) (i:Inp) (w:World) (hg:lL i) (hR:Rd w R (aA .u64 i.draws)) (V:i.draws.length<=1048576) (hu:U64 i.draws):
  Calls prog 60 #[.agg (aO A c D cd T ct R O i)] w (DX i w):=by
 have a1:=hg.b
 have Q:=hg.d
 have a4:1<=i.cfg.batch:=by have:=hg.c.w;have:=hg.c.ba;omega
 have a2:=hg.c.st
 have y:=fun w' (q:aq w w')=>yN i.data.length i.cfg.batch.toNat i.cfg.steps.toNat (epI i) O R i.draws w' (hR.below q) V hu ap ap a1.2 ap rfl Q
 rw [Int.toNat_of_nonneg (show 0<=i.cfg.batch by omega),Int.toNat_of_nonneg (show 0<=i.cfg.steps by omega)] at y
 have H:(w.alloc (.cells (aO A c D cd T ct R O i) 29)).heap.size=w.heap.size+1:=by simp
 have Y:=lI w (aO A c D cd T ct R O i) 29 rfl
 have Z:aq w (w.alloc (.cells (aO A c D cd T ct R O i) 29)):=(LR _ w).alloc (LO _) _
 have p:=fG Y (.cells #[MO 0,MO 0,MO 0,MP] 128)
 have x:=lI _ #[MO 0,MO 0,MO 0,MP] 128 H
 have h:=Z.alloc (by rw [H];omega) (.cells #[MO 0,MO 0,MO 0,MP] 128)
 obtain ⟨W1,I⟩:∃W1,W1=(w.alloc (.cells (aO A c D cd T ct R O i) 29)).alloc (.cells #[MO 0,MO 0,MO 0,MP] 128):=⟨_,rfl⟩
 rw [<-I] at p x h
 have Hq:=aa (show 0<=i.cfg.batch/\0<=i.cfg.steps by omega)
 obtain ⟨HX,HY,HB,a0⟩:=ag p x h y;clear Y p x h y Z H a1 Q a4 a2 hu V hR hg
 dsimp only [aO] at I
 go_enter func60,ntmps60
 dsimp only [aO]
 go_wp2_with fail
 rw [<-I]
 refine (a0.o W1 HB.o).mono ?_
 rintro e w2 ⟨N,c2,rfl,⟨vs,hO⟩,h⟩
 have C:=(h.block _ (LN HY.o)).trans HY.o
 have L:=HB.o.trans (h.mono HB.o.size)
 rw [Int.toNat_of_nonneg Hq.o.1,Int.toNat_of_nonneg Hq.o.2]
 obtain ⟨e4,k4⟩:=El w2 (w.heap.size+1) (MO i.data.length) (MO i.cfg.batch) (MO i.cfg.steps) (.slice N (epI i) c2) C
 have U:=fG e4 (.cells #[MO i.data.length,MO i.cfg.batch,MO i.cfg.steps,.slice N (epI i) c2] 128)
 have J:=L.trans (k4.toBelow L.size (fun j hj=>ap))
 have B:=J.alloc J.size (.cells #[MO i.data.length,MO i.cfg.batch,MO i.cfg.steps,.slice N (epI i) c2] 128)
 have u:=((hO.keep k4 (fun j hj=>by have:=LN HY.o;omega)).base HB.o.size).below ((LR _ _).alloc (LO _) (.cells #[MO i.data.length,MO i.cfg.batch,MO i.cfg.steps,.slice N (epI i) c2] 128))
 have ly:=LN C
 obtain ⟨⟨y0,y1,y2,y3⟩,yf⟩:=bx4 C
 obtain ⟨E5,a3,a5⟩:=af U B u;clear e4 k4 U J B u hO h L C
 go_wp2_with fail
 have U:=E5.o;have B:=a3.o;have u:=a5.o
 generalize ((((w2.setCell (ar (w.heap.size+1) 0) (MO i.data.length)).setCell (ar (w.heap.size+1) 1) (MO i.cfg.batch)).setCell (ar (w.heap.size+1) 2) (MO i.cfg.steps)).setCell (ar (w.heap.size+1) 3) (.slice N (epI i) c2)).alloc (.cells #[MO i.data.length,MO i.cfg.batch,MO i.cfg.steps,.slice N (epI i) c2] 128)=W9 at U B u ⊢
 clear y0 y1 y2 y3 yf
 obtain ⟨⟨r0,r1,r2,r3⟩,rf⟩:=bx4 U
 exact L7 (v:=.agg #[MO i.data.length,MO i.cfg.batch,MO i.cfg.steps,.slice N (epI i) c2]) (by simp [results,results60,go_sem,r0,r1,r2,r3]) rfl ⟨_,_,rfl,⟨_,u⟩,B⟩
end Go.Proofs.YtgmajkppbhiopaaGreat
