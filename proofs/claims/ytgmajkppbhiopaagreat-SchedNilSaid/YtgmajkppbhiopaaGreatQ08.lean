/- No condition. -/
import Derived.Test.YtgmajkppbhiopaaGreatQ07
import Derived.Deep.RegionLaw
set_option linter.unusedSimpArgs false
set_option linter.unusedVariables false
set_option maxRecDepth 100000
set_option maxHeartbeats 4000000
namespace Go.Proofs.YtgmajkppbhiopaaGreat
open Go.RowKit
open Tryz
def fG (w:Qd) (vs:Qb) (i:Inp) (x:Nat) (m:Mst):Prop:=∃A c D H T v R J h y o p C u B I IA ic,vs=#[.slice A i.cfg.sizes.length c,OH i.cfg.shift,OH i.cfg.rate,OH i.cfg.mom,OH i.cfg.workers,OH i.cfg.batch,OH i.cfg.micros,OH i.cfg.steps,OH i.cfg.bucket,OH i.cfg.chunk,OH i.cfg.window,OH i.cfg.cap,.slice D i.data.length H,.slice T i.start.length v,.slice R i.draws.length J,OH (x:Nat),.slice h i.start.length y,.slice o i.start.length p,.slice C i.start.length u,.slice B m.rc.length I,.slice IA (dq i x).length ic,OH (bq i x m:Nat)]/\
 fY w A c D T v R i/\cB w h m.P y/\cB w o m.M p/\cB w C m.G u/\de rEx 2 w B m.rc/\Rd w IA (cC (dq i x))/\m.P.length=i.start.length/\m.M.length=i.start.length/\m.G.length=i.start.length
theorem fG.below {w o:Qd} {vs:Qb} {i:Inp} {x:Nat} {m:Mst} (h:fG w vs i x m) (hb:aq w o):fG o vs i x m:=by
 obtain ⟨A,c,D,N,T,Z,R,J,y,U,u,C,L,O,SA,Y,IA,ic,v,h1,p,Q,B,I,V,H⟩:=h;exact ⟨A,c,D,N,T,Z,R,J,y,U,u,C,L,O,SA,Y,IA,ic,v,h1.below hb,p.below hb,Q.below hb,B.below hb,I.below dE hb,V.below hb,H⟩
theorem rP {i:Inp} (h:cq i) (x:Nat) {k:Nat} (hk:k<=i.cfg.steps.toNat):(iL i x k).length<=48000000:=by
 rw [lV h.ok];have h1:=nI h.ok x 0;have o:k<=6:=by have:=h.s;omega
 have:=Nat.mul_le_mul o h1;omega
theorem rF (n:Nat):W64 (List.replicate n 0):=by
 intro k hk;rw [dd _ _ hk];simp
def Nv (i:Inp) (x:Nat) (A:N_) (c:Nat) (D:N_) (T:N_) (p:Nat) (R:N_) (w:Qd) (e:Ending) (o:Qd):Prop:=
 ∃vs,e=.returned (.tuple #[.agg vs,OH 0])/\vs.size=22/\(vs.toList.all (·.oneCell')=true)/\aq w o/\∀h,Keep (fun k=>k<w.heap.size) o h->fY h A c D T p R i->fG h vs i x (fO i)
theorem IS (l:List Itm):∀u∈cC l,u.oneCell'=true:=by
 intro u i;unfold cC at i;obtain ⟨x,_,h⟩:=List.mem_flatMap.1 i;obtain ⟨k,s,n,a⟩:=x
 cases a<;>simp only [bj,JT,aZ,List.mem_cons,List.not_mem_nil,or_false] at h<;>(repeat (first | (rcases h with rfl | h; · rfl) | (subst h;rfl)))
theorem LZ {A:N_} {c:Nat} {D:N_} {Y:Nat} {T:N_} {p:Nat} {R:N_} {Q:Nat} {i:Inp} {x:Nat} {w I o:Qd} {C:N_} {g rb:Nat} {v:Value} (hn:i.start.length<=60) (O:Keep (fun k=>k<w.heap.size) I o) (L:fY o A c D T p R i) (oM:I.ownsRow w.heap.size 2 1 (.slice C i.start.length i.start.length) i.start.length (aA .i64 (List.replicate i.start.length 0))) (oG:I.ownsRow w.heap.size 2 1 (.slice (some (ar g 0)) i.start.length i.start.length) i.start.length (aA .i64 (List.replicate i.start.length 0))) (hr:I.heap[rb]?=some (.cells #[.slice T i.start.length p,.slice C i.start.length i.start.length] 103 (0,0))) (hrb:w.heap.size<=rb) (V:I.ownsRow w.heap.size 191 12 v (dq i x).length (cC (dq i x))):fG o #[.slice A i.cfg.sizes.length c,OH i.cfg.shift,OH i.cfg.rate,OH i.cfg.mom,OH i.cfg.workers,OH i.cfg.batch,OH i.cfg.micros,OH i.cfg.steps,OH i.cfg.bucket,OH i.cfg.chunk,OH i.cfg.window,OH i.cfg.cap,.slice D i.data.length Y,.slice T i.start.length p,.slice R i.draws.length Q,OH (x:Nat),.slice T i.start.length p,.slice C i.start.length i.start.length,.slice (some (ar g 0)) i.start.length i.start.length,.slice (some (ar rb 0)) 1 1,v,OH 0] i x (fO i):=by
 obtain ⟨IA,ic,rfl,_⟩:=aC V;have H:∀{u:Value} {e size n xs},I.ownsRow w.heap.size e size u n xs->o.ownsRow w.heap.size e size u n xs:=fun h=>O.own h fun k hk e=>by have:=(h.lt k hk).1;omega
 have Z:bq i x (fO i)=0:=by simp [bq,fO]
 have B:(List.replicate i.start.length (0:Int)).length<=i.start.length:=by simp
 have U:cB o C (List.replicate i.start.length 0) i.start.length:=⟨B,by rw [Ol];omega,Rd.own (H oM),rF _⟩;have J:o.heap[rb]?=some (.cells #[.slice T i.start.length p,.slice C i.start.length i.start.length] 103 (0,0)):=(O.block _ (NE hr) ap).trans hr;refine ⟨A,c,D,Y,T,p,R,Q,T,p,C,i.start.length,some (ar g 0),i.start.length,some (ar rb 0),1,IA,ic,?_,L,L.t,U,⟨B,by show (List.replicate i.start.length (0:Int)).length<=_;rw [Ol];omega,Rd.own (H oG),rF _⟩,?_,Rd.own (H V),rfl,by simp [fO],by simp [fO]⟩
 ·rw [Z];rfl
 ·refine ⟨[[.slice T i.start.length p,.slice C i.start.length i.start.length]],fun k u hu=>⟨_,_,rfl,by rw [Oz,NH _ rb k _ _ _ J];simpa using hu⟩,rfl,by simp,?_⟩;intro j y N
  cases j with
  | succ j=>simp [fO] at N
  | zero=>
   simp only [fO,Oa,Option.some.injEq] at N;subst N;exact ⟨T,p,C,i.start.length,by simp [bZ],L.t,U⟩
theorem LY {h V i:Qd} {n g rb b:Nat} {X:Obj} {Z:Qb} {xs:Qc} (x:aq h V) (v:V.ownsRow h.heap.size 2 1 (.slice (some (ar g 0)) n n) n xs) {Y:Qb} (hr:V.heap[rb]?=some (.cells Y 103 (0,0))) (hb:h.heap.size<=rb) (u:V.heap[b]?=some (.cells Z 106 (0,0))) (o:h.heap.size<=b) (A:i.heap[b]?=some X) (p:Keep (fun j=>j=b) V i):i.heap[b]?=some X/\i.ownsRow h.heap.size 2 1 (.slice (some (ar g 0)) n n) n xs/\i.heap[rb]?=some (.cells Y 103 (0,0))/\h.heap.size<=rb/\h.heap.size<=b/\aq h i:=by
 refine ⟨A,p.own v (fun k hk e=>ax u (by decide) v (by rw [hk,e])),(p.block _ (NE hr) (fun e=>?_)).trans hr,hb,o,x.trans (p.toBelow x.size (fun j y=>by rw [y];exact o))⟩;rw [<-e,hr] at u;simp at u
theorem AH (A:N_) (c:Nat) (D:N_) (cd:Nat) (T:N_) (B:Nat) (R:N_) (cr:Nat) (i:Inp) (x:Nat) (w:Qd) (h:fY w A c D T B R i) (hs:cq i) (hx:x<(az i).W):Calls prog 46 #[.agg (aN A c D cd T B R cr i),OH (x:Nat)] w (Nv i x A c D T B R w):=by
 have hc:=hs.g.c;have ew:(((az i).W:Nat):Int)=i.cfg.workers:=by have:=hc.w;simp only [az];omega
 have em:(((az i).mi:Nat):Int)=i.cfg.micros:=by have:=hc.mi;simp only [az];omega
 have eu:(((az i).bu:Nat):Int)=i.cfg.bucket:=by have:=hc.bu;simp only [az];omega
 have ec:(((az i).ck:Nat):Int)=i.cfg.chunk:=by have:=hc.ch;simp only [az];omega
 have ei:(((az i).wi:Nat):Int)=i.cfg.window:=by have:=hc.wi;simp only [az];omega
 have en:(az i).n=i.start.length:=rfl;obtain ⟨s,a4⟩:∃s:Nat,i.cfg.steps=(s:Int):=⟨i.cfg.steps.toNat,by have:=hc.st;omega⟩;have bd:i.cfg.steps.toNat=s:=ap;have bG:s<=6:=by have:=hs.s;omega
 have hn:=hs.n;have bO:¬i.cfg.workers<=(x:Int):=ap;have bN:¬(x:Int)<0:=ap;have a2:=fun k (hk:k<=s)=>rP hs x (k:=k) ap;have bb:=fun st=>nI hs.ok x st;have N:=fun p=>Ay T i.start.length B p ap;have Z:=fun p=>kz A i.cfg.sizes.length c i.cfg.shift i.cfg.rate i.cfg.mom i.cfg.workers i.cfg.batch i.cfg.micros i.cfg.steps i.cfg.bucket i.cfg.chunk i.cfg.window i.cfg.cap D i.data.length cd T i.start.length B R i.draws.length cr p;have H:=fun k (hk:k<s) p=>DJ (az i) k s x A i.cfg.sizes.length c i.cfg.shift i.cfg.rate i.cfg.mom i.cfg.batch i.cfg.cap p hs.ok (by have:=hc.bu;simp only [az];omega) (by have:=hc.wi;simp only [az];omega) hx hk;rw [<-a4] at H;simp only [ew,em,eu,ec,ei,en] at H;have bz:(x:Int)<=1048576:=by have:=hc.w;omega
 obtain ⟨W0,W1,aR,aP,g0,g1,k1, -⟩:=gn w (aN A c D cd T B R cr i) ON 29 106;have a7:=gD A c D cd T B R cr i W1 (h.below k1);rw [qd.2 hs.g] at a7;obtain ⟨b9,b5,bh,G0,G1,K1,a0,a5⟩:=ak aR aP a7 g0 g1 k1 N Z;obtain ⟨a6,ad,bX,HT,a8,Hh,Hc⟩:=aj H a2 bb bd a4 h hc;have t4:∀p,aq W1 p->p.cell? (ar w.heap.size 4)=some (OH i.cfg.workers):=fun p q=>NH p w.heap.size 4 _ _ _ (sb g0 p q);have a3:∀p,aq W1 p->p.cell? (ar w.heap.size 13)=some (.slice T i.start.length B):=fun p q=>NH p w.heap.size 13 _ _ _ (sb g0 p q);have tl:=sl g0;have q0:=br W1;clear aR aP g0 g1 a7 h k1 N Z H a2 bb bd a4 ew em eu ec ei en hs hc;go_enter func46,ntmps46;go_wp2_with (refine aK (b:=w.heap.size) (aN A c D cd T B R cr i) (by rw [b9.o,b5.o];exact G0.o) dY rfl rfl rfl rfl ?_);rw [b9.o,b5.o];refine bh.o.mono ?_;rintro e w1 ⟨rfl,k2⟩;have q1:=bt q0 k2;clear k2 q0;go_wp2_with fail;refine (a0.o w1).mono ?_;rintro e w2 ⟨Y,rfl,aM,O⟩;have q2:=bt q1 O;have O2:=aa (aE aM q1.size);clear aM O q1;obtain ⟨I,Q⟩:∃I,w2.alloc (.cells #[.slice T i.start.length B,.slice Y i.start.length i.start.length] 103)=I:=⟨_,rfl⟩;have O:aq w2 I:=by rw [<-Q];exact (br w2).alloc (NF _) _
 have g3:I.heap[w2.heap.size]?=some (.cells #[.slice T i.start.length B,.slice Y i.start.length i.start.length] 103 (0,0)):=by rw [<-Q];exact NG w2 _
 obtain ⟨Q3,c6,G3,O3⟩:=ag (bt q2 O) Q g3 (ay O2.o O);go_wp2_with fail;clear g3 O Q q2
 go_cut [8] (fun v wx=>∃C g rb,v=(au C)/\wx.heap[C]?=some (.cells #[.slice A i.cfg.sizes.length c,OH i.cfg.shift,OH i.cfg.rate,OH i.cfg.mom,OH i.cfg.workers,OH i.cfg.batch,OH i.cfg.micros,OH i.cfg.steps,OH i.cfg.bucket,OH i.cfg.chunk,OH i.cfg.window,OH i.cfg.cap,.slice D i.data.length cd,.slice T i.start.length B,.slice R i.draws.length cr,OH (x:Nat),.slice T i.start.length B,.slice Y i.start.length i.start.length,.slice (some (ar g 0)) i.start.length i.start.length,.slice (some (ar rb 0)) 1 1,OJ,OH 0] 106 (0,0))/\wx.ownsRow I.heap.size 2 1 (.slice (some (ar g 0)) i.start.length i.start.length) i.start.length (aA .i64 (List.replicate i.start.length 0))/\wx.heap[rb]?=some (.cells #[.slice T i.start.length B,.slice Y i.start.length i.start.length] 103 (0,0))/\I.heap.size<=rb/\I.heap.size<=C/\aq I wx)
 case first=>
  have s7:=fun p q=>bx2 (sb G3.o p q);have bi:=sl G3.o;have b0:=fun p (q:aq I p)=>a3 p (bt Q3.o q);have bn:=fun p (q:aq I p)=>tl p (bt Q3.o q);clear t4 a3 tl;have q3:aq I I.drew:=(br I).drew;refine HA.g (fun p:Qd=>aq I p) ?_;refine HA.ld 0 (aN A c D cd T B R cr i) (fun p q=>sb G0.o p (bt Q3.o q)) dY q3 ?_;refine HA.t ?_ [1,2,3,4,5,7] q3 ?_;obtain ⟨U,hU⟩:∃U,I.drew=U:=⟨_,rfl⟩;rw [hU] at q3 ⊢;clear hU;have q:=q3;clear q3
  repeat' first
   | (refine HA.three 6 8 10 ?_ ?_ ?_)
   | (refine HA.two 8 10 ?_ ?_)
   | (refine HA.two 6 10 ?_ ?_)
   | (refine HA.two 6 8 ?_ ?_)
   | (refine HA.sole 6 ?_)
   | (refine HA.sole 8 ?_)
   | (refine HA.sole 10 ?_)
   | (obtain ⟨V,hV,oG,L⟩:=m6 ke U rfl i.start.length ap (by unfold maxLen;omega);rw [fp] at oG;replace oG:=aE oG q.size;replace q:=q.trans (L.mono q.size);(try replace gR:=sb gR _ L);(try replace gB:=sb gB _ L);refine HAS.v (i:=6) V (.slice (some (ar U.heap.size 0)) i.start.length i.start.length) q ?_;clear hV L;obtain ⟨U,rfl⟩:∃U,U=V:=⟨_,rfl⟩)
   | (have bs:=q.size;have L:=(br U).alloc (NF _) (.cells #[.slice T i.start.length B,.slice Y i.start.length i.start.length] 103);have gR:=NG U (.cells #[.slice T i.start.length B,.slice Y i.start.length i.start.length] 103);(try replace oG:=ay oG L);(try replace gB:=sb gB _ L);replace q:=q.alloc q.size (.cells #[.slice T i.start.length B,.slice Y i.start.length i.start.length] 103);refine HAS.v (i:=8) (U.alloc (.cells #[.slice T i.start.length B,.slice Y i.start.length i.start.length] 103)) (.slice (some (ar U.heap.size 0)) 1 1) q ?_;obtain ⟨V,hv⟩:∃V,U.alloc (.cells #[.slice T i.start.length B,.slice Y i.start.length i.start.length] 103)=V:=⟨_,rfl⟩;rw [hv] at L gR q ⊢;(try rw [hv] at oG);(try rw [hv] at gB);clear hv L;obtain ⟨U,rfl⟩:∃U,U=V:=⟨_,rfl⟩)
   | (have bo:=q.size;have L:=(br U).alloc (NF _) (.cells ON 106);have gB:=NG U (.cells ON 106);(try replace oG:=ay oG L);(try replace gR:=sb gR _ L);replace q:=q.alloc q.size (.cells ON 106);refine HAS.v (i:=10) (U.alloc (.cells ON 106)) ((au U.heap.size)) q ?_;obtain ⟨V,hv⟩:∃V,U.alloc (.cells ON 106)=V:=⟨_,rfl⟩;rw [hv] at L gB q ⊢;(try rw [hv] at oG);(try rw [hv] at gR);clear hv L;obtain ⟨U,rfl⟩:∃U,U=V:=⟨_,rfl⟩)
   | (refine HA.t ?_ [9] q ?_)
   | (refine HA.st 11 gB dX (fun w9 e9 k9=>?_);have F:=LY q oG gR bs gB bo e9 k9;refine ⟨F.2.2.2.2.2,HA.d ?_⟩;clear s7 bi b0 bn e9 k9;have HF:=aa F;clear F;go_wp2_with fail;go_meet;exact ⟨_,_,_,rfl,HF.o⟩)
   | fail
 case rest=>
  obtain ⟨C,g,rb,rfl,h8,oG,hR,hrb,bM,hB⟩:=hcut;have qc:=bt Q3.o hB;have c9:=tl W1 (br W1);have bA:=NE G1.o;have Q:=Q3.o.size;have gI:=sb G0.o wc qc;have kI:=fun p (q:Keep (fun j=>j=C) wc p)=>(q.block w.heap.size (tl wc qc) ap).trans gI;have j7:∀p,Keep (fun j=>j=C) wc p->p.cell? (ar w.heap.size 7)=some (OH i.cfg.steps):=fun p q=>NH p w.heap.size 7 _ _ _ (kI p q);have be:=NE h8;have gZ:=sb G1.o wc qc;obtain ⟨H8,OG,HR,HB,KI,GZ⟩:=ai h8 oG hR hB kI gZ;have bw:=Keep.refl (fun j=>j=C) wc;have b3:w.heap.size<wc.heap.size:=tl wc qc;clear t4 a3 tl h8 oG hR hB gI kI gZ qc;go_wp2_with fail;clear bw
  go_loopw [9] (fun y wr=>∃k:Nat,k<=s/\y=OH k/\∃v,wr.heap[C]?=some (.cells #[.slice A i.cfg.sizes.length c,OH i.cfg.shift,OH i.cfg.rate,OH i.cfg.mom,OH i.cfg.workers,OH i.cfg.batch,OH i.cfg.micros,OH i.cfg.steps,OH i.cfg.bucket,OH i.cfg.chunk,OH i.cfg.window,OH i.cfg.cap,.slice D i.data.length cd,.slice T i.start.length B,.slice R i.draws.length cr,OH (x:Nat),.slice T i.start.length B,.slice Y i.start.length i.start.length,.slice (some (ar g 0)) i.start.length i.start.length,.slice (some (ar rb 0)) 1 1,v,OH 0] 106 (0,0))/\wr.ownsRow wc.heap.size 191 12 v (iL i x k).length (cC (iL i x k))/\Keep (fun j=>j=C) wc wr) (fun y _=>s-(intOf y).toNat)
  ·exact ⟨0,NJ _,rfl,_,H8.o,by simpa [iL,cC] using NV _ _ _ _,Keep.refl _ _⟩
  case round=>
   obtain ⟨k,hk,rfl,v,e8,oI,qk⟩:=hrel;by_cases aG:k<s
   ·have bf:(k:Int)<i.cfg.steps:=by rw [a8.o];omega
    have bI:IntKind.i64.wrap ((k:Int)+1)=((k+1:Nat):Int):=by rw [NK _ ap];push_cast;rfl
    have a9:∀j,j<wc.heap.size->¬v.ownBlock=some j:=fun j J e=>by have:=(oI.lt j e).1;omega
    have kb:=fun p (q:Keep (fun j=>v.ownBlock=some j) wr p)=>(q.block C (NE e8) (a9 C be)).trans e8;have kj:=fun p (q:Keep (fun j=>v.ownBlock=some j) wr p)=>(q.block w.heap.size (NQ b3 qk.size) (a9 _ b3)).trans (KI.o wr qk);obtain ⟨KB,KJ,OI,QK⟩:=ag kb kj oI qk;go_wp2_with fail;clear j7 qk;have ab:∀p,Keep (fun j=>v.ownBlock=some j) wr p->p.cell? (ar C 20)=some v:=fun p q=>NH p C 20 _ _ _ (KB.o p q);have q0:Keep (fun j=>v.ownBlock=some j) wr wr.drew:=(Keep.refl _ _).drew;refine XA.g 8 (fun p:Qd=>Keep (fun j=>v.ownBlock=some j) wr p) ?_;refine XA.t ?_ [0,1,4,5] q0 ?_;refine XA.ld 2 (aN A c D cd T B R cr i) (fun p q=>KJ.o p q) dY q0 ?_;refine XA.c 3 (a5.o _) ?_;rintro e w3 ⟨rfl,O⟩;refine ⟨_,rfl,q0.trans (Keep.below O),fun _=>?_⟩;have q3:=q0.trans (Keep.below (S:=fun j=>v.ownBlock=some j) O);refine XA.c 6 (a6.o k aG w3) ?_;rintro e w4 ⟨u,rfl,oU,k4⟩;have q4:=q3.trans (Keep.below (S:=fun j=>v.ownBlock=some j) k4);refine ⟨_,rfl,q4,fun _=>?_⟩;obtain ⟨UA,uc,rfl,_⟩:=aC oU;have b2:=ay (ay (OI.o.drew) O) k4;have a1:aq wr w4:=((br wr).drew.trans O).trans (k4.mono O.size);have av:=ad.o (k+1) aG;rw [gM,Od] at av;have ao:((iL i x k).length+(aJ (az i) x k).length)*88<=140737488355328:=ap;refine XA.o 7 (fun K' hK=>?_);refine bT iJ (.tmp 47) (.tmp 52) rfl rfl wc.heap.size v _ _ rfl b2 UA _ uc _ rfl (Rd.own oU) oU.1 (IS _) ao (by unfold maxLen;omega) (NN QK.o.size a1.size) ?_;intro A7 c7 w7 o7 b7 g7 _;have q7:Keep (fun j=>v.ownBlock=some j) wr w7:=((Keep.below a1).grown g7 (fun k hk=>.inr hk));refine hK.out _ _ q7 fun _=>?_;refine XA.e ?_;simp only [Ob,Oc];have e7:=KB.o w7 q7;have f7:=NS w7 C 20 _ _ e7;have l7:=NE e7;rw [<-By,<-gM,<-Od,<-gM] at o7;have k8:Keep (fun j=>j=C) wc (w7.setCell (ar C 20) (.slice A7 ((iL i x (k+1)).length) c7)):=((QK.o.trans (Keep.below a1)).grown g7 (fun k hk=>.inl (by have:=(OI.o.lt k hk).1;omega))).setCell _ (.inr rfl) _;have b1:=ss (i:=20) (v:=.slice A7 ((iL i x (k+1)).length) c7) e7 rfl;have o8:=(Keep.setCell (S:=fun j=>j=C) (Keep.refl _ w7) (ar C 20) (.inr rfl) (.slice A7 ((iL i x (k+1)).length) c7)).own o7 (fun j J e=>by have:=(o7.lt j J).1;omega);obtain ⟨K8,E8,O8⟩:=af k8 b1 o8;rw [<-Od,<-gM];have cb:=ab w7 q7;clear hK K' k8 b1 o8 o7 b7 g7 q7 e7 ab q0 q3 q4 a1 b2 O k4 av ao oU;go_wp2_with fail;go_roundw
    ·exact ⟨k+1,by omega,by go_num,_,by simpa using E8.o,O8.o,K8.o⟩
    ·simp [intOf];omega
   ·obtain rfl:k=s:=ap;have bf:¬(k:Int)<i.cfg.steps:=by rw [a8.o];omega
    obtain ⟨IA,ic,rfl,_⟩:=aC oI;have gZ:=(qk.block (w.heap.size+1) (NE GZ.o) ap).trans GZ.o;obtain ⟨E8,bl,OI,QK⟩:=ag e8 gZ oI qk;clear e8 gZ oI;go_wp2_with (first | (refine aK #[.slice A i.cfg.sizes.length c,OH i.cfg.shift,OH i.cfg.rate,OH i.cfg.mom,OH i.cfg.workers,OH i.cfg.batch,OH i.cfg.micros,OH i.cfg.steps,OH i.cfg.bucket,OH i.cfg.chunk,OH i.cfg.window,OH i.cfg.cap,.slice D i.data.length cd,.slice T i.start.length B,.slice R i.draws.length cr,OH (x:Nat),.slice T i.start.length B,.slice Y i.start.length i.start.length,.slice (some (ar g 0)) i.start.length i.start.length,.slice (some (ar rb 0)) 1 1,.slice IA (iL i x k).length ic,OH 0] E8.o dX rfl rfl rfl rfl ?_) | (refine aH bl.o dX rfl rfl rfl rfl rfl rfl rfl ?_;intro w9 e9 k9;obtain ⟨E9,K9⟩:=ae e9 k9;clear e9 k9));refine NX (dg rfl rfl E9.o dX) rfl ⟨_,rfl,rfl,rfl,?_,fun c8 kk hI=>?_⟩
    ·exact ((K1.o.trans (Q3.o.mono K1.o.size)).trans (HB.o.mono ap)).trans ((QK.o.toBelow ap (fun j J=>ap)).trans (K9.o.toBelow (by have:=QK.o.size;omega) (fun j J=>ap)))
    ·have kf:∀{u:Value} {e size n xs base},base<=wc.heap.size->W1.heap.size<=base->wc.ownsRow base e size u n xs->(∀j,u.ownBlock=some j->j≠C)->w9.ownsRow w.heap.size e size u n xs:=fun h1 h2 h3 h4=>aE (K9.o.own (QK.o.own h3 (fun j J e=>h4 j J e)) (fun j J e=>by have:=(h3.lt j J).1;omega)) ap
     have b4:rb≠C:=fun e=>by
      have h8:=H8.o;rw [<-e,HR.o] at h8;simp at h8
     have bv:w9.heap[rb]?=some (.cells #[.slice T i.start.length B,.slice Y i.start.length i.start.length] 103 (0,0)):=((K9.o.block rb (NQ (NE HR.o) QK.o.size) ap).trans (QK.o.block rb (NE HR.o) b4)).trans HR.o;have hT:=HT.o;have b6:=aE (base':=w.heap.size) (K9.o.own OI.o (fun j J e=>by have:=(OI.o.lt j J).1;omega)) ap;rw [<-hT] at b6 ⊢;exact LZ hn kk hI (kf (by have:=HB.o.size;have:=Q3.o.size;omega) (NF _) (ay O3.o HB.o) (fun j J=>by have:=(O3.o.lt j J).2;omega)) (kf HB.o.size Q OG.o (fun j J e=>ax H8.o (by decide) OG.o (by rw [J,e]))) bv ap b6
theorem iU:cY prog 191 12:=⟨⟨_,underlying191,rfl⟩,by kernel_rfl⟩
theorem lp (y:Itm):cY prog 191 (bj y).length:=by rw [jf];exact iU
theorem mD (y:Itm):∀u∈bj y,u.oneCell'=true:=fun u h=>IS [y] u (by simpa [cC] using h)
theorem yZ {w:Qd} {A:N_} {l:List Itm} (h:Rd w A (cC l)) {k:Nat} {y:Itm} (u:l[k]?=some y):∃b o,A=some (ar b o)/\w.rangeAt b (o+k*12) (bj y):=by
 obtain ⟨b,o,hA,hc⟩:=CV h u;refine ⟨b,o,hA,fun j v i=>?_⟩;have p:=(Oe.1 i).1;rw [jf] at p;rw [Oy,hc j p,i]
theorem DS {vs:Qb} {i:Inp} {x:Nat} {m:Mst} (w:Qd) (h:fG w vs i x m) (hs:cq i) (ab:bq i x m<=(dq i x).length):Calls prog 53 #[.agg vs] w fun e H=>∃v,e=.returned v/\H.ownsRow w.heap.size 3 1 v (nW (dq i x) (bq i x m) (az i).buks.length).length (aA .i64 (dU (nW (dq i x) (bq i x m) (az i).buks.length)))/\aq w H:=by
 obtain ⟨A,c,D,cd,T,ct,R,cr,PA,pc,MA,mc,GA,gc,SA,sc,IA,ic,rfl,hI,hP,hM,hG,hR,a3,hl⟩:=h;have hc:=hs.g.c;have ew:(((az i).W:Nat):Int)=i.cfg.workers:=by have:=hc.w;simp only [az];omega
 have eu:(((az i).bu:Nat):Int)=i.cfg.bucket:=by have:=hc.bu;simp only [az];omega
 have ec:(((az i).ck:Nat):Int)=i.cfg.chunk:=by have:=hc.ch;simp only [az];omega
 have en:(az i).n=i.start.length:=rfl;have a4:(dq i x).length<=48000000:=rP hs x (NF _);have a6:=hs.ok.buks;have L:=fun H=>kz A i.cfg.sizes.length c i.cfg.shift i.cfg.rate i.cfg.mom i.cfg.workers i.cfg.batch i.cfg.micros i.cfg.steps i.cfg.bucket i.cfg.chunk i.cfg.window i.cfg.cap D i.data.length cd T i.start.length ct R i.draws.length cr H;have I:=fun H=>pS (az i) (.slice A i.cfg.sizes.length c) (OH i.cfg.shift) (OH i.cfg.rate) (OH i.cfg.mom) (OH i.cfg.batch) (OH i.cfg.micros) (OH i.cfg.steps) (OH i.cfg.window) (OH i.cfg.cap) H hs.ok (by have:=hc.bu;simp only [az];omega);simp only [ew,eu,ec,en] at I;obtain ⟨nb,a2⟩:∃nb,(az i).buks.length=nb:=⟨_,rfl⟩;obtain ⟨dn,a1⟩:∃dn,bq i x m=dn:=⟨_,rfl⟩;obtain ⟨p,a0⟩:∃p,dq i x=p:=⟨_,rfl⟩;rw [a2] at I a6 ⊢;rw [a0] at ab a3 a4 ⊢;rw [a1] at ab ⊢;obtain ⟨U,V⟩:∃U,w.alloc (.cells #[.slice A i.cfg.sizes.length c,OH i.cfg.shift,OH i.cfg.rate,OH i.cfg.mom,OH i.cfg.workers,OH i.cfg.batch,OH i.cfg.micros,OH i.cfg.steps,OH i.cfg.bucket,OH i.cfg.chunk,OH i.cfg.window,OH i.cfg.cap,.slice D i.data.length cd,.slice T i.start.length ct,.slice R i.draws.length cr,OH (x:Nat),.slice PA i.start.length pc,.slice MA i.start.length mc,.slice GA i.start.length gc,.slice SA m.rc.length sc,.slice IA p.length ic,OH (dn:Nat)] 106)=U:=⟨_,rfl⟩;have g0:U.heap[w.heap.size]?=some (.cells #[.slice A i.cfg.sizes.length c,OH i.cfg.shift,OH i.cfg.rate,OH i.cfg.mom,OH i.cfg.workers,OH i.cfg.batch,OH i.cfg.micros,OH i.cfg.steps,OH i.cfg.bucket,OH i.cfg.chunk,OH i.cfg.window,OH i.cfg.cap,.slice D i.data.length cd,.slice T i.start.length ct,.slice R i.draws.length cr,OH (x:Nat),.slice PA i.start.length pc,.slice MA i.start.length mc,.slice GA i.start.length gc,.slice SA m.rc.length sc,.slice IA p.length ic,OH (dn:Nat)] 106 (0,0)):=by rw [<-V];exact NG w _
 have k0:aq w U:=by rw [<-V];exact (br w).alloc (NF _) _
 have bi:∀H,aq U H->H.cell? (ar w.heap.size 20)=some (.slice IA p.length ic):=fun H q=>NH H w.heap.size 20 _ _ _ (sb g0 H q);have bh:∀H,aq U H->H.cell? (ar w.heap.size 21)=some (OH (dn:Nat)):=fun H q=>NH H w.heap.size 21 _ _ _ (sb g0 H q);have tl:=sl g0;obtain ⟨b4,G0,K0,a7,ao,b3,a8,b5⟩:=ak V g0 k0 L I (a3.below k0) a6 a4;clear V g0 k0 L I hI hP hM hG hR a3 hl ew eu ec en hs hc a2 a1 a0 a6 a4;go_enter func53,ntmps53;go_wp2_with fail;rw [b4.o]
 go_loopw [3,4] (fun y3 y4 wr=>∃j:Nat,j<=nb/\y4=OH j/\wr.ownsRow U.heap.size 3 1 y3 (nW p dn j).length (aA .i64 (dU (nW p dn j)))/\aq U wr) (fun _ y _=>nb-(intOf y).toNat)
 ·exact ⟨0,NJ _,rfl,by rw [show nW p dn 0=[] by simp [nW]];exact NV _ _ _ _,br U⟩
 case round=>
  obtain ⟨j,Q,rfl,ho,q⟩:=hrel;have Ho:=aa ho;clear ho;go_wp2_with (refine aK (aN A c D cd T ct R cr i) (sb G0.o _ q) dY rfl rfl rfl rfl ?_);refine (a7.o _).mono ?_;rintro e w1 ⟨rfl,k1⟩;go_wp2_with fail;refine (ao.o w1).mono ?_;rintro e w2 ⟨v,rfl,ob,k2⟩;obtain ⟨BA,bc,rfl,_⟩:=aC ob;have q2:=(q.trans (k1.mono q.size)).trans (k2.mono (NN q.size k1.size));have a9:=aa (ay (ay Ho.o k1) k2);clear ob k1 k2 q;by_cases b9:j<nb
  ·have b0:(j:Int)<nb:=ap;have b8:IntKind.i64.wrap ((j:Int)+1)=((j+1:Nat):Int):=by have:=a8.o;rw [NK _ ap];push_cast;rfl
   go_wp2_with fail
   go_loopw [5,6] (fun y5 y6 wr=>∃k:Nat,k<=dn/\y6=OH k/\y5=.bool (ul p k j)/\aq w2 wr) (fun _ y _=>dn-(intOf y).toNat)
   ·exact ⟨0,NJ _,rfl,rfl,br w2⟩
   case round=>
    obtain ⟨k,hk,rfl,rfl,q3⟩:=hrel;have q4:=q2.trans (q3.mono q2.size);by_cases bf:k<dn
    ·have aR:(k:Int)<dn:=ap;have b6:(k:Int)<p.length:=ap;have bb:¬(k:Int)<0:=ap;have b7:IntKind.i64.wrap ((k:Int)+1)=((k+1:Nat):Int):=by have:=b5.o;rw [NK _ ap];push_cast;rfl
     obtain ⟨y,hy⟩:∃y,p[k]?=some y:=⟨_,Of ap⟩;obtain ⟨ib,io,hA,O⟩:=yZ (b3.o.below q4) hy;subst hA;obtain ⟨N,u⟩:=ae (ES hy j) q3;clear hy;by_cases h2:y.kind=2
     ·have aM:(y.kind:Int)=2:=ap;have H2:=aa h2;clear h2;by_cases hn:y.n=j
      ·have a5:(y.n:Int)=j:=ap;have Y:=aa hn;clear hn;go_wp2_with (first | (refine eD O (lp y) rfl rfl rfl ?_) | (refine aH (NG _ _) (lp y) rfl rfl rfl rfl (by simp) (by simp [jf]) (List.all_eq_true.2 (mD y)) ?_;intro B C J;have c0:B.cell? (ar wr.heap.size 0)=some (OH (y.kind:Nat)):=NH B wr.heap.size 0 _ _ _ C;have c2:B.cell? (ar wr.heap.size 2)=some (OH (y.n:Nat)):=NH B wr.heap.size 2 _ _ _ C;have Z:=aa ((u.o.alloc u.o.size _).trans (J.toBelow (u.o.alloc u.o.size _).size (fun j Q=>by rw [Q];exact u.o.size)));clear C J));go_roundw;(case rel=>exact ⟨k+1,by omega,by go_num,by rw [N.o];simp [jd,H2.o,Y.o],Z.o⟩);(case measure=>simp [intOf];omega)
      ·have a5:¬(y.n:Int)=j:=ap;have Y:=aa hn;clear hn;go_wp2_with (first | (refine eD O (lp y) rfl rfl rfl ?_) | (refine aH (NG _ _) (lp y) rfl rfl rfl rfl (by simp) (by simp [jf]) (List.all_eq_true.2 (mD y)) ?_;intro B C J;have c0:B.cell? (ar wr.heap.size 0)=some (OH (y.kind:Nat)):=NH B wr.heap.size 0 _ _ _ C;have c2:B.cell? (ar wr.heap.size 2)=some (OH (y.n:Nat)):=NH B wr.heap.size 2 _ _ _ C;have Z:=aa ((u.o.alloc u.o.size _).trans (J.toBelow (u.o.alloc u.o.size _).size (fun j Q=>by rw [Q];exact u.o.size)));clear C J));go_roundw;(case rel=>exact ⟨k+1,by omega,by go_num,by rw [N.o];simp [jd,H2.o,Y.o],Z.o⟩);(case measure=>simp [intOf];omega)
     ·by_cases h5:y.kind=5
      ·have aM:(y.kind:Int)=5:=ap;have H2:=aa h5;clear h2 h5;by_cases hn:y.n=j
       ·have a5:(y.n:Int)=j:=ap;have Y:=aa hn;clear hn;go_wp2_with (first | (refine eD O (lp y) rfl rfl rfl ?_) | (refine aH (NG _ _) (lp y) rfl rfl rfl rfl (by simp) (by simp [jf]) (List.all_eq_true.2 (mD y)) ?_;intro B C J;have c0:B.cell? (ar wr.heap.size 0)=some (OH (y.kind:Nat)):=NH B wr.heap.size 0 _ _ _ C;have c2:B.cell? (ar wr.heap.size 2)=some (OH (y.n:Nat)):=NH B wr.heap.size 2 _ _ _ C;have Z:=aa ((u.o.alloc u.o.size _).trans (J.toBelow (u.o.alloc u.o.size _).size (fun j Q=>by rw [Q];exact u.o.size)));clear C J));go_roundw;(case rel=>exact ⟨k+1,by omega,by go_num,by rw [N.o];simp [jd,H2.o,Y.o],Z.o⟩);(case measure=>simp [intOf];omega)
       ·have a5:¬(y.n:Int)=j:=ap;have Y:=aa hn;clear hn;go_wp2_with (first | (refine eD O (lp y) rfl rfl rfl ?_) | (refine aH (NG _ _) (lp y) rfl rfl rfl rfl (by simp) (by simp [jf]) (List.all_eq_true.2 (mD y)) ?_;intro B C J;have c0:B.cell? (ar wr.heap.size 0)=some (OH (y.kind:Nat)):=NH B wr.heap.size 0 _ _ _ C;have c2:B.cell? (ar wr.heap.size 2)=some (OH (y.n:Nat)):=NH B wr.heap.size 2 _ _ _ C;have Z:=aa ((u.o.alloc u.o.size _).trans (J.toBelow (u.o.alloc u.o.size _).size (fun j Q=>by rw [Q];exact u.o.size)));clear C J));go_roundw;(case rel=>exact ⟨k+1,by omega,by go_num,by rw [N.o];simp [jd,H2.o,Y.o],Z.o⟩);(case measure=>simp [intOf];omega)
      ·have aM:¬(y.kind:Int)=2:=ap;have bd:¬(y.kind:Int)=5:=ap;obtain ⟨H2,Y⟩:=ae h2 h5;clear h2 h5;go_wp2_with (first | (refine eD O (lp y) rfl rfl rfl ?_) | (refine aH (NG _ _) (lp y) rfl rfl rfl rfl (by simp) (by simp [jf]) (List.all_eq_true.2 (mD y)) ?_;intro B C J;have c0:B.cell? (ar wr.heap.size 0)=some (OH (y.kind:Nat)):=NH B wr.heap.size 0 _ _ _ C;have c2:B.cell? (ar wr.heap.size 2)=some (OH (y.n:Nat)):=NH B wr.heap.size 2 _ _ _ C;have Z:=aa ((u.o.alloc u.o.size _).trans (J.toBelow (u.o.alloc u.o.size _).size (fun j Q=>by rw [Q];exact u.o.size)));clear C J));go_roundw;(case rel=>exact ⟨k+1,by omega,by go_num,by rw [N.o];simp [jd,H2.o,Y.o],Z.o⟩);(case measure=>simp [intOf];omega)
    ·obtain rfl:k=dn:=ap;have aR:¬(k:Int)<k:=ap;obtain ⟨ad,u⟩:=ae (ay a9.o q3) q3;have be:=KP p k j
     cases hb:ul p k j with
     | true=>
      obtain ⟨HO,Q4⟩:=ae hb q4;clear hb q2 q3;go_wp2_with (at_builtin;refine aW fQ _ rfl (.tmp 47) (.tmp 49) rfl U.heap.size _ _ _ rfl ad.o [OH (j:Nat)] rfl rfl (by simp [Value.oneCell']) (by have:=a8.o;omega) (by have:=a8.o;unfold maxLen;omega) Q4.o.size ?_);intro g6 c6 w6 av aG b2;obtain ⟨b1,aP⟩:=ae av (Q4.o.trans aG);clear av aG b2 q4;go_wp2_with fail;go_roundw
      ·exact ⟨j+1,by omega,by go_num,by rw [vd,HO.o];simpa [dU,aA] using b1.o,aP.o⟩
      ·simp [intOf];omega
     | false=>
      obtain ⟨HO,Q4⟩:=ae hb q4;clear hb q2 q3;go_wp2_with fail;go_roundw
      ·exact ⟨j+1,by omega,by go_num,by rw [vd,HO.o];simpa using ad.o,Q4.o⟩
      ·simp [intOf];omega
  ·obtain rfl:j=nb:=ap;have b0:¬(j:Int)<j:=ap;have Q2:=aa q2;clear q2;go_wp2_with fail;go_ret;exact ⟨_,rfl,aE a9.o K0.o.size,K0.o.trans (Q2.o.mono K0.o.size)⟩
def aD (w:Qd) (b:Nat) (ring:Value) (cap sent recv peak:Nat):Prop:=
 w.heap[b]?=some (.cells #[ring,OH cap,OH sent,OH recv,OH peak] 182 (0,0))
section
variable {w:Qd} {b:Nat} {ring:Value} {cap sent recv peak:Nat}
theorem aD.c0 (h:aD w b ring cap sent recv peak):w.cell? (ar b 0)=some ring:=NH w b 0 _ _ _ h
theorem aD.c1 (h:aD w b ring cap sent recv peak):w.cell? (ar b 1)=some (OH cap):=NH w b 1 _ _ _ h
theorem aD.c2 (h:aD w b ring cap sent recv peak):w.cell? (ar b 2)=some (OH sent):=NH w b 2 _ _ _ h
theorem aD.c3 (h:aD w b ring cap sent recv peak):w.cell? (ar b 3)=some (OH recv):=NH w b 3 _ _ _ h
theorem aD.c4 (h:aD w b ring cap sent recv peak):w.cell? (ar b 4)=some (OH peak):=NH w b 4 _ _ _ h
theorem aD.free (h:aD w b ring cap sent recv peak) (i:Nat):w.frozen? (ar b i)=false:=NS w b i _ _ h
end
theorem mz (b:Nat) (ring:Value) (cap sent recv peak:Nat) (w:Qd) (h:aD w b ring cap sent recv peak) (o:recv<=sent) (hs:sent<=17592186043904):Calls prog 104 #[(au b)] w fun e i=>e=.returned (OH ((sent:Int)-recv))/\∃n,i=w.drewN n:=by
 have c2:=h.c2;have c3:=h.c3;go_enter func104,ntmps104;go_wp2
 go_quiet (fail)
 go_wp2;go_ret;exact ⟨rfl,_,rfl⟩
theorem yV (b:Nat) (x y:Int) (w:Qd) (c2:w.cell? (ar b 2)=some (OH x)) (c3:w.cell? (ar b 3)=some (OH y)) (hb:0<=y/\y<=x/\x<=17592186043904):Calls prog 104 #[(au b)] w fun e h=>e=.returned (OH (x-y))/\∃n,h=w.drewN n:=by
 go_enter func104,ntmps104;go_wp2
 go_quiet (fail)
 go_wp2;go_ret;exact ⟨rfl,_,rfl⟩
theorem EK (b:Nat) (ring:Value) (cap sent recv peak:Nat) (n:Int) (w:Qd) (h:aD w b ring cap sent recv peak) (hc:1<=cap) (hn:0<=n) (i:cap<=1048576):Calls prog 105 #[(au b),OH n] w fun e o=>e=.returned (OH (n%cap))/\w=o:=by
 have c1:=h.c1;go_enter func105,ntmps105;go_wp2;go_ret;exact ⟨rfl,rfl⟩
theorem Ld (b:Nat) (ring:Value) (cap sent recv peak:Nat) (w:Qd) (h:aD w b ring cap sent recv peak):Calls prog 222 #[(au b)] w fun e i=>e=.returned (OH cap)/\w=i:=by
 have c1:=h.c1;go_enter func222,ntmps222;go_wp2;go_ret;exact ⟨rfl,rfl⟩
theorem IQ (b:Nat) (ring:Value) (cap sent recv peak:Nat) (w:Qd) (h:aD w b ring cap sent recv peak):Calls prog 70 #[(au b)] w fun e i=>e=.returned (OH peak)/\w=i:=by
 have c4:=h.c4;go_enter func70,ntmps70;go_wp2;go_ret;exact ⟨rfl,rfl⟩
theorem Lc (c:Int) (w:Qd) (h:1<=c/\c<=1048576):Calls prog 45 #[OH c] w fun e i=>e=.returned ((au w.heap.size))/\i=w.alloc (.cells #[OJ,OH c,OH 0,OH 0,OH 0] 182):=by
 obtain ⟨h1,o⟩:=h;go_enter func45,ntmps45;go_wp2;go_ret;exact ⟨rfl,rfl⟩
theorem Mu:dB prog 26 2 (OH 0) 1 8:=⟨underlying26,info_parts (by kernel_rfl),rfl,by decide⟩
theorem Fh (A:N_) (zs:Qa) (c:Nat) (w:Qd) (hA:Rd w A (aA .i64 zs)) (hl:zs.length<=17592186043904):Calls prog 151 #[.slice A zs.length c] w fun e y=>∃v,e=.returned v/\y.ownsRow w.heap.size 2 1 v zs.length (aA .i64 zs)/\aq w y:=by
 have q:=fun (w:Qd)=>Lib.run_eql_slice_nil (P:=prog) w 26 2 A zs.length c 0 0 underlying26
 cases A with
 | none=>
  have B:zs=[]:=by
   cases zs with
   | nil=>rfl
   | cons z l=>obtain ⟨b,o,h,_⟩:=hA 0 _ rfl;cases h
  subst B;clear q;have q:=fun (w:Qd)=>Lib.run_eql_slice_nil (P:=prog) w 26 2 none 0 c 0 0 underlying26;simp only [Option.isNone_none] at q;rw [List.length_nil];go_enter func151,ntmps151;go_wp2;go_ret;exact ⟨_,rfl,NV _ _ _ _,NI _ _⟩
 | some a=>
  go_enter func151,ntmps151;go_wp2_with (at_builtin;refine dJ Mu _ rfl (.tmp 5) (.tmp 6) rfl w.heap.size _ 0 [] rfl (eK w 2 1) _ zs.length c (aA .i64 zs) rfl (hA.alloc _) (by rw [bS];omega) (cJ _ _) ap (by unfold maxLen;omega) (by simp) ?_);intro H D C i hb _ _;have u:=((NI _ w).alloc (NF _) (.cells #[] 2)).trans hb;obtain ⟨p,x⟩:=ae i u;clear i hb u;go_wp2;go_ret;exact ⟨_,rfl,p.o,x.o⟩
structure Tg where
 a:Int
 b:Int
 c:Int
 d:Int
 e:Int
structure Msg where
 tag:Tg
 vals:Qa
def Tg.cells (t:Tg):Qc:=[OH t.a,OH t.b,OH t.c,OH t.d,OH t.e]
def Tg.zero:Tg:=⟨0,0,0,0,0⟩
def Msg.zero:Msg:=⟨Tg.zero,[]⟩
theorem kZ:dB prog 71 79 (.agg OV) 6 64:=⟨underlying71,info_parts (by kernel_rfl),rfl,by decide⟩
theorem nh (A:N_) (zs:Qa) (c:Nat) (w:Qd) (hA:Rd w A (aA .i64 zs)) (hl:zs.length<=17592186043904):Calls prog 106 #[.slice A zs.length c] w fun e u=>∃v,e=.returned v/\u.ownsRow w.heap.size 2 1 v zs.length (aA .i64 zs)/\aq w u:=by
 have h:=Fh A zs c w hA hl;go_enter func106,ntmps106;go_wp2_with fail;refine h.mono ?_;rintro e y ⟨v,rfl,i,hb⟩;obtain ⟨C,B,rfl,_⟩:=aC i;clear h;obtain ⟨p,x⟩:=ae i hb;clear i hb;go_wp2;go_ret;exact ⟨_,rfl,p.o,x.o⟩
def xx (w:Qd) (base:Nat) (h:Qc) (m:Msg):Prop:=
 ∃A c,h=m.tag.cells++[.slice A m.vals.length c]/\w.ownsRow base 2 1 (.slice A m.vals.length c) m.vals.length (aA .i64 m.vals)
def ud (w:Qd) (h:Qc) (m:Msg):Prop:=
 ∃A c,h=m.tag.cells++[.slice A m.vals.length c]/\Rd w A (aA .i64 m.vals)
structure LSt where
 cap:Nat
 msgs:List Msg
 recv:Nat
 peak:Nat
structure LSt.Ok (s:LSt):Prop where
 cap1:1<=s.cap
 cap2:s.cap<=1048576
 rs:s.recv<=s.msgs.length
 sr:s.msgs.length<=s.recv+s.cap
 pk:s.peak<=s.cap
 many:s.msgs.length<=100000000000
 vals:∀m∈s.msgs,m.vals.length<=17592186043904
def aO (l:List Msg) (j:Nat):Msg:=l.getD j Msg.zero
def ep (l:List (Qc)) (j:Nat):Qc:=l.getD j []
structure aY (w:Qd) (base b:Nat) (g:Option Nat) (s:LSt):Prop where
 ok:s.Ok
 ex:∃ring rows,aD w b ring s.cap s.msgs.length s.recv s.peak/\w.ownsRow base 79 6 ring (min s.msgs.length s.cap) (List.flatten rows)/\ring.ownBlock=g/\
  rows.length=min s.msgs.length s.cap/\(∀r∈rows,r.length=6)/\∀j,s.recv<=j->j<s.msgs.length->xx w base (ep rows (j%s.cap)) (aO s.msgs j)
theorem j4 (b:Nat) (ring:Value) (cap sent recv peak n i:Nat) (w:Qd) (h:aD w b ring cap sent recv peak) (hc:1<=cap) (o:cap<=1048576) (u:n%cap=i):Calls prog 105 #[(au b),OH (n:Int)] w fun e p=>e=.returned (OH (i:Int))/\w=p:=by
 subst u;refine (EK b ring cap sent recv peak n w h hc ap o).mono ?_;rintro e p ⟨rfl,rfl⟩;exact ⟨by rw [Int.natCast_emod],rfl⟩
theorem kY {rows:List (Qc)} {k:Nat} (h:∀r∈rows,r.length=k) (i t:Nat) (o:i<rows.length) (p:t<k):(List.flatten rows)[i*k+t]?=(ep rows i)[t]?:=by
 induction rows generalizing i with
 | nil=>simp at o
 | cons r l ih=>
  have hr:r.length=k:=h r (by simp)
  cases i with
  | zero=>
   rw [List.flatten_cons,Nat.zero_mul,Oz,Og ap];simp [ep]
  | succ i=>
   rw [List.flatten_cons,Oh (by rw [hr,Nat.add_mul];omega),hr,show (i+1)*k+t-k=i*k+t by rw [Nat.add_mul];omega,ih (fun r hr=>h r (by simp [hr])) i (by simpa using o)];simp [ep]
structure qU (w:Qd) (g o:Nat) (t:Tg) (v:Value):Prop where
 c0:w.cell? (ar g o)=some (OH t.a)
 c1:w.cell? (ar g (o+1))=some (OH t.b)
 c2:w.cell? (ar g (o+2))=some (OH t.c)
 c3:w.cell? (ar g (o+3))=some (OH t.d)
 c4:w.cell? (ar g (o+4))=some (OH t.e)
 c5:w.cell? (ar g (o+5))=some v
theorem sY {j n r cap:Nat} (_h1:r<=j) (o:j<n) (_h3:n<=r+cap) (hc:1<=cap):j%cap<min n cap:=by
 have h:=Nat.mod_lt j (show 0<cap by omega);have i:=Nat.mod_le j cap;omega
theorem aY.at_ {w:Qd} {base b:Nat} {g:Option Nat} {s:LSt} (h:aY w base b g s) (j:Nat) (h1:s.recv<=j) (B:j<s.msgs.length):
  ∃p c y u,g=some p/\aD w b (.slice (some (ar p 0)) (min s.msgs.length s.cap) c) s.cap s.msgs.length s.recv s.peak/\j%s.cap<min s.msgs.length s.cap/\
   qU w p (j%s.cap*6) (aO s.msgs j).tag (.slice y (aO s.msgs j).vals.length u)/\
   w.ownsRow base 2 1 (.slice y (aO s.msgs j).vals.length u) (aO s.msgs j).vals.length (aA .i64 (aO s.msgs j).vals):=by
 obtain ⟨ok,ring,rows,hc,o,hg,hrl,A,hm⟩:=h;have C:=sY h1 B ok.sr ok.cap1;obtain ⟨y,u,v,x⟩:=hm j h1 B;obtain ⟨p,c,rfl,_,_⟩:=o.form ap;refine ⟨p,c,y,u,hg.symm,hc,C,?_,x⟩
 have i:∀t,t<6->w.cell? ⟨p,j%s.cap*6+t,none⟩=((aO s.msgs j).tag.cells++[Value.slice y (aO s.msgs j).vals.length u])[t]?:=fun t D=>by
  rw [o.cellAt _ (by have:=OF 6 (Nat.succ_le_of_lt C);rw [Ox] at this;omega),kY A _ t ap D,v]
 exact ⟨i 0 ap,i 1 ap,i 2 ap,i 3 ap,i 4 ap,i 5 ap⟩
theorem aD.alloc {w:Qd} {b:Nat} {ring:Value} {cap sent recv peak:Nat} (h:aD w b ring cap sent recv peak) (o:Obj):aD (w.alloc o) b ring cap sent recv peak:=(NW _ _ _ (NE h)).trans h
theorem tc (base b:Nat) (g:Option Nat) (s:LSt) (w:Qd) (h:aY w base b g s) (A:s.recv<s.msgs.length):Calls prog 223 #[.pointer (some ⟨b,0,none⟩)] w fun e p=>e=.returned (.tuple #[.agg #[OH (aO s.msgs s.recv).tag.a,OH (aO s.msgs s.recv).tag.b,OH (aO s.msgs s.recv).tag.c,OH (aO s.msgs s.recv).tag.d,OH (aO s.msgs s.recv).tag.e],.bool true])/\aq w p:=by
 obtain ⟨x,c,A',c',rfl,hc,O,I,y⟩:=h.at_ s.recv (NF _) A;obtain ⟨D,C,B,V,Q,T,H⟩:=h.ok;clear H y;obtain ⟨i,u⟩:∃i,s.recv%s.cap=i:=⟨_,rfl⟩;rw [u] at O I;obtain ⟨L,J⟩:∃L,min s.msgs.length s.cap=L:=⟨_,rfl⟩;rw [J] at O hc;have hl:=fun o=>mz b _ _ _ _ _ _ (hc.alloc o) B ap;have N:=fun o n=>j4 b _ _ _ _ _ s.recv i _ (show aD ((w.alloc o).drewN n) _ _ _ _ _ _ from hc.alloc o) D C u;have c0:=hc.c0;have c3:=hc.c3;have hb:=NE hc;have hg:=aB I.c0;obtain ⟨d0,d1,Y,d3,d4,d5⟩:=I;obtain ⟨R,U⟩:=ae hl N;clear hl N u J h;generalize (aO s.msgs s.recv).tag=tg at *;go_enter func223,ntmps223;go_wp2_with fail;refine (R.o _).mono ?_;rintro e Z ⟨rfl,n,rfl⟩;go_wp2_with fail
 go_region_held3 (fun p=>p.cell? ⟨b,0,none⟩=some (.slice (some ⟨x,0,none⟩) L c)/\p.cell? ⟨b,3,none⟩=some (OH (s.recv:Int))/\p.cell? ⟨x,i*6,none⟩=some (OH tg.a)/\p.cell? ⟨x,i*6+1,none⟩=some (OH tg.b)/\
   p.cell? ⟨x,i*6+2,none⟩=some (OH tg.c)/\p.cell? ⟨x,i*6+3,none⟩=some (OH tg.d)/\p.cell? ⟨x,i*6+4,none⟩=some (OH tg.e)) (simp [go_sem, *])
  ((go_at_call 105;refine (U.o _ _).mono ?_;rintro e p ⟨rfl,rfl⟩))
 go_wp2;refine NX (v:=.tuple #[.agg #[OH tg.a,OH tg.b,OH tg.c,OH tg.d,OH tg.e],.bool true]) (by simp [results,results223,go_sem]) rfl ⟨rfl,?_⟩;exact am
theorem oq (base b:Nat) (g:Option Nat) (s:LSt) (w:Qd) (h:aY w base b g s) (i:s.recv=s.msgs.length):Calls prog 223 #[(au b)] w fun e A=>e=.returned (.tuple #[.agg #[OH 0,OH 0,OH 0,OH 0,OH 0],.bool false])/\aq w A:=by
 obtain ⟨ok,ring,rows,hc,_⟩:=h;obtain ⟨C,H,p,x,y,D,u⟩:=ok;clear u;have hl:=fun o=>mz b _ _ _ _ _ _ (hc.alloc o) p ap;rw [i,Int.sub_self] at hl;have B:=aa hl;clear hl hc i;go_enter func223,ntmps223;go_wp2_with fail;refine (B.o _).mono ?_;rintro e I ⟨rfl,n,rfl⟩;go_wp2;refine NX (v:=.tuple #[.agg #[OH 0,OH 0,OH 0,OH 0,OH 0],.bool false]) (by simp [results,results223,go_sem]) rfl ⟨rfl,?_⟩;exact am
theorem qU.same {w i:Qd} {g o:Nat} {t:Tg} {v:Value} (h:qU w g o t v) (hb:i.heap[g]?=w.heap[g]?):qU i g o t v:=
 ⟨(World.cell?_of_block (w:=w) hb).trans h.c0,(World.cell?_of_block (w:=w) hb).trans h.c1,(World.cell?_of_block (w:=w) hb).trans h.c2,(World.cell?_of_block (w:=w) hb).trans h.c3,(World.cell?_of_block (w:=w) hb).trans h.c4,(World.cell?_of_block (w:=w) hb).trans h.c5⟩
theorem aD.same {w i:Qd} {b:Nat} {ring:Value} {cap sent recv peak:Nat} (h:aD w b ring cap sent recv peak) (hb:i.heap[b]?=w.heap[b]?):aD i b ring cap sent recv peak:=hb.trans h
theorem aY.keep {S:Nat->Prop} {w D:Qd} {base b:Nat} {g:Option Nat} {s:LSt} (h:aY w base b g s) (k:Keep S w D) (h1:¬S b) (J:∀i,g=some i->¬S i) (N:∀i c,w.heap[i]?=some (.cells c 2 (0,0))->base<=i->¬S i):aY D base b g s:=by
 obtain ⟨ok,ring,rows,hc,p,hg,hrl,x,hm⟩:=h;refine ⟨ok,ring,rows,hc.same (k.block _ (NE hc) h1),k.own p (fun i o=>J i (hg.symm.trans o)),hg,hrl,x,fun j v B=>?_⟩;obtain ⟨A,c,e,C⟩:=hm j v B;refine ⟨A,c,e,k.own C fun i o=>?_⟩;rcases C.2 with ⟨hn,_⟩ | ⟨I,cap,H,L,u,y,_⟩
 ·rw [hn] at o;cases o
 ·rw [L] at o;obtain rfl:I=i:=by simpa [Value.ownBlock] using o
  exact N _ _ y u
theorem aY.below {w i:Qd} {base b:Nat} {g:Option Nat} {s:LSt} (h:aY w base b g s) (hb:aq w i):aY i base b g s:=
 h.keep (S:=fun _=>False) (Keep.below hb) id (fun _ _=>id) (fun _ _ _ _=>id)
theorem uk (base b:Nat) (g:Option Nat) (s:LSt) (t:Tg) (w:Qd) (h:aY w base b g s) (x:s.recv=s.msgs.length):Calls prog 236 #[(au b),.agg #[OH t.a,OH t.b,OH t.c,OH t.d,OH t.e]] w fun e D=>e=.returned (.tuple #[.agg OV,OH 12])/\aq w D:=by
 obtain ⟨t0,t1,t2,B,J⟩:=t;have A:=fun R O=>oq base b g s ((w.alloc R).alloc O) ((h.below ((NI _ _).alloc (NF _) _)).below ((NI _ _).alloc (NF _) _)) x;have T:=aa A;clear A x h;go_enter func236,ntmps236;go_wp2_with fail;refine (T.o _ _).mono ?_;rintro e p ⟨rfl,u⟩
 have i:p.heap[w.heap.size+1]?=some (.cells OV 79 (0,0)):=by
  rw [u.block _ (by simp)];simpa using NG (w.alloc (.cells #[OH t0,OH t1,OH t2,OH B,OH J] 77)) (.cells OV 79)
 have y:=NE i;have N:p.cell? (ar (w.heap.size+1) 0)=some (OH 0):=NH p _ 0 _ _ _ i;have H:p.cell? (ar (w.heap.size+1) 1)=some (OH 0):=NH p _ 1 _ _ _ i;have U:p.cell? (ar (w.heap.size+1) 2)=some (OH 0):=NH p _ 2 _ _ _ i;have C:p.cell? (ar (w.heap.size+1) 3)=some (OH 0):=NH p _ 3 _ _ _ i;have L:p.cell? (ar (w.heap.size+1) 4)=some (OH 0):=NH p _ 4 _ _ _ i;have Q:p.cell? (ar (w.heap.size+1) 5)=some (OJ):=NH p _ 5 _ _ _ i;have V:=fun j=>NS p _ j _ _ i;have I:aq w p:=(((NI _ w).alloc (NF _) _).alloc (by simp) _).trans (u.mono (by simp;omega));clear u i;go_wp2;refine NX (v:=.tuple #[.agg OV,OH 12]) (by simp [results,results236,go_sem,N,H,U,C,L,Q,y]) rfl ⟨rfl,?_⟩;exact am
theorem xe (base b:Nat) (g:Option Nat) (s:LSt) (t:Tg) (w:Qd) (h:aY w base b g s) (y:s.recv<s.msgs.length) (A:(aO s.msgs s.recv).tag≠t):Calls prog 236 #[(au b),.agg #[OH t.a,OH t.b,OH t.c,OH t.d,OH t.e]] w fun e L=>e=.returned (.tuple #[.agg OV,OH 10])/\aq w L:=by
 obtain ⟨t0,t1,t2,B,C⟩:=t;have H:=fun Y U=>tc base b g s ((w.alloc Y).alloc U) ((h.below ((NI _ _).alloc (NF _) _)).below ((NI _ _).alloc (NF _) _)) y;generalize (aO s.msgs s.recv).tag=tg at *;obtain ⟨u0,u1,u2,u3,u4⟩:=tg;dsimp only at H;have Z:=aa H;clear H y h;have D:=aa A;clear A;go_enter func236,ntmps236;go_wp2_with fail;refine (Z.o _ _).mono ?_;rintro e p ⟨rfl,x⟩
 have i:p.heap[w.heap.size+1]?=some (.cells OV 79 (0,0)):=by
  rw [x.block _ (by simp)];simpa using NG (w.alloc (.cells #[OH t0,OH t1,OH t2,OH B,OH C] 77)) (.cells OV 79)
 have I:=NE i;have T:p.cell? (ar (w.heap.size+1) 0)=some (OH 0):=NH p _ 0 _ _ _ i;have N:p.cell? (ar (w.heap.size+1) 1)=some (OH 0):=NH p _ 1 _ _ _ i;have r2:p.cell? (ar (w.heap.size+1) 2)=some (OH 0):=NH p _ 2 _ _ _ i;have J:p.cell? (ar (w.heap.size+1) 3)=some (OH 0):=NH p _ 3 _ _ _ i;have Q:p.cell? (ar (w.heap.size+1) 4)=some (OH 0):=NH p _ 4 _ _ _ i;have V:p.cell? (ar (w.heap.size+1) 5)=some (OJ):=NH p _ 5 _ _ _ i;have fr:=fun j=>NS p _ j _ _ i
 have u:p.heap[w.heap.size]?=some (.cells #[OH t0,OH t1,OH t2,OH B,OH C] 77 (0,0)):=by
  rw [x.block _ (by simp;omega),NW _ _ _ (by simp)];exact NG w _
 have p0:p.cell? (ar w.heap.size 0)=some (OH t0):=NH p _ 0 _ _ _ u;have p1:p.cell? (ar w.heap.size 1)=some (OH t1):=NH p _ 1 _ _ _ u;have p2:p.cell? (ar w.heap.size 2)=some (OH t2):=NH p _ 2 _ _ _ u;have p3:p.cell? (ar w.heap.size 3)=some (OH B):=NH p _ 3 _ _ _ u;have p4:p.cell? (ar w.heap.size 4)=some (OH C):=NH p _ 4 _ _ _ u;have O:aq w p:=(((NI _ w).alloc (NF _) _).alloc (by simp) _).trans (x.mono (by simp;omega));have R:w.heap.size<p.heap.size:=ap;clear x i u;go_wp2
 ·exact absurd (by simp only [*]) D.o
 all_goals
  refine NX (v:=.tuple #[.agg OV,OH 10]) (by simp [results,results236,go_sem,T,N,r2,J,Q,V,I]) rfl ⟨rfl,?_⟩;exact am
theorem ui {w x:Qd} {base b:Nat} {g:Option Nat} {s:LSt} {T:N_} {Q:Nat} (h:aY w base b g s) (C:s.recv<s.msgs.length) (k:Keep (· =b) w x) (N:w.ownsRow base 2 1 (.slice T (aO s.msgs s.recv).vals.length Q) (aO s.msgs s.recv).vals.length (aA .i64 (aO s.msgs s.recv).vals)) {L c y:Nat} (_hgg:g=some y) (u:aD w b (.slice (some (ar y 0)) L c) s.cap s.msgs.length s.recv s.peak) (hc:aD x b (.slice (some (ar y 0)) L c) s.cap s.msgs.length (s.recv+1) s.peak):
  x.ownsRow base 2 1 (.slice T (aO s.msgs s.recv).vals.length Q) (aO s.msgs s.recv).vals.length (aA .i64 (aO s.msgs s.recv).vals)/\aY x base b g {s with recv:=s.recv+1}/\Keep (· =b) w x:=by
 have D:∀i e R,w.heap[i]?=some (.cells R e (0,0))->e≠182->¬i=b:=by
  rintro i e R p he rfl;unfold aD at u;rw [u] at p;injection p with p
  injection p with _ p
  exact he p.symm
 have o:∀{e:Qf} {size:Nat} {v:Value} {n:Nat} {xs:Qc},w.ownsRow base e size v n xs->e≠182->x.ownsRow base e size v n xs:=fun {e size v n xs} B he=>
  k.own B fun i p=>by
   rcases B.2 with ⟨hn,_⟩ | ⟨y,cap,V,N,Y,J,_⟩
   ·rw [hn] at p;cases p
   ·rw [N] at p;obtain rfl:y=i:=by simpa [Value.ownBlock] using p
    exact D _ _ _ J he
 refine ⟨o N (by decide),?_,k⟩;obtain ⟨ok,ring,rows,O,B,hg,hrl,I,hm⟩:=h
 obtain rfl:ring=.slice (some (ar y 0)) L c:=by
  have:=O.c0.symm.trans u.c0;injection this
 refine ⟨⟨ok.cap1,ok.cap2,C,by have:=ok.sr;simp only;omega,ok.pk,ok.many,ok.vals⟩,_,rows,hc,o B (by decide),hg,hrl,I,fun j h1 U=>?_⟩;obtain ⟨A,c2,e,H⟩:=hm j (by simp only at h1;omega) U;exact ⟨A,c2,e,o H (by decide)⟩
theorem aD.set {w:Qd} {b:Nat} {ring:Value} {cap sent recv peak:Nat} (h:aD w b ring cap sent recv peak) (n:Nat) (v:Int) (i:v=(n:Int)):aD (w.setCell (ar b 3) (OH v)) b ring cap sent n peak:=by
 subst i;unfold aD at h ⊢;simp [World.setCell,Array.getElem?_modify,h]
theorem yU (base b:Nat) (g:Option Nat) (s:LSt) (t:Tg) (w:Qd) (h:aY w base b g s) (Q:s.recv<s.msgs.length) (a3:(aO s.msgs s.recv).tag=t):Calls prog 236 #[.pointer (some ⟨b,0,none⟩),.agg #[OH t.a,OH t.b,OH t.c,OH t.d,OH t.e]] w fun e y=>∃A c,
   e=.returned (.tuple #[.agg #[OH t.a,OH t.b,OH t.c,OH t.d,OH t.e,.slice A (aO s.msgs s.recv).vals.length c],OH 0])/\
   y.ownsRow base 2 1 (.slice A (aO s.msgs s.recv).vals.length c) (aO s.msgs s.recv).vals.length (aA .i64 (aO s.msgs s.recv).vals)/\
   aY y base b g {s with recv:=s.recv+1}/\Keep (· =b) w y:=by
 subst a3;have hp:=fun o1 o2=>tc base b g s ((w.alloc o1).alloc o2) ((h.below ((NI _ _).alloc (NF _) _)).below ((NI _ _).alloc (NF _) _)) Q;obtain ⟨N,c,A',c',a0,hc,hi,h6,O⟩:=h.at_ s.recv (NF _) Q;have I:=h.ok;have av:s.recv<=100000000000:=by have:=I.many;omega
 have x:=I.cap1;have aM:=I.cap2;obtain ⟨i,R⟩:∃i,s.recv%s.cap=i:=⟨_,rfl⟩;rw [R] at hi h6;obtain ⟨L,hL⟩:∃L,min s.msgs.length s.cap=L:=⟨_,rfl⟩;rw [hL] at hi hc;have hb:=NE hc;have ad:=aB h6.c0;generalize (aO s.msgs s.recv).tag=tg at *;obtain ⟨t0,t1,t2,T,V⟩:=tg;dsimp only at hp;obtain ⟨Hp,a2,H,Z,a9,a6⟩:=ai hp I h O R a0;clear hp I h O R a0 hL;go_enter func236,ntmps236;go_wp2_with fail;refine (Hp.o _ _).mono ?_;rintro e p ⟨rfl,D⟩
 have u:p.heap[w.heap.size+1]?=some (.cells OV 79 (0,0)):=by
  rw [D.block _ (by simp)];simpa using NG (w.alloc (.cells #[OH t0,OH t1,OH t2,OH T,OH V] 77)) (.cells OV 79)
 have a5:=NE u;have r0:p.cell? ⟨w.heap.size+1,0,none⟩=some (OH 0):=NH p _ 0 _ _ _ u;have r1:p.cell? ⟨w.heap.size+1,1,none⟩=some (OH 0):=NH p _ 1 _ _ _ u;have r2:p.cell? ⟨w.heap.size+1,2,none⟩=some (OH 0):=NH p _ 2 _ _ _ u;have r3:p.cell? ⟨w.heap.size+1,3,none⟩=some (OH 0):=NH p _ 3 _ _ _ u;have r4:p.cell? ⟨w.heap.size+1,4,none⟩=some (OH 0):=NH p _ 4 _ _ _ u;have r5:p.cell? ⟨w.heap.size+1,5,none⟩=some (OJ):=NH p _ 5 _ _ _ u;have fr:=fun j=>NS p _ j _ _ u
 have C:p.heap[w.heap.size]?=some (.cells #[OH t0,OH t1,OH t2,OH T,OH V] 77 (0,0)):=by
  rw [D.block _ (by simp;omega),NW _ _ _ (by simp)];exact NG w _
 have p0:p.cell? ⟨w.heap.size,0,none⟩=some (OH t0):=NH p _ 0 _ _ _ C;have p1:p.cell? ⟨w.heap.size,1,none⟩=some (OH t1):=NH p _ 1 _ _ _ C;have p2:p.cell? ⟨w.heap.size,2,none⟩=some (OH t2):=NH p _ 2 _ _ _ C;have p3:p.cell? ⟨w.heap.size,3,none⟩=some (OH T):=NH p _ 3 _ _ _ C;have p4:p.cell? ⟨w.heap.size,4,none⟩=some (OH V):=NH p _ 4 _ _ _ C;have J:aq w p:=(((NI _ w).alloc (NF _) _).alloc (by simp) _).trans (D.mono (by simp;omega));have a4:w.heap.size<p.heap.size:=ap;have J:aq w p:=(((NI _ w).alloc (NF _) _).alloc (by simp) _).trans (D.mono (by simp;omega));have x:=hc.same (J.block b hb);have Y:=h6.same (J.block N ad);have a8:=NE x;have aG:=aB Y.c0;have U:=fun W hW=>j4 b (.slice (some ⟨N,0,none⟩) L c) s.cap s.msgs.length s.recv s.peak s.recv i W hW a2.o.cap1 a2.o.cap2 a9.o;have k0:=x.c0;have k3:=x.c3;obtain ⟨m0,m1,m2,m3,m4,m5⟩:=Y;have f3:=x.free 3;have aP:¬(b=w.heap.size+1):=ap;have ao:¬(w.heap.size+1=b):=ap;obtain ⟨b0,a1,a7,Hc,H6⟩:=ah D x U hc h6;clear D u C x U hc h6;go_wp2_with fail
 go_region_held3 (fun y=>y.cell? ⟨b,0,none⟩=some (.slice (some ⟨N,0,none⟩) L c)/\y.cell? ⟨b,3,none⟩=some (OH (s.recv:Int))/\y.cell? ⟨N,i*6,none⟩=some (OH t0)/\y.cell? ⟨N,i*6+1,none⟩=some (OH t1)/\
   y.cell? ⟨N,i*6+2,none⟩=some (OH t2)/\y.cell? ⟨N,i*6+3,none⟩=some (OH T)/\y.cell? ⟨N,i*6+4,none⟩=some (OH V)/\y.cell? ⟨N,i*6+5,none⟩=some (.slice A' (aO s.msgs s.recv).vals.length c')) (simp [go_sem, *])
  ((go_at_call 105;refine (a7.o _ (a1.o.same (Below.block (B:=p.heap.size) ?_ b a8))).mono ?_;exact am;rintro e y ⟨rfl,rfl⟩))
 all_goals
  go_wp2_with fail;have ab:IntKind.i64.wrap ((s.recv:Int)+1)=(s.recv:Int)+1:=NK _ ap
  go_region
  clear ab;go_wp2;refine NX (v:=.tuple #[.agg #[OH t0,OH t1,OH t2,OH T,OH V,.slice A' (aO s.msgs s.recv).vals.length c'],OH 0]) (by simp [results,results236,go_sem,r0,r1,r2,r3,r4,r5,a4,a5]) rfl ⟨A',c',rfl,?_⟩;refine ui H.o Q ?_ Z.o a6.o Hc.o ((a1.o.set (s.recv+1) ((s.recv:Int)+1) ap).same (Below.block (B:=w.heap.size) ?_ b hb))
  ·have aR:Keep (· =b) w p:=Keep.below J
   (focus (repeat' (first | (with_reducible exact Keep.refl _ _) | (with_reducible assumption) | (with_reducible refine Keep.setCell ?_ _ ?_ _) | (with_reducible refine Keep.alloc ?_ _) | (with_reducible refine Keep.drewN ?_ _) | (with_reducible refine Keep.drew ?_) | (with_reducible exact Or.inr (iS _ _)) | (with_reducible exact Or.inr (iR _ _)) | (refine Or.inr ?_;first | rfl | (simp;done) | omega) | (refine Or.inl ?_;first | omega | (simp;done) | (simp;omega)))))
  ·exact am
def dS (b:Nat) (g:Option Nat) (k:Nat):Prop:=k=b\/g=some k
theorem iS (b:Nat) (g:Option Nat):dS b g b:=.inl rfl
theorem iR (b g:Nat):dS b (some g) g:=.inr rfl
theorem aD.drew {w:Qd} {b:Nat} {ring:Value} {cap sent recv peak:Nat} (h:aD w b ring cap sent recv peak):aD w.drew b ring cap sent recv peak:=h
theorem aD.drewN {w:Qd} {b:Nat} {ring:Value} {cap sent recv peak:Nat} (h:aD w b ring cap sent recv peak) (n:Nat):aD (w.drewN n) b ring cap sent recv peak:=h
theorem aD.far {w:Qd} {b:Nat} {ring:Value} {cap sent recv peak:Nat} (h:aD w b ring cap sent recv peak) (p:Addr) (u:Value) (i:¬(b=p.block)):aD (w.setCell p u) b ring cap sent recv peak:=h.same (Below.heap_setCell w p u b i)
theorem aD.set0 {w:Qd} {b:Nat} {ring:Value} {cap sent recv peak:Nat} (h:aD w b ring cap sent recv peak) (v:Value):aD (w.setCell (ar b 0) v) b v cap sent recv peak:=by
 unfold aD at h ⊢;simp [World.setCell,Array.getElem?_modify,h]
theorem aD.set2 {w:Qd} {b:Nat} {ring:Value} {cap sent recv peak:Nat} (h:aD w b ring cap sent recv peak) (n:Nat) (v:Int) (i:v=(n:Int)):aD (w.setCell (ar b 2) (OH v)) b ring cap n recv peak:=by
 subst i;unfold aD at h ⊢;simp [World.setCell,Array.getElem?_modify,h]
theorem aD.set4 {w:Qd} {b:Nat} {ring:Value} {cap sent recv peak:Nat} (h:aD w b ring cap sent recv peak) (n:Nat) (v:Int) (i:v=(n:Int)):aD (w.setCell (ar b 4) (OH v)) b ring cap sent recv n:=by
 subst i;unfold aD at h ⊢;simp [World.setCell,Array.getElem?_modify,h]
theorem Cy {w:Qd} {base b:Nat} {ring u:Value} {cap sent recv peak n:Nat} {xs:Qc} (h:aD w b u cap sent recv peak) (x:w.ownsRow base 79 6 ring n xs):ring.ownBlock≠some b:=fun e=>by
 rcases x.2 with ⟨hn,_⟩ | ⟨v,cap2,p,o,_,i,_⟩
 ·rw [hn] at e;cases e
 ·rw [o] at e;obtain rfl:v=b:=by simpa [Value.ownBlock] using e
  unfold aD at h;rw [h] at i;injection i with i;injection i with _ i;exact absurd i (by decide)
theorem zg (H:Qc) (B I C J D L:Value) (hcs:H=[B,I,C,J,D,L]):∀(rows:List (Qc)) (i:Nat),(∀r∈rows,r.length=6)->i<rows.length-> ((((((List.flatten rows).set (i*6) B).set (i*6+1) I).set (i*6+2) C).set (i*6+3) J).set (i*6+4) D).set (i*6+5) L=List.flatten (rows.set i H):=by
 intro rows
 induction rows with
 | nil=>intro i _ A;simp at A
 | cons r l ih=>
  intro i h A;have hr:r.length=6:=h r (by simp)
  cases i with
  | zero=>
   obtain ⟨p,a1,u,v,o,y,rfl⟩:∃p a1 u v o y,r=[p,a1,u,v,o,y]:=by
    match r,hr with
    | [p,a1,u,v,o,y],_=>exact ⟨p,a1,u,v,o,y,rfl⟩
   subst hcs;rfl
  | succ i=>
   have e:∀(xs:Qc) (k:Nat) (x:Value),(r++xs).set (6+k) x=r++xs.set k x:=fun xs k x=>by
    rw [List.set_append_right _ _ ap,hr,show 6+k-6=k by omega]
   rw [List.flatten_cons,show (i+1)*6=6+i*6 by omega];simp only [Oy,e];rw [N6,List.flatten_cons,<-ih i (fun r hr=>h r (by simp [hr])) (by simpa using A)]
theorem sC (rows:List (Qc)) (i:Nat) (o:Qc) (h:i<rows.length):ep (rows.set i o) i=o:=by simp [ep,h]
theorem rC (rows:List (Qc)) (i j:Nat) (o:Qc) (h:i≠j):ep (rows.set i o) j=ep rows j:=by simp [ep,h]
theorem jN (rows:List (Qc)) (i:Qc) (j:Nat) (h:j<rows.length):ep (rows++[i]) j=ep rows j:=by simp [ep,Og h]
theorem jO (rows:List (Qc)) (h:Qc):ep (rows++[h]) rows.length=h:=by simp [ep]
theorem jY (l:List Msg) (m:Msg) (j:Nat) (h:j<l.length):aO (l++[m]) j=aO l j:=by simp [aO,Og h]
theorem jZ (l:List Msg) (m:Msg):aO (l++[m]) l.length=m:=by simp [aO]
theorem Mj {a b r cap:Nat} (h1:r<=a) (i:a<b) (o:b<r+cap):a%cap≠b%cap:=fun e=>by
 have h:cap ∣ b-a:=Nat.dvd_of_mod_eq_zero (Nat.sub_mod_eq_zero_of_mod_eq e.symm);have:=Nat.le_of_dvd ap h;omega
theorem oh {w B:Qd} {base b:Nat} {g:Option Nat} {s:LSt} {ring:Value} {rows:List (Qc)} (ok:s.Ok) (C:aD w b ring s.cap s.msgs.length s.recv s.peak) (Z:w.ownsRow base 79 6 ring (min s.msgs.length s.cap) (List.flatten rows)) (p:ring.ownBlock=g) (hm:∀j,s.recv<=j->j<s.msgs.length->xx w base (ep rows (j%s.cap)) (aO s.msgs j)) (J:s.msgs.length<s.recv+s.cap) (T:s.msgs.length<100000000000) (t:Tg) (zs:Qa) (O:zs.length<=17592186043904) (k:Keep (dS b g) w B) {ring':Value} {V:Option Nat} {rows':List (Qc)} {A1:N_} {c1:Nat} {P:Nat} (hP:P=max s.peak (s.msgs.length+1-s.recv)) (hc:aD B b ring' s.cap (s.msgs.length+1) s.recv P) (x:B.ownsRow base 79 6 ring' (min (s.msgs.length+1) s.cap) (List.flatten rows')) (hg:ring'.ownBlock=V) (hrl:rows'.length=min (s.msgs.length+1) s.cap) (N:∀r∈rows',r.length=6) (D:∀j,s.recv<=j->j<s.msgs.length->ep rows' (j%s.cap)=ep rows (j%s.cap))
  (H:ep rows' (s.msgs.length%s.cap)=[OH t.a,OH t.b,OH t.c,OH t.d,OH t.e,.slice A1 zs.length c1])
  (hv:B.ownsRow base 2 1 (.slice A1 zs.length c1) zs.length (aA .i64 zs)):
  aY B base b V {s with msgs:=s.msgs++[⟨t,zs⟩],peak:=max s.peak (s.msgs.length+1-s.recv)}:=by
 subst hP
 have hty:∀i U,w.heap[i]?=some (.cells U 2 (0,0))->¬(i=b\/g=some i):=by
  rintro i U h (rfl | y)
  ·unfold aD at C;rw [C] at h;injection h with h;injection h with _ h;exact absurd h (by decide)
  ·rcases Z.2 with ⟨hn,_⟩ | ⟨L,cap,Q,u,_,v,_⟩
   ·rw [hn] at p;rw [y] at p;cases p
   ·rw [u,y] at p;obtain rfl:L=i:=by simpa [Value.ownBlock] using p
    rw [v] at h;injection h with h;injection h with _ h;exact absurd h (by decide)
 refine ⟨⟨ok.cap1,ok.cap2,?_,?_,?_,?_,?_⟩,ring',rows',?_,?_,hg,?_,N,fun j h1 Y=>?_⟩
 ·have:=ok.rs;simp;omega
 ·simp;omega
 ·have:=ok.pk;simp only;omega
 ·simp;omega
 ·intro m o;rcases Ov.1 o with o | o
  ·exact ok.vals m o
  ·rw [List.mem_singleton.1 o];exact O
 ·simpa using hc
 ·simpa using x
 ·simpa using hrl
 ·simp only [Od,On] at h1 Y;rcases NY j s.msgs.length with I | I
  ·rw [jY _ _ _ I];simp only;rw [D j h1 I];obtain ⟨A,c2,e,u⟩:=hm j h1 I;refine ⟨A,c2,e,k.own u fun i h=>?_⟩;rcases u.2 with ⟨hn,_⟩ | ⟨L,cap,Q,R,_,v,_⟩
   ·rw [hn] at h;cases h
   ·rw [R] at h;obtain rfl:L=i:=by simpa [Value.ownBlock] using h
    exact hty _ _ v
  ·obtain rfl:j=s.msgs.length:=ap;rw [jZ];exact ⟨A1,c1,H,hv⟩
theorem uj (base b:Nat) (g:Option Nat) (s:LSt) (y:Qb) (w:Qd) (h:aY w base b g s) (i:s.msgs.length=s.recv+s.cap):Calls prog 235 #[(au b),.agg y] w fun e v=>e=.returned (OH 11)/\aq w v:=by
 obtain ⟨ok,ring,rows,hc,_⟩:=h;have B:=ok.cap2;have p:=ok.rs;have u:=ok.many;have hl:=fun o n=>mz b _ _ _ _ _ _ (show aD ((w.alloc o).drewN n) _ _ _ _ _ _ from hc.alloc o) p ap;rw [show (s.msgs.length:Int)-(s.recv:Int)=(s.cap:Int) by omega] at hl;have c1:=hc.c1;have hb:=NE hc;obtain ⟨x,A,C,D⟩:=ag hl ok hc i;clear hl hc ok i p u;go_enter func235,ntmps235;go_wp2_with fail
 go_quiet ((go_at_call 104;exact Calls.quiet_of (x.o _ _)))
 go_wp2_with fail;go_ret;refine ⟨rfl,?_⟩;exact am
def cR (w:Qd) (A:N_) (ms:List Msg):Prop:=
 ∃rows,Rd w A (List.flatten rows)/\rows.length=ms.length/\(∀r∈rows,r.length=6)/\∀j,j<ms.length->ud w (ep rows j) (aO ms j)
theorem ud.same {w i:Qd} {o:Qc} {m:Msg} (h:ud w o m) (hb:∀b,b<w.heap.size->i.heap[b]?=w.heap[b]?):ud i o m:=by
 obtain ⟨A,c,e,hr⟩:=h;exact ⟨A,c,e,hr.same hb⟩
theorem cR.same {w i:Qd} {A:N_} {ms:List Msg} (h:cR w A ms) (hb:∀b,b<w.heap.size->i.heap[b]?=w.heap[b]?):cR i A ms:=by
 obtain ⟨rows,h1,p,v,u⟩:=h;exact ⟨rows,h1.same hb,p,v,fun j o=>(u j o).same hb⟩
theorem cR.below {w i:Qd} {A:N_} {ms:List Msg} (h:cR w A ms) (hb:aq w i):cR i A ms:=h.same hb.block
theorem cR.nil (w:Qd) (A:N_):cR w A []:=⟨[],Rd.nil _ _,rfl,by simp,by simp⟩
theorem rx {rows:List (Qc)} {k:Nat} (h:∀r∈rows,r.length=k):(List.flatten rows).length=rows.length*k:=by
 induction rows with
 | nil=>simp
 | cons r l ih=>rw [List.flatten_cons,Od,h r (by simp),ih (fun r hr=>h r (by simp [hr])),List.length_cons,Nat.add_mul];omega
def fM (V w:Qd) (A:N_) (ms:List Msg):Prop:=
 ∃rows,Rd w A (List.flatten rows)/\rows.length=ms.length/\(∀r∈rows,r.length=6)/\∀j,j<ms.length->ud V (ep rows j) (aO ms j)
theorem fM.nil (V w:Qd) (A:N_):fM V w A []:=⟨[],Rd.nil _ _,rfl,by simp,by simp⟩
theorem cR.in_ {w:Qd} {A:N_} {ms:List Msg} (h:cR w A ms):fM w w A ms:=h
theorem fM.keep {V w i:Qd} {S:Nat->Prop} {A:N_} {ms:List Msg} (h:fM V w A ms) (k:Keep S w i) (hA:∀a,A=some a->¬S a.block):fM V i A ms:=by
 obtain ⟨rows,h1,o,u,p⟩:=h;exact ⟨rows,k.rd h1 hA,o,u,p⟩
theorem dK {p q:Prop} (h:p) (k:p->q):q:=k h
theorem oZ (w:Qd) (e:Qf) (size n base:Nat) (hn:w.heap.size=n) (hb:base<=n):(w.alloc (.cells #[] e)).ownsRow base e size (.slice (some (ar n 0)) 0 0) 0 []:=by
 subst hn;exact World.ownsRow_made w #[] 0 hb (by unfold maxLen;omega) (by simp)
theorem qE (cap:Int) (A:N_) (n c:Nat) (r pk:Int) (w:Qd) (hr:0<=r/\r<=n) (hn:n<=17592186043904):Calls prog 166 #[.agg #[OH cap,.slice A n c,OH r,OH pk]] w fun e h=>e=.returned (OH ((n:Int)-r))/\h=w.alloc (.cells #[OH cap,.slice A n c,OH r,OH pk] 75):=by
 go_enter func166,ntmps166;go_wp2;go_ret;exact ⟨rfl,rfl⟩
theorem pY (t0 t1 t2 o p:Int) (v:Value) (i:v.oneCell'=true):∀u∈[Value.int .i64 t0,OH t1,OH t2,OH o,OH p,v],u.oneCell'=true:=by
 intro u h;simp at h;rcases h with rfl | rfl | rfl | rfl | rfl | rfl<;>first | rfl | exact i
theorem GD {w:Qd} {ms:List Msg} {rows:List (Qc)} (v:rows.length=ms.length) (p:∀j,j<ms.length->ud w (ep rows j) (aO ms j)):∀u∈List.flatten rows,u.oneCell'=true:=by
 intro u h;obtain ⟨r,hr,h⟩:=List.mem_flatten.1 h;obtain ⟨j,o,e⟩:=List.getElem_of_mem hr;obtain ⟨x,c,i,_⟩:=p j ap;rw [show ep rows j=r by simp [ep,o,e]] at i;subst i;exact pY _ _ _ _ _ _ rfl u h
theorem wK {h o:Qd} {k:Nat} {cap r pk:Int} {x:Value} {p:N_} {n c3:Nat} {xs:Qc} (hk:k<h.heap.size) (y:h.heap[k]?=some (.cells #[OH cap,x,OH r,OH pk] 75 (0,0))) (hB:aq h o) (u:o.ownsRow h.heap.size 79 6 (.slice p n c3) n xs) (v:Value): (o.setCell (ar k 1) v).ownsRow h.heap.size 79 6 (.slice p n c3) n xs/\(o.setCell (ar k 1) v).heap[k]?=some (.cells #[OH cap,v,OH r,OH pk] 75 (0,0))/\Keep (fun i=>i=k) h (o.setCell (ar k 1) v):=by
 refine ⟨ownsRow_setCell_other u (fun e=>by have:=(u.lt _ e).1;simp at this;omega) v,?_,Keep.setCell (S:=fun i=>i=k) (Keep.below hB) (ar k 1) (.inr rfl) v⟩;exact OE o k 1 _ _ v ((hB.block k hk).trans y)
def Df (V:Qd) (cap r:Nat) (pk:Nat) (ms:List Msg) (w:Qd) (e:Ending) (i:Qd):Prop:=
 ∃h o P,P=(pk:Int)/\e=.returned (.tuple #[.agg #[OH cap,.slice h ms.length o,OH r,OH P],OH 0])/\(fM V i h ms/\ms.length<=o/\∀a,h=some a->w.heap.size<=a.block)/\aq w i
theorem ye {V W:Qd} {u B:N_} {ms:List Msg} {rows:List (Qc)} {t0 t1 t2 i o:Int} {zs:Qa} {d:Nat} (p:rows.length=ms.length) (y:∀r∈rows,r.length=6) (x:∀j,j<ms.length->ud V (ep rows j) (aO ms j)) (hB:Rd V B (aA .i64 zs)) (hr:Rd W u (List.flatten rows++[OH t0,OH t1,OH t2,OH i,OH o,.slice B zs.length d])):
  fM V W u (ms++[⟨⟨t0,t1,t2,i,o⟩,zs⟩]):=by
 refine ⟨rows++[[OH t0,OH t1,OH t2,OH i,OH o,.slice B zs.length d]],?_,by simp [p],?_,?_⟩
 ·rw [Oo,List.flatten_cons,List.flatten_nil,List.append_nil];exact hr
 ·intro r hr;rcases Ov.1 hr with hr | hr
  ·exact y r hr
  ·rw [List.mem_singleton.1 hr];rfl
 ·intro j v;rcases NY j ms.length with h | h
  ·rw [jN _ _ _ ap,jY _ _ _ h];exact x j h
  ·obtain rfl:j=ms.length:=by simp at v;omega
   rw [jZ,<-p,jO];exact ⟨B,d,rfl,hB⟩
theorem Kw (V:Qd) (cap:Nat) (A:N_) (ms:List Msg) (c r pk:Nat) (t:Tg) (B:N_) (zs:Qa) (d:Nat) (w:Qd) (hr:r<=ms.length) (hn:ms.length<=100000000000) (be:ms.length<r+cap) (hA:fM V w A ms) (hB:Rd V B (aA .i64 zs)):Calls prog 135 #[.agg #[OH cap,.slice A ms.length c,OH r,OH pk],.agg #[OH t.a,OH t.b,OH t.c,OH t.d,OH t.e,.slice B zs.length d]] w (Df V cap r (max pk (ms.length+1-r)) (ms++[⟨t,zs⟩]) w):=by
 obtain ⟨t0,t1,t2,t3,t4⟩:=t;obtain ⟨rows,h1,h2,h3,h4⟩:=hA;have aG:=rx h3;rw [h2] at aG;have ab:=GD h2 h4;have a3:=fun W=>qE cap A ms.length c r pk W ap ap;obtain ⟨bi,aP,a4,H2,H3,H4⟩:=ai a3 aG ab h2 h3 h4;clear a3 aG ab h2 h3 h4;go_enter func135,ntmps135;go_wp2_with fail
 go_region_held3 (fun w'=>w'.cell? ⟨w.heap.size,0,none⟩=some (OH (cap:Int))/\w'.cell? ⟨w.heap.size,1,none⟩=some (.slice A ms.length c)/\w'.cell? ⟨w.heap.size,2,none⟩=some (OH (r:Int))/\w'.cell? ⟨w.heap.size,3,none⟩=some (OH (pk:Int))) (simp [go_sem,World.cell?_alloc_past, *])
  ((go_at_call 166;refine (bi.o _).mono ?_;rintro e w' ⟨rfl,rfl⟩))
 go_wp2_with fail;generalize hw1:World.drew _=w1
 have hf:(w1.heap[w.heap.size]?=some (.cells #[OH (cap:Int),.slice A ms.length c,OH (r:Int),OH (pk:Int)] 75 (0,0)))/\(w1.heap[w.heap.size+1]?=some (.cells #[OH t0,OH t1,OH t2,OH t3,OH t4,.slice B zs.length d] 79 (0,0)))/\
   (w1.heap[w.heap.size+1+1]?=some (.cells #[OH 0,OJ,OH 0,OH 0] 75 (0,0)))/\w.heap.size+4=w1.heap.size/\aq w w1:=by
  subst hw1;refine ⟨?_,?_,?_,by simp,?_⟩
  ·show ((((w.heap.push _).push _).push _).push _)[_]?=_
   simp only [Array.getElem?_push,Array.size_push];rw [if_neg ap,if_neg ap,if_neg ap,if_pos trivial]
  ·show ((((w.heap.push _).push _).push _).push _)[_]?=_
   simp only [Array.getElem?_push,Array.size_push];rw [if_neg ap,if_neg ap,if_pos trivial]
  ·show ((((w.heap.push _).push _).push _).push _)[_]?=_
   simp only [Array.getElem?_push,Array.size_push];rw [if_neg ap,if_pos trivial]
  ·exact am
 obtain ⟨a1,U,b4,aR,b5⟩:=hf;have b0:w1.cell? ⟨w.heap.size,0,none⟩=some (OH (cap:Int)):=NH w1 _ 0 _ _ _ a1;have b1:w1.cell? ⟨w.heap.size,1,none⟩=some (.slice A ms.length c):=NH w1 _ 1 _ _ _ a1;have b2:w1.cell? ⟨w.heap.size,2,none⟩=some (OH (r:Int)):=NH w1 _ 2 _ _ _ a1;have b3:w1.cell? ⟨w.heap.size,3,none⟩=some (OH (pk:Int)):=NH w1 _ 3 _ _ _ a1;have bf:=fun j=>NS w1 _ j _ _ a1;have m0:w1.cell? ⟨w.heap.size+1,0,none⟩=some (OH t0):=NH w1 _ 0 _ _ _ U;have m1:w1.cell? ⟨w.heap.size+1,1,none⟩=some (OH t1):=NH w1 _ 1 _ _ _ U;have m2:w1.cell? ⟨w.heap.size+1,2,none⟩=some (OH t2):=NH w1 _ 2 _ _ _ U;have m3:w1.cell? ⟨w.heap.size+1,3,none⟩=some (OH t3):=NH w1 _ 3 _ _ _ U;have m4:w1.cell? ⟨w.heap.size+1,4,none⟩=some (OH t4):=NH w1 _ 4 _ _ _ U;have m5:w1.cell? ⟨w.heap.size+1,5,none⟩=some (.slice B zs.length d):=NH w1 _ 5 _ _ _ U;have J:w.heap.size<w1.heap.size:=ap;have x:w.heap.size+1<w1.heap.size:=ap;have a8:w.heap.size+1+1<w1.heap.size:=ap;have a9:=h1.below b5;obtain ⟨bw,bz,bo,bG,bh⟩:=ah hw1 aR a1 U b4;clear hw1 aR a1 U b4 h1
 go_cut [] (fun wx=>∃A' c',wx.ownsRow w1.heap.size 79 6 (.slice A' (ms.length+1) c') (ms.length+1) (List.flatten rows++[OH t0,OH t1,OH t2,OH t3,OH t4,.slice B zs.length d])/\
   wx.heap[w.heap.size]?=some (.cells #[OH (cap:Int),.slice A' (ms.length+1) c',OH (r:Int),OH (pk:Int)] 75 (0,0))/\Keep (fun k=>k=w.heap.size) w1 wx)
 case first=>
  go_region_law (first | (refine iT kZ rfl (.tmp 12) (.tmp 14) rfl w1.heap.size (.slice (some ⟨w1.heap.size,0,none⟩) 0 0) 0 [] rfl ?_ A ms.length c (List.flatten rows) rfl ?_ ?_ ?_ ?_ ?_ ?_ ?_;(focus ((repeat' (first | (with_reducible refine World.ownsRow.drew ?_) | (refine oZ _ _ _ _ _ ?_ ?_;(focus (try simp));omega) | (with_reducible refine World.ownsRow.alloc ?_ _)));done));(focus ((repeat' (first | (with_reducible exact a9) | (with_reducible refine Rd.drew ?_) | (with_reducible refine Rd.alloc ?_ _)));done));exact aP.o;exact a4.o;omega;(unfold maxLen;omega);(simp;try omega);intro A2 c2 Z i D u T;simp only [Oz,List.nil_append] at i;refine dK (p:=aq w1 Z) ?_ ?_;(focus (refine Below.trans ?_ D;exact am;done));intro h;have a8:=h.size;have n0:=(h.cell (p:=⟨w.heap.size+1,0,none⟩) x).trans m0;have n1:=(h.cell (p:=⟨w.heap.size+1,1,none⟩) x).trans m1;have n2:=(h.cell (p:=⟨w.heap.size+1,2,none⟩) x).trans m2;have n3:=(h.cell (p:=⟨w.heap.size+1,3,none⟩) x).trans m3;have n4:=(h.cell (p:=⟨w.heap.size+1,4,none⟩) x).trans m4;have n5:=(h.cell (p:=⟨w.heap.size+1,5,none⟩) x).trans m5;refine dK (p:=Rd Z (some ⟨w1.heap.size+1,0,none⟩) [OH t0,OH t1,OH t2,OH t3,OH t4,.slice B zs.length d]) ?_ ?_;(focus (refine Rd.grown (row:=some w1.heap.size) ?_ u ?_;(focus ((repeat' (first | (with_reducible refine Rd.drew ?_) | (refine dN _ _ _ _ ?_;simp;done) | (with_reducible refine Rd.alloc ?_ _)));done));(intro a ha;cases ha;simp)));intro L;refine dK (p:=w.heap.size<Z.heap.size/\w.heap.size+1<Z.heap.size) (NR ?_ ?_) ?_;omega;omega;intro N;have ad:=N.1;have ao:=N.2;have p1:=(h.cell (p:=⟨w.heap.size,1,none⟩) J).trans b1;have b8:=(h.frozen (p:=⟨w.heap.size,1,none⟩) J).trans (bf 1);obtain ⟨a5,O,a2⟩:=af h i L;clear h i L D u T N) | (refine iT kZ rfl (.tmp 12) (.tmp 14) rfl w1.heap.size (.slice (some ⟨w1.heap.size+1,0,none⟩) 0 0) 0 [] rfl ?_ A ms.length c (List.flatten rows) rfl ?_ ?_ ?_ ?_ ?_ ?_ ?_;(focus ((repeat' (first | (with_reducible refine World.ownsRow.drew ?_) | (refine oZ _ _ _ _ _ ?_ ?_;(focus (try simp));omega) | (with_reducible refine World.ownsRow.alloc ?_ _)));done));(focus ((repeat' (first | (with_reducible exact a9) | (with_reducible refine Rd.drew ?_) | (with_reducible refine Rd.alloc ?_ _)));done));exact aP.o;exact a4.o;omega;(unfold maxLen;omega);(simp;try omega);intro A2 c2 Z i D u T;simp only [Oz,List.nil_append] at i;refine dK (p:=aq w1 Z) ?_ ?_;(focus (refine Below.trans ?_ D;exact am;done));intro h;have a8:=h.size;have n0:=(h.cell (p:=⟨w.heap.size+1,0,none⟩) x).trans m0;have n1:=(h.cell (p:=⟨w.heap.size+1,1,none⟩) x).trans m1;have n2:=(h.cell (p:=⟨w.heap.size+1,2,none⟩) x).trans m2;have n3:=(h.cell (p:=⟨w.heap.size+1,3,none⟩) x).trans m3;have n4:=(h.cell (p:=⟨w.heap.size+1,4,none⟩) x).trans m4;have n5:=(h.cell (p:=⟨w.heap.size+1,5,none⟩) x).trans m5;refine dK (p:=Rd Z (some ⟨w1.heap.size,0,none⟩) [OH t0,OH t1,OH t2,OH t3,OH t4,.slice B zs.length d]) ?_ ?_;(focus (refine Rd.grown (row:=some (w1.heap.size+1)) ?_ u ?_;(focus ((repeat' (first | (with_reducible refine Rd.drew ?_) | (refine dN _ _ _ _ ?_;simp;done) | (with_reducible refine Rd.alloc ?_ _)));done));(intro a ha;cases ha;simp)));intro L;refine dK (p:=w.heap.size<Z.heap.size/\w.heap.size+1<Z.heap.size) (NR ?_ ?_) ?_;omega;omega;intro N;have ad:=N.1;have ao:=N.2;have p1:=(h.cell (p:=⟨w.heap.size,1,none⟩) J).trans b1;have b8:=(h.frozen (p:=⟨w.heap.size,1,none⟩) J).trans (bf 1);obtain ⟨a5,O,a2⟩:=af h i L;clear h i L D u T N) | (refine iT kZ rfl (.tmp 12) (.tmp 14) rfl w1.heap.size (.slice (some ⟨w1.heap.size,0,none⟩) 0 0) 0 [] rfl ?_ A ms.length c (List.flatten rows) rfl ?_ ?_ ?_ ?_ ?_ ?_ ?_;(focus ((repeat' (first | (with_reducible refine World.ownsRow.drew ?_) | (refine oZ _ _ _ _ _ ?_ ?_;(focus (try simp));omega) | (with_reducible refine World.ownsRow.alloc ?_ _)));done));(focus ((repeat' (first | (with_reducible exact a9) | (with_reducible refine Rd.drew ?_) | (with_reducible refine Rd.alloc ?_ _)));done));exact aP.o;exact a4.o;omega;(unfold maxLen;omega);(simp;try omega);intro A2 c2 Z i D u T;simp only [Oz,List.nil_append] at i;refine dK (p:=aq w1 Z) ?_ ?_;(focus (refine Below.trans ?_ D;exact am;done));intro h;have a8:=h.size;have n0:=(h.cell (p:=⟨w.heap.size+1,0,none⟩) x).trans m0;have n1:=(h.cell (p:=⟨w.heap.size+1,1,none⟩) x).trans m1;have n2:=(h.cell (p:=⟨w.heap.size+1,2,none⟩) x).trans m2;have n3:=(h.cell (p:=⟨w.heap.size+1,3,none⟩) x).trans m3;have n4:=(h.cell (p:=⟨w.heap.size+1,4,none⟩) x).trans m4;have n5:=(h.cell (p:=⟨w.heap.size+1,5,none⟩) x).trans m5;have L:Rd Z (some ⟨Z.heap.size,0,none⟩) []:=Rd.nil _ _;refine dK (p:=w.heap.size<Z.heap.size/\w.heap.size+1<Z.heap.size) (NR ?_ ?_) ?_;omega;omega;intro N;have ad:=N.1;have ao:=N.2;have p1:=(h.cell (p:=⟨w.heap.size,1,none⟩) J).trans b1;have b8:=(h.frozen (p:=⟨w.heap.size,1,none⟩) J).trans (bf 1);obtain ⟨a5,O,a2⟩:=af h i L;clear h i L D u T N) | (refine iT kZ rfl (.tmp 15) (.tmp 17) rfl w1.heap.size (.slice A2 ms.length c2) ms.length (List.flatten rows) rfl ?_ (some ⟨Z.heap.size,0,none⟩) 1 1 [OH t0,OH t1,OH t2,OH t3,OH t4,.slice B zs.length d] rfl ?_ rfl (pY _ _ _ _ _ _ rfl) ?_ ?_ ?_ ?_;(focus ((repeat' (first | (with_reducible exact O.o) | (with_reducible refine World.ownsRow.drew ?_) | (with_reducible refine World.ownsRow.alloc ?_ _)));done));(focus ((repeat' (first | (with_reducible refine Rd.drew ?_) | exact dN _ _ _ _ rfl));done));omega;(unfold maxLen;omega);(first | omega | (focus (simp;omega)) | simp);intro A3 c3 w3 y C I Y;refine dK (p:=aq w1 w3) ?_ ?_;(focus (refine a5.o.trans (Below.trans ?_ C);exact am;done));intro H;have q1:=(H.cell (p:=⟨w.heap.size,1,none⟩) J).trans b1;have bb:=(H.frozen (p:=⟨w.heap.size,1,none⟩) J).trans (bf 1);obtain ⟨aM,a0⟩:=ae H y;clear H y C I Y) | (refine iT kZ rfl (.tmp 15) (.tmp 17) rfl w1.heap.size (.slice A2 ms.length c2) ms.length (List.flatten rows) rfl ?_ (some ⟨w1.heap.size+1,0,none⟩) 1 1 [OH t0,OH t1,OH t2,OH t3,OH t4,.slice B zs.length d] rfl ?_ rfl (pY _ _ _ _ _ _ rfl) ?_ ?_ ?_ ?_;(focus ((repeat' (first | (with_reducible exact O.o) | (with_reducible refine World.ownsRow.drew ?_) | (with_reducible refine World.ownsRow.alloc ?_ _)));done));(focus ((repeat' (first | (with_reducible exact a2.o) | (with_reducible refine Rd.drew ?_)));done));omega;(unfold maxLen;omega);(first | omega | (focus (simp;omega)) | simp);intro A3 c3 w3 y C I Y;refine dK (p:=aq w1 w3) ?_ ?_;(focus (refine a5.o.trans (Below.trans ?_ C);exact am;done));intro H;have q1:=(H.cell (p:=⟨w.heap.size,1,none⟩) J).trans b1;have bb:=(H.frozen (p:=⟨w.heap.size,1,none⟩) J).trans (bf 1);obtain ⟨aM,a0⟩:=ae H y;clear H y C I Y) | (refine iT kZ rfl (.tmp 15) (.tmp 17) rfl w1.heap.size (.slice A2 ms.length c2) ms.length (List.flatten rows) rfl ?_ (some ⟨w1.heap.size,0,none⟩) 1 1 [OH t0,OH t1,OH t2,OH t3,OH t4,.slice B zs.length d] rfl ?_ rfl (pY _ _ _ _ _ _ rfl) ?_ ?_ ?_ ?_;(focus ((repeat' (first | (with_reducible exact O.o) | (with_reducible refine World.ownsRow.drew ?_) | (with_reducible refine World.ownsRow.alloc ?_ _)));done));(focus ((repeat' (first | (with_reducible exact a2.o) | (with_reducible refine Rd.drew ?_)));done));omega;(unfold maxLen;omega);(first | omega | (focus (simp;omega)) | simp);intro A3 c3 w3 y C I Y;refine dK (p:=aq w1 w3) ?_ ?_;(focus (refine a5.o.trans (Below.trans ?_ C);exact am;done));intro H;have q1:=(H.cell (p:=⟨w.heap.size,1,none⟩) J).trans b1;have bb:=(H.frozen (p:=⟨w.heap.size,1,none⟩) J).trans (bf 1);obtain ⟨aM,a0⟩:=ae H y;clear H y C I Y))
  all_goals go_wp2_with fail
  all_goals go_meet
  all_goals
   have hm:=wK J bo.o aM.o a0.o (.slice A3 (ms.length+1) c3)
   first | exact ⟨A3,c3,hm.1,hm.2.1,hm.2.2⟩ | exact ⟨A3,c3,hm.1,hm.2.1,Keep.drew hm.2.2⟩
 case rest=>
  obtain ⟨A',c',av,R,hK⟩:=hcut;have bs:=hK.size;have e0:wc.cell? ⟨w.heap.size,0,none⟩=some (OH (cap:Int)):=NH wc _ 0 _ _ _ R;have e1:wc.cell? ⟨w.heap.size,1,none⟩=some (.slice A' (ms.length+1) c'):=NH wc _ 1 _ _ _ R;have e2:wc.cell? ⟨w.heap.size,2,none⟩=some (OH (r:Int)):=NH wc _ 2 _ _ _ R;have e3:wc.cell? ⟨w.heap.size,3,none⟩=some (OH (pk:Int)):=NH wc _ 3 _ _ _ R;have ef:=fun j=>NS wc _ j _ _ R;have Q:=(hK.block (w.heap.size+1+1) a8 ap).trans bh.o;have g0:wc.cell? ⟨w.heap.size+1+1,0,none⟩=some (OH 0):=NH wc _ 0 _ _ _ Q;have g1:wc.cell? ⟨w.heap.size+1+1,1,none⟩=some (OJ):=NH wc _ 1 _ _ _ Q;have g2:wc.cell? ⟨w.heap.size+1+1,2,none⟩=some (OH 0):=NH wc _ 2 _ _ _ Q;have g3:wc.cell? ⟨w.heap.size+1+1,3,none⟩=some (OH 0):=NH wc _ 3 _ _ _ Q;have gf:=fun j=>NS wc _ j _ _ Q;have bv:w.heap.size<wc.heap.size:=ap;have b7:w.heap.size+1+1<wc.heap.size:=ap;have b6:=fun W=>qE cap A' (ms.length+1) c' r pk W ap ap;obtain ⟨bd,HK,a7⟩:=af b6 hK av;clear b6 hK av Q R b0 b1 b2 b3 bf m0 m1 m2 m3 m4 m5 a9;go_wp2_with fail
  go_region_with ((go_at_call 166;refine (bd.o _).mono ?_;rintro e w' ⟨rfl,rfl⟩))
  all_goals go_wp2_with fail
  all_goals
   have bA:Keep (fun k=>k<w1.heap.size) wc wc:=Keep.refl _ _;have bI:aq w wc:=b5.trans (HK.o.toBelow ap (fun k hk=>ap));have bn:=Rd.own a7.o
   have b9:ms.length+1<=c':=by
    obtain ⟨A9,c9,e9,bl⟩:=aC a7.o;injection e9 with _ _ e9;rw [e9];exact bl
   have a6:∀a:Addr,A'=some a->¬a.block<w1.heap.size:=fun a ha=>by
    have:=(a7.o.lt a.block (by rw [ha];rfl)).1;omega
   first
   | (have hP:(pk:Int)=((max pk (ms.length+1-r):Nat):Int):=ap;refine NX (v:=.tuple #[.agg #[OH cap,.slice A' (ms.length+1) c',OH r,OH (pk:Int)],OH 0]) (by simp [results,results135,go_sem,g0,g1,g2,g3,b7]) rfl ⟨A',c',(pk:Int),hP,by rw [Od,On],⟨?_,by rw [Od,On];exact b9,fun a ha=>by have:=a6 a ha;omega⟩,?_⟩)
   | (have hP:(ms.length:Int)+1-(r:Int)=((max pk (ms.length+1-r):Nat):Int):=ap;refine NX (v:=.tuple #[.agg #[OH cap,.slice A' (ms.length+1) c',OH r,OH ((ms.length:Int)+1-(r:Int))],OH 0]) (by simp [results,results135,go_sem,g0,g1,g2,g3,b7]) rfl ⟨A',c',(ms.length:Int)+1-(r:Int),hP,by rw [Od,On],⟨?_,by rw [Od,On];exact b9,fun a ha=>by have:=a6 a ha;omega⟩,?_⟩)
  all_goals first
   | (refine ye (B:=B) (d:=d) H2.o H3.o H4.o hB (Keep.rd (S:=fun k=>k<w1.heap.size) (w:=wc) ?_ bn a6);(focus (repeat' (first | (with_reducible exact Keep.refl _ _) | (with_reducible assumption) | (with_reducible refine Keep.setCell ?_ _ ?_ _) | (with_reducible refine Keep.alloc ?_ _) | (with_reducible refine Keep.drewN ?_ _) | (with_reducible refine Keep.drew ?_) | (dsimp only;omega)))))
   | exact am
theorem Fb (A1 x:N_) (l1 h:Qa) (c1 c2:Nat) (w:Qd) (h1:Rd w A1 (aA .i64 l1)) (B:Rd w x (aA .i64 h)) (hl:l1.length<=140737488355328):Calls prog 49 #[.slice A1 l1.length c1,.slice x h.length c2] w fun e A=>e=.returned (.bool (decide (l1=h)))/\∃n,A=w.drewN n:=by
 by_cases p:l1.length=h.length
 ·have v:((l1.length:Int) != (h.length:Int))=false:=by simp [p]
  go_enter func49,ntmps49;go_wp2
  go_loopw [5,13] (fun _ i wr=>∃k:Nat,k<=l1.length/\i=OH k/\l1.take k=h.take k/\∃n,wr=w.drewN n) (fun _ i _=>l1.length-(intOf i).toNat)
  ·exact ⟨0,NJ _,rfl,rfl,0,rfl⟩
  case round=>
   obtain ⟨k,hk,rfl,o,n,rfl⟩:=hrel;by_cases y:k<h.length
   ·obtain ⟨H,L,rfl,D⟩:=h1.num (k:=k) ap;obtain ⟨I,J,rfl,C⟩:=B.num (k:=k) ap;go_wp2
    go_quiet (fail)
    go_wp2
    ·have u:(nth l1 k != nth h k)=true:=by assumption
     go_ret;refine ⟨df ?_,_,World.drewN_drewN _ _ _⟩;symm;rw [OC];rintro rfl;simp at u
    ·have u:(nth l1 k != nth h k)=false:=by assumption
     go_roundw
     ·exact ⟨k+1,by omega,by go_num,pK ap ap o (by simpa using u),_,rfl⟩
     ·simp [intOf];omega
   ·go_wp2;go_ret;refine ⟨df ?_,n,rfl⟩;symm;rw [decide_eq_true_iff];obtain rfl:k=l1.length:=ap;exact tD p o
 ·have v:((l1.length:Int) != (h.length:Int))=true:=by simp;omega
  go_enter func49,ntmps49;go_wp2;go_ret;refine ⟨df ?_,0,rfl⟩;symm;rw [OC];rintro rfl;exact p rfl
theorem Gt (A:N_) (c:Nat) (k:Cfg) (w:Qd):Calls prog 64 #[.agg (dx A c k)] w fun e B=>e=.returned (.agg #[OH k.rate,OH k.mom,OH k.shift])/\aq w B:=by
 obtain ⟨sz,sh,ra,h,o,ba,mi,st,bu,ch,wi,ca⟩:=k;dsimp only [dx];obtain ⟨L,u⟩:∃L,sz.length=L:=⟨_,rfl⟩;rw [u];clear u;go_enter func64,ntmps64;go_wp2_with fail;have p:=NG (w.alloc (.cells #[.slice A L c,OH sh,OH ra,OH h,OH o,OH ba,OH mi,OH st,OH bu,OH ch,OH wi,OH ca] 24)) (.cells #[OH ra,OH h,OH sh] 136);rw [show (w.alloc (.cells #[.slice A L c,OH sh,OH ra,OH h,OH o,OH ba,OH mi,OH st,OH bu,OH ch,OH wi,OH ca] 24)).heap.size=w.heap.size+1 by simp] at p;have hB:aq w ((w.alloc (.cells #[.slice A L c,OH sh,OH ra,OH h,OH o,OH ba,OH mi,OH st,OH bu,OH ch,OH wi,OH ca] 24)).alloc (.cells #[OH ra,OH h,OH sh] 136)):=((NI _ w).alloc (NF _) _).alloc (by simp) _;obtain ⟨x,i⟩:∃x,x=(w.alloc (.cells #[.slice A L c,OH sh,OH ra,OH h,OH o,OH ba,OH mi,OH st,OH bu,OH ch,OH wi,OH ca] 24)).alloc (.cells #[OH ra,OH h,OH sh] 136):=⟨_,rfl⟩;rw [<-i] at p hB ⊢;clear i;obtain ⟨⟨D,C,y⟩,H⟩:=bx3 p;exact NX (v:=.agg #[OH ra,OH h,OH sh]) (by simp [results,results64,go_sem,D,C,y]) rfl ⟨rfl,hB⟩
theorem AG (A:N_) (c:Nat) (D:N_) (x:Nat) (T:N_) (y:Nat) (R:N_) (p:Nat) (i:Inp) (P:N_) (h o:Nat) (w:Qd):Calls prog 98 #[.agg (aN A c D x T y R p i),.slice P h o] w fun e Y=>e=.returned (.agg #[.slice A i.cfg.sizes.length c,.slice P h o,OH i.cfg.shift])/\aq w Y:=by
 obtain ⟨⟨sz,sh,ra,B,C,ba,mi,st,bu,ch,wi,ca⟩,data,start,draws⟩:=i;dsimp only [aN];obtain ⟨L,O⟩:∃L,sz.length=L:=⟨_,rfl⟩;obtain ⟨N,V⟩:∃N,data.length=N:=⟨_,rfl⟩;obtain ⟨M,I⟩:∃M,start.length=M:=⟨_,rfl⟩;obtain ⟨Q,J⟩:∃Q,draws.length=Q:=⟨_,rfl⟩;rw [O,V,I,J];clear O V I J;go_enter func98,ntmps98;go_wp2_with fail;have H:=NG (w.alloc (.cells #[.slice A L c,OH sh,OH ra,OH B,OH C,OH ba,OH mi,OH st,OH bu,OH ch,OH wi,OH ca,.slice D N x,.slice T M y,.slice R Q p] 29)) (.cells #[.slice A L c,.slice P h o,OH sh] 198);rw [show (w.alloc (.cells #[.slice A L c,OH sh,OH ra,OH B,OH C,OH ba,OH mi,OH st,OH bu,OH ch,OH wi,OH ca,.slice D N x,.slice T M y,.slice R Q p] 29)).heap.size=w.heap.size+1 by simp] at H;have hB:aq w ((w.alloc (.cells #[.slice A L c,OH sh,OH ra,OH B,OH C,OH ba,OH mi,OH st,OH bu,OH ch,OH wi,OH ca,.slice D N x,.slice T M y,.slice R Q p] 29)).alloc (.cells #[.slice A L c,.slice P h o,OH sh] 198)):=((NI _ w).alloc (NF _) _).alloc (by simp) _;obtain ⟨U,u⟩:∃U,U=(w.alloc (.cells #[.slice A L c,OH sh,OH ra,OH B,OH C,OH ba,OH mi,OH st,OH bu,OH ch,OH wi,OH ca,.slice D N x,.slice T M y,.slice R Q p] 29)).alloc (.cells #[.slice A L c,.slice P h o,OH sh] 198):=⟨_,rfl⟩;rw [<-u] at H hB ⊢;clear u;obtain ⟨⟨r0,Z,r2⟩,rf⟩:=bx3 H;exact NX (v:=.agg #[.slice A L c,.slice P h o,OH sh]) (by simp [results,results98,go_sem,r0,Z,r2]) rfl ⟨rfl,hB⟩
theorem JK (A B:N_) (n c m d:Nat) (w:Qd):Calls prog 66 #[.agg #[.slice A n c,.slice B m d]] w fun e p=>e=.returned (.agg #[.slice A n c,.slice B m d])/\aq w p:=by
 go_enter func66,ntmps66;go_wp2_with fail;have i:=NG (w.alloc (.cells #[.slice A n c,.slice B m d] 141)) (.cells #[.slice A n c,.slice B m d] 103);rw [show (w.alloc (.cells #[.slice A n c,.slice B m d] 141)).heap.size=w.heap.size+1 by simp] at i;have hB:aq w ((w.alloc (.cells #[.slice A n c,.slice B m d] 141)).alloc (.cells #[.slice A n c,.slice B m d] 103)):=((NI _ w).alloc (NF _) _).alloc (by simp) _;obtain ⟨o,h⟩:∃o,o=(w.alloc (.cells #[.slice A n c,.slice B m d] 141)).alloc (.cells #[.slice A n c,.slice B m d] 103):=⟨_,rfl⟩;rw [<-h] at i hB ⊢;clear h;obtain ⟨⟨x,u⟩,y⟩:=bx2 i;exact NX (v:=.agg #[.slice A n c,.slice B m d]) (by simp [results,results66,go_sem,x,u]) rfl ⟨rfl,hB⟩
def Ba:eQ (Qa):=fun w h zs=>∃A c,h=[.slice A zs.length c]/\zs.length<=c/\zs.length<=17592186043904/\Rd w A (aA .i64 zs)
theorem uz:Dd Ba:=fun hb ⟨A,c,h1,h,o,i⟩=>⟨A,c,h1,h,o,i.below hb⟩
theorem D6 {w:Qd} {V:N_} {p:List (Qa)} (h:de Ba 1 w V p) {k:Nat} {x:Qa} (D:p[k]?=some x):
  ∃b o A c,V=some (ar b o)/\b<w.heap.size/\w.cell? (ar b (o+k))=some (.slice A x.length c)/\Rd w A (aA .i64 x)/\x.length<=17592186043904/\x.length<=c:=by
 obtain ⟨b,o,H,rfl,hb,B,y,i,_⟩:=h.get (by decide) D;obtain ⟨A,c,rfl,u,C,v⟩:=y;exact ⟨b,o,A,c,rfl,hb,by rw [Nat.mul_one] at i;exact i,v,C,u⟩
def uW:eQ (Qa):=fun w h zs=>∃A c,h=[.slice A zs.length c]/\zs.length<=17592186043904/\Rd w A (aA .i64 zs)
theorem zX:Dd uW:=fun hb ⟨A,c,h1,i,h⟩=>⟨A,c,h1,i,h.below hb⟩
theorem oV {w:Qd} {V:N_} {p:List (Qa)} (h:de uW 1 w V p) {k:Nat} {x:Qa} (C:p[k]?=some x):
  ∃b o A c,V=some (ar b o)/\b<w.heap.size/\w.cell? (ar b (o+k))=some (.slice A x.length c)/\Rd w A (aA .i64 x)/\x.length<=17592186043904:=by
 obtain ⟨b,o,D,rfl,hb,y,v,i,_⟩:=h.get (by decide) C;obtain ⟨A,c,rfl,B,u⟩:=v;exact ⟨b,o,A,c,rfl,hb,by rw [Nat.mul_one] at i;exact i,u,B⟩
theorem vA:∀vals:Qc,List.flatten (vals.map fun v=>[v])=vals
 | []=>rfl
 | v::l=>by simp [vA l]
theorem xK {α:Type} {R:eQ α} {w:Qd} {A:N_} {vals:Qc} {l:List α} (hA:Rd w A vals) (hl:vals.length=l.length) (h:∀(j:Nat) (x:α),l[j]?=some x->∃v,vals[j]?=some v/\R w [v] x):de R 1 w A l:=by
 refine ⟨vals.map fun v=>[v],by rw [vA];exact hA,by simp [hl],by simp,fun j x p=>?_⟩;obtain ⟨v,i,o⟩:=h j x p;have:bZ (vals.map fun v=>[v]) j=[v]:=by simp [bZ,List.getD,i]
 rw [this];exact o
theorem Lf {S:Nat->Prop} {v w p:Qd} (h:Keep S w p) {A:N_} {xs:Qc} (C:Rd v A xs) (hr:Rd w A xs) (B:∀k,S k->v.heap.size<=k):Rd p A xs:=fun k u x=>by
 obtain ⟨b,o,rfl,c0⟩:=C k u x;obtain ⟨D,H,i,c1⟩:=hr k u x;injection i with i;injection i with i1 i2 _;subst i1;subst i2
 exact ⟨b,o,rfl,h.cell c1 fun hs=>by have h1:=B _ hs;have y:=aB c0;dsimp only at h1 y;omega⟩
theorem FV (W:Qd) (b:Nat) {o a1:Value} (x y:Value) {t:Qf} (h:W.heap[b]?=some (.cells #[o,a1] t (0,0))): ((W.setCell (ar b 0) x).setCell (ar b 1) y).heap[b]?=some (.cells #[x,y] t (0,0))/\Keep (fun j=>j=b) W ((W.setCell (ar b 0) x).setCell (ar b 1) y):=by
 have p:=OE W b 0 _ _ x h;have i:=OE _ b 1 _ _ y p;exact ⟨by simpa using i,Keep.setCell (S:=fun j=>j=b) (Keep.setCell (S:=fun j=>j=b) (Keep.refl _ _) _ (.inr rfl) _) _ (.inr rfl) _⟩
theorem FU (W:Qd) (b:Nat) {i a1 v B:Value} (x y z u:Value) {t:Qf} (h:W.heap[b]?=some (.cells #[i,a1,v,B] t (0,0))): ((((W.setCell (ar b 0) x).setCell (ar b 1) y).setCell (ar b 2) z).setCell (ar b 3) u).heap[b]?=some (.cells #[x,y,z,u] t (0,0))/\Keep (fun j=>j=b) W ((((W.setCell (ar b 0) x).setCell (ar b 1) y).setCell (ar b 2) z).setCell (ar b 3) u):=by
 have o:=OE W b 0 _ _ x h;have C:=OE _ b 1 _ _ y o;have p:=OE _ b 2 _ _ z C;have A:=OE _ b 3 _ _ u p;exact ⟨by simpa using A,Keep.setCell (S:=fun j=>j=b) (Keep.setCell (S:=fun j=>j=b) (Keep.setCell (S:=fun j=>j=b) (Keep.setCell (S:=fun j=>j=b) (Keep.refl _ _) _ (.inr rfl) _) _ (.inr rfl) _) _ (.inr rfl) _) _ (.inr rfl) _⟩
theorem fT {w:Qd} {b:Nat} {x:Obj} (h:w.heap[b]?=some x) (o:Obj):(w.alloc o).heap[b]?=some x:=(NW w o b (Array.getElem?_eq_some_iff.1 h).1).trans h
theorem mQ (w:Qd) (xs:Qb) (e:Qf) {n:Nat} (hn:w.heap.size=n):(w.alloc (.cells xs e)).heap[n]?=some (.cells xs e (0,0)):=by
 subst hn;exact NG w _
theorem iN {w:Qd} {n:Nat} (h:w.heap.size=n) (o:Obj):(w.alloc o).heap.size=n+1:=by simp [h]
def nU (n:Nat) (h:List (Qa)):Qa:=h.foldl fw (List.replicate n 0)
theorem Dq (n:Nat) (h:List (Qa)) (x:Qa):nU n (h++[x])=fw (nU n h) x:=by simp [nU]
theorem rZ (n:Nat) (h:List (Qa)):(nU n h).length=n:=by
 have:∀(l:List (Qa)) (a:Qa),(l.foldl fw a).length=a.length:=by
  intro l
  induction l with
  | nil=>intro a;rfl
  | cons x l ih=>intro a;rw [List.foldl_cons,ih,iZ]
 unfold nU;rw [this];simp
def MD (i:List (Qa)) (n:Nat) (w:Qd) (e:Ending) (h:Qd):Prop:=∃v ok,e=.returned (.tuple #[v,.bool ok])/\aq w h/\((∀(j:Nat) (x:Qa),i[j]?=some x->x.length=n)->ok=true/\h.ownsRow w.heap.size 2 1 v n (aA .i64 (nU n i)))
theorem DI (V:N_) (v:List (Qa)) (c n:Nat) (x0:Qa) (w:Qd) (hV:de uW 1 w V v) (hl:v.length<=17592186043904) (h0:v[0]?=some x0) (hn:x0.length=n):Calls prog 96 #[.slice V v.length c] w (MD v n w):=by
 obtain ⟨N,hN⟩:∃N,v.length=N:=⟨_,rfl⟩;have aP:0<N:=by rw [<-hN];exact (Oe.1 h0).1
 obtain ⟨b,o,A0,c0,rfl,hb,p0,_,a4⟩:=oV hV h0;rw [hN] at hl ⊢;rw [hn,Nat.add_zero] at p0;rw [hn] at a4;have aM:¬(N=0):=ap;have L:=fun w'=>m6 ke w' rfl n ap (by unfold maxLen;omega);simp only [fp] at L;obtain ⟨a2,HV,HN⟩:=af L hV hN;clear L hV hN h0 hn;have a9:(0:Int)<N:=ap;have ao:((N:Int)==0)=false:=by simp;omega
 go_enter func96,ntmps96;obtain ⟨W2,Y,a3,a1⟩:=a2.o w;go_wp2_with fail;obtain ⟨D,a8⟩:=ae a3 a1;clear Y a3 a1 p0 a2
 go_loopw [5] (fun x wr=>∃k:Nat,k<=N/\x=OH k/\wr.ownsRow w.heap.size 2 1 (.slice (some (ar w.heap.size 0)) n n) n (aA .i64 (nU n (v.take k)))/\an (∀(j:Nat) (x:Qa),j<k->v[j]?=some x->x.length=n)/\aq w wr) (fun x _=>N-(intOf x).toNat)
 ·exact ⟨0,NJ _,rfl,D.o,aa fun j x hj=>ap,a8.o⟩
 case round=>
  obtain ⟨W1,rfl⟩:∃W1:Qd,W1=wr:=⟨_,rfl⟩;obtain ⟨k,hk,rfl,u,U,C⟩:=hrel;by_cases a6:k<N
  ·obtain ⟨x,hx⟩:∃x,v[k]?=some x:=⟨_,Of (by rw [HN.o];exact a6)⟩;have ab:(k:Int)<N:=ap;have g1:de uW 1 W1 (some (ar b o)) v:=HV.o.below zX C;obtain ⟨b',o',A,cA,e1,aR,p,hA,R⟩:=oV g1 hx;injection e1 with e1;injection e1 with e1 e2 _;subst e1;subst e2
   obtain ⟨HX,HO,O,HA,P⟩:=ah hx u C hA p;obtain ⟨m,hm⟩:∃m,x.length=m:=⟨_,rfl⟩;have Hm:=aa hm;rw [hm] at p R;clear hx u C hA hm g1;by_cases a0:m=n
   ·subst a0;go_wp2_with fail;clear p
    go_loopw [6] (fun y wr=>∃t:Nat,t<=m/\y=OH t/\wr.ownsRow w.heap.size 2 1 (.slice (some (ar w.heap.size 0)) m m) m (aA .i64 (kT (nU m (v.take k)) t (fun t=>wrap64 (nth (nU m (v.take k)) t+nth x t))))/\Keep (fun i=>i=w.heap.size) W1 wr) (fun y _=>m-(intOf y).toNat)
    ·exact ⟨0,NJ _,rfl,by rw [iH];exact HO.o,Keep.refl _ _⟩
    case round=>
     obtain ⟨t,ht,rfl,u,Q⟩:=hrel;by_cases B:t<m
     ·have a7:(t:Int)<m:=ap;have J:t<(nU m (v.take k)).length:=by rw [rZ];exact B
      have p1:=cH u B;rw [gK _ J,if_neg ap] at p1;have f1:=u.frozenAt t;obtain ⟨b2,o2,rfl,p3⟩:=HA.o.num (show t<x.length by rw [Hm.o];exact B);have ad:b<w.heap.size:=hb;have p2:wr.cell? (ar b (o+k))=some (.slice (some (ar b2 o2)) m cA):=Q.cell (by rw [P.o,Hm.o]) (by dsimp only;omega)
      have aG:b2<w.heap.size:=by
       obtain ⟨_,_,A9,c9,I,_,q9,r9,_⟩:=oV HV.o HX.o;injection I with I;injection I with I H _;subst I;subst H
       have:=(O.o.cell (p:=(ar b (o+k))) hb).trans q9;rw [P.o] at this;injection this with this
       simp only [Ou] at this;rw [<-this.1] at r9;obtain ⟨b8,o8,H,q8⟩:=r9.num (show t<x.length by rw [Hm.o];exact B);injection H with H;injection H with H _ _;subst H
       exact aB q8
      have p4:wr.cell? (ar b2 (o2+t))=some (OH (nth x t)):=Q.cell p3 (by dsimp only;omega);have T:=jE (l:=nU m (v.take k)) (k:=t) (fun t=>wrap64 (nth (nU m (v.take k)) t+nth x t)) J;obtain ⟨HK,D,a5⟩:=af Q u T;clear Q u T J p3;go_wp2_with fail
      go_region
      all_goals go_wp2_with fail
      all_goals
       go_roundw
       case rel=>
        refine ⟨t+1,by omega,by go_num,?_,?_⟩
        ·rw [<-a5.o];exact ed (bW D.o 1) t _
        ·exact Keep.setCell (HK.o.drewN 1) (ar w.heap.size t) (.inr rfl) _
       case measure=>simp [intOf];omega
     ·obtain rfl:m=t:=ap;obtain ⟨HK,D⟩:=ae Q u;clear Q u;go_wp2_with fail;go_roundw
      case rel=>
       refine ⟨k+1,by omega,by go_num,?_,aa fun j y hj Z=>?_,O.o.trans (HK.o.toBelow (by have:=O.o.size;omega) (fun j hj=>ap))⟩
       ·rw [List.take_add_one,HX.o,Option.toList_some,Dq];have I:=D.o;have H:=jF (nU m (v.take k)) (fun t=>wrap64 (nth (nU m (v.take k)) t+nth x t));rw [rZ] at H;unfold fw;rw [rZ,<-H];exact I
       ·rcases NY j k with h | h
        ·exact U.out j y h Z
        ·obtain rfl:j=k:=ap;rw [HX.o] at Z;injection Z with Z;rw [<-Z];exact Hm.o
      case measure=>simp [intOf];omega
   ·have av:((m:Int) != (n:Int))=true:=by rw [bne_iff_ne];omega
    go_wp2_with fail;go_ret2;refine ⟨_,_,rfl,O.o,fun h=>absurd ?_ a0⟩;rw [<-Hm.o];exact h k x HX.o
  ·obtain rfl:k=N:=ap;obtain ⟨HO,O⟩:=ae u C;clear u C;go_wp2_with fail;go_ret2;refine ⟨_,_,rfl,O.o,fun h=>⟨rfl,?_⟩⟩;have:=HO.o
   rwa [<-HN.o,Oq] at this
theorem Je:dB prog 247 252 (.agg #[OH 0,OH 0,OH 0]) 3 24:=⟨underlying247,info_parts (by kernel_rfl),rfl,by decide⟩
theorem xW (A:N_) (sz:Qa) (c:Nat) (w:Qd) (hA:Rd w A (aA .i64 sz)) (hg:dO sz):Calls prog 142 #[.slice A sz.length c] w fun e w'=>∃A' c',e=.returned (.slice A' (bR sz (sz.length-1)) c')/\w'.ownsRow w.heap.size 252 3 (.slice A' (bR sz (sz.length-1)) c') (bR sz (sz.length-1)) (plV (plL sz (sz.length-1)))/\aq w w':=by
 have ab:=hg.1.1;obtain ⟨b,o,rfl,a6⟩:=hA.num (show 0<sz.length by omega);have J:b<w.heap.size:=aB a6;obtain ⟨L,hL⟩:∃L,sz.length=L:=⟨_,rfl⟩;rw [hL] at ab ⊢;obtain ⟨HA,HG,HL⟩:=af hA hg hL;clear hA hg hL a6;go_enter func142,ntmps142;go_wp2_with fail
 go_loopw [3,4] (fun v i wr=>∃k:Nat,k+1<=L/\i=OH k/\wr.ownsRow w.heap.size 252 3 v (bR sz k) (plV (plL sz k))/\aq w wr) (fun _ i _=>L-(intOf i).toNat)
 ·exact ⟨0,by omega,rfl,NV _ _ _ _,NI _ _⟩
 case round=>
  obtain ⟨wq,rfl⟩:∃wq:Qd,wq=wr:=⟨_,rfl⟩;obtain ⟨k,hk,rfl,T,a9⟩:=hrel;obtain ⟨A0,c9,rfl,_⟩:=aC T;obtain ⟨a2,av⟩:=ae T a9;clear T a9;have b9:IntKind.i64.wrap ((k:Int)+1)=(k:Int)+1:=NK _ ap;by_cases bd:k+1<L
  ·have hR:=HG.o.1;have b5:=HL.o;have z0:=hR.at (k:=k) ap;have z1:=hR.at (k:=k+1) ap;obtain ⟨_,_,e',p0⟩:=HA.o.num (show k<sz.length by omega);injection e' with e';injection e' with e1 e2 _;subst e1;subst e2
   obtain ⟨_,_,e',p1⟩:=HA.o.num (show k+1<sz.length by omega);injection e' with e';injection e' with e1 e2 _;subst e1;subst e2
   rw [z0.2.2] at p0;rw [z1.2.2] at p1;have b7:=HG.o.bound (k:=k+1) ap;have hm:=fE sz k;have x:dA sz k=bR sz k+szN sz (k+1)*szN sz k:=rfl;have R:plK sz k=plW k (szN sz k) (szN sz (k+1)*szN sz k)++plB k (szN sz (k+1)):=rfl;obtain ⟨c0,a7⟩:∃c0,szN sz k=c0:=⟨_,rfl⟩;obtain ⟨Q,a3⟩:∃Q,szN sz (k+1)=Q:=⟨_,rfl⟩;obtain ⟨N,hN⟩:∃N,bR sz k=N:=⟨_,rfl⟩;obtain ⟨M,hM⟩:∃M,dA sz k=M:=⟨_,rfl⟩;rw [a7] at p0 x R z0;rw [a3] at p1 x hm R z1;rw [hN,hM] at x;rw [hM] at hm;rw [<-hm] at b7;obtain ⟨b6,HN,Hm⟩:=af R hN hm;have b3:(k:Int)+1<L:=ap;have b8:(k:Int)<L:=ap;clear a7 a3 R hm hN hM b5 hR;go_wp2_with fail
   go_loopw [3,5] (fun v i wr=>∃r:Nat,r<=Q/\i=OH r/\wr.ownsRow w.heap.size 252 3 v (N+r*c0) (plV (plL sz k++plW k c0 (r*c0)))/\aq w wr) (fun _ i _=>Q-(intOf i).toNat)
   case atStart=>
    refine ⟨0,NJ _,rfl,?_,av.o⟩;rw [Nat.zero_mul,show plW k c0 0=[] from rfl,List.append_nil,Nat.add_zero,<-HN.o];exact a2.o
   case round=>
    obtain ⟨w1,rfl⟩:∃w1:Qd,w1=wr:=⟨_,rfl⟩;obtain ⟨r,hr,rfl,a0,O⟩:=hrel;obtain ⟨A1,d1,rfl,_⟩:=aC a0;have ao:=(O.cell (p:=(ar b (o+k))) J).trans p0;have a4:=(O.cell (p:=⟨b,o+(k+1),none⟩) J).trans p1;obtain ⟨aM,ad⟩:=ae a0 O;clear a0 O;by_cases bb:r<Q
    ·have a8:r*c0+c0<=Q*c0:=by
      have:=OF c0 (show r+1<=Q by omega)
      rwa [Ox] at this
     have a1:(r+1)*c0=r*c0+c0:=Ox r c0;obtain ⟨rc,D⟩:∃rc,r*c0=rc:=⟨_,rfl⟩;obtain ⟨m1,aG⟩:∃m1,Q*c0=m1:=⟨_,rfl⟩;have V:=fun j (hj:j<c0)=>Id k c0 r j hj;rw [D] at a8 a1 V;rw [aG] at a8 x;obtain ⟨b4,b1,aR⟩:=af V a1 D;clear V a1 D aG;go_wp2_with fail
     go_loopw [3,6] (fun v i wr=>∃j:Nat,j<=c0/\i=OH j/\wr.ownsRow w.heap.size 252 3 v (N+(rc+j)) (plV (plL sz k++plW k c0 (rc+j)))/\aq w wr) (fun _ i _=>c0-(intOf i).toNat)
     case atStart=>
      refine ⟨0,NJ _,rfl,?_,ad.o⟩;rw [Nat.add_zero,<-aR.o];exact aM.o
     case round=>
      obtain ⟨w2,rfl⟩:∃w2:Qd,w2=wr:=⟨_,rfl⟩;obtain ⟨j,hj,rfl,u,h⟩:=hrel;obtain ⟨A2,d2,rfl,_⟩:=aC u;have bf:=(h.cell (p:=(ar b (o+k))) J).trans p0;have hz:=h.size;obtain ⟨y,B⟩:=ae u h;clear u h ao a4;by_cases a5:j<c0
      ·have aP:=b4.o j a5;have b0:=aa aP;clear aP;go_wp2_with (at_builtin;refine aW Je w2 rfl (.tmp 32) (.tmp 37) rfl w.heap.size (.slice A2 (N+(rc+j)) d2) (N+(rc+j)) _ rfl y.o [OH k,OH r,OH j] rfl rfl (by simp [Value.oneCell']) ap (by unfold maxLen;omega) ap ?_);intro g7 c7 w7 C I Y;have H:=B.o.trans I;obtain ⟨U,Z⟩:=ae C H;clear C I Y H;go_wp2_with fail;go_roundw
       case rel=>
        refine ⟨j+1,by omega,by go_num,?_,Z.o⟩;have:=U.o;rw [<-CG (k,r,(j:Int)),<-sL,Oj,<-b0.o,show N+(rc+j)+1=N+(rc+(j+1)) by omega,show rc+j+1=rc+(j+1) by omega] at this;exact this
       case measure=>simp [intOf];omega
      ·obtain rfl:j=c0:=ap;go_wp2_with fail;go_roundw
       case rel=>
        refine ⟨r+1,by omega,by go_num,?_,B.o⟩;rw [b1.o];exact y.o
       case measure=>simp [intOf];omega
    ·obtain rfl:r=Q:=ap;have b2:=aa x;clear x;go_wp2_with fail
     go_loopw [3,7] (fun v i wr=>∃t:Nat,t<=r/\i=OH t/\wr.ownsRow w.heap.size 252 3 v (M+t) (plV (plL sz k++plW k c0 (r*c0)++plB k t))/\aq w wr) (fun _ i _=>r-(intOf i).toNat)
     case atStart=>
      refine ⟨0,NJ _,rfl,?_,ad.o⟩;rw [show plB k 0=[] from rfl,List.append_nil,Nat.add_zero,b2.o];exact aM.o
     case round=>
      obtain ⟨w2,rfl⟩:∃w2:Qd,w2=wr:=⟨_,rfl⟩;obtain ⟨t,ht,rfl,u,h⟩:=hrel;obtain ⟨A2,d2,rfl,_⟩:=aC u;have be:=(h.cell (p:=⟨b,o+(k+1),none⟩) J).trans p1;have hz:=h.size;obtain ⟨y,B⟩:=ae u h;clear u h ao a4;by_cases a5:t<r
      ·go_wp2_with (at_builtin;refine aW Je w2 rfl (.tmp 48) (.tmp 52) rfl w.heap.size (.slice A2 (M+t) d2) (M+t) _ rfl y.o [OH k,OH t,OH (-1)] rfl rfl (by simp [Value.oneCell']) ap (by unfold maxLen;omega) ap ?_);intro g7 c7 w7 C I Y;have H:=B.o.trans I;obtain ⟨U,Z⟩:=ae C H;clear C I Y H;go_wp2_with fail;go_roundw
       case rel=>
        refine ⟨t+1,by omega,by go_num,?_,Z.o⟩;have:=U.o;rw [<-CG (k,t, -1),<-sL,show M+t+1=M+(t+1) by omega] at this;rw [Ie];simp only [Oj] at this ⊢;exact this
       case measure=>simp [intOf];omega
      ·obtain rfl:t=r:=ap;go_wp2_with fail;go_roundw
       case rel=>
        refine ⟨k+1,by omega,by go_num,?_,B.o⟩;rw [yq,b6.o,<-Oj,<-Hm.o];exact y.o
       case measure=>simp [intOf];omega
  ·obtain rfl:k=L-1:=ap;have b3:¬((((L-1:Nat):Int)+1)<L):=ap;go_wp2_with fail;go_ret;exact ⟨_,_,rfl,a2.o,av.o⟩
end Go.Proofs.YtgmajkppbhiopaaGreat
