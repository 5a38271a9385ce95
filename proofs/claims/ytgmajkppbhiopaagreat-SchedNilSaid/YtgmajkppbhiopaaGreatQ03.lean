/- No condition. -/
import Derived.Test.YtgmajkppbhiopaaGreatQ02
import Derived.Deep.RegionHeld3
import Derived.IntWalk
import Derived.KernelRfl
import Derived.Lib.Mul64
import Derived.Laws.Bits64b
import Derived.StillTailTactics
set_option linter.unusedSimpArgs false
set_option linter.unusedVariables false
set_option maxRecDepth 100000
set_option maxHeartbeats 4000000
namespace Go.Proofs.YtgmajkppbhiopaaGreat
open Go.RowKit
open Tryz
structure cW (p:Pln):Prop where
 W1:1<=p.W
 W8:p.W<=8
 mi:p.mi<=20
 n:p.n<=60
 bu:1<=p.bu
 ck:1<=p.ck
 ck2:p.ck<=1048576
 wi:1<=p.wi
theorem C5 {n s:Nat}:∀r∈pB n s,r.1<=r.2/\r.2<=n:=by
 intro r hr;simp only [pB,List.mem_reverse,fC,List.mem_map,List.mem_range] at hr;obtain ⟨i,h,rfl⟩:=hr;have:=jt h;exact ⟨by simp only;omega,by simp only;omega⟩
theorem cW.buks {p:Pln} (h:cW p):p.buks.length<=60:=by
 have:=tI p.n p.bu;have:=h.n;rw [Pln.buks,lT];omega
theorem cW.buk {p:Pln} (h:cW p) (j:Nat):(aS p.buks j).1<=(aS p.buks j).2/\(aS p.buks j).2<=60:=by
 rcases NY j p.buks.length with i | i
 ·have:=C5 _ (List.getElem_mem i);rw [<-cS _ _ i] at this;have hn:=h.n;exact ⟨this.1,by omega⟩
 ·have:aS p.buks j=(0,0):=by simp [aS,List.getD,i]
  rw [this];simp
theorem cW.round {p:Pln} (h:cW p) (w st ph r j:Nat):(cz p w st ph r j).length<=120:=by
 unfold cz;rw [List.length_map];exact DR h.W1 (h.buk j).1 (h.buk j).2
theorem AC (p:Pln) (L base st x:Nat) (lo B:Nat) (a0 a1 a2 a3 a5 a6 a7 a8 ab av aM:Value) (BA:N_) (bc:Nat) (v:Value) (l:List Itm) (w:Qd) (hp:cW p) (hl:gS w L base st v l) (hb:base<=w.heap.size) (cb:Rd w BA (aT p.buks)) (bO:∀y,BA=some y->y.block<base) (hL:base<=L) (hx:x<p.W) (hg:B<=p.buks.length) (e1:l.length<=8000000):Calls prog 161 #[.agg #[a0,a1,a2,a3,OH (p.W:Nat),a5,a6,a7,a8,OH (p.ck:Nat),ab,av,.slice BA p.buks.length bc,aM],(au L),OH x,.agg #[OH (lo:Nat),OH (B:Nat)]] w fun e u=>e=.returned (.tuple #[])/\
   ∃v',gS u L base st v' (l++cG p x st (lo,B) (2*(p.W-1)))/\Apd L w v u v':=by
 obtain ⟨D,R⟩:∃D,(w.alloc (.cells #[a0,a1,a2,a3,OH (p.W:Nat),a5,a6,a7,a8,OH (p.ck:Nat),ab,av,.slice BA p.buks.length bc,aM] 225)).alloc (.cells #[OH (lo:Nat),OH (B:Nat)] 148)=D:=⟨_,rfl⟩
 have g0:D.heap[w.heap.size]?=some (.cells #[a0,a1,a2,a3,OH (p.W:Nat),a5,a6,a7,a8,OH (p.ck:Nat),ab,av,.slice BA p.buks.length bc,aM] 225 (0,0)):=by
  rw [<-R,NW _ _ _ (by simp)];exact NG w _
 have g1:D.heap[w.heap.size+1]?=some (.cells #[OH (lo:Nat),OH (B:Nat)] 148 (0,0)):=by
  rw [<-R];have:=NG (w.alloc (.cells #[a0,a1,a2,a3,OH (p.W:Nat),a5,a6,a7,a8,OH (p.ck:Nat),ab,av,.slice BA p.buks.length bc,aM] 225)) (.cells #[OH (lo:Nat),OH (B:Nat)] 148);simpa using this
 have aG:aq w D:=by rw [<-R];exact ((br w).alloc (NF _) _).alloc (by simp) _
 have I:=hl.below aG;have d5:=NE I.1;have cw:=NE hl.1;have kS:=fun u (q:Keep (fun j=>j=L\/v.ownBlock=some j) D u)=>(q.block _ (NE g0) (fun e=>e.elim (fun h=>ap) (fun h=>ax g0 (by decide) I.2 h.symm))).trans g0;have kG:=fun u (q:Keep (fun j=>j=L\/v.ownBlock=some j) D u)=>(q.block _ (NE g1) (fun e=>e.elim (fun h=>ap) (fun h=>ax g1 (by decide) I.2 h.symm))).trans g1;have b0:Rd D BA (aT p.buks):=cb.below aG
 have kB:=fun u (q:Keep (fun j=>j=L\/v.ownBlock=some j) D u)=>q.rd b0 (fun y hy=>by
  have:=bO y hy;rintro (h | h)
  ·omega
  ·have:=(hl.2.lt _ h).1;omega)
 have bA:=fun j=>hp.buk j;have hrl:=fun ph r j=>hp.round x st ph r j;obtain ⟨m,hm⟩:∃m,p.W-1=m:=⟨_,rfl⟩;have cO:=hp.W1;have e0:=hp.W8;have cv:=hp.ck;have cc:=hp.ck2;have e3:=hp.buks;have e2:(p.W:Int)-1=(m:Int):=ap;obtain ⟨T,hT⟩:∃T,2*m=T:=⟨_,rfl⟩;have dw:(2:Int)*(m:Int)=(T:Int):=ap;have dT:IntKind.i64.wrap (m:Int)=m:=NK _ ap;have ds:IntKind.i64.wrap (T:Int)=T:=NK _ ap;rw [hm,hT];obtain ⟨d6,bN,ct,HS,HG,HB,cL,bd⟩:=ak R aG I kS kG kB bA hrl;obtain ⟨Hm,HT⟩:=ae hm hT;have tS:=fun u (q:aq D u)=>JA (kS u (Keep.below q));have q0:=br D;clear R g0 g1 aG I hl cb b0 kS kG kB bA hrl hm hT hp d5 cw bO;go_enter func161,ntmps161;go_wp2_with fail;rw [d6.o];clear tS q0
 go_loopw [19] (fun y wr=>∃k:Nat,k<=T/\y=OH k/\∃v',gS wr L base st v' (l++cG p x st (lo,B) k)/\Apd L D v wr v') (fun y _=>T-(intOf y).toNat)
 ·exact ⟨0,NJ _,rfl,v,by simpa [cG] using ct.o,Apd.refl _ _ _⟩
 case round=>
  obtain ⟨k,hk,rfl,v1,ao,A1⟩:=hrel;by_cases dr:k<T
  ·have cy:(k:Int)<T:=ap;have bw:0<m:=by have:=HT.o;omega
   have dp:IntKind.i64.wrap ((k:Int)+1)=((k+1:Nat):Int):=by rw [NK _ ap];push_cast;rfl
   obtain ⟨wq,rfl⟩:∃wq:Qd,wq=wr:=⟨_,rfl⟩;have uG:=fun u (q:aq wq u)=>bx2 (sb (HG.o wq A1.1) u q);have q1:=br wq;obtain ⟨b5,b4⟩:=ae ao A1;clear ao A1;go_wp2_with fail;clear uG q1
   go_loopw [9] (fun y wr=>∃j:Nat,lo<=j/\(j<=B\/j=lo)/\y=OH j/\∃v2,gS wr L base st v2 (l++cG p x st (lo,B) k++gL p x st k lo (j-lo))/\Apd L D v wr v2) (fun y _=>B-(intOf y).toNat)
   ·exact ⟨lo,NF _,.inr rfl,rfl,v1,by simpa [gL] using b5.o,b4.o⟩
   case round=>
    obtain ⟨j,hj,e4,rfl,v2,C,A2⟩:=hrel;have uG:=fun u (q:aq wr u)=>bx2 (sb (HG.o wr A2.1) u q);by_cases dk:j<B
    ·have d3:(j:Int)<B:=ap;obtain ⟨A,rfl⟩:∃A:Qd,A=wr:=⟨_,rfl⟩;have cP:j<p.buks.length:=ap;have da:(j:Int)<p.buks.length:=ap;have b3:=ez cP;obtain ⟨bb,bo,rfl,b9⟩:=HB.o A A2.1 _ _ b3.1;obtain ⟨cr,d7,e',a9⟩:=HB.o A A2.1 _ _ b3.2;obtain ⟨rfl,rfl⟩:cr=bb/\d7=bo:=by simpa using e'.symm
     rw [<-Oy] at a9;have bI:=cL.o j;obtain ⟨b1,be⟩:∃b1,(aS p.buks j).1=b1:=⟨_,rfl⟩;obtain ⟨b2,b6⟩:∃b2,(aS p.buks j).2=b2:=⟨_,rfl⟩;rw [be] at b9 bI;rw [b6] at a9 bI;have d0:=fun u (q:aq A u)=>aw q b9;have d1:=fun u (q:aq A u)=>aw q a9;have uS:=fun u (q:aq A u)=>JA (sb (HS.o A A2.1) u q);have uL:=fun u (q:aq A u)=>bx2 (sb C.1 u q);obtain ⟨H,Q,cx,d4⟩:=ag C A2 be b6;have q1:=br A;clear C A2 be b6 b3 e' b9 a9;go_wp2_with fail;refine XA.g 18 (fun u:Qd=>aq A u) ?_;refine XA.t ?_ [0,1,2,3,4,5,6,7,8,9,10,11,12,13,14,15,16] q1.drew ?_;refine XA.v 17 (A.drew.alloc (.cells OU 296)) ((au A.heap.size)) (q1.drew.alloc (NF _) _) ?_;refine XA.e ?_;simp only [Ob,Oc];have cA:=NE (HG.o A Q.o.1);go_wp2_with fail;obtain ⟨Z,O⟩:∃Z,(A.alloc (.cells #[OH (st:Nat),OH (j:Nat),OH (b1:Nat),OH (b2:Nat),OH (p.W:Nat),OH (p.ck:Nat)] 296)).drew=Z:=⟨_,rfl⟩;have h7:Z.heap[A.heap.size]?=some (.cells #[OH (st:Nat),OH (j:Nat),OH (b1:Nat),OH (b2:Nat),OH (p.W:Nat),OH (p.ck:Nat)] 296 (0,0)):=by rw [<-O];exact NG A _
     have k7:aq A Z:=by rw [<-O];exact (q1.alloc (NF _) _).drew
     rw [O];have t7:=fun u (q:aq Z u)=>bx6 (sb h7 u q);have t8:=fun u (q:aq Z u)=>uS u (bt k7 q);have bX:(k:Int).tdiv (m:Int)=((k/m:Nat):Int):=rfl;have bG:(k:Int)/(m:Int)=((k/m:Nat):Int):=rfl;have bs:(k:Int).tmod (m:Int)=((k%m:Nat):Int):=rfl;have bi:(k:Int)%(m:Int)=((k%m:Nat):Int):=rfl;have dv:¬(m=0):=ap;have b8:k/m<2:=by rw [Nat.div_lt_iff_lt_mul bw];have:=HT.o;omega
     have cn:k%m<m:=Nat.mod_lt _ bw
     have e8:cz p x st (k/(p.W-1)) (k%(p.W-1)) j=(dt st j (b1,b2) p.W p.ck x (k/m) (k%m)).map (ip st):=by
      unfold cz;rw [Hm.o,<-cx.o,<-d4.o]
     have hrl:=bd.o (k/(p.W-1)) (k%(p.W-1)) j;rw [e8,List.length_map] at hrl;obtain ⟨ph,V⟩:∃q,k/m=q:=⟨_,rfl⟩;obtain ⟨r,b7⟩:∃q,k%m=q:=⟨_,rfl⟩;rw [V] at bX bG b8;rw [b7] at bs bi cn;rw [V,b7] at e8 hrl;have cs:IntKind.i64.wrap (ph:Int)=ph:=NK _ ap;obtain ⟨H7,K7,E8,a4⟩:=ag O k7 e8 hrl;have q7:=br Z;clear O h7 k7 uS uL uG d0 d1 q1 V b7 e8 hrl cA;refine HA.g (fun u:Qd=>aq Z u) ?_;refine HA.t ?_ [0,1,2,3,4,5,6,7,8,9,10,11,12,13,16] q7.drew ?_;refine HA.c 14 (DQ st j b1 b2 p.W p.ck x ph r _ cO ap hx b8 (by have:=Hm.o;omega) ap ap cv cc) ?_;rintro e w8 ⟨v8,rfl,o8,k8⟩;have q8:=bt q7.drew k8;refine ⟨_,rfl,q8,fun _=>?_⟩;obtain ⟨A8,c8,rfl,_⟩:=aC o8;refine HA.t ?_ [15] q8 ?_;refine HA.d ?_;simp only [Exit.then];obtain ⟨X,hX⟩:∃X,dt st j (b1,b2) p.W p.ck x ph r=X:=⟨_,rfl⟩;rw [hX] at E8 a4 o8 ⊢;obtain ⟨N,hN⟩:∃N,X.length=N:=⟨_,rfl⟩;rw [hN] at a4 o8 ⊢;have l8:=(H.o.below K7.o).below q8;have bl:Apd L D v w8 v2:=Q.o.trans (Apd.below (bt K7.o q8))
     have cd:=fun u (q:Keep (fun j=>j=L\/v2.ownBlock=some j) w8 u)=>q.own o8 (fun k hk e=>by
      have h1:=(o8.lt k hk).1;have h2:=NE H.o.1;have h3:=K7.o.size;rcases e with e | e
      ·have h4:Z.heap.size<=k:=h1;omega
      ·have h5:k<A.heap.size:=(H.o.2.lt k e).2;have h4:Z.heap.size<=k:=h1
       omega)
     obtain ⟨L8,bh,cM,HN⟩:=ag l8 bl cd hN;clear o8 l8 bl cd k8 q8 q7 t7 t8 hX hN bX bG bs bi cs cn b8 H Q H7;go_wp2_with fail
     go_loopw [63] (fun y wr=>∃i:Nat,i<=N/\y=OH i/\∃v3,gS wr L base st v3 (l++cG p x st (lo,B) k++gL p x st k lo (j-lo)++(X.take i).map (ip st))/\Apd L w8 v2 wr v3) (fun y _=>N-(intOf y).toNat)
     ·exact ⟨0,NJ _,rfl,v2,by simpa using L8.o,Apd.refl _ _ _⟩
     case round=>
      obtain ⟨i,dn,rfl,v3,l3,A3⟩:=hrel;by_cases d9:i<N
      ·have d8:(i:Int)<N:=ap;have dG:IntKind.i64.wrap ((i:Int)+1)=((i+1:Nat):Int):=by rw [NK _ (by have:=a4.o;omega)];push_cast;rfl
       have oX:=cM.o wr A3.1
       obtain ⟨J,rfl⟩:∃J,A8=some (ar J 0):=by
        obtain ⟨g,e,hv,_⟩:=oX.form ap;simp only [Ou] at hv;exact ⟨g,hv.1⟩
       have d2:i<X.length:=by rw [HN.o];exact d9
       obtain ⟨a,ha⟩:∃a,X[i]=a:=⟨_,rfl⟩;have co:X[i]?=some a:=by rw [<-ha];simp
       have Y:=zI oX co HN.o;have cl:X.take (i+1)=X.take i++[a]:=by rw [List.take_succ_eq_append_getElem d2,ha]
       have aP:(l++cG p x st (lo,B) k++gL p x st k lo (j-lo)++(X.take i).map (ip st)).length<=8388608:=by
        have h1:=jP (w:=x) (st:=st) (k:=k) (g:=(lo,B)) (M:=120) (p:=p) (fun ph r j=>bd.o ph r j);have h2:=th (w:=x) (st:=st) (k:=k) (lo:=lo) (n:=j-lo) (M:=120) (p:=p) (fun ph r j=>bd.o ph r j);have h3:(X.take i).length<=120:=by rw [Oi];have:=a4.o;omega
        have h4:k*((B-lo)*120)<=14*(60*120):=Nat.mul_le_mul (by have:=HT.o;omega) (Nat.mul_le_mul ap (NF _));have h5:(j-lo)*120<=60*120:=Nat.mul_le_mul ap (NF _);simp only [Od,List.length_map];dsimp only at h1;omega
       obtain ⟨snd,ad,bz,cj,bf,bn,c9,ci,bv⟩:=a;have c0:wr.cell? (ar J (i*9))=some (.bool snd):=Y 0 ap;have c1:wr.cell? (ar J (i*9+1))=some (.bool ad):=Y 1 ap;have c2:wr.cell? (ar J (i*9+2))=some (OH (bz:Nat)):=Y 2 ap;have c3:wr.cell? (ar J (i*9+3))=some (OH (cj:Nat)):=Y 3 ap;have c4:wr.cell? (ar J (i*9+4))=some (OH (bf:Nat)):=Y 4 ap;have c5:wr.cell? (ar J (i*9+5))=some (OH (bn:Nat)):=Y 5 ap;have c6:wr.cell? (ar J (i*9+6))=some (OH (c9:Nat)):=Y 6 ap;have c7:wr.cell? (ar J (i*9+7))=some (OH (ci:Nat)):=Y 7 ap;have c8:wr.cell? (ar J (i*9+8))=some (OH (bv:Nat)):=Y 8 ap;have U:=fun (kd:Int) (kn:Nat) hk u (q:aq wr u)=>EO L base st kd kn hk ⟨snd,ad,bz,cj,bf,bn,c9,ci,bv⟩ v3 _ u (l3.below q) (NN (NN hb (NN bN.o.size (bh.o.trans A3).1.size)) q.size) aP;dsimp only at U;obtain ⟨bM,aR,bV⟩:=af A3 U cl;clear oX Y l3 A3 U cl co aP
       cases snd
       ·go_wp2_with fail;refine (aR.o 4 4 rfl _ ((br wr).alloc (NF _) _)).mono ?_;rintro e w9 ⟨rfl,v9,l9,A9⟩;obtain ⟨L9,B9⟩:=ae l9 (bM.o.trans ((Apd.below ((br wr).alloc (NF _) _)).trans A9));clear l9 A9 c0 c1 c2 c3 c4 c5 c6 c7 c8;go_wp2_with fail;go_roundw
        ·exact ⟨i+1,by omega,by go_num,v9,by rw [bV.o,List.map_append,<-Oj];exact L9.o,B9.o⟩
        ·simp [intOf];omega
       ·go_wp2_with fail;refine (aR.o 3 3 rfl _ ((br wr).alloc (NF _) _)).mono ?_;rintro e w9 ⟨rfl,v9,l9,A9⟩;obtain ⟨L9,B9⟩:=ae l9 (bM.o.trans ((Apd.below ((br wr).alloc (NF _) _)).trans A9));clear l9 A9 c0 c1 c2 c3 c4 c5 c6 c7 c8;go_wp2_with fail;go_roundw
        ·exact ⟨i+1,by omega,by go_num,v9,by rw [bV.o,List.map_append,<-Oj];exact L9.o,B9.o⟩
        ·simp [intOf];omega
      ·obtain rfl:N=i:=ap;have d8:¬((N:Int)<N):=ap;have dc:IntKind.i64.wrap ((j:Int)+1)=((j+1:Nat):Int):=by rw [NK _ ap];push_cast;rfl
       rw [List.take_of_length_le (by rw [HN.o];exact NF _),<-E8.o,Oj,show gL p x st k lo (j-lo)++cz p x st (k/(p.W-1)) (k%(p.W-1)) j=gL p x st k lo (j+1-lo) from by rw [show j+1-lo=(j-lo)+1 by omega,pt,show lo+(j-lo)=j by omega]] at l3;obtain ⟨L3,B3⟩:=ae l3 (bh.o.trans A3);clear l3 A3;go_wp2_with fail;go_roundw
       ·exact ⟨j+1,by omega,by omega,by go_num,v3,L3.o,B3.o⟩
       ·simp [intOf];omega
    ·have d3:¬((j:Int)<B):=ap;have q1:=br wr;rw [show j-lo=B-lo by omega] at C;have e:=ii p x st (lo,B) k;dsimp only at e;rw [Oj,<-e] at C;obtain ⟨H,Q⟩:=ae C A2;clear C A2 e;go_wp2_with fail;go_roundw
     ·exact ⟨k+1,by omega,by go_num,v2,H.o,Q.o⟩
     ·simp [intOf];omega
  ·obtain rfl:T=k:=ap;have cy:¬((T:Int)<T):=ap;obtain ⟨b5,b4⟩:=ae ao A1;clear ao A1;go_wp2_with fail
   go_end0
   exact ⟨rfl,v1,b5.o,(Apd.below (v:=v) (bt (br w) (bN.o))).trans b4.o⟩
theorem JE {n s:Nat}:∀r∈fC n s,r.1<=r.2/\r.2<=n:=by
 intro r hr;simp only [fC,List.mem_map,List.mem_range] at hr;obtain ⟨i,h,rfl⟩:=hr;have:=jt h;exact ⟨by simp only;omega,by simp only;omega⟩
theorem cW.grp {p:Pln} (h:cW p) {i:Nat} (o:i<p.grps.length):(aS p.grps i).1<=(aS p.grps i).2/\(aS p.grps i).2<=p.buks.length:=by
 have:=JE _ (List.getElem_mem o)
 rwa [<-cS _ _ o] at this
theorem cW.grps {p:Pln} (h:cW p):p.grps.length<=60:=by
 have:=tI p.buks.length p.wi;have:=h.buks;rw [Pln.grps,eP];omega
theorem EZ {p:Pln} (h:cW p) (w st:Nat) (g:Rg) (hg:g.2-g.1<=60):(du p w st g).length<=100920:=by
 unfold du;rw [<-ro];simp only [Od,List.length_map,List.length_range'];have h1:=jP (w:=w) (st:=st) (k:=2*(p.W-1)) (g:=g) (M:=120) (p:=p) (fun ph r j=>h.round w st ph r j);have i:=h.W8;have o:2*(p.W-1)*((g.2-g.1)*120)<=14*(60*120):=Nat.mul_le_mul ap (Nat.mul_le_mul hg (NF _));omega
def dL (p:Pln) (w st k:Nat):List Itm:=(List.range p.mi).map (fun a=>(⟨1,st,a,none⟩:Itm))++(p.grps.take k).flatMap (du p w st)
theorem pA {p:Pln} (w st:Nat) {k:Nat} (hk:k<p.grps.length):dL p w st (k+1)=dL p w st k++du p w st (aS p.grps k):=by
 unfold dL;rw [List.take_succ_eq_append_getElem hk,<-cS _ _ hk,List.flatMap_append,<-Oj];simp
theorem nj {p:Pln} (h:cW p) (w st:Nat) {k:Nat} (hk:k<=p.grps.length):(dL p w st k).length<=20+k*100920:=by
 induction k with
 | zero=>have:=h.mi;simp [dL];omega
 | succ k ih=>
  have h1:=h.grp (show k<p.grps.length by omega);have i:=h.buks;have:=EZ h w st (aS p.grps k) ap;rw [pA w st ap,Od];have:=ih ap;omega
def dh (st lo n:Nat) (h:Nat):List Itm:=(List.range' lo n).map (fun j=>(⟨h,st,j,none⟩:Itm))
theorem mA (st lo n h:Nat):dh st lo (n+1) h=dh st lo n h++[(⟨h,st,lo+n,none⟩:Itm)]:=by simp [dh,List.range'_concat]
theorem jG (st lo n h:Nat):(dh st lo n h).length=n:=by simp [dh]
theorem vx (p:Pln) (w st lo h:Nat):du p w st (lo,h)=dh st lo (h-lo) 2++cG p w st (lo,h) (2*(p.W-1))++dh st lo (h-lo) 5:=by
 rw [ro];rfl
theorem rt (st k:Nat):(List.range (k+1)).map (fun a=>(⟨1,st,a,none⟩:Itm))=(List.range k).map (fun a=>(⟨1,st,a,none⟩:Itm))++[(⟨1,st,k,none⟩:Itm)]:=by simp [Ow]
theorem vr (p:Pln) (st x:Nat) (a0 a1 a2 a3 a5 a7 a8 O U:Value) (BA GA:N_) (bc gc:Nat) (w:Qd) (hp:cW p) (hx:x<p.W) (bn:Rd w BA (aT p.buks)) (bd:Rd w GA (aT p.grps)) (aR:∀y,BA=some y->y.block<w.heap.size) (bs:∀y,GA=some y->y.block<w.heap.size):Calls prog 126 #[.agg #[a0,a1,a2,a3,OH (p.W:Nat),a5,OH (p.mi:Nat),a7,a8,OH (p.ck:Nat),O,U,.slice BA p.buks.length bc,.slice GA p.grps.length gc],OH x,OH (st:Nat)] w fun e u=>∃v,e=.returned v/\u.ownsRow w.heap.size 152 12 v (aJ p x st).length (cC (aJ p x st))/\aq w u:=by
 obtain ⟨C,L⟩:∃C,(w.alloc (.cells #[a0,a1,a2,a3,OH (p.W:Nat),a5,OH (p.mi:Nat),a7,a8,OH (p.ck:Nat),O,U,.slice BA p.buks.length bc,.slice GA p.grps.length gc] 225)).alloc (.cells #[OH (st:Nat),OJ] 276)=C:=⟨_,rfl⟩
 have g0:C.heap[w.heap.size]?=some (.cells #[a0,a1,a2,a3,OH (p.W:Nat),a5,OH (p.mi:Nat),a7,a8,OH (p.ck:Nat),O,U,.slice BA p.buks.length bc,.slice GA p.grps.length gc] 225 (0,0)):=by
  rw [<-L,NW _ _ _ (by simp)];exact NG w _
 have g1:C.heap[w.heap.size+1]?=some (.cells #[OH (st:Nat),OJ] 276 (0,0)):=by
  rw [<-L];have:=NG (w.alloc (.cells #[a0,a1,a2,a3,OH (p.W:Nat),a5,OH (p.mi:Nat),a7,a8,OH (p.ck:Nat),O,U,.slice BA p.buks.length bc,.slice GA p.grps.length gc] 225)) (.cells #[OH (st:Nat),OJ] 276);simpa using this
 have a4:aq w C:=by rw [<-L];exact ((br w).alloc (NF _) _).alloc (by simp) _
 have b7:gS C (w.heap.size+1) (w.heap.size+1) st (OJ) []:=⟨g1,NV _ _ _ _⟩;have bf:w.heap.size+1+1=C.heap.size:=by rw [<-L];simp
 have hz:w.heap.size+1<C.heap.size:=ap;have kS:=fun u (q:Keep (fun j=>j=w.heap.size+1\/(Value.slice none 0 0).ownBlock=some j) C u)=>(q.block _ (NE g0) (fun e=>e.elim (fun h=>ap) (fun h=>by cases h))).trans g0
 have ad:Rd C BA (aT p.buks):=bn.below a4;have ab:Rd C GA (aT p.grps):=bd.below a4
 have kB:=fun u (q:Keep (fun j=>j=w.heap.size+1\/(Value.slice none 0 0).ownBlock=some j) C u)=>q.rd ad (fun y hy=>by
  have:=aR y hy;rintro (h | h)
  ·omega
  ·cases h)
 have kG:=fun u (q:Keep (fun j=>j=w.heap.size+1\/(Value.slice none 0 0).ownBlock=some j) C u)=>q.rd ab (fun y hy=>by
  have:=bs y hy;rintro (h | h)
  ·omega
  ·cases h)
 have cf:=hp.grps;have aM:=hp.buks;have cj:=hp.mi;obtain ⟨cb,bX,bN,HS,c7,bl,V,c8⟩:=ak L a4 b7 kS kB kG bf aR;have tS:=fun u (q:aq C u)=>JA (kS u (Keep.below q));have q0:=br C;clear L g0 g1 a4 b7 bn ad bd ab kS kB kG bf aR bs;go_enter func126,ntmps126;go_wp2_with fail;rw [cb.o];clear tS q0
 go_loopw [22] (fun y wr=>∃k:Nat,k<=p.mi/\y=OH k/\∃v',gS wr (w.heap.size+1) (w.heap.size+1) st v' ((List.range k).map (fun a=>(⟨1,st,a,none⟩:Itm)))/\Apd (w.heap.size+1) C (Value.slice none 0 0) wr v') (fun y _=>p.mi-(intOf y).toNat)
 ·exact ⟨0,NJ _,rfl,_,bN.o,Apd.refl _ _ _⟩
 case round=>
  obtain ⟨k,hk,rfl,v1,l1,A1⟩:=hrel;by_cases Z:k<p.mi
  ·have aG:(k:Int)<p.mi:=ap;have b9:IntKind.i64.wrap ((k:Int)+1)=((k+1:Nat):Int):=by rw [NK _ ap];push_cast;rfl
   have hc:=nH (w.heap.size+1) (w.heap.size+1) st k 1 1 rfl v1 _ wr l1 (by have:=A1.1.size;have:=V.o;omega) (by simp;omega);obtain ⟨Hc,av⟩:=ae hc A1;clear hc A1 l1;go_wp2_with fail;refine Hc.o.mono ?_;rintro e w5 ⟨rfl,v5,H,T⟩;rw [<-rt] at H;obtain ⟨L5,B5⟩:=ae H (av.o.trans T);clear H T;go_wp2_with fail;go_roundw
   ·exact ⟨k+1,by omega,by go_num,v5,L5.o,B5.o⟩
   ·simp [intOf];omega
  ·obtain rfl:p.mi=k:=ap;have aG:¬((p.mi:Int)<p.mi):=ap;have tS:=fun u (q:aq wr u)=>JA (sb (HS.o wr A1.1) u q);have q0:=br wr;obtain ⟨bO,av⟩:=ae l1 A1;clear l1 A1;go_wp2_with fail;clear tS q0
   go_loopw [33] (fun y wr=>∃k:Nat,k<=p.grps.length/\y=OH k/\∃v',gS wr (w.heap.size+1) (w.heap.size+1) st v' (dL p x st k)/\Apd (w.heap.size+1) C (Value.slice none 0 0) wr v') (fun y _=>p.grps.length-(intOf y).toNat)
   ·exact ⟨0,NJ _,rfl,_,by simpa [dL] using bO.o,av.o⟩
   case round=>
    obtain ⟨k,hk,rfl,v2,l2,A2⟩:=hrel;by_cases Z:k<p.grps.length
    ·have aG:(k:Int)<p.grps.length:=ap;have cn:IntKind.i64.wrap ((k:Int)+1)=((k+1:Nat):Int):=by rw [NK _ ap];push_cast;rfl
     obtain ⟨wi,rfl⟩:∃wi:Qd,wi=wr:=⟨_,rfl⟩;have ao:=ez Z;obtain ⟨bb,bo,rfl,b2⟩:=bl.o wi A2.1 _ _ ao.1;obtain ⟨b5,bv,e',Y⟩:=bl.o wi A2.1 _ _ ao.2;obtain ⟨rfl,rfl⟩:b5=bb/\bv=bo:=by simpa using e'.symm
     rw [<-Oy] at Y;have a9:=hp.grp Z;have J:=pA (p:=p) x st Z;have I:=nj hp x st hk;obtain ⟨lo,i,bA⟩:∃lo i,aS p.grps k=(lo,i):=⟨_,_,rfl⟩;rw [bA] at a9 b2 Y J;rw [vx] at J;dsimp only at a9 b2 Y;obtain ⟨W3,a6⟩:∃W3,wi.alloc (.cells #[OH (lo:Nat),OH (i:Nat)] 148)=W3:=⟨_,rfl⟩;have h3:W3.heap[wi.heap.size]?=some (.cells #[OH (lo:Nat),OH (i:Nat)] 148 (0,0)):=by rw [<-a6];exact NG wi _
     have k3:aq wi W3:=by rw [<-a6];exact (br wi).alloc (NF _) _
     have cl:(w.heap.size+1)<wi.heap.size:=by have:=A2.1.size;have:=V.o;omega
     have b4:=l2.below k3;have b8:=fun u (q:Keep (fun j=>j=(w.heap.size+1)\/v2.ownBlock=some j) W3 u)=>(q.block _ (NE h3) (fun e=>e.elim (fun h=>ap) (fun h=>ax h3 (by decide) b4.2 h.symm))).trans h3;have b6:(w.heap.size+1)<=W3.heap.size:=by have:=k3.size;omega
     have bw:=A2.trans (Apd.below k3);obtain ⟨c6,b0,b3,aP,c9,bi,R⟩:=aj a6 b8 b6 bw b4 J I;clear a6 h3 k3 b4 b8 b6 bw J I l2 A2 ao e' bA;go_wp2_with fail;rw [c6.o];clear b2 Y
     have hrl:(cG p x st (lo,i) (2*(p.W-1))).length<=100800:=by
      have h1:=jP (w:=x) (st:=st) (k:=2*(p.W-1)) (g:=(lo,i)) (M:=120) (p:=p) (fun ph r j=>hp.round x st ph r j);have h2:=hp.W8;have h4:2*(p.W-1)*((i-lo)*120)<=14*(60*120):=Nat.mul_le_mul ap (Nat.mul_le_mul ap (NF _));dsimp only at h1;omega
     have bz:=aa hrl;clear hrl
     go_loopw [12] (fun y wr=>∃j:Nat,lo<=j/\j<=i/\y=OH j/\∃v3,gS wr (w.heap.size+1) (w.heap.size+1) st v3 (dL p x st k++dh st lo (j-lo) 2)/\Apd (w.heap.size+1) W3 v2 wr v3) (fun y _=>i-(intOf y).toNat)
     ·exact ⟨lo,NF _,a9.1,rfl,v2,by simpa [dh] using c9.o,Apd.refl _ _ _⟩
     case round=>
      obtain ⟨j,hj,cd,rfl,v3,Q,D⟩:=hrel;have uR:=fun u (q:aq wr u)=>bx2 (sb (b0.o wr D.1) u q);have q1:=br wr;by_cases bI:j<i
      ·have b1:(j:Int)<i:=ap;have b9:IntKind.i64.wrap ((j:Int)+1)=((j+1:Nat):Int):=by rw [NK _ ap];push_cast;rfl
       have e:dL p x st k++dh st lo (j+1-lo) 2=(dL p x st k++dh st lo (j-lo) 2)++[(⟨2,st,j,none⟩:Itm)]:=by rw [show j+1-lo=(j-lo)+1 by omega,mA,show lo+(j-lo)=j by omega];simp only [Oj]
       have A:(dL p x st k++dh st lo (j-lo) 2).length<=8388608:=by
        have:=R.o;have:=bz.o;simp only [Od,jG];omega
       have hc:=nH (w.heap.size+1) (w.heap.size+1) st j 2 2 rfl v3 _ wr Q (by have:=D.1.size;have:=b3.o;omega) A;obtain ⟨Hc,N,He⟩:=af hc D e;clear hc D e Q A;go_wp2_with fail;refine Hc.o.mono ?_;rintro e w5 ⟨rfl,v5,H,T⟩;rw [<-He.o] at H;obtain ⟨L5,B5⟩:=ae H (N.o.trans T);clear H T uR q1;go_wp2_with fail;go_roundw
       ·exact ⟨j+1,by omega,by omega,by go_num,v5,L5.o,B5.o⟩
       ·simp [intOf];omega
      ·have b1:¬((j:Int)<i):=ap;obtain rfl:i=j:=ap;have uS:=fun u (q:aq wr u)=>JA (sb (HS.o wr (aP.o.trans D).1) u q)
       have be:=AC p (w.heap.size+1) (w.heap.size+1) st x lo i a0 a1 a2 a3 a5 (OH (p.mi:Nat)) a7 a8 O U (.slice (some (ar b5 bv)) p.grps.length gc) BA bc v3 _ wr hp Q (by have:=D.1.size;have:=b3.o;omega) (c7.o wr (aP.o.trans D).1) (fun y hy=>by have:=c8.o y hy;omega) (NF _) hx ap (by
        have:=R.o;simp only [Od,jG]
        omega)
       obtain ⟨bG,N⟩:=ae be D;clear be D Q;go_wp2_with fail;refine bG.o.mono ?_;rintro e w6 ⟨rfl,v6,l6,A6⟩;have A7:=N.o.trans A6;have bM:=fun u (q:aq w6 u)=>bx2 (sb (b0.o w6 A7.1) u q);have q6:=br w6;obtain ⟨L6,cc⟩:=ae l6 A7;clear l6 A7 A6 uR q1 uS;go_wp2_with fail;clear bM q6
       go_loopw [13] (fun y wr=>∃j:Nat,lo<=j/\j<=i/\y=OH j/\∃v3,gS wr (w.heap.size+1) (w.heap.size+1) st v3 ((dL p x st k++dh st lo (i-lo) 2++cG p x st (lo,i) (2*(p.W-1)))++dh st lo (j-lo) 5)/\Apd (w.heap.size+1) W3 v2 wr v3) (fun y _=>i-(intOf y).toNat)
       ·exact ⟨lo,NF _,a9.1,rfl,v6,by simpa [dh] using L6.o,cc.o⟩
       case round=>
        obtain ⟨j,hj,cd,rfl,v3,Q,D⟩:=hrel;have uR:=fun u (q:aq wr u)=>bx2 (sb (b0.o wr D.1) u q);have q1:=br wr;by_cases bI:j<i
        ·have b1:(j:Int)<i:=ap;have b9:IntKind.i64.wrap ((j:Int)+1)=((j+1:Nat):Int):=by rw [NK _ ap];push_cast;rfl
         have e:(dL p x st k++dh st lo (i-lo) 2++cG p x st (lo,i) (2*(p.W-1)))++dh st lo (j+1-lo) 5=((dL p x st k++dh st lo (i-lo) 2++cG p x st (lo,i) (2*(p.W-1)))++dh st lo (j-lo) 5)++[(⟨5,st,j,none⟩:Itm)]:=by rw [show j+1-lo=(j-lo)+1 by omega,mA,show lo+(j-lo)=j by omega];simp only [Oj]
         have A:((dL p x st k++dh st lo (i-lo) 2++cG p x st (lo,i) (2*(p.W-1)))++dh st lo (j-lo) 5).length<=8388608:=by
          have:=R.o;have:=bz.o;simp only [Od,jG];omega
         have hc:=nH (w.heap.size+1) (w.heap.size+1) st j 5 5 rfl v3 _ wr Q (by have:=D.1.size;have:=b3.o;omega) A;obtain ⟨Hc,N,He⟩:=af hc D e;clear hc D e Q A;go_wp2_with fail;refine Hc.o.mono ?_;rintro e w5 ⟨rfl,v5,H,T⟩;rw [<-He.o] at H;obtain ⟨L5,B5⟩:=ae H (N.o.trans T);clear H T uR q1;go_wp2_with fail;go_roundw
         ·exact ⟨j+1,by omega,by omega,by go_num,v5,L5.o,B5.o⟩
         ·simp [intOf];omega
        ·have b1:¬((j:Int)<i):=ap;obtain rfl:i=j:=ap;rw [Oj,Oj] at Q;rw [show dL p x st k++(dh st lo (i-lo) 2++(cG p x st (lo,i) (2*(p.W-1))++dh st lo (i-lo) 5))=dL p x st (k+1) by rw [bi.o];simp only [Oj]] at Q;obtain ⟨L9,B9⟩:=ae Q (aP.o.trans D);clear Q D;go_wp2_with fail;go_roundw
         ·exact ⟨k+1,by omega,by go_num,v3,L9.o,B9.o⟩
         ·simp [intOf];omega
    ·have aG:¬((k:Int)<p.grps.length):=ap;have bh:k=p.grps.length:=ap;have I:=nj hp x st hk;have hc:=nH (w.heap.size+1) (w.heap.size+1) st 0 6 6 rfl v2 _ wr l2 (by have:=A2.1.size;have:=V.o;omega) ap
     have e:dL p x st k++[(⟨6,st,0,none⟩:Itm)]=aJ p x st:=by
      unfold dL aJ;rw [bh,Oq]
     rw [e] at hc;obtain ⟨Hc,bV⟩:=ae hc A2;clear hc A2 l2 e bh I;go_wp2_with fail;refine Hc.o.mono ?_;rintro e w5 ⟨rfl,v5,H,T⟩
     have aM:=(bV.o.trans T).1.toBelow (B:=w.heap.size) (by have:=V.o;omega) (by
      rintro j (rfl | hj)
      ·omega
      ·cases hj)
     have xL:=bx2 H.1;have ci:=NE H.1;obtain ⟨O5,HB⟩:=ae (aE (base':=w.heap.size) H.2 ap) (bX.o.trans aM);clear H T aM;go_wp2_with fail;go_ret;exact ⟨_,rfl,O5.o,HB.o⟩
def ng (p:Pln) (m:Nat):Qa:=(List.range m).map fun x=>((aJ p x 0).length:Int)
theorem Bu (p:Pln) (m:Nat):ng p (m+1)=ng p m++[((aJ p m 0).length:Int)]:=by simp [ng,Ow]
theorem vn (p:Pln) (m:Nat):(ng p m).length=m:=by simp [ng]
def fk (w:Qd) (P:Nat) (p:Pln) (v a1 x B C y h:Value):Prop:=∃BA bc o A i u,w.heap[P]?=some (.cells #[v,a1,x,B,OH (p.W:Nat),C,OH (p.mi:Nat),y,OH (p.bu:Nat),OH (p.ck:Nat),OH (p.wi:Nat),h,.slice BA p.buks.length bc,.slice o p.grps.length A,.slice i p.W u] 227 (0,0))/\Rd w BA (aT p.buks)/\Rd w o (aT p.grps)/\Rd w i (aA .i64 (ng p p.W))
theorem fk.below {w u:Qd} {P:Nat} {p:Pln} {o a1 v y A x i:Value} (h:fk w P p o a1 v y A x i) (hb:aq w u):fk u P p o a1 v y A x i:=by
 obtain ⟨BA,bc,L,I,H,B,h1,C,J,D⟩:=h;exact ⟨BA,bc,L,I,H,B,sb h1 _ hb,C.below hb,J.below hb,D.below hb⟩
theorem fk.agr {B:Nat} {u v:Qd} {P:Nat} {p:Pln} {o a1 x A C y i:Value} (h:fk (fZ B u) P p o a1 x A C y i) (hb:Agr B u v):fk v P p o a1 x A C y i:=by
 obtain ⟨BA,bc,O,L,J,D,h1,H,N,I⟩:=h;exact ⟨BA,bc,O,L,J,D,rW (xs:=[_,_,_,_,_,_,_,_,_,_,_,_,_,_]) h1 hb,lZ H hb,lZ N hb,lZ I hb⟩
theorem Ea (p:Pln) (R a1 T U Q I A:Value) (w:Qd) (hp:cW p) (hn:1<=p.n) (cb:p.bu<=1048576) (bX:p.wi<=1048576) (b7:∀x,aq w x->Calls prog 76 #[.agg #[R,a1,T,U,OH (p.W:Nat),Q,OH (p.mi:Nat),I,OH (p.bu:Nat),OH (p.ck:Nat),OH (p.wi:Nat),A]] x fun e a8=>e=.returned (OH 0)/\aq x a8):Calls prog 82 #[.agg #[R,a1,T,U,OH (p.W:Nat),Q,OH (p.mi:Nat),I,OH (p.bu:Nat),OH (p.ck:Nat),OH (p.wi:Nat),A],OH (p.n:Nat)] w fun e x=>∃P,e=.returned (.tuple #[(au P),.bool true])/\w.heap.size<=P/\fk (fZ w.heap.size x) P p R a1 T U Q I A/\aq w x:=by
 obtain ⟨W0,a4⟩:∃W0,w.alloc (.cells #[R,a1,T,U,OH (p.W:Nat),Q,OH (p.mi:Nat),I,OH (p.bu:Nat),OH (p.ck:Nat),OH (p.wi:Nat),A] 24)=W0:=⟨_,rfl⟩;have g0:W0.heap[w.heap.size]?=some (.cells #[R,a1,T,U,OH (p.W:Nat),Q,OH (p.mi:Nat),I,OH (p.bu:Nat),OH (p.ck:Nat),OH (p.wi:Nat),A] 24 (0,0)):=by rw [<-a4];exact NG w _
 have a6:aq w W0:=by rw [<-a4];exact (br w).alloc (NF _) _
 have bi:=fun x (q:aq W0 x)=>b7 x (a6.trans (q.mono a6.size));have t0:=fun x q=>lB (sb g0 x q);have co:¬((p.n:Int)<1):=ap;have cn:=hp.n;have cA:¬((p.n:Int)>1048576):=ap;have ct:¬(1048576<(p.n:Int)):=ap;have cw:=hp.W1;have cx:=hp.W8;have bn:=hp.bu;have b2:=hp.wi;have ad:p.buks=pB p.n p.bu:=rfl;have ab:p.grps=fC p.buks.length p.wi:=rfl;have cv:=hp.buks;obtain ⟨cf,N,bM,cy,bd,bf⟩:=ai a4 a6 bi g0 ad ab;have q0:=br W0;clear a4 g0 a6 bi b7 ad ab;go_enter func82,ntmps82;go_wp2_with fail;rw [cf.o];refine (bM.o _ q0).mono ?_;rintro e w1 ⟨rfl,k1⟩;have q1:=bt q0 k1;go_wp2_with fail;refine (zB p.n p.bu _ ap bn cb).mono ?_;rintro e w2 ⟨v2,rfl,o2,k2⟩;have q2:=bt q1 k2;rw [<-bd.o] at o2;obtain ⟨BA,bc,rfl,_⟩:=aC o2;go_wp2_with fail;refine HA.g (fun x:Qd=>aq W0 x) ?_;refine HA.t ?_ [0,1,2,3,4,5] q2.drew ?_;refine HA.c 6 (BC p.buks.length p.wi _ ap b2 bX) ?_;rintro e C ⟨v3,rfl,o3,k3⟩;have q3:=bt q2.drew k3;rw [<-bf.o] at o3;obtain ⟨GA,gc,rfl,_⟩:=aC o3;refine ⟨_,rfl,q3,fun _=>?_⟩;refine HA.t ?_ [7,8] q3 ?_;obtain ⟨D,O⟩:∃D,C.alloc (.cells #[R,a1,T,U,OH (p.W:Nat),Q,OH (p.mi:Nat),I,OH (p.bu:Nat),OH (p.ck:Nat),OH (p.wi:Nat),A,.slice BA p.buks.length bc,.slice GA p.grps.length gc,OJ] 227)=D:=⟨_,rfl⟩;have k5:aq C D:=by rw [<-O];exact (br C).alloc (NF _) _
 refine HA.v 9 D ((au C.heap.size)) (bt q3 k5) ?_ (he:=by subst O;go_simp);refine HA.t ?_ [10] (bt q3 k5) ?_;refine HA.d ?_;simp only [Exit.then];have g5:D.heap[C.heap.size]?=some (.cells #[R,a1,T,U,OH (p.W:Nat),Q,OH (p.mi:Nat),I,OH (p.bu:Nat),OH (p.ck:Nat),OH (p.wi:Nat),A,.slice BA p.buks.length bc,.slice GA p.grps.length gc,OJ] 227 (0,0)):=by rw [<-O];exact NG C _
 have Z:D.heap.size=C.heap.size+1:=by rw [<-O];simp
 have q5:=bt q3 k5;have be:=(N.o.trans (q2.mono N.o.size));have b9:w.heap.size<=C.heap.size:=NN be.size (NN (NF _) k3.size);have aM:=ay (ay (bW o2 1) k3) k5;have aR:=ay o3 k5;have b6:=Rd.own aM;have bo:=Rd.own aR;have c8:∀y,BA=some y->y.block<D.heap.size:=fun y i=>(jV aM y i).2;have bz:∀y,GA=some y->y.block<D.heap.size:=fun y i=>(jV aR y i).2;have a9:∀y,BA=some y->w.heap.size<=y.block/\y.block<C.heap.size:=fun y i=>⟨NN (NN N.o.size q1.size) (jV o2 y i).1,NQ (jV o2 y i).2 k3.size⟩;have ao:∀y,GA=some y->w.heap.size<=y.block/\y.block<C.heap.size:=fun y i=>⟨NN be.size (jV o3 y i).1,(jV o3 y i).2⟩;obtain ⟨b3,bv,J,L,H5,bh,bV,b1⟩:=ak b6 bo a9 ao g5 Z q5 b9;have t5:=fun x q=>t0 x (bt q5 q);have bA:=br D;clear O g5 Z aM aR o2 o3 b6 bo c8 bz a9 ao k3 k5 q0 q1 q2 q3 q5 t0 b9;go_wp2_with fail;clear t5 bA
 go_loopw [36] (fun y wr=>∃m:Nat,m<=p.W/\y=OH m/\∃v,wr.heap[C.heap.size]?=some (.cells #[R,a1,T,U,OH (p.W:Nat),Q,OH (p.mi:Nat),I,OH (p.bu:Nat),OH (p.ck:Nat),OH (p.wi:Nat),A,.slice BA p.buks.length bc,.slice GA p.grps.length gc,v] 227 (0,0))/\wr.ownsRow D.heap.size 3 1 v m (aA .i64 (ng p m))/\Keep (fun j=>j=C.heap.size) D wr) (fun y _=>p.W-(intOf y).toNat)
 ·exact ⟨0,NJ _,rfl,_,H5.o,NV _ _ _ _,Keep.refl _ _⟩
 case round=>
  obtain ⟨m,hm,rfl,v,hP,V,H⟩:=hrel;by_cases bN:m<p.W
  ·have c9:(m:Int)<p.W:=ap;have cs:IntKind.i64.wrap ((m:Int)+1)=((m+1:Nat):Int):=by rw [NK _ ap];push_cast;rfl
   have bG:=NE hP;have kP:=fun x (q:Keep (fun j=>v.ownBlock=some j) wr x)=>(q.block _ bG (fun h=>ax hP (by decide) V h.symm)).trans hP;have tP:=fun x q=>lA (kP x q);have Z:=bh.o
   have bb:∀x,Keep (fun j=>v.ownBlock=some j) wr x->Calls prog 126 #[.agg #[R,a1,T,U,OH (p.W:Nat),Q,OH (p.mi:Nat),I,OH (p.bu:Nat),OH (p.ck:Nat),OH (p.wi:Nat),A,.slice BA p.buks.length bc,.slice GA p.grps.length gc],OH (m:Nat),OH 0] x fun e a8=>∃v,e=.returned v/\a8.ownsRow x.heap.size 152 12 v (aJ p m 0).length (cC (aJ p m 0))/\aq x a8:=fun x q=>
    vr p 0 m R a1 T U Q I (OH (p.bu:Nat)) (OH (p.wi:Nat)) A BA GA bc gc x hp bN
     (q.rd (H.rd b3.o (fun y i=>by have:=J.o y i;omega)) (fun y i e=>by have:=(V.lt _ e).1;have:=J.o y i;omega))
     (q.rd (H.rd bv.o (fun y i=>by have:=L.o y i;omega)) (fun y i e=>by have:=(V.lt _ e).1;have:=L.o y i;omega))
     (fun y i=>by have:=J.o y i;have:=q.size;have:=H.size;omega) (fun y i=>by have:=L.o y i;have:=q.size;have:=H.size;omega)
   have cj:(aJ p m 0).length<=8000000:=by
    have h1:=nj hp m 0 (NF p.grps.length);have h2:=hp.grps;have:(aJ p m 0).length=(dL p m 0 p.grps.length).length+1:=by simp [aJ,dL];omega
    omega
   have bI:=H.size;obtain ⟨bO,b8,HO,HK⟩:=ag kP bb V H;have q0:Keep (fun j=>v.ownBlock=some j) wr wr.drew:=(Keep.refl _ _).drew;obtain ⟨n,hn⟩:∃n,(aJ p m 0).length=n:=⟨_,rfl⟩;have b0:=Bu p m;rw [hn] at cj b8 b0;have cc:=aa b0;clear kP bb hP V H hn b0;go_wp2_with fail;refine XA.g 14 (fun x:Qd=>Keep (fun j=>v.ownBlock=some j) wr x) ?_;refine XA.t ?_ [0,1,2,3,4,5,6,7,8,9] q0 ?_;refine XA.c 10 (b8.o _ q0) ?_;rintro e w6 ⟨v6,rfl,o6,k6⟩;obtain ⟨A6,c6,rfl,_⟩:=aC o6;have q6:Keep (fun j=>v.ownBlock=some j) wr w6:=q0.trans (Keep.below k6);refine ⟨_,rfl,q6,fun _=>?_⟩;refine XA.t ?_ [11] q6 ?_;refine XA.v 12 (w6.alloc (.cells #[OH (n:Nat)] 3)) (.slice (some (ar w6.heap.size 0)) 1 1) (q6.alloc _) ?_;refine XA.o 13 (fun K' bs=>?_);have b4:=(ay (HO.o.drew) k6).alloc (.cells #[OH (n:Nat)] 3);have cr:=q6.size;refine bT fQ (.tmp 43) (.tmp 51) rfl rfl D.heap.size v m _ rfl b4 (some (ar w6.heap.size 0)) 1 1 [OH (n:Nat)] rfl (fun k u hu=>⟨_,_,rfl,by rw [Oz,NH _ w6.heap.size k _ 3 (0,0) (NG w6 _)];simpa using hu⟩) rfl (by simp [Value.oneCell']) ap (by unfold maxLen;omega) (by simp;omega) ?_;intro A7 c7 w7 aG cl bl _;have Y:Keep (fun j=>v.ownBlock=some j) wr w7:=(q6.alloc _).grown bl (fun k hk=>.inr hk);refine bs.out _ _ Y fun _=>?_;refine XA.e ?_;simp only [Ob,Oc];have aP:=bO.o w7 Y;have e3:=OE w7 C.heap.size 14 _ _ (.slice A7 (m+1) c7) aP;have k1:Keep (fun j=>j=C.heap.size) w7 (w7.setCell (ar C.heap.size 14) (.slice A7 (m+1) c7)):=Keep.setCell (S:=fun j=>j=C.heap.size) (Keep.refl _ _) (ar C.heap.size 14) (.inr rfl) _;have o8:=k1.own aG (fun j hj e=>ax aP (by decide) aG (by rw [hj,e]))
   have kk:Keep (fun j=>j=C.heap.size) D (w7.setCell (ar C.heap.size 14) (.slice A7 (m+1) c7)):=by
    refine Keep.trans (b:=w7) ?_ k1;have h1:=HK.o;refine ⟨Y.os.trans h1.os,Y.tape.trans h1.tape,Y.output.trans h1.output,NN h1.size Y.size,fun j hj hn=>(Y.block j (NQ hj h1.size) (fun e=>by have:=(HO.o.lt _ e).1;omega)).trans (h1.block j hj hn)⟩
   rw [show aA .i64 (ng p m)++[Value.int .i64 (n:Nat)]=aA .i64 (ng p (m+1)) by rw [cc.o,cT];rfl] at o8;obtain ⟨E3,O8,KK⟩:=af e3 o8 kk;have xP:=tP w7 Y;clear aG cl bl aP e3 k1 o8 kk tP bs K' Y q6 q0 b4 o6 k6;go_wp2_with fail;go_roundw
   ·exact ⟨m+1,by omega,by go_num,_,by simpa using E3.o,O8.o,KK.o⟩
   ·simp [intOf];omega
  ·have c9:¬((m:Int)<p.W):=ap;have b5:m=p.W:=ap;have Z:=bh.o;have bI:=H.size;obtain ⟨LA,lc,rfl,_⟩:=aC V;rw [b5] at V hP
   have bw:fk (fZ w.heap.size wr) C.heap.size p R a1 T U Q I A:=by
    have hw:=b1.o;refine ⟨BA,bc,GA,gc,LA,lc,(iM hw).trans hP,(rV _ _).rd (H.rd b3.o (fun y i=>by have:=(J.o y i).2;omega)) (fun y i=>by have:=(J.o y i).1;omega),(rV _ _).rd (H.rd bv.o (fun y i=>by have:=(L.o y i).2;omega)) (fun y i=>by have:=(L.o y i).1;omega),Rd.own (fD V ap)⟩
   have cd:=aa bw;have av:=N.o.trans (bV.o.mono N.o.size);have ci:=aa (av.trans (H.toBelow (B:=w.heap.size) av.size (fun j hj=>by have:=b1.o;omega)));clear hP V H bw av b5;go_wp2_with fail;go_ret2;exact ⟨_,rfl,b1.o,cd.o,ci.o⟩
theorem L0 (l:List Rg):∀u∈aT l,u.oneCell'=true:=by
 intro u i;simp only [aT,List.mem_flatMap,List.mem_cons,List.not_mem_nil,or_false] at i;obtain ⟨r,_,h | h⟩:=i<;>subst h<;>rfl
theorem BG (A:N_) (l:List Rg) (n c:Nat) (w:Qd) (hA:Rd w A (aT l)) (hn:l.length=n) (hl:n<=1048576):Calls prog 131 #[.slice A n c] w fun e y=>∃v,e=.returned v/\y.ownsRow w.heap.size 148 2 v n (aT l)/\aq w y:=by
 subst hn;have q:=fun (w:Qd)=>Lib.run_eql_slice_nil (P:=prog) w 170 148 A l.length c 0 0 underlying170
 cases A with
 | none=>
  have B:l=[]:=by
   cases l with
   | nil=>rfl
   | cons z l=>obtain ⟨b,o,h,_⟩:=hA 0 (OH (z.1:Int)) (by simp [aT]);cases h
  subst B;clear q;have q:=fun (w:Qd)=>Lib.run_eql_slice_nil (P:=prog) w 170 148 none 0 c 0 0 underlying170;simp only [Option.isNone_none] at q;rw [List.length_nil];go_enter func131,ntmps131;go_wp2;go_ret;exact ⟨_,rfl,NV _ _ _ _,NI _ _⟩
 | some a=>
  go_enter func131,ntmps131;go_wp2_with (at_builtin;refine dJ mN _ rfl (.tmp 5) (.tmp 6) rfl w.heap.size _ 0 [] rfl (eK w 148 2) _ l.length c (aT l) rfl (hA.alloc _) (oN l) (L0 l) ap (by unfold maxLen;omega) (by simp) ?_);intro H D C i hb _ _;have u:=((NI _ w).alloc (NF _) (.cells #[] 148)).trans hb;obtain ⟨p,x⟩:=ae i u;clear i hb u;go_wp2;go_ret;exact ⟨_,rfl,by simpa using p.o,x.o⟩
theorem Ii (p:Pln) (P:Nat) (U a1 Y H I A h:Value) (w:Qd) (N:cW p) (hP:fk w P p U a1 Y H I A h):Calls prog 85 #[(au P)] w fun e u=>∃v,e=.returned v/\u.ownsRow w.heap.size 148 2 v p.buks.length (aT p.buks)/\aq w u:=by
 obtain ⟨BA,bc,GA,gc,LA,Z,hb,hB,R,L⟩:=hP;have y:=N.buks;have hc:=BG BA p.buks p.buks.length bc w hB rfl ap;obtain ⟨⟨t0,t1,t2,t3,t4,t5,t6,t7,t8,t9,B,T,Q,J,O⟩,tf⟩:=lA hb;have D:=aa hc;clear hc hb hB R L;go_enter func85,ntmps85;go_wp2_with fail;refine D.o.mono ?_;rintro e w1 ⟨v,rfl,x,i⟩;obtain ⟨V,C⟩:=ae x i;clear x i;go_wp2_with fail;go_ret;exact ⟨_,rfl,V.o,C.o⟩
theorem yp (p:Pln) (P x:Nat) (O a1 Q B D v h:Value) (w:Qd) (o:x<p.W) (hP:fk w P p O a1 Q B D v h):Calls prog 132 #[(au P),OH x] w fun e u=>e=.returned (OH ((aJ p x 0).length:Nat))/\w=u:=by
 obtain ⟨BA,bc,GA,gc,LA,R,hb,hB,L,i⟩:=hP;obtain ⟨lb,lo,rfl,c0⟩:=i.num (k:=x) (by rw [vn];exact o)
 have e:nth (ng p p.W) x=((aJ p x 0).length:Int):=by
  rw [dd _ _ (by rw [vn];exact o)];simp [ng]
 rw [e] at c0;obtain ⟨⟨t0,t1,t2,T,U,t5,Y,V,t8,Z,y,N,I,C,H⟩,tf⟩:=lA hb;have A:(x:Int)<p.W:=ap;have J:¬((p.W:Int)<=x):=ap;clear hb hB L i e;go_enter func132,ntmps132;go_wp2;go_ret;exact ⟨rfl,rfl⟩
theorem j6 {p:Pln} (i:cW p) (x st:Nat):(aJ p x st).length=(aJ p x 0).length:=by
 rw [pw p x st i.wi,pw p x 0 i.wi]
 have h:∀j ph r,(cz p x st ph r j).length=(cz p x 0 ph r j).length:=fun j ph r=>by
  unfold cz;rw [List.length_map,List.length_map,jQ,jQ]
 simp only [h]
theorem jH (p:Pln) (x st:Nat):0<(aJ p x st).length:=by unfold aJ;simp;omega
theorem zv {n s:Nat} (h:1<=n):0<dD n s:=by unfold dD;rw [if_neg ap];exact Nat.succ_pos _
theorem zA {p:Pln} (hn:1<=p.n):0<p.buks.length:=by rw [Pln.buks,lT];exact zv hn
theorem IW {p:Pln} (hn:1<=p.n):0<p.grps.length:=by rw [Pln.grps,eP];exact zv (zA hn)
theorem LI {w:Qd} {A:N_} {l:List Rg} (h:Rd w A (aT l)) (hl:0<l.length):∀y,A=some y->y.block<w.heap.size:=fun y i=>by
 obtain ⟨b,o,e,c⟩:=h _ _ (ez hl).1;rw [i] at e;injection e with e
 subst e;exact aB c
theorem uY (p:Pln) (P x st h:Nat) (C a1 D y A i:Value) (w:Qd) (hp:cW p) (hn:1<=p.n) (O:x<p.W) (U:st<h) (hP:fk w P p C a1 D y A (OH (h:Nat)) i):Calls prog 87 #[(au P),OH x,OH (st:Nat)] w fun e L=>∃v,e=.returned v/\L.ownsRow w.heap.size 152 12 v (aJ p x st).length (cC (aJ p x st))/\aq w L:=by
 have hl:=yp p P x C a1 D y A (OH (h:Nat)) i w O hP;obtain ⟨BA,bc,GA,gc,LA,lc,hb,hB,B,hL⟩:=hP;have hc:=vr p st x C a1 D y A (OH (h:Nat)) (OH (p.bu:Nat)) (OH (p.wi:Nat)) i BA GA bc gc w hp O hB B (LI hB (zA hn)) (LI B (IW hn));have I:=jH p x 0;obtain ⟨n,u⟩:∃n,(aJ p x 0).length=n:=⟨_,rfl⟩;rw [u] at hl I;have H:¬((n:Int)=0):=ap;have R:((n:Int)==0)=false:=by simpa using H
 have a8:¬((h:Int)<=st):=ap;obtain ⟨⟨t0,t1,t2,t3,t4,t5,t6,t7,t8,t9,T,a9,a7,a4,a6⟩,tf⟩:=lA hb;obtain ⟨Z,Y⟩:=ae hc hl;clear hc hl hb hB B hL u;go_enter func87,ntmps87;go_wp2_with fail;refine Y.o.mono ?_;rintro e Q ⟨rfl,rfl⟩;go_wp2_with fail;refine Z.o.mono ?_;rintro e Q ⟨v,rfl,N,J⟩;obtain ⟨O1,V⟩:=ae N J;clear N J;go_wp2_with fail;go_ret;exact ⟨_,rfl,O1.o,V.o⟩
theorem uX (p:Pln) (P x st h:Nat) (C a1 D A B u:Value) (w:Qd) (Y:x<p.W) (L:h<=st) (hP:fk w P p C a1 D A B (OH (h:Nat)) u):Calls prog 87 #[(au P),OH x,OH (st:Nat)] w fun e H=>e=.returned (OJ)/\w=H:=by
 have hl:=yp p P x C a1 D A B (OH (h:Nat)) u w Y hP;obtain ⟨BA,bc,GA,gc,LA,lc,hb,hB,V,O⟩:=hP;have y:=jH p x 0;obtain ⟨n,i⟩:∃n,(aJ p x 0).length=n:=⟨_,rfl⟩;rw [i] at hl y;have v:¬((n:Int)=0):=ap;have I:((n:Int)==0)=false:=by simpa using v
 have U:(h:Int)<=st:=ap;obtain ⟨⟨t0,t1,t2,t3,t4,t5,t6,t7,t8,t9,J,Z,T,Q,R⟩,tf⟩:=lA hb;have N:=aa hl;clear hl hb hB V O i;go_enter func87,ntmps87;go_wp2_with fail;refine N.o.mono ?_;rintro e w1 ⟨rfl,rfl⟩;go_wp2_with fail;go_ret;exact ⟨rfl,rfl⟩
noncomputable def eH (sz:Qa):Int:=@ite _ (dO sz) (Classical.propDecidable _) 0 (@ite _ (cU sz) (Classical.propDecidable _) 4 5)
theorem ks {sz:Qa} (h:dO sz):eH sz=0:=by unfold eH;rw [if_pos h]
theorem mY {sz:Qa} (h:¬dO sz) (hr:cU sz):eH sz=4:=by unfold eH;rw [if_neg h,if_pos hr]
theorem ie {sz:Qa} (h:¬cU sz):eH sz=5:=by unfold eH;rw [if_neg (fun g=>h g.1),if_neg h]
theorem zR (sz:Qa):eH sz=0↔dO sz:=by
 constructor
 ·intro h;by_cases hg:dO sz
  ·exact hg
  ·by_cases hr:cU sz
   ·rw [mY hg hr] at h;omega
   ·rw [ie hr] at h;omega
 ·exact ks
theorem dI (b:Bool):b=false\/b=true:=by cases b<;>simp
structure Cfg where
 sizes:Qa
 shift:Int
 rate:Int
 mom:Int
 workers:Int
 batch:Int
 micros:Int
 steps:Int
 bucket:Int
 chunk:Int
 window:Int
 cap:Int
def okB (n:Int):Bool:=decide (1<=n/\n<=1048576)
theorem lI {n:Int} (h:okB n=true):1<=n/\n<=1048576:=by simpa [okB] using h
theorem Er {n:Int} (h:okB n=false):¬(1<=n/\n<=1048576):=by
 intro i;unfold okB at h;rw [OA i] at h;cases h
def sj (n:Int):Bool:=decide (0<=n/\n<=1048576)
def pX (k:Cfg):Bool:=okB k.micros&&okB k.bucket&&okB k.chunk&&okB k.window&&okB k.cap&&sj k.steps
def wkB (k:Cfg):Bool:=decide (1<=k.workers/\k.workers<=64)
def shB (k:Cfg):Bool:=decide (1<=k.shift/\k.shift<=62)
def baB (k:Cfg):Bool:=decide (k.workers<=k.batch/\k.batch<=1048576)
noncomputable def cE (k:Cfg):Int:=if wkB k=false then 6 else if shB k=false then 9 else if eH k.sizes≠0 then eH k.sizes else if pX k=false then 2 else if baB k=false then 7 else 0
theorem Jw {k:Cfg} (h:wkB k=false):cE k=6:=by unfold cE;rw [if_pos h]
theorem Ju {k:Cfg} (h1:wkB k=true) (h:shB k=false):cE k=9:=by unfold cE;rw [if_neg (by simp [h1]),if_pos h]
theorem Jt {k:Cfg} (h1:wkB k=true) (i:shB k=true) (h:eH k.sizes≠0):cE k=eH k.sizes:=by unfold cE;rw [if_neg (by simp [h1]),if_neg (by simp [i]),if_pos h]
theorem Jy {k:Cfg} (h1:wkB k=true) (i:shB k=true) (o:eH k.sizes=0) (h:pX k=false):cE k=2:=by unfold cE;rw [if_neg (by simp [h1]),if_neg (by simp [i]),if_neg (by simp [o]),if_pos h]
theorem Jv {k:Cfg} (h1:wkB k=true) (i:shB k=true) (p:eH k.sizes=0) (o:pX k=true) (h:baB k=false):cE k=7:=by unfold cE;rw [if_neg (by simp [h1]),if_neg (by simp [i]),if_neg (by simp [p]),if_neg (by simp [o]),if_pos h]
theorem Jz {k:Cfg} (h1:wkB k=true) (i:shB k=true) (p:eH k.sizes=0) (o:pX k=true) (h:baB k=true):cE k=0:=by unfold cE;rw [if_neg (by simp [h1]),if_neg (by simp [i]),if_neg (by simp [p]),if_neg (by simp [o]),if_neg (by simp [h])]
structure jw (k:Cfg):Prop where
 w:1<=k.workers/\k.workers<=64
 s:1<=k.shift/\k.shift<=62
 z:dO k.sizes
 mi:1<=k.micros/\k.micros<=1048576
 bu:1<=k.bucket/\k.bucket<=1048576
 ch:1<=k.chunk/\k.chunk<=1048576
 wi:1<=k.window/\k.window<=1048576
 ca:1<=k.cap/\k.cap<=1048576
 st:0<=k.steps/\k.steps<=1048576
 ba:k.workers<=k.batch/\k.batch<=1048576
theorem ix {k:Cfg}:cE k=0↔jw k:=by
 constructor
 ·intro h
  cases h1:wkB k with
  | false=>rw [Jw h1] at h;omega
  | true=>
   cases h2:shB k with
   | false=>rw [Ju h1 h2] at h;omega
   | true=>
    by_cases i:eH k.sizes=0
    ·cases h4:pX k with
     | false=>rw [Jy h1 h2 i h4] at h;omega
     | true=>
      cases h5:baB k with
      | false=>rw [Jv h1 h2 i h4 h5] at h;omega
      | true=>
       simp only [pX,Bool.and_eq_true] at h4;obtain ⟨⟨⟨⟨⟨a1,p⟩,u⟩,o⟩,v⟩,x⟩:=h4;exact ⟨by simpa [wkB] using h1,by simpa [shB] using h2,(zR _).1 i,lI a1,lI p,lI u,lI o,lI v,by simpa [sj] using x,by simpa [baB] using h5⟩
    ·rw [Jt h1 h2 i] at h;exact absurd h i
 ·intro h;refine Jz (by simpa [wkB] using h.w) (by simpa [shB] using h.s) (ks h.z) ?_ (by simpa [baB] using h.ba);simp only [pX,Bool.and_eq_true];exact ⟨⟨⟨⟨⟨by simpa [okB] using h.mi,by simpa [okB] using h.bu⟩,by simpa [okB] using h.ch⟩,by simpa [okB] using h.wi⟩,by simpa [okB] using h.ca⟩,by simpa [sj] using h.st⟩
theorem Ku (a b:Int) (w:Qd):Sem.run prog (Instr.field 187 (.agg #[OH a,OH b]) 1) w=.ok (OH b) w:=by kernel_rfl
theorem Cx (a b:Int) (w:Qd):Sem.run prog (Instr.field 187 (.agg #[OH a,OH b]) 0) w=.ok (OH a) w:=by kernel_rfl
theorem jR (A:N_) (sz:Qa) (m c:Nat) (w:Qd) (hA:Rd w A (aA .i64 sz)) (T:cU sz) (h1:1<=m) (hm:m<=sz.length):Calls prog 57 #[.slice A m c] w fun e w'=>e=.returned (OH (bR sz (m-1):Int))/\∃n,w'=w.drewN n:=by
 have a2:m<=16:=by have:=T.1.2;omega
 obtain ⟨u,J,Hm⟩:=af hA T hm;clear hA T hm;go_enter func57,ntmps57;go_wp2_with fail
 go_loopw [3,4] (fun v i wr=>∃k:Nat,k+1<=m/\i=OH k/\v=OH (bR sz k:Int)/\∃n,wr=w.drewN n) (fun _ i _=>m-(intOf i).toNat)
 ·exact ⟨0,h1,rfl,rfl,0,rfl⟩
 case round=>
  obtain ⟨k,hk,rfl,rfl,n,rfl⟩:=hrel;by_cases a0:k+1<m
  ·have hm:=Hm.o;have Q:=J.o.at (k:=k) ap;have D:=J.o.at (k:=k+1) ap;obtain ⟨b,o,rfl,p0⟩:=u.o.num (show k<sz.length by omega);obtain ⟨_,_,I,p1⟩:=u.o.num (show k+1<sz.length by omega);injection I with I;injection I with e1 e2 _;subst e1;subst e2
   have hb:=J.o.bound (k:=k+1) ap;rw [Q.2.2] at p0;rw [D.2.2] at p1;have hc:bR sz (k+1)=bR sz k+(szN sz k+1)*szN sz (k+1):=rfl;obtain ⟨a,ha⟩:∃a,szN sz k=a:=⟨_,rfl⟩;obtain ⟨d,Z⟩:∃d,szN sz (k+1)=d:=⟨_,rfl⟩;obtain ⟨N,V⟩:∃N,bR sz k=N:=⟨_,rfl⟩;obtain ⟨M,x⟩:∃M,bR sz (k+1)=M:=⟨_,rfl⟩;obtain ⟨p,L⟩:∃p,(a+1)*d=p:=⟨_,rfl⟩;rw [ha] at p0 Q hc;rw [Z] at p1 D hc;rw [V,x,L] at hc;rw [x] at hb;rw [V];have HM:=aa x;clear x V ha Z;have y:(k:Int)+1<m:=ap;have Y:(k:Int)<m:=ap;have H:(0:Int)<=(k:Int)+1:=ap;have R:((k:Int)+1).toNat=k+1:=ap;have U:IntKind.i64.wrap ((k:Int)+1)=(k:Int)+1:=NK _ ap;have O:IntKind.i64.wrap ((a:Int)+1)=(a:Int)+1:=NK _ ap;have h:((a:Int)+1)*(d:Int)=(p:Int):=by rw [<-L];push_cast;rfl
   have C:IntKind.i64.wrap (((a:Int)+1)*(d:Int))=(p:Int):=by rw [h];exact NK _ ap
   have B:IntKind.i64.wrap ((N:Int)+(p:Int))=(M:Int):=by rw [NK _ ap];omega
   clear h L hc hb Q D;go_wp2_with fail
   go_quiet (fail)
   clear U O C B Y y H R;go_wp2_with fail;go_roundw
   ·exact ⟨k+1,by omega,by go_num,by rw [HM.o],_,by first | rfl | exact World.drewN_drewN _ _ _⟩
   ·simp [intOf];omega
  ·obtain rfl:k=m-1:=ap;have a1:IntKind.i64.wrap (((m-1:Nat):Int)+1)=(m:Int):=by rw [NK _ ap];omega
   go_wp2_with fail;go_ret;exact ⟨rfl,n,rfl⟩
theorem wO (A:N_) (sz:Qa) (c:Nat) (w:Qd) (hl:sz.length<=17592186043904) (h:¬(2<=sz.length/\sz.length<=16)):Calls prog 92 #[.slice A sz.length c] w fun e i=>e=.returned (OH 5)/\w=i:=by
 by_cases h1:sz.length<2
 ·go_enter func92,ntmps92;go_wp2;go_ret;exact ⟨rfl,rfl⟩
 ·have o:16<sz.length:=ap;go_enter func92,ntmps92;go_wp2;go_ret;exact ⟨rfl,rfl⟩
def vE (sz:Qa):Int:=if 1048576<bR sz (sz.length-1) then 4 else 0
theorem yn (A:N_) (sz:Qa) (c:Nat) (w:Qd) (hA:Rd w A (aA .i64 sz)) (h:2<=sz.length/\sz.length<=16):Calls prog 92 #[.slice A sz.length c] w fun e T=>((cU sz/\e=.returned (OH (vE sz)))\/(¬cU sz/\e=.returned (OH 5)))/\∃n,T=w.drewN n:=by
 obtain ⟨h1,Z⟩:=h;obtain ⟨n,hn⟩:∃n,sz.length=n:=⟨_,rfl⟩;have J:=fun (C:cU sz)=>jR A sz n c w hA C ap ap;have C:(∀k,k<n->1<=nth sz k/\nth sz k<=1048576)->cU sz:=fun h=>⟨by omega,by rw [hn];exact h⟩;have L:cU sz->∀k,k<n->1<=nth sz k/\nth sz k<=1048576:=fun h=>by rw [<-hn];exact h.2
 have R:vE sz=if 1048576<bR sz (n-1) then 4 else 0:=by unfold vE;rw [hn]
 rw [hn] at h1 Z ⊢;obtain ⟨V,Q,HR,N,Y,O⟩:=ai hA J C L hn R;clear hA J C L hn R;go_enter func92,ntmps92;go_wp2_with fail
 go_loop [3] (fun i=>∃k:Nat,k<=n/\i=OH k/\an (∀j,j<k->1<=nth sz j/\nth sz j<=1048576)) (fun i=>n-(intOf i).toNat)
 ·exact ⟨0,NJ _,rfl,aa fun j hj=>ap⟩
 case round=>
  obtain ⟨k,hk,rfl,y⟩:=hrel;by_cases D:k<n
  ·obtain ⟨b,o,rfl,p⟩:=V.o.num (show k<sz.length by rw [Y.o];exact D);by_cases a0:nth sz k<1
   ·have u:¬cU sz:=fun h=>by have:=N.o h k D;omega
    have I:=aa u;clear u;go_wp2_with fail;go_ret;exact ⟨.inr ⟨I.o,rfl⟩,0,rfl⟩
   ·by_cases a1:1048576<nth sz k
    ·have u:¬cU sz:=fun h=>by have:=N.o h k D;omega
     have I:=aa u;clear u;go_wp2_with fail;go_ret;exact ⟨.inr ⟨I.o,rfl⟩,0,rfl⟩
    ·have Hz:=aa (show 1<=nth sz k/\nth sz k<=1048576 by omega);go_wp2_with fail;go_round
     case rel=>exact ⟨k+1,by omega,by go_num,aa (p:=∀j,j<k+1->1<=nth sz j/\nth sz j<=1048576) fun j hj=>by
      rcases NY j k with h | h
      ·exact y.out j h
      ·obtain rfl:j=k:=ap
       exact Hz.o⟩
     case measure=>simp [intOf];omega
  ·obtain rfl:k=n:=ap;have C:=HR.o y.out;have hb:=C.bound (k:=k-1) (by rw [Y.o];omega);have x:=aa C;clear C;by_cases B:1048576<bR sz (k-1)
   ·have U:(1048576:Int)<bR sz (k-1):=ap;have v:vE sz=4:=by rw [O.o,if_pos B]
    have H:=aa v;clear v;go_wp2_with fail;refine (Q.o x.o).mono ?_;rintro e T ⟨rfl,m,rfl⟩;go_wp2_with fail;go_ret;exact ⟨.inl ⟨x.o,by rw [H.o];rfl⟩,m,rfl⟩
   ·have U:¬(1048576:Int)<bR sz (k-1):=ap;have v:vE sz=0:=by rw [O.o,if_neg B]
    have H:=aa v;clear v;go_wp2_with fail;refine (Q.o x.o).mono ?_;rintro e T ⟨rfl,m,rfl⟩;go_wp2_with fail;go_ret;exact ⟨.inl ⟨x.o,by rw [H.o];rfl⟩,m,rfl⟩
theorem pO (A:N_) (sz:Qa) (k c:Nat) (w:Qd) (hA:Rd w A (aA .i64 sz)) (B:cU sz) (hk:k+1<sz.length) (hc:sz.length<=c):Calls prog 182 #[.slice A sz.length c,OH k] w fun e C=>e=.returned (.agg #[OH (bR sz k:Int),OH (dA sz k:Int)])/\aq w C:=by
 have H:=B.1.2;have R:=B.at (k:=k) ap;have J:=B.at hk;obtain ⟨b,o,rfl,U⟩:=hA.num (show k<sz.length by omega);obtain ⟨_,_,O,p1⟩:=hA.num hk;injection O with O;injection O with e1 e2 _;subst e1;subst e2
 have x:=fun C (h:aq w C)=>jR (some (ar b o)) sz (k+1) c C (hA.below h) B ap ap;have hb:=B.bound (k:=k+1) hk;have hm:dA sz k=bR sz k+szN sz (k+1)*szN sz k:=rfl;have y:=fE sz k;simp only [Nat.add_sub_cancel] at x;rw [R.2.2] at U;rw [J.2.2] at p1;obtain ⟨a,ha⟩:∃a,szN sz k=a:=⟨_,rfl⟩;obtain ⟨d,Z⟩:∃d,szN sz (k+1)=d:=⟨_,rfl⟩;obtain ⟨N,Y⟩:∃N,bR sz k=N:=⟨_,rfl⟩;obtain ⟨M,I⟩:∃M,dA sz k=M:=⟨_,rfl⟩;obtain ⟨p,Q⟩:∃p,d*a=p:=⟨_,rfl⟩;obtain ⟨n,hn⟩:∃n,sz.length=n:=⟨_,rfl⟩;rw [ha] at U R hm;rw [Z] at p1 J hm y;rw [Y,I,Q] at hm;rw [I] at y;rw [Y] at x ⊢;rw [I];rw [hn] at hk hc H ⊢;have a1:b<w.heap.size:=aB U;have T:=aa x;clear x hA B;have a0:(k:Int)+1<n:=ap;have a7:(k:Int)<n:=ap;have a4:(0:Int)<=(k:Int)+1:=ap;have a6:((k:Int)+1).toNat=k+1:=ap;have a5:((n-1:Nat):Int)=(n:Int)-1:=ap;have a3:¬((n:Int)-1<=k):=ap;have a2:k+1<=c:=ap;have D:(a:Int)*(d:Int)=(p:Int):=by rw [<-Q,Nat.mul_comm];push_cast;rfl
 have u:IntKind.i64.wrap ((a:Int)*(d:Int))=(p:Int):=by rw [D];exact NK _ ap
 have i:IntKind.i64.wrap ((N:Int)+(p:Int))=(M:Int):=by rw [NK _ ap];omega
 obtain ⟨V,L⟩:=ae u i;clear D Q hb R J hm y I Y ha Z hn u i;go_enter func182,ntmps182;go_wp2_with fail;refine (T.o _ ?_).mono ?_
 ·exact am
 rintro e C ⟨rfl,m,rfl⟩;have u:=V.o;have i:=L.o;go_wp2_with fail
 go_region
 all_goals clear u i
 all_goals go_wp2_with fail
 all_goals
  refine NX (v:=.agg #[OH N,OH M]) (by simp [results,results182,go_sem]) rfl ⟨rfl,?_⟩;exact am
theorem yo (A:N_) (sz:Qa) (k c:Nat) (w:Qd) (hA:Rd w A (aA .i64 sz)) (J:cU sz) (hk:k+1<sz.length) (hc:sz.length<=c):Calls prog 192 #[.slice A sz.length c,OH k] w fun e B=>e=.returned (.agg #[OH (dA sz k:Int),OH (bR sz (k+1):Int)])/\aq w B:=by
 have I:=J.1.2;have x:=fun B (h:aq w B)=>pO A sz k c B (hA.below h) J hk hc;have u:=fun B (h:aq w B)=>jR A sz (k+2) c B (hA.below h) J ap ap;simp only [show k+2-1=k+1 by omega] at u;obtain ⟨b,o,rfl,p0⟩:=hA.num (show k<sz.length by omega);obtain ⟨n,hn⟩:∃n,sz.length=n:=⟨_,rfl⟩;obtain ⟨N,hN⟩:∃N,bR sz (k+1)=N:=⟨_,rfl⟩;obtain ⟨M,Y⟩:∃M,dA sz k=M:=⟨_,rfl⟩;rw [hN] at u ⊢;have V:bR sz k=bR sz k:=rfl;clear V;rw [Y] at x ⊢;rw [hn] at x hk hc I ⊢;obtain ⟨Q,U⟩:=ae x u;clear x u hA J p0 hn hN Y;have a1:¬((n:Int)-1<=k):=ap;have a0:(k:Int)+2<=c:=ap;have a2:(0:Int)<=(k:Int)+2:=ap;have a3:((k:Int)+2).toNat=k+2:=ap;have a4:IntKind.i64.wrap ((k:Int)+2)=(k:Int)+2:=NK _ ap;have a5:=Ku;go_enter func192,ntmps192;go_wp2_with fail;have i:(fun _:Qd=>True) (w.alloc (.cells #[OH 0,OH 0] 187)).drew:=trivial;refine HA.g (fun _:Qd=>True) ?_;refine HA.t ?_ [0,1,4,5,6,7] i ?_;refine HA.o 2 (fun K y=>?_);go_simp;refine (Q.o _ ?_).mono ?_
 ·exact am
 rintro e D ⟨rfl,C⟩;have O:aq w D:=(((NI _ w).alloc (NF _) _).drew).trans (C.mono (by simp));have p:=(C.block w.heap.size (by simp)).trans (NG w (.cells #[OH 0,OH 0] 187));obtain ⟨⟨k0,k1⟩,kf⟩:=bx2 p;have l1:w.heap.size<D.heap.size:=NE p;have L:=aa p;clear C p;dsimp only;refine y.out _ _ trivial (fun i=>?_);clear y K;refine HA.t ?_ [3] i ?_;refine HA.o 8 (fun K y=>?_);go_simp;refine (U.o _ O).mono ?_;rintro e w2 ⟨rfl,m,rfl⟩;dsimp only;refine y.out _ _ trivial (fun i=>?_);clear y K;refine HA.t ?_ [9] i ?_;refine HA.o 10 (fun K y=>?_);go_simp;refine y.out _ _ trivial (fun i=>?_);clear y K;refine HA.d ?_;go_wp2_with fail;have e1:=OE (D.drewN m) w.heap.size 0 _ _ (OH M) L.o;have Z:=OE _ w.heap.size 1 _ _ (OH N) e1;have H:aq w (((D.drewN m).setCell (ar w.heap.size 0) (OH M)).setCell (ar w.heap.size 1) (OH N)):=by exact am
 obtain ⟨T,R⟩:∃T,T=((D.drewN m).setCell (ar w.heap.size 0) (OH M)).setCell (ar w.heap.size 1) (OH N):=⟨_,rfl⟩;rw [<-R] at Z H ⊢;have e3:T.heap[w.heap.size]?=some (.cells #[OH M,OH N] 187 (0,0)):=Z;obtain ⟨⟨x0,x1⟩,xf⟩:=bx2 e3;exact NX (v:=.agg #[OH M,OH N]) (by simp [results,results192,go_sem,x0,x1]) rfl ⟨rfl,H⟩
theorem IL (a:Nat) (i:a<18446744073709551616):bits .and .u64 (a:Int) 4294967295=((a%4294967296:Nat):Int):=by
 have h:=bits_and_u64_nat a 4294967295 i ap;have e:a&&& 4294967295=a%4294967296:=Nat.and_two_pow_sub_one_eq_mod a 32;rw [e] at h;exact h
theorem Nt (a:Nat):(a:Int)/4294967296=((a/4294967296:Nat):Int):=ap
theorem Nr (a b:Nat):(a:Int)*(b:Int)=((a*b:Nat):Int):=(Int.natCast_mul a b).symm
theorem Nu (a b:Nat):(a:Int)+(b:Int)=((a+b:Nat):Int):=(Int.natCast_add a b).symm
theorem qV (a:Nat) (h:a<18446744073709551616):IntKind.u64.wrap (a:Int)=(a:Int):=by rw [IntKind.wrap_u64];omega
theorem ML (a:Nat):IntKind.u64.wrap (a:Int)=((a%18446744073709551616:Nat):Int):=by rw [IntKind.wrap_u64];omega
theorem Ev (x y:Nat) (A:x<18446744073709551616) (v:y<18446744073709551616) (w:Qd):Calls prog 275 #[.int .u64 x,.int .u64 y] w fun e D=>e=.returned (.tuple #[.int .u64 ((x*y/18446744073709551616:Nat):Int),.int .u64 ((x*y%18446744073709551616:Nat):Int)])/\w=D:=by
 obtain ⟨B,bt,H,p⟩:=Lib.mul64_hi x y A v;have ba:=Lib.half_mul_le (a:=x/4294967296) (b:=y/4294967296) ap ap;have bb:=Lib.half_mul_le (a:=x/4294967296) (b:=y%4294967296) ap ap;have bc:=Lib.half_mul_le (a:=x%4294967296) (b:=y/4294967296) ap ap;have i:x/4294967296*(y/4294967296)<18446744073709551616:=ap;have h:x/4294967296*(y%4294967296)<18446744073709551616:=ap;have u:x%4294967296*(y/4294967296)<18446744073709551616:=ap;have o:x/4294967296*(y/4294967296)+(x/4294967296*(y%4294967296)+x%4294967296*(y%4294967296)/4294967296)/4294967296<18446744073709551616:=ap;have C:x/4294967296*(y/4294967296)+(x/4294967296*(y%4294967296)+x%4294967296*(y%4294967296)/4294967296)/4294967296+((x/4294967296*(y%4294967296)+x%4294967296*(y%4294967296)/4294967296)%4294967296+x%4294967296*(y/4294967296))/4294967296<18446744073709551616:=ap;go_enter func275,ntmps275;go_wp2;simp only [IL x A,IL y v,Nt,Nr,Nu,qV _ B,qV _ h,qV _ bt,IL _ bt,qV _ u,qV _ H,qV _ i,qV _ o,qV _ C,ML (x*y)];rw [p];go_ret2;exact ⟨rfl,rfl⟩
theorem GU (a:Int) (w:Qd):Calls prog 267 #[OH a] w fun e h=>e=.returned (OH (max a 0))/\w=h:=by
 go_enter func267,ntmps267;go_wp2
 all_goals
  go_ret;exact ⟨bD ap,rfl⟩
theorem IY (a g:Int) (w:Qd):Calls prog 252 #[OH a,OH g] w fun e i=>e=.returned (OH (if 0<a then g else 0))/\w=i:=by
 by_cases h:a<=0
 ·rw [if_neg ap];go_enter func252,ntmps252;go_wp2;go_ret;exact ⟨rfl,rfl⟩
 ·rw [if_pos ap];go_enter func252,ntmps252;go_wp2;go_ret;exact ⟨rfl,rfl⟩
theorem Co (a b:Int) (w:Qd):Calls prog 257 #[OH a,OH b] w fun e h=>e=.returned (OH (wrap64 (a-b)))/\w=h:=by
 go_enter func257,ntmps257;go_wp2;go_ret;exact ⟨rfl,rfl⟩
theorem xO (h lo:Int) (q:Nat) (A:q<=63) (o:0<=lo/\lo<18446744073709551616):
  bits .or .u64 (IntKind.u64.wrap (IntKind.u64.wrap h*2^(64-q))) (lo/2^q)=(uw h%2^q)*2^(64-q)+lo/2^q:=by
 obtain ⟨H,hH,_⟩:=qv h;obtain ⟨L,rfl⟩:=Int.eq_ofNat_of_zero_le o.1;have p:(18446744073709551616:Nat)=2^(64-q)*2^q:=by rw [<-Nat.pow_add,show 64-q+q=64 by omega]
 have hw:IntKind.u64.wrap h=uw h:=by rw [IntKind.wrap_u64];rfl
 have y:IntKind.u64.wrap (uw h*2^(64-q))=((2^(64-q)*(H%2^q):Nat):Int):=by
  rw [IntKind.wrap_u64,hH]
  have:((H*2^(64-q):Nat):Int)%((18446744073709551616:Nat):Int)=((2^(64-q)*(H%2^q):Nat):Int):=by
   rw [<-Int.natCast_emod,Nat.mul_comm H,p,Nat.mul_mod_mul_left]
  simpa using this
 have v:((L:Int)/2^q)=((L/2^q:Nat):Int):=by simp
 have i:0<2^q:=Nat.pow_pos (by decide)
 have u:L/2^q<2^(64-q):=by
  rw [Nat.div_lt_iff_lt_mul i];have:=o.2;omega
 have x:2^(64-q)*(H%2^q)<18446744073709551616:=by
  rw [p];exact Nat.mul_lt_mul_of_pos_left (Nat.mod_lt _ i) (Nat.pow_pos (by decide))
 have b3:L/2^q<18446744073709551616:=Nat.lt_of_le_of_lt (Nat.div_le_self _ _) ap;rw [hw,y,v,bits_or_u64_nat _ _ x b3,<-Nat.two_pow_add_eq_or_of_lt u,hH,Int.natCast_add,Int.natCast_mul,Int.mul_comm];simp
theorem Dz (h lo:Int) (q:Nat) (i:q<=63) (p:0<=lo/\lo<18446744073709551616):
  wrap64 (bits .or .u64 (IntKind.u64.wrap (IntKind.u64.wrap h*2^(64-q))) (lo/2^q))=wrap64 (h*2^(64-q)+lo/2^q):=by
 rw [xO h lo q i p];have u:(18446744073709551616:Int)=2^(64-q)*2^q:=by rw [<-Int.pow_add,show 64-q+q=64 by omega];rfl
 obtain ⟨k,hk⟩:∃k:Int,uw h=h+k*18446744073709551616:=⟨-(h/18446744073709551616),by unfold uw;omega⟩;have x:=Int.emod_add_mul_ediv (uw h) (2^q);refine uu ⟨k*2^(64-q)-uw h/2^q,?_⟩;have e:uw h%2^q=h+k*18446744073709551616-2^q*(uw h/2^q):=ap;rw [e,Int.sub_mul,Int.add_mul,Int.sub_mul]
 have v:2^q*(uw h/2^q)*2^(64-q)=(uw h/2^q)*18446744073709551616:=by
  rw [u,Int.mul_comm (2^q:Int),Int.mul_assoc,Int.mul_comm (2^q:Int)]
 have o:k*18446744073709551616*2^(64-q)=k*2^(64-q)*18446744073709551616:=by rw [Int.mul_assoc,Int.mul_comm 18446744073709551616,<-Int.mul_assoc]
 rw [v,o];omega
def iz (a b:Int):Nat->Int
 | 0=>wrap64 (uw a*uw b/18446744073709551616)
 | 1=>if a<0 then wrap64 (wrap64 (uw a*uw b/18446744073709551616)-b) else wrap64 (uw a*uw b/18446744073709551616)
 | _=>fg a b
theorem CE (a b:Int) (i: -9223372036854775808<=a/\a<=9223372036854775807) (hb: -9223372036854775808<=b/\b<=9223372036854775807):fg a b=if b<0 then wrap64 (iz a b 1-a) else iz a b 1:=by
 rw [<-FB a b i hb];unfold iz;by_cases h1:a<0
 ·by_cases h:b<0
  ·simp only [h1,h,if_true,oD]
  ·simp only [h1,h,if_true,if_false,oD,Int.sub_zero]
 ·by_cases h:b<0
  ·simp only [h1,h,if_true,if_false,oD,Int.sub_zero]
  ·simp only [h1,h,if_false,Int.sub_zero]
theorem Ic (a b:Int) (w:Qd) (N: -9223372036854775808<=a/\a<=9223372036854775807) (hb: -9223372036854775808<=b/\b<=9223372036854775807):Calls prog 270 #[OH a,OH b] w fun e U=>e=.returned (.tuple #[OH (fg a b),.int .u64 (im a b)])/\aq w U:=by
 obtain ⟨X,A,C⟩:=qv a;obtain ⟨Y,B,H⟩:=qv b;have T:IntKind.u64.wrap a=(X:Int):=by rw [IntKind.wrap_u64,<-A];rfl
 have O:IntKind.u64.wrap b=(Y:Int):=by rw [IntKind.wrap_u64,<-B];rfl
 have u:wrap64 ((X*Y/18446744073709551616:Nat):Int)=iz a b 0:=by unfold iz;rw [A,B];simp
 have y:((X*Y%18446744073709551616:Nat):Int)=im a b:=by rw [<-FA a b N hb,A,B];unfold uw;simp
 have hm:=Ev X Y C H w;rw [y] at hm;obtain ⟨h,Q⟩:∃h:Int,((X*Y/18446744073709551616:Nat):Int)=h:=⟨_,rfl⟩;rw [Q] at hm u;have I:∀w,(Instr.index 391 (.agg #[OH a,OH b,OH b,OH a]) (OH 0)).run prog w=.ok (.agg #[OH a,OH b]) w:=fun w=>by kernel_rfl
 have L:∀w,(Instr.index 391 (.agg #[OH a,OH b,OH b,OH a]) (OH 1)).run prog w=.ok (.agg #[OH b,OH a]) w:=fun w=>by kernel_rfl
 obtain ⟨Hm,EX,Z,J,I0,V⟩:=ai hm T O u I L;clear hm T O u y A B Q I L;go_enter func270,ntmps270;go_wp2_with fail;rw [EX.o,Z.o];refine Hm.o.mono ?_;rintro e w1 ⟨rfl,rfl⟩;go_wp2_with fail;rw [J.o]
 go_loopw [4,26] (fun s i wr=>∃k:Nat,k<=2/\i=OH k/\s=OH (iz a b k)/\aq w wr) (fun _ i _=>2-(intOf i).toNat)
 ·exact ⟨0,by omega,rfl,rfl,NI _ _⟩
 case round=>
  obtain ⟨k,hk,rfl,rfl,p⟩:=hrel;obtain ⟨R,x⟩:=ae (p.trans ((NI _ _).alloc p.size (.cells #[OH a,OH b] 390))) (p.trans ((NI _ _).alloc p.size (.cells #[OH b,OH a] 390)));rcases (show k=0\/k=1\/k=2 by omega) with rfl | rfl | rfl
  ·rw [show (((0:Nat):Int))=0 from rfl];have I:=I0.o;by_cases h:a<0
   ·have he:wrap64 (iz a b 0-b)=iz a b 1:=by simp only [iz,h,if_true]
    have v:=aa he;clear he p hk;go_wp2_with fail;rw [v.o];go_roundw
    ·exact ⟨1,by omega,rfl,rfl,R.o⟩
    ·simp [intOf]
   ·have he:iz a b 0=iz a b 1:=by simp only [iz,h,if_false]
    have v:=aa he;clear he p hk;go_wp2_with fail;rw [v.o];go_roundw
    ·exact ⟨1,by omega,rfl,rfl,R.o⟩
    ·simp [intOf]
  ·rw [show (((1:Nat):Int))=1 from rfl];have L:=V.o;by_cases h:b<0
   ·have he:wrap64 (iz a b 1-a)=iz a b 2:=by rw [show iz a b 2=fg a b from rfl,CE a b N hb,if_pos h]
    have v:=aa he;clear he p hk;go_wp2_with fail;rw [v.o];go_roundw
    ·exact ⟨2,by omega,rfl,rfl,x.o⟩
    ·simp [intOf]
   ·have he:iz a b 1=iz a b 2:=by rw [show iz a b 2=fg a b from rfl,CE a b N hb,if_neg h]
    have v:=aa he;clear he p hk;go_wp2_with fail;rw [v.o];go_roundw
    ·exact ⟨2,by omega,rfl,rfl,x.o⟩
    ·simp [intOf]
  ·rw [show (((2:Nat):Int))=2 from rfl];have D:=aa p;clear p hk;go_wp2_with fail;go_ret2;exact ⟨rfl,D.o⟩
theorem DA (h lo:Int) (q:Nat) (w:Qd) (x:q<=62) (h1: -9223372036854775808<=h/\h<=9223372036854775807) (u:0<=lo/\lo<18446744073709551616):Calls prog 271 #[OH h,.int .u64 lo,OH q] w fun e p=>e=.returned (OH (wrap64 (h*2^(64-q)+lo/2^q)))/\∃n,p=w.drewN n:=by
 have i:=Dz h lo q ap u;have v:=aa i;clear i;go_enter func271,ntmps271;go_wp2_with fail
 go_quiet (fail)
 rw [v.o];go_wp2;go_ret;exact ⟨rfl,_,rfl⟩
theorem KS (a b:Int) (q:Nat) (h:q<=62):fB a b q=wrap64 (fg a b*2^(64-q)+im a b/2^q):=by
 rw [Gd a b q h];unfold fB;rw [if_neg ap];simp
theorem tv (a b q:Int) (w:Qd) (v: -9223372036854775808<=a/\a<=9223372036854775807) (hb: -9223372036854775808<=b/\b<=9223372036854775807):Calls prog 260 #[OH a,OH b,OH q] w fun e p=>e=.returned (OH (fB a b q))/\aq w p:=by
 by_cases h1:q<0
 ·have h:fB a b q=0:=by unfold fB;rw [if_pos (.inl h1)]
  rw [h];clear h;go_enter func260,ntmps260;go_wp2_with fail;go_ret;exact ⟨rfl,NI _ _⟩
 ·by_cases y:62<q
  ·have h:fB a b q=0:=by unfold fB;rw [if_pos (.inr y)]
   rw [h];clear h;go_enter func260,ntmps260;go_wp2_with fail;go_ret;exact ⟨rfl,NI _ _⟩
  ·obtain ⟨Q,rfl⟩:=Int.eq_ofNat_of_zero_le (show 0<=q by omega);have h:=KS a b Q ap;rw [h];have u:=Ic a b w v hb;have hs:=fun p=>DA (fg a b) (im a b) Q p ap (jz v hb) (qY _);obtain ⟨B,A⟩:=ae u hs;clear u hs h;go_enter func260,ntmps260;go_wp2_with fail;refine B.o.mono ?_;rintro e C ⟨rfl,i⟩;have x:=aa i;clear i;go_wp2_with fail;refine (A.o _).mono ?_;rintro e D ⟨rfl,n,rfl⟩;go_wp2_with fail;go_ret;exact ⟨rfl,NU x.o _⟩
theorem uN (a g:Int) (w:Qd):Calls prog 169 #[OH a,OH g] w fun e i=>e=.returned (OH (if 0<a then g else 0))/\w=i:=by
 by_cases h:0<a
 ·rw [if_pos h];go_enter func169,ntmps169;go_wp2;go_ret;exact ⟨rfl,rfl⟩
 ·rw [if_neg h];go_enter func169,ntmps169;go_wp2;go_ret;exact ⟨rfl,rfl⟩
def pb (b:Int) (k:Nat):Int:=if k<=63 then uw b%2^k else b
def rHi (a b:Int) (k:Nat):Int:=uw (a*pb b k/18446744073709551616)
def rLo (a b:Int) (k:Nat):Int:=uw (a*pb b k)
theorem Ft (N X:Int):uw (uw N+uw X)=uw (N+X):=by unfold uw;omega
theorem JR (N X:Int) (h:¬uw (uw N+uw X)<uw N):uw (uw (N/18446744073709551616)+uw (X/18446744073709551616))=uw ((N+X)/18446744073709551616):=by unfold uw at *;omega
theorem JQ (N X:Int) (h:uw (uw N+uw X)<uw N):uw (uw (uw (N/18446744073709551616)+1)+uw (X/18446744073709551616))=uw ((N+X)/18446744073709551616):=by unfold uw at *;omega
theorem vk (X:Int):uw (18446744073709551615-uw X+1)=uw (-X):=by unfold uw;omega
theorem yG (X:Int) (h:¬uw (-X)=0):18446744073709551615-uw (X/18446744073709551616)=uw (-X/18446744073709551616):=by unfold uw at *;omega
theorem yF (X:Int) (h:uw (-X)=0):uw (18446744073709551615-uw (X/18446744073709551616)+1)=uw (-X/18446744073709551616):=by unfold uw at *;omega
theorem jb (x:Int):IntKind.u64.wrap x=uw x:=by rw [IntKind.wrap_u64];rfl
theorem Lw (x:Int) (h:0<=x/\x<18446744073709551616):bits .and .u64 x 1=x%2:=by
 obtain ⟨n,rfl⟩:=Int.eq_ofNat_of_zero_le h.1;have h1:=bits_and_u64_nat n 1 ap ap;have e:n&&& 1=n%2:=Nat.and_one_is_mod n;rw [e] at h1;simpa using h1
theorem rD (x:Int) (h:0<=x/\x<18446744073709551616):bits .xor .u64 (if IntKind.u64.signed=true then -1 else IntKind.u64.max) x=18446744073709551615-x:=by
 obtain ⟨n,rfl⟩:=Int.eq_ofNat_of_zero_le h.1;have hn:n<18446744073709551616:=ap;have h1:bits .xor .u64 (if IntKind.u64.signed=true then -1 else IntKind.u64.max) (n:Int)=IntKind.u64.wrap ((BitVec.ofInt 64 18446744073709551615^^^BitVec.ofInt 64 (n:Int)).toNat:Int):=rfl;have i:BitVec.ofInt 64 18446744073709551615=BitVec.allOnes 64:=by decide
 have o:(BitVec.ofInt 64 (n:Int)).toNat=n:=by rw [BitVec.ofInt_natCast,BitVec.toNat_ofNat];exact Nat.mod_eq_of_lt ap
 rw [h1,i,BitVec.allOnes_xor,BitVec.toNat_not,o,jb];unfold uw;omega
theorem In (m k:Nat) (y:Nat) (i:y<2^k) (o:2^k*m<18446744073709551616) (hk:k<=64):bits .or .u64 ((2^k*m:Nat):Int) (y:Int)=((2^k*m:Nat):Int)+(y:Int):=by
 have h:y<18446744073709551616:=NQ i (by have:=Nat.pow_le_pow_right (n:=2) (by decide) hk;simpa using this);rw [bits_or_u64_nat _ _ o h,<-Nat.two_pow_add_eq_or_of_lt i];simp
theorem D8 (k:Nat) (hk:k<=64):(18446744073709551616:Int)=2^(64-k)*2^k:=by rw [<-Int.pow_add,show 64-k+k=64 by omega];rfl
theorem Bc (k:Nat) (hk:k<=64):(18446744073709551616:Nat)=2^(64-k)*2^k:=by rw [<-Nat.pow_add,show 64-k+k=64 by omega]
theorem LG (a:Int) (k:Nat):IntKind.u64.wrap (IntKind.u64.wrap a*2^k)=uw (a*2^k):=by
 rw [jb,jb];unfold uw;rw [Int.mul_emod,Int.emod_emod_of_dvd _ (Int.dvd_refl _),<-Int.mul_emod]
theorem Cp (a:Int) (k:Nat) (H:0<k) (hk:k<=63) (Q: -9223372036854775808<=a/\a<=9223372036854775807) (S:Int) (J:(S=18446744073709551615/\a<0)\/(S=0/\0<=a)):
  bits .or .u64 (IntKind.u64.wrap (S*2^k)) (IntKind.u64.wrap a/2^(64-k))=uw (a*2^k/18446744073709551616):=by
 obtain ⟨U,p,I⟩:=qv a;have x:=D8 k ap;have i:=Bc k ap;have D:(0:Int)<2^(64-k):=Int.pow_pos (by decide);have o:(0:Int)<2^k:=Int.pow_pos (by decide)
 have B:a*2^k/18446744073709551616=a/2^(64-k):=by
  rw [x];exact Int.mul_ediv_mul_of_pos_left _ _ o
 have hb:U/2^(64-k)<2^k:=by
  rw [Nat.div_lt_iff_lt_mul (Nat.pow_pos (by decide)),Nat.mul_comm];omega
 have A:IntKind.u64.wrap a/2^(64-k)=((U/2^(64-k):Nat):Int):=by rw [jb,p];simp
 have L:2^k<=9223372036854775808:=by have:=Nat.pow_le_pow_right (n:=2) (by decide) hk;simpa using this
 have C:0<2^k:=Nat.pow_pos (by decide);rw [B,A];rcases J with ⟨rfl,h⟩ | ⟨rfl,h⟩
 ·have hw:IntKind.u64.wrap (18446744073709551615*2^k)=((2^k*(2^(64-k)-1):Nat):Int):=by
   have h1:((2^k*(2^(64-k)-1):Nat):Int)=18446744073709551616-2^k:=by
    have O:2^k*(2^(64-k)-1)+2^k=18446744073709551616:=by
     rw [<-Nat.mul_succ,Nat.succ_eq_add_one,Nat.sub_add_cancel (Nat.pow_pos (by decide)),Nat.mul_comm];exact i.symm
    have N:((2^k:Nat):Int)=2^k:=by simp
    omega
   rw [h1,jb];unfold uw;have y:((2^k:Nat):Int)=2^k:=by simp
   omega
  rw [hw,In _ _ _ hb (by rw [i,Nat.mul_comm];exact Nat.mul_lt_mul_of_pos_right (by have:0<2^(64-k):=Nat.pow_pos (by decide);omega) C) ap,<-hw,jb]
  have u:a=(U:Int)+(-(2^k))*2^(64-k):=by
   have:(2:Int)^k*2^(64-k)=18446744073709551616:=by rw [Int.mul_comm];exact x.symm
   rw [Int.neg_mul,this];unfold uw at p;omega
  rw [u,Int.add_mul_ediv_right _ _ ap];have v:((U/2^(64-k):Nat):Int)=(U:Int)/2^(64-k):=by simp
  rw [<-v];have y:(2:Int)^k=((2^k:Nat):Int):=by simp
  rw [y];generalize U/2^(64-k)=Y at *;generalize 2^k=P at *;clear B A hw u v x i D o y p;unfold uw;omega
 ·have hw:IntKind.u64.wrap (0*2^k)=((2^k*0:Nat):Int):=by rw [Int.zero_mul];rfl
  rw [hw,In _ _ _ hb (by simp) ap];have u:a=(U:Int):=by unfold uw at p;omega
  rw [u];have v:((U/2^(64-k):Nat):Int)=(U:Int)/2^(64-k):=by simp
  rw [<-v];generalize U/2^(64-k)=Y at *;generalize 2^k=P at *;clear B A hw u v x i D o p;unfold uw;omega
theorem Ge (a:Int) (k:Nat) (hk:k<=0) (h: -9223372036854775808<=a/\a<=9223372036854775807) (S:Int) (i:(S=18446744073709551615/\a<0)\/(S=0/\0<=a)):S=uw (a*2^k/18446744073709551616):=by
 obtain rfl:k=0:=ap;unfold uw;rw [Int.pow_zero,Int.mul_one];omega
theorem JG (b:Int) (k:Nat) (hk:k<64):bits .and .u64 (IntKind.u64.wrap b/2^k) 1=uw b/2^k%2:=by
 rw [jb];obtain ⟨V,o,i⟩:=qv b;rw [o];have h:(V:Int)/2^k=((V/2^k:Nat):Int):=by simp
 rw [h];have p:=Nat.div_le_self V (2^k);generalize V/2^k=Z at *;exact Lw _ ⟨by omega,by omega⟩
theorem nE (b:Int) (k:Nat) (hk:k<63):pb b (k+1)=pb b k+(uw b/2^k%2)*2^k:=by
 unfold pb;rw [if_pos ap,if_pos ap];obtain ⟨V,i,_⟩:=qv b;rw [i];have h:=Nat.mod_pow_succ (b:=2) (x:=V) (k:=k);have h1:((V%2^(k+1):Nat):Int)=(V:Int)%2^(k+1):=by simp
 rw [<-h1,h];simp [Int.mul_comm]
theorem rG (b:Int) (hb: -9223372036854775808<=b/\b<=9223372036854775807):pb b 64=pb b 63-(uw b/2^63%2)*2^63:=by
 unfold pb;rw [if_neg ap,if_pos ap];unfold uw;omega
theorem MS (b:Int):pb b 0=0:=by unfold pb;rw [if_pos ap,Int.pow_zero];omega
theorem CI (b:Int):pb b 64=b:=by unfold pb;rw [if_neg ap]
theorem Ia {a b:Int} {k:Nat} (h:pb b (k+1)=pb b k):rHi a b k=rHi a b (k+1)/\rLo a b k=rLo a b (k+1):=by unfold rHi rLo;rw [h];exact ⟨rfl,rfl⟩
theorem uV {a b X:Int} {k:Nat} (h:a*pb b (k+1)=a*pb b k+X) (o i:Int) (p:o=uw X) (hH:i=uw (X/18446744073709551616)):
  IntKind.u64.wrap (rLo a b k+o)=rLo a b (k+1)/\(rLo a b (k+1)<rLo a b k->IntKind.u64.wrap (IntKind.u64.wrap (rHi a b k+1)+i)=rHi a b (k+1))/\(¬rLo a b (k+1)<rLo a b k->IntKind.u64.wrap (rHi a b k+i)=rHi a b (k+1)):=by
 subst p;subst hH;simp only [jb];unfold rHi rLo;rw [h];have e:=Ft (a*pb b k) X;refine ⟨e,fun hc=>?_,fun hc=>?_⟩
 ·exact JQ _ _ (by rw [e];exact hc)
 ·exact JR _ _ (by rw [e];exact hc)
theorem DM (a b:Int) (w:Qd) (J: -9223372036854775808<=a/\a<=9223372036854775807) (hb: -9223372036854775808<=b/\b<=9223372036854775807):Calls prog 145 #[OH a,OH b] w fun e w'=>e=.returned (.tuple #[OH (fg a b),.int .u64 (im a b)])/\w=w':=by
 by_cases hs:a<0
 ·have D:rHi a b 0=0/\rLo a b 0=0:=by unfold rHi rLo;rw [MS,Int.mul_zero];exact ⟨rfl,rfl⟩
  have I:=aa D;clear D;go_enter func145,ntmps145;go_wp2_with fail
  go_loop [6,7,9] (fun h l i=>∃k:Nat,k<=64/\i=OH k/\h=.int .u64 (rHi a b k)/\l=.int .u64 (rLo a b k)) (fun _ _ i=>64-(intOf i).toNat)
  ·exact ⟨0,by omega,rfl,by rw [I.o.1],by rw [I.o.2]⟩
  case round=>
   obtain ⟨k,hk,rfl,rfl,rfl⟩:=hrel;have y:=aa hs;clear hs;by_cases L:k<64
   ·have p:=JG b k L;obtain ⟨t,x⟩:∃t,uw b/2^k%2=t:=⟨_,rfl⟩;have N:t=0\/t=1:=ap;rw [x] at p;rcases N with U | h1
    ·subst U
     have C:pb b (k+1)=pb b k:=by
      rcases NY k 63 with h | h
      ·rw [nE b k h,x];omega
      ·obtain rfl:k=63:=ap;rw [rG b hb,x];omega
     have a0:(bits .and .u64 (IntKind.u64.wrap b/2^k) 1==0)=true:=by rw [p];rfl
     have hr:=Ia (a:=a) C;have O:=aa hr;clear hr C x p;go_wp2_with fail;go_round
     ·exact ⟨k+1,by omega,by go_num,by rw [O.o.1],by rw [O.o.2]⟩
     ·simp [intOf];omega
    ·subst h1;have a1:(bits .and .u64 (IntKind.u64.wrap b/2^k) 1==0)=false:=by rw [p];rfl
     have e1:=LG a k;rcases (show k<=0\/(0<k/\k<63)\/63<=k by omega) with h | ⟨h,Y⟩ | h
     ·have hr:=uV (a:=a) (b:=b) (k:=k) (X:=a*2^k) (by rw [nE b k ap,x,Int.mul_add,Int.one_mul]) (uw (a*2^k)) (18446744073709551615) rfl (Ge a k h J _ (.inl ⟨rfl,y.o⟩));have H:((k:Int)==63)=false:=by simp;omega
      clear x p;obtain ⟨g1,u,v⟩:=hr;by_cases hc:rLo a b (k+1)<rLo a b k
      ·have A:=u hc;clear u v;go_wp2_with fail;go_round
       ·exact ⟨k+1,by omega,by go_num,rfl,rfl⟩
       ·simp [intOf];omega
      ·have A:=v hc;clear u v;go_wp2_with fail;go_round
       ·exact ⟨k+1,by omega,by go_num,rfl,rfl⟩
       ·simp [intOf];omega
     ·have Q:=Cp a k h ap J (18446744073709551615) (.inl ⟨rfl,y.o⟩);have hr:=uV (a:=a) (b:=b) (k:=k) (X:=a*2^k) (by rw [nE b k Y,x,Int.mul_add,Int.one_mul]) (uw (a*2^k)) (uw (a*2^k/18446744073709551616)) rfl rfl;have H:((k:Int)==63)=false:=by simp;omega
      clear x p;obtain ⟨g1,u,v⟩:=hr;by_cases hc:rLo a b (k+1)<rLo a b k
      ·have A:=u hc;clear u v;go_wp2_with fail;go_round
       ·exact ⟨k+1,by omega,by go_num,rfl,rfl⟩
       ·simp [intOf];omega
      ·have A:=v hc;clear u v;go_wp2_with fail;go_round
       ·exact ⟨k+1,by omega,by go_num,rfl,rfl⟩
       ·simp [intOf];omega
     ·have Q:=Cp a k ap ap J (18446744073709551615) (.inl ⟨rfl,y.o⟩);have e3:=rD (uw (a*2^k)) (qY _);have e4:=rD (uw (a*2^k/18446744073709551616)) (qY _);have e5:IntKind.u64.wrap (18446744073709551615-uw (a*2^k)+1)=uw (-(a*2^k)):=by rw [jb];exact vk _
      have H:((k:Int)==63)=true:=by simp;omega
      have hr:=uV (a:=a) (b:=b) (k:=k) (X:= -(a*2^k)) (by obtain rfl:k=63:=ap;rw [rG b hb,x,Int.mul_sub,Int.one_mul];omega) (uw (-(a*2^k))) (uw (-(a*2^k)/18446744073709551616)) rfl rfl;clear x p;by_cases B:uw (-(a*2^k))=0
      ·have Z:IntKind.u64.wrap (18446744073709551615-uw (a*2^k/18446744073709551616)+1)=uw (-(a*2^k)/18446744073709551616):=by rw [jb];exact yF _ B
       have T:(uw (-(a*2^k))==0)=true:=by rw [B];rfl
       clear B;obtain ⟨g1,u,v⟩:=hr;by_cases hc:rLo a b (k+1)<rLo a b k
       ·have A:=u hc;clear u v;go_wp2_with fail;go_round
        ·exact ⟨k+1,by omega,by go_num,rfl,rfl⟩
        ·simp [intOf];omega
       ·have A:=v hc;clear u v;go_wp2_with fail;go_round
        ·exact ⟨k+1,by omega,by go_num,rfl,rfl⟩
        ·simp [intOf];omega
      ·have Z:18446744073709551615-uw (a*2^k/18446744073709551616)=uw (-(a*2^k)/18446744073709551616):=yG _ B;have T:(uw (-(a*2^k))==0)=false:=by simpa using B
       clear B;obtain ⟨g1,u,v⟩:=hr;by_cases hc:rLo a b (k+1)<rLo a b k
       ·have A:=u hc;clear u v;go_wp2_with fail;go_round
        ·exact ⟨k+1,by omega,by go_num,rfl,rfl⟩
        ·simp [intOf];omega
       ·have A:=v hc;clear u v;go_wp2_with fail;go_round
        ·exact ⟨k+1,by omega,by go_num,rfl,rfl⟩
        ·simp [intOf];omega
   ·obtain rfl:k=64:=ap
    have R:wrap64 (rHi a b 64)=fg a b:=by
     unfold rHi;rw [CI,qt];exact np (jz J hb).1 (jz J hb).2
    have hl:rLo a b 64=im a b:=by unfold rLo im;rw [CI]
    obtain ⟨V,Hl⟩:=ae R hl;clear R hl;rw [show (((64:Nat):Int))=64 from rfl];go_wp2_with fail;go_ret2;exact ⟨by rw [V.o,Hl.o];rfl,rfl⟩
 ·have D:rHi a b 0=0/\rLo a b 0=0:=by unfold rHi rLo;rw [MS,Int.mul_zero];exact ⟨rfl,rfl⟩
  have I:=aa D;clear D;go_enter func145,ntmps145;go_wp2_with fail
  go_loop [6,7,9] (fun h l i=>∃k:Nat,k<=64/\i=OH k/\h=.int .u64 (rHi a b k)/\l=.int .u64 (rLo a b k)) (fun _ _ i=>64-(intOf i).toNat)
  ·exact ⟨0,by omega,rfl,by rw [I.o.1],by rw [I.o.2]⟩
  case round=>
   obtain ⟨k,hk,rfl,rfl,rfl⟩:=hrel;have y:=aa hs;clear hs;by_cases L:k<64
   ·have p:=JG b k L;obtain ⟨t,x⟩:∃t,uw b/2^k%2=t:=⟨_,rfl⟩;have N:t=0\/t=1:=ap;rw [x] at p;rcases N with U | h1
    ·subst U
     have C:pb b (k+1)=pb b k:=by
      rcases NY k 63 with h | h
      ·rw [nE b k h,x];omega
      ·obtain rfl:k=63:=ap;rw [rG b hb,x];omega
     have a0:(bits .and .u64 (IntKind.u64.wrap b/2^k) 1==0)=true:=by rw [p];rfl
     have hr:=Ia (a:=a) C;have O:=aa hr;clear hr C x p;go_wp2_with fail;go_round
     ·exact ⟨k+1,by omega,by go_num,by rw [O.o.1],by rw [O.o.2]⟩
     ·simp [intOf];omega
    ·subst h1;have a1:(bits .and .u64 (IntKind.u64.wrap b/2^k) 1==0)=false:=by rw [p];rfl
     have e1:=LG a k;rcases (show k<=0\/(0<k/\k<63)\/63<=k by omega) with h | ⟨h,Y⟩ | h
     ·have hr:=uV (a:=a) (b:=b) (k:=k) (X:=a*2^k) (by rw [nE b k ap,x,Int.mul_add,Int.one_mul]) (uw (a*2^k)) (0) rfl (Ge a k h J _ (.inr ⟨rfl,by have:=y.o;omega⟩));simp only [Int.add_zero] at hr;have H:((k:Int)==63)=false:=by simp;omega
      clear x p;obtain ⟨g1,u,v⟩:=hr;by_cases hc:rLo a b (k+1)<rLo a b k
      ·have A:=u hc;clear u v;go_wp2_with fail;go_round
       ·exact ⟨k+1,by omega,by go_num,rfl,rfl⟩
       ·simp [intOf];omega
      ·have A:=v hc;clear u v;go_wp2_with fail;go_round
       ·exact ⟨k+1,by omega,by go_num,rfl,rfl⟩
       ·simp [intOf];omega
     ·have Q:=Cp a k h ap J (0) (.inr ⟨rfl,by have:=y.o;omega⟩);rw [Int.zero_mul,show IntKind.u64.wrap 0=0 from rfl] at Q;have hr:=uV (a:=a) (b:=b) (k:=k) (X:=a*2^k) (by rw [nE b k Y,x,Int.mul_add,Int.one_mul]) (uw (a*2^k)) (uw (a*2^k/18446744073709551616)) rfl rfl;have H:((k:Int)==63)=false:=by simp;omega
      clear x p;obtain ⟨g1,u,v⟩:=hr;by_cases hc:rLo a b (k+1)<rLo a b k
      ·have A:=u hc;clear u v;go_wp2_with fail;go_round
       ·exact ⟨k+1,by omega,by go_num,rfl,rfl⟩
       ·simp [intOf];omega
      ·have A:=v hc;clear u v;go_wp2_with fail;go_round
       ·exact ⟨k+1,by omega,by go_num,rfl,rfl⟩
       ·simp [intOf];omega
     ·have Q:=Cp a k ap ap J (0) (.inr ⟨rfl,by have:=y.o;omega⟩);rw [Int.zero_mul,show IntKind.u64.wrap 0=0 from rfl] at Q;have e3:=rD (uw (a*2^k)) (qY _);have e4:=rD (uw (a*2^k/18446744073709551616)) (qY _);have e5:IntKind.u64.wrap (18446744073709551615-uw (a*2^k)+1)=uw (-(a*2^k)):=by rw [jb];exact vk _
      have H:((k:Int)==63)=true:=by simp;omega
      have hr:=uV (a:=a) (b:=b) (k:=k) (X:= -(a*2^k)) (by obtain rfl:k=63:=ap;rw [rG b hb,x,Int.mul_sub,Int.one_mul];omega) (uw (-(a*2^k))) (uw (-(a*2^k)/18446744073709551616)) rfl rfl;clear x p;by_cases B:uw (-(a*2^k))=0
      ·have Z:IntKind.u64.wrap (18446744073709551615-uw (a*2^k/18446744073709551616)+1)=uw (-(a*2^k)/18446744073709551616):=by rw [jb];exact yF _ B
       have T:(uw (-(a*2^k))==0)=true:=by rw [B];rfl
       clear B;obtain ⟨g1,u,v⟩:=hr;by_cases hc:rLo a b (k+1)<rLo a b k
       ·have A:=u hc;clear u v;go_wp2_with fail;go_round
        ·exact ⟨k+1,by omega,by go_num,rfl,rfl⟩
        ·simp [intOf];omega
       ·have A:=v hc;clear u v;go_wp2_with fail;go_round
        ·exact ⟨k+1,by omega,by go_num,rfl,rfl⟩
        ·simp [intOf];omega
      ·have Z:18446744073709551615-uw (a*2^k/18446744073709551616)=uw (-(a*2^k)/18446744073709551616):=yG _ B;have T:(uw (-(a*2^k))==0)=false:=by simpa using B
       clear B;obtain ⟨g1,u,v⟩:=hr;by_cases hc:rLo a b (k+1)<rLo a b k
       ·have A:=u hc;clear u v;go_wp2_with fail;go_round
        ·exact ⟨k+1,by omega,by go_num,rfl,rfl⟩
        ·simp [intOf];omega
       ·have A:=v hc;clear u v;go_wp2_with fail;go_round
        ·exact ⟨k+1,by omega,by go_num,rfl,rfl⟩
        ·simp [intOf];omega
   ·obtain rfl:k=64:=ap
    have R:wrap64 (rHi a b 64)=fg a b:=by
     unfold rHi;rw [CI,qt];exact np (jz J hb).1 (jz J hb).2
    have hl:rLo a b 64=im a b:=by unfold rLo im;rw [CI]
    obtain ⟨V,Hl⟩:=ae R hl;clear R hl;rw [show (((64:Nat):Int))=64 from rfl];go_wp2_with fail;go_ret2;exact ⟨by rw [V.o,Hl.o];rfl,rfl⟩
def sHi (N:Int) (k:Nat):Int:=N/2^k/18446744073709551616
def sLo (N:Int) (k:Nat):Int:=uw (N/2^k)
theorem vw (N:Int) (k:Nat):N/2^(k+1)=N/2^k/2:=by
 rw [Int.pow_succ,<-Int.ediv_ediv_of_nonneg];exact Int.le_of_lt (Int.pow_pos (by decide))
theorem xQ (N:Int) (k:Nat):sHi N (k+1)=sHi N k/2:=by unfold sHi;rw [vw];omega
theorem El (x y:Int):bits .or .u64 x y=bits .or .u64 y x:=by
 show IntKind.u64.wrap ((BitVec.ofInt 64 x||| BitVec.ofInt 64 y).toNat:Int)=IntKind.u64.wrap ((BitVec.ofInt 64 y||| BitVec.ofInt 64 x).toNat:Int)
 rw [BitVec.or_comm]
theorem Gq (N:Int) (k:Nat):bits .or .u64 (sLo N k/2) (IntKind.u64.wrap (IntKind.u64.wrap (sHi N k)*9223372036854775808))=sLo N (k+1):=by
 have h:=xO (sHi N k) (sLo N k) 1 ap (qY _);rw [El];simp only [Int.pow_one,show (64-1:Nat)=63 from rfl,show (2:Int)^63=9223372036854775808 from rfl] at h;rw [h];unfold sLo sHi;rw [vw];unfold uw;omega
theorem LW (N:Int) (k:Nat) (h: -170141183460469231731687303715884105728<=N/\N<=170141183460469231731687303715884105727): -9223372036854775808<=sHi N k/\sHi N k<=9223372036854775807:=by
 induction k with
 | zero=>unfold sHi;rw [Int.pow_zero];omega
 | succ k ih=>rw [xQ];omega
theorem Az (N:Int) (q:Nat) (w:Qd) (H:q<=62) (v: -170141183460469231731687303715884105728<=N/\N<=170141183460469231731687303715884105727):Calls prog 146 #[OH (N/18446744073709551616),.int .u64 (uw N),OH q] w fun e A=>e=.returned (OH (wrap64 (N/2^q)))/\w=A:=by
 have p:N/18446744073709551616=sHi N 0/\uw N=sLo N 0:=by unfold sHi sLo;rw [Int.pow_zero,Int.ediv_one];exact ⟨rfl,rfl⟩
 rw [p.1,p.2];have B:=aa v;clear p v;go_enter func146,ntmps146;go_wp2_with fail
 go_loop [0,1,7] (fun h l i=>∃k:Nat,k<=q/\i=OH k/\h=OH (sHi N k)/\l=.int .u64 (sLo N k)) (fun _ _ i=>q-(intOf i).toNat)
 ·exact ⟨0,NJ _,rfl,rfl,rfl⟩
 case round=>
  obtain ⟨k,hk,rfl,rfl,rfl⟩:=hrel;have hb:=LW N k B.o;by_cases y:k<q
  ·have D:=Gq N k;have u:=xQ N k;have C:=aa u;clear u;go_wp2_with fail;go_round
   ·exact ⟨k+1,by omega,by go_num,by rw [C.o],rfl⟩
   ·simp [intOf];omega
  ·obtain rfl:k=q:=ap;have he:wrap64 (sLo N k)=wrap64 (N/2^k):=by unfold sLo;exact qt _
   have x:=aa he;clear he;go_wp2_with fail;go_ret;exact ⟨by rw [<-x.o];rfl,rfl⟩
theorem sG (a b q:Int) (w:Qd) (u: -9223372036854775808<=a/\a<=9223372036854775807) (hb: -9223372036854775808<=b/\b<=9223372036854775807):Calls prog 100 #[OH a,OH b,OH q] w fun e i=>e=.returned (OH (fB a b q))/\w=i:=by
 by_cases h1:q<0
 ·have h:fB a b q=0:=by unfold fB;rw [if_pos (.inl h1)]
  rw [h];clear h;go_enter func100,ntmps100;go_wp2_with fail;go_ret;exact ⟨rfl,rfl⟩
 ·by_cases v:62<q
  ·have h:fB a b q=0:=by unfold fB;rw [if_pos (.inr v)]
   rw [h];clear h;go_enter func100,ntmps100;go_wp2_with fail;go_ret;exact ⟨rfl,rfl⟩
  ·obtain ⟨Q,rfl⟩:=Int.eq_ofNat_of_zero_le (show 0<=q by omega);have h:fB a b Q=wrap64 (a*b/2^Q):=by unfold fB;rw [if_neg ap];simp
   rw [h];have hm:=Iv u hb;have p:=DM a b w u hb;have hs:=fun i=>Az (a*b) Q i ap ap;obtain ⟨y,x⟩:=ae p hs;clear p hs h hm;go_enter func100,ntmps100;go_wp2_with fail;refine y.o.mono ?_;rintro e A ⟨rfl,rfl⟩;go_wp2_with fail;refine (x.o _).mono ?_;rintro e B ⟨rfl,rfl⟩;go_wp2_with fail;go_ret;exact ⟨rfl,rfl⟩
def wL (sz ps:Qa) (k:Nat):Qa:=dM (szN sz (k+1)*szN sz k) fun i=>nth ps (bR sz k+i)
def bL (sz ps:Qa) (k:Nat):Qa:=dM (szN sz (k+1)) fun i=>nth ps (dA sz k+i)
theorem zM (sz ps:Qa) (k:Nat):(wL sz ps k).length=szN sz (k+1)*szN sz k:=cF _ _
theorem JM (sz ps:Qa) (k:Nat):(bL sz ps k).length=szN sz (k+1):=cF _ _
def xz (w:Qd) (h:Qc) (sz ps:Qa) (k:Nat):Prop:=∃g o d B e,
 h=[OH (szN sz (k+1):Int),OH (szN sz k:Int),.slice (some (ar g o)) (szN sz (k+1)*szN sz k) d,.slice B (szN sz (k+1)) e]/\szN sz (k+1)*szN sz k<=d/\
 Rd w (some (ar g o)) (aA .i64 (wL sz ps k))/\Rd w B (aA .i64 (bL sz ps k))
def lY (u p:Qf) (w:Qd) (b:Nat) (sz ps:Qa) (q:Int):Prop:=∃S h cp i o rows,
 w.heap[b]?=some (.cells #[(au S),.slice h ps.length cp,OH q,.slice i (sz.length-1) o] p (0,0))/\
 cI u w S sz/\Rd w h (aA .i64 ps)/\Rd w i (List.flatten rows)/\rows.length=sz.length-1/\(∀r∈rows,r.length=4)/\∀j,j<sz.length-1->xz w (bZ rows j) sz ps j
theorem xz.below {w i:Qd} {p:Qc} {sz ps:Qa} {k:Nat} (h:xz w p sz ps k) (hb:aq w i):xz i p sz ps k:=by
 obtain ⟨g,o,d,B,e,h1,u,x,v⟩:=h;exact ⟨g,o,d,B,e,h1,u,x.below hb,v.below hb⟩
theorem lY.below {u o:Qf} {w i:Qd} {b:Nat} {sz ps:Qa} {q:Int} (h:lY u o w b sz ps q) (hb:aq w i):lY u o i b sz ps q:=by
 obtain ⟨S,I,cp,C,v,rows,p,h1,A,H,B,D,x⟩:=h;exact ⟨S,I,cp,C,v,rows,(hb.block b (NE p)).trans p,h1.below hb,A.below hb,H.below hb,B,D,fun j y=>(x j y).below hb⟩
theorem lY.lt {p i:Qf} {w:Qd} {b:Nat} {sz ps:Qa} {q:Int} (h:lY p i w b sz ps q):b<w.heap.size:=by
 obtain ⟨S,v,cp,x,u,rows,o,_⟩:=h;exact NE o
theorem mL:dB prog 139 2 (OH 0) 1 8:=⟨underlying139,info_parts (by kernel_rfl),rfl,by decide⟩
theorem Ar (A:N_) (zs:Qa) (c:Nat) (w:Qd) (hA:Rd w A (aA .i64 zs)) (hl:zs.length<=17592186043904):Calls prog 162 #[.slice A zs.length c] w fun e y=>∃v,e=.returned v/\y.ownsRow w.heap.size 2 1 v zs.length (aA .i64 zs)/\aq w y:=by
 have q:=fun (w:Qd)=>Lib.run_eql_slice_nil (P:=prog) w 139 2 A zs.length c 0 0 underlying139
 cases A with
 | none=>
  have B:zs=[]:=by
   cases zs with
   | nil=>rfl
   | cons z l=>obtain ⟨b,o,h,_⟩:=hA 0 _ rfl;cases h
  subst B;clear q;have q:=fun (w:Qd)=>Lib.run_eql_slice_nil (P:=prog) w 139 2 none 0 c 0 0 underlying139;simp only [Option.isNone_none] at q;rw [List.length_nil];go_enter func162,ntmps162;go_wp2;go_ret;exact ⟨_,rfl,NV _ _ _ _,NI _ _⟩
 | some a=>
  go_enter func162,ntmps162;go_wp2_with (at_builtin;refine dJ mL _ rfl (.tmp 5) (.tmp 6) rfl w.heap.size _ 0 [] rfl (eK w 2 1) _ zs.length c (aA .i64 zs) rfl (hA.alloc _) (by rw [bS];omega) (cJ _ _) ap (by unfold maxLen;omega) (by simp) ?_);intro H D C i hb _ _;have u:=((NI _ w).alloc (NF _) (.cells #[] 2)).trans hb;obtain ⟨p,x⟩:=ae i u;clear i hb u;go_wp2;go_ret;exact ⟨_,rfl,p.o,x.o⟩
theorem fI (A:N_) (zs:Qa) (c:Nat) (w:Qd) (hA:Rd w A (aA .i64 zs)) (hl:zs.length<=17592186043904):Calls prog 127 #[.slice A zs.length c] w fun e y=>∃x u,e=.returned (.slice x zs.length u)/\zs.length<=u/\y.ownsRow w.heap.size 2 1 (.slice x zs.length u) zs.length (aA .i64 zs)/\aq w y:=by
 have h:=Ar A zs c w hA hl;go_enter func127,ntmps127;go_wp2_with fail;refine h.mono ?_;rintro e D ⟨v,rfl,i,hb⟩;obtain ⟨x,u,rfl,hc⟩:=aC i;clear h;obtain ⟨p,C,B⟩:=af i hb hc;clear i hb hc;go_wp2;go_ret;exact ⟨_,_,rfl,B.o,p.o,C.o⟩
theorem Lo (A B:N_) (xs ys:Qa) (c d:Nat) (q:Int) (w:Qd) (hA:Rd w A (aA .i64 xs)) (hB:Rd w B (aA .i64 ys)) (hl:xs.length=ys.length) (hm:xs.length<=17592186043904) (O:W64 xs) (N:W64 ys):Calls prog 274 #[.slice A xs.length c,.slice B ys.length d,OH q] w fun e C=>e=.returned (.tuple #[OH (um xs ys q),.bool true])/\aq w C:=by
 obtain ⟨n,hn⟩:∃n,ys.length=n:=⟨_,rfl⟩;have p:xs.length=n:=hl.trans hn;have J:um xs ys q=BN xs ys q n:=by unfold um;rw [p]
 rw [p,hn,J];have U:n<=17592186043904:=ap;obtain ⟨Q,L,HA,T,Y,R⟩:=ai hn p hA hB O N;clear hn p hA hB O N hl hm J;go_enter func274,ntmps274;go_wp2_with fail
 go_loopw [8,18] (fun s i wr=>∃k:Nat,k<=n/\i=OH k/\s=OH (BN xs ys q k)/\aq w wr) (fun _ i _=>n-(intOf i).toNat)
 ·exact ⟨0,NJ _,rfl,rfl,NI _ _⟩
 case round=>
  obtain ⟨k,hk,rfl,rfl,u⟩:=hrel;by_cases h:k<n
  ·obtain ⟨Z,o1,H,p1⟩:=(HA.o.below u).num (show k<xs.length by rw [L.o];exact h);obtain ⟨b2,o2,D,p2⟩:=(T.o.below u).num (show k<ys.length by rw [Q.o];exact h);subst H;subst D;have v:=fun C=>tv (nth xs k) (nth ys k) q C (Y.o k (by rw [L.o];exact h)) (R.o k (by rw [Q.o];exact h));obtain ⟨V,y⟩:=ae v u;clear v u;go_wp2_with fail;refine (V.o _).mono ?_;rintro e w3 ⟨rfl,x⟩;have I:=aa (y.o.trans (x.mono y.o.size));clear x;go_wp2_with fail;go_roundw
   ·exact ⟨k+1,by omega,by go_num,rfl,I.o⟩
   ·simp [intOf];omega
  ·obtain rfl:k=n:=ap;have y:=aa u;clear u;go_wp2_with fail;go_ret2;exact ⟨rfl,y.o⟩
theorem cH {w:Qd} {base n g c:Nat} {xs:Qa} {e:Qf} (h:w.ownsRow base e 1 (.slice (some (ar g 0)) n c) n (aA .i64 xs)) {k:Nat} (hk:k<n):w.cell? (ar g k)=some (OH (nth xs k)):=by
 rw [h.cellAt k ap];have:=h.1;rw [bS] at this;exact lK .i64 xs k ap
theorem kQ {w:Qd} {base n:Nat} {v:Value} {xs:Qa} {e:Qf} (h:w.ownsRow base e 1 v n (aA .i64 xs)):xs.length=n:=by
 have:=h.1;rw [bS] at this;omega
theorem ed {w:Qd} {base n g c:Nat} {xs:Qa} {e:Qf} (h:w.ownsRow base e 1 (.slice (some (ar g 0)) n c) n (aA .i64 xs)) (k:Nat) (v:Int): (w.setCell (ar g k) (OH v)).ownsRow base e 1 (.slice (some (ar g 0)) n c) n (aA .i64 (xs.set k v)):=by
 have:=(h.stored k (OH v)).1
 rwa [yB] at this
theorem DE (A:N_) (xs:Qa) (c:Nat) (a q:Int) (w:Qd) (hA:Rd w A (aA .i64 xs)) (hm:xs.length<=17592186043904) (wx:W64 xs) (ha: -9223372036854775808<=a/\a<=9223372036854775807):Calls prog 261 #[.slice A xs.length c,OH a,OH q] w fun e L=>∃Q N,e=.returned (.slice Q xs.length N)/\L.ownsRow w.heap.size 2 1 (.slice Q xs.length N) xs.length (aA .i64 (qx xs a q))/\aq w L:=by
 have D:=fI A xs c w hA hm;have y:=jF xs (fun k=>fB (nth xs k) a q);obtain ⟨n,hn⟩:∃n,xs.length=n:=⟨_,rfl⟩;rw [hn] at D hm;unfold qx;rw [<-y,hn];obtain ⟨Hc,WX,Hn⟩:=af D wx hn;clear D wx hA y hn;go_enter func261,ntmps261;go_wp2_with fail;refine Hc.o.mono ?_;rintro e w1 ⟨Q,N,rfl,_,h,hb⟩;obtain ⟨HO,HB⟩:=ae h hb;clear h hb;go_wp2_with fail
 go_loopw [14] (fun i wr=>∃k:Nat,k<=n/\i=OH k/\wr.ownsRow w.heap.size 2 1 (.slice Q n N) n (aA .i64 (kT xs k (fun k=>fB (nth xs k) a q)))/\aq w wr) (fun i _=>n-(intOf i).toNat)
 ·exact ⟨0,NJ _,rfl,by rw [iH];exact HO.o,HB.o⟩
 case round=>
  obtain ⟨k,hk,rfl,h,O⟩:=hrel;by_cases B:k<n
  ·obtain ⟨g,d,hv,hg,a0⟩:=h.form ap;simp only [Ou] at hv;obtain ⟨rfl,Y,rfl⟩:=hv;clear Y;have x:k<xs.length:=by rw [Hn.o];exact B
   have p1:=cH h B;rw [gK _ x,if_neg ap] at p1;have J:=fun L=>tv (nth xs k) a q L (WX.o k x) ha;have I:=jE (l:=xs) (k:=k) (fun k=>fB (nth xs k) a q) x;obtain ⟨Hm,R,C,T⟩:=ag J O h I;clear J O h I x;go_wp2_with fail;refine (Hm.o _).mono ?_;rintro e w3 ⟨rfl,H⟩;have v:=ay C.o H;have Z:∃u,w3.cell? (ar g k)=some u:=⟨_,cH v B⟩;obtain ⟨u3,Z⟩:=Z;have f3:=v.frozenAt k;obtain ⟨V,U⟩:=ae (ed v k (fB (nth xs k) a q)) ((R.o.trans (H.mono R.o.size)).setCell (p:=(ar g k)) hg (OH (fB (nth xs k) a q)));clear H v;go_wp2_with fail;go_roundw
   ·exact ⟨k+1,by omega,by go_num,by rw [<-T.o];exact V.o,U.o⟩
   ·simp [intOf];omega
  ·obtain rfl:k=n:=ap;obtain ⟨R,C⟩:=ae O h;clear O h;go_wp2_with fail;go_ret;exact ⟨_,_,rfl,C.o,R.o⟩
theorem xu (base:Nat) (A B:N_) (xs ys:Qa) (n c d:Nat) (w:Qd) (h:w.ownsRow base 2 1 (.slice A n c) n (aA .i64 xs)) (hB:Rd w B (aA .i64 ys)) (hl:ys.length=n) (hm:n<=17592186043904) (C:∀a b,A=some a->B=some b->a.block≠b.block):Calls prog 234 #[.slice A n c,.slice B n d] w fun e O=>e=.returned (.bool true)/\O.ownsRow base 2 1 (.slice A n c) n (aA .i64 (fw xs ys))/\Keep (fun i=>(Value.slice A n c).ownBlock=some i) w O:=by
 have u:=kQ h;have p:=jF xs (fun k=>wrap64 (nth xs k+nth ys k));unfold fw;rw [<-p,u];obtain ⟨HO,U,Hn,V,HN⟩:=ah h hB u hl C;clear h hB u hl p C;go_enter func234,ntmps234;go_wp2_with fail
 go_loopw [13] (fun i wr=>∃k:Nat,k<=n/\i=OH k/\wr.ownsRow base 2 1 (.slice A n c) n (aA .i64 (kT xs k (fun k=>wrap64 (nth xs k+nth ys k))))/\Keep (fun i=>(Value.slice A n c).ownBlock=some i) w wr) (fun i _=>n-(intOf i).toNat)
 ·exact ⟨0,NJ _,rfl,by rw [iH];exact HO.o,Keep.refl _ _⟩
 case round=>
  obtain ⟨k,hk,rfl,h,H⟩:=hrel;by_cases v:k<n
  ·obtain ⟨g,e,T,hg,a0⟩:=h.form ap;simp only [Ou] at T;obtain ⟨rfl,J,rfl⟩:=T;clear J;have y:k<xs.length:=by rw [Hn.o];exact v
   have Z:=cH h v;rw [gK _ y,if_neg ap] at Z;have f1:=h.frozenAt k;obtain ⟨Q,Y,rfl,R⟩:=U.o.num (show k<ys.length by rw [V.o];exact v);have N:g≠Q:=HN.o _ _ rfl rfl;have p2:wr.cell? (ar Q (Y+k))=some (OH (nth ys k)):=H.cell R (by simp [Value.ownBlock];exact N);have D:=jE (l:=xs) (k:=k) (fun k=>wrap64 (nth xs k+nth ys k)) y;obtain ⟨L,x,I⟩:=af H h D;clear H h D y R;go_wp2_with fail
   go_region
   all_goals go_wp2_with fail
   all_goals
    go_roundw
    case rel=>
     refine ⟨k+1,by omega,by go_num,?_,?_⟩
     ·rw [<-I.o];exact ed (bW x.o 1) k _
     ·exact Keep.setCell (L.o.drewN 1) (ar g k) (.inr rfl) _
    case measure=>simp [intOf];omega
  ·obtain rfl:k=n:=ap;obtain ⟨L,x⟩:=ae H h;clear H h;go_wp2_with fail;go_ret;exact ⟨rfl,x.o,L.o⟩
theorem uD (r c:Int) (w:Qd) (hr:1<=r/\r<=1048576) (hc:1<=c/\c<=1048576):Calls prog 263 #[OH r,OH c] w fun e h=>e=.returned (.bool true)/\w=h:=by
 obtain ⟨h1,i⟩:=hr;obtain ⟨p,o⟩:=hc;go_enter func263,ntmps263;go_wp2;go_ret;exact ⟨df (by simp [*]),rfl⟩
theorem ny (r c:Nat) (A:N_) (n d:Nat) (w:Qd) (hr:1<=r/\r<=1048576) (hc:1<=c/\c<=1048576) (hn:n=r*c) (hm:n<=17592186043904):Calls prog 254 #[.agg #[OH r,OH c,.slice A n d]] w fun e i=>e=.returned (.bool true)/\i=w.alloc (.cells #[OH r,OH c,.slice A n d] 354):=by
 have hs:=fun i=>uD r c i ap ap;have h:(r:Int)*(c:Int)=(n:Int):=by rw [hn];simp
 have u:0<=(r:Int)*(c:Int)/\(r:Int)*(c:Int)<=17592186043904:=ap;have y:((n:Int)==IntKind.i64.wrap ((r:Int)*(c:Int)))=true:=by rw [NK _ ap,h];simp
 have v:((n:Int)==(r:Int)*(c:Int))=true:=by rw [h];simp
 have p:=aa hs;clear hs h hn;go_enter func254,ntmps254;go_wp2_with fail;refine (p.o _).mono ?_;rintro e x ⟨rfl,rfl⟩;go_wp2_with fail
 all_goals
  go_ret;exact ⟨df (by first | rfl | simp [*]),rfl⟩
theorem Mf (r c:Nat) (A:N_) (zs:Qa) (d:Nat) (w:Qd) (hr:1<=r/\r<=1048576) (hc:1<=c/\c<=1048576) (hn:zs.length=r*c) (hm:zs.length<=17592186043904) (hA:Rd w A (aA .i64 zs)):Calls prog 244 #[OH r,OH c,.slice A zs.length d] w fun e x=>∃y u,e=.returned (.tuple #[.agg #[OH r,OH c,.slice y zs.length u],.bool true])/\zs.length<=u/\x.ownsRow w.heap.size 2 1 (.slice y zs.length u) zs.length (aA .i64 zs)/\aq w x:=by
 have B:=fun x (k:aq w x)=>fI A zs d x (hA.below k) hm;obtain ⟨n,H⟩:∃n,zs.length=n:=⟨_,rfl⟩;rw [H] at B hn hm ⊢;have D:=fun y u x=>ny r c y n u x hr hc hn hm;obtain ⟨O,R⟩:=ae B D;clear B D H hA hn;go_enter func244,ntmps244;go_wp2_with fail;refine (O.o _ ?_).mono ?_
 ·exact am
 rintro e L ⟨y,u,rfl,J,h,hb⟩;have p:=(hb.block w.heap.size (by simp)).trans (NG w _);obtain ⟨⟨Q,N,U⟩,Z⟩:=bx3 p;have I:w.heap.size<L.heap.size:=NE p;obtain ⟨HO,V,T,C⟩:=ag (aE h (base':=w.heap.size) (by simp)) J (Below.trans ((NI _ w).alloc (NF _) _) (hb.mono (by simp))) h;clear h J hb p;go_wp2_with fail;refine (R.o _ _ _).mono ?_;rintro e w2 ⟨rfl,rfl⟩;go_wp2_with fail;refine NX (v:=.tuple #[.agg #[OH r,OH c,.slice y n u],.bool true]) (by simp [results,results244,go_sem,Q,N,U,I]) rfl ⟨y,u,rfl,V.o,?_,?_⟩
 ·refine aE (Keep.own (S:=fun i=>i=w.heap.size) (w:=L) ?_ C.o (fun k hk e=>by have:=(C.o.lt k hk).1;simp at this;omega)) (by simp)
  (focus (repeat' (first | (with_reducible exact Keep.refl _ _) | (with_reducible assumption) | (with_reducible refine Keep.setCell ?_ _ ?_ _) | (with_reducible refine Keep.alloc ?_ _) | (with_reducible refine Keep.drewN ?_ _) | (with_reducible refine Keep.drew ?_) | (with_reducible exact Or.inr (iS _ _)) | (with_reducible exact Or.inr (iR _ _)) | (refine Or.inr ?_;first | rfl | (simp;done) | omega) | (refine Or.inl ?_;first | omega | (simp;done) | (simp;omega)))))
 ·have Y:=T.o;exact am
theorem Kv (r c k:Nat) (g o n d:Nat) (w:Qd) (hr:r<=1048576) (hc:1<=c/\c<=1048576) (hk:k<r) (hn:n=r*c) (A:n<=d):Calls prog 269 #[.agg #[OH r,OH c,.slice (some (ar g o)) n d],OH k] w fun e u=>e=.returned (.slice (some (ar g (o+k*c))) c c)/\aq w u:=by
 have h1:k*c+c<=n:=by rw [hn];have:=OF c (show k+1<=r by omega);rw [Ox] at this;exact this
 have v:k*c<=1048576*1048576:=Nat.mul_le_mul ap ap;have i:(k:Int)*(c:Int)=((k*c:Nat):Int):=(Int.natCast_mul k c).symm;have y:((k:Int)+1)*(c:Int)=((k*c+c:Nat):Int):=by rw [Int.add_mul,i];simp
 obtain ⟨p,h⟩:∃p,k*c=p:=⟨_,rfl⟩;rw [h] at h1 v i y ⊢;clear h hn;go_enter func269,ntmps269;go_wp2_with fail
 go_quiet (fail)
 have x:¬(p+c=p):=ap;go_wp2;rw [show p+c-p=c by omega];go_ret;refine ⟨rfl,?_⟩;exact am
theorem sB (h:Qb) (w:Qd):Calls prog 259 #[.agg h] w fun e i=>e=.returned (.func (.func 268) #[] #[(au w.heap.size)])/\i=w.alloc (.cells h 354):=by
 go_enter func259,ntmps259;go_wp2;go_ret;exact ⟨rfl,rfl⟩
end Go.Proofs.YtgmajkppbhiopaaGreat
namespace Go.Proofs.YtgmajkppbhiopaaGreat
open Go.RowKit Go.Shelf
open Tryz
attribute [local go_sem] Oper.semAt_some
def qC (g o c:Nat) {r:Nat} (k:Fin r):Qb:=#[OH (k.1:Int),.slice (some (ar g (o+k.1*c))) c c]
def ja (n₀ h:Nat) (W i:Qd):Prop:=Below n₀ W i/\(h<W.heap.size->i.heap[h]?=W.heap[h]?)
theorem CW {r k:Nat} (h:k<r):(List.finRange r).take (k+1)=(List.finRange r).take k++[⟨k,h⟩]:=by
 rw [List.take_add_one];simp [h]
theorem GE (n l Bm n₀ g o r c V d:Nat) (hr:r<=1048576) (hc:1<=c/\c<=1048576) (a2:V=r*c) (hd:V<=d) (J Jx:List (Fin r)->Qd->Prop) (B:Nat) (hJ:AbidesFrom B J) (hY:∀p x W,J p W->p.length<r->YieldAt Fence.wide (n-1) prog l (qC g o c x) W fun e O=> (e=.returned (.bool true)/\J (p++[x]) O/\ja n₀ Bm W O)\/(e=.returned (.bool false)/\Jx (p++[x]) O)) (W:Qd) (L:W.heap[Bm]?=some (.cells #[OH r,OH c,.slice (some (ar g o)) V d] 354 (0,0))) (h0:J [] W):
  CallsIn Fence.wide n prog 268 #[.func (.yield l) #[] #[],(au Bm)] W fun e O=>(∃v,e=.returned v)/\
   ((∃ys,ys=List.finRange r/\J ys O)\/(∃p,True/\Jx p O)):=by
 obtain ⟨⟨e0,e1,e2⟩,ef⟩:=bx3 L;obtain ⟨a7,a4⟩:=ae L a2;clear L a2;refine callsIn_of_wp func268 rfl trivial ?_ rfl;simp only [ntmps268,List.size_toArray,List.length_cons,List.length_nil,Nat.reduceAdd,Nat.reduceSub,Array.replicate_succ,Array.replicate_zero,List.push_toArray,List.append_toArray,List.nil_append,List.cons_append]
 gi_wp2
 gi_loopw [6] (fun i wr=>∃k:Nat,k<=r/\i=OH k/\J ((List.finRange r).take k) wr/\wr.heap[Bm]?=some (.cells #[OH r,OH c,.slice (some (ar g o)) V d] 354 (0,0)))
  (fun i _=>r-(intOf i).toNat)
 ·exact ⟨0,NJ _,rfl,h0,a7.o⟩
 case round=>
  obtain ⟨k,hk,rfl,u,H⟩:=hrel;clear e0 e1 e2 ef;by_cases D:k<r
  ·have Y:((List.finRange r).take k).length<r:=by simp;omega
   obtain ⟨⟨e0,e1,e2⟩,ef⟩:=bx3 H;have Q:=Kv r c k g o V d wr hr hc D a4.o hd;obtain ⟨I,a1,a5⟩:=af u H Q;clear u H Q
   gi_wp2_with fail
   refine ⟨trivial,(fun h=>by cases h),?_⟩;refine (callsIn_wide.2 a5.o).mono ?_;rintro e w3 ⟨rfl,N⟩;have a0:=hJ _ _ _ none I.o (mH N) (fun _ h=>by cases h);have A:=(N.block _ (NE a1.o)).trans a1.o;obtain ⟨fn,tmps,a3,a9,hy,hR⟩:=hY _ ⟨k,D⟩ w3 a0 Y;unfold qC at hy;dsimp only at hy;have y:=aa A;clear a0 A N
   gi_wp2
   refine ⟨(fun h=>by cases h),?_⟩;refine hR.mono ?_;rintro e w5 (⟨rfl,R,U⟩ | ⟨rfl,T⟩)
   ·have Z:=(U.2 (NE y.o)).trans y.o;obtain ⟨a6,a8⟩:=ae Z R;clear Z R U
    gi_wp2
    go_roundw
    ·exact ⟨k+1,by omega,by go_num,by rw [CW D];exact a8.o,a6.o⟩
    ·simp [intOf];omega
   ·gi_wp2
    refine NX (results_none rfl _ _ _) rfl ?_;exact ⟨⟨_,rfl⟩,.inr ⟨_,trivial,T⟩⟩
  ·obtain rfl:k=r:=ap;have C:(List.finRange k).take k=List.finRange k:=List.take_of_length_le (by simp);rw [C] at u;have I:=aa u;clear u C
   gi_wp2
   go_end0
   exact ⟨⟨_,rfl⟩,.inl ⟨_,rfl,I.o⟩⟩
theorem oK (n p n₀ g o r c i d:Nat) (hr:r<=1048576) (hc:1<=c/\c<=1048576) (u:i=r*c) (v:i<=d) (w:Qd) (h:w.heap[p]?=some (.cells #[OH r,OH c,.slice (some (ar g o)) i d] 354 (0,0))):
  SeqStopsK Fence.wide n prog 268 #[(au p)] (qC (r:=r) g o c) (ja n₀ p) (fun ys=>ys=List.finRange r) (fun _=>True) r w:=fun l J B W x y _ C A=>
 GE n l p n₀ g o r c i d hr hc u v J B _ y C W ((x.block _ (NE h)).trans h) A
theorem mj {n₀ i:Nat} {A B C:Qd} (h:ja n₀ i A B) (k:ja n₀ i B C):ja n₀ i A C:=
 ⟨h.1.trans k.1,fun hb=>(k.2 (NQ hb h.1.size)).trans (h.2 hb)⟩
theorem mp {n₀ i:Nat} {w:Qd} (hn:n₀<=w.heap.size) (hb:i<w.heap.size) (W:Qd) (l:Nat) (o p:Obj) (hl:w.heap.size<=l) (h:W.heap[l]?=some o) (h1:o.isCells=false) (u:o.isWalk=false):ja n₀ i W (W.putObj l p):=
 ⟨belowK_b hn W l o p hl h h1 u,fun _=>(belowK_b (n₀:=i+1) ap W l o p hl h h1 u).block i ap⟩
end Go.Proofs.YtgmajkppbhiopaaGreat
