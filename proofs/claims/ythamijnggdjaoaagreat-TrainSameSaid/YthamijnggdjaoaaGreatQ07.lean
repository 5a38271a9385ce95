/- No condition. -/
import Derived.Test.YthamijnggdjaoaaGreatQ06
import Derived.Deep.MidRow
import Derived.Laws.CopyOwn
import Derived.WalkMore
import Derived.Deep.LoopGhost
set_option linter.unusedSimpArgs false
set_option linter.unusedVariables false
set_option maxRecDepth 100000
set_option maxHeartbeats 4000000
namespace Go.Proofs.YthamijnggdjaoaaGreat
open Go.RowKit
open Tryz
theorem un:cE prog 114 123 (.agg #[.int .i64 0,.int .i64 0,.slice none 0 0,.slice none 0 0]) 4 64:=⟨underlying114,info_parts (by kernel_rfl),rfl,by decide⟩
theorem iC (S:Nat) (v:Value) (q:Int) (w:N6) (h:¬(0<=q/\q<=62)):Calls prog 17 #[.pointer (some ⟨S,0,none⟩),v,.int .i64 q] w fun e w'=>e=.returned (.tuple #[.pointer none,.bool false])/\w=w':=by
 by_cases a:q<0
 ·go_enter func17,ntmps17;go_wp2;go_ret2;exact ⟨rfl,rfl⟩
 ·have g:62<q:=am;go_enter func17,ntmps17;go_wp2;go_ret2;exact ⟨rfl,rfl⟩
theorem oW (S:Nat) (sz ps:N3) (A:N0) (c:Nat) (q:Int) (w:N6) (i:aR 109 w S sz) (h:¬(ps.length=aF sz (sz.length-1))):Calls prog 17 #[.pointer (some ⟨S,0,none⟩),.slice A ps.length c,.int .i64 q] w fun e w'=>e=.returned (.tuple #[.pointer none,.bool false])/\w=w':=by
 by_cases a:0<=q/\q<=62
 ·have hc:=eR S sz w i;obtain ⟨n,g⟩:∃n,aF sz (sz.length-1)=n:=⟨_,rfl⟩;rw [g] at hc h;have m:((ps.length:Int) != (n:Int))=true:=by simp;omega
  obtain ⟨l,k⟩:=a;have j:=aa hc;clear hc g h;go_enter func17,ntmps17;go_wp2_with fail;refine j.o.mono ?_;rintro e w' ⟨rfl,rfl⟩;go_wp2;go_ret2;exact ⟨rfl,rfl⟩
 ·exact iC S _ q w a
theorem nj {w:N6} {base n g c:Nat} {xs:N3} {e:N7} (h:w.ownsRow base e 1 (.slice (some ⟨g,0,none⟩) n c) n (au .i64 xs)) {k:Nat} (a:k<n):w.cell? ⟨g,k,none⟩=some (.int .i64 (nth xs k)):=bq h a
def xW (sz ps:N3) (q:Int) (S e h b l:Nat) (n:N0) (o:Nat) (k:Nat) (p w:N6):Prop:=
 ∃m i a,w.heap[b]?=some (.cells #[.pointer (some ⟨S,0,none⟩),.slice (some ⟨e,0,none⟩) ps.length h,.int .i64 q,.slice m k i] 116 (0,0))/\
  w.ownsRow b 123 4 (.slice m k i) k (List.flatten a)/\a.length=k/\(∀r∈a,r.length=4)/\
  w.ownsRow l 2 1 (.slice (some ⟨e,0,none⟩) ps.length h) ps.length (au .i64 ps)/\
  (∀j,j<k->∃g d,aK a j=[.int .i64 (szN sz (j+1):Int),.int .i64 (szN sz j:Int),.slice (some ⟨g,0,none⟩) (szN sz (j+1)*szN sz j) d,.slice (some ⟨e,bI sz j,none⟩) (szN sz (j+1)) (h-bI sz j)]/\
   szN sz (j+1)*szN sz j<=d/\w.ownsRow l 2 1 (.slice (some ⟨g,0,none⟩) (szN sz (j+1)*szN sz j) d) (szN sz (j+1)*szN sz j) (au .i64 (wL sz ps j)))/\
  w.ownsRow b 3 1 (.slice n sz.length o) sz.length (au .i64 sz)/\Below b p w
def uU (w:N6) (base b:Nat) (ps:N3):Prop:=∃s e a q l,w.heap[b]?=some (.cells #[s,.slice e ps.length a,q,l] 116 (0,0))/\w.ownsRow base 2 1 (.slice e ps.length a) ps.length (au .i64 ps)/\base<=b
def jb (w:N6) (base b S:Nat) (sz ps:N3) (q:Int):Prop:=∃g e i h a,
 w.heap[b]?=some (.cells #[.pointer (some ⟨S,0,none⟩),.slice (some ⟨g,0,none⟩) ps.length e,.int .i64 q,.slice i (sz.length-1) h] 116 (0,0))/\base<=b/\
  w.ownsRow base 2 1 (.slice (some ⟨g,0,none⟩) ps.length e) ps.length (au .i64 ps)/\w.ownsRow base 123 4 (.slice i (sz.length-1) h) (sz.length-1) (List.flatten a)/\a.length=sz.length-1/\(∀r∈a,r.length=4)/\
  ∀j,j<sz.length-1->∃k d,aK a j=[.int .i64 (szN sz (j+1):Int),.int .i64 (szN sz j:Int),.slice (some ⟨k,0,none⟩) (szN sz (j+1)*szN sz j) d,.slice (some ⟨g,bI sz j,none⟩) (szN sz (j+1)) (e-bI sz j)]/\
   szN sz (j+1)*szN sz j<=d/\w.ownsRow base 2 1 (.slice (some ⟨k,0,none⟩) (szN sz (j+1)*szN sz j) d) (szN sz (j+1)*szN sz j) (au .i64 (wL sz ps j))
theorem jb.keep {w w':N6} {base b u:Nat} {sz ps:N3} {q:Int} (h:jb w base b u sz ps q) {S:Nat->Prop} (k:Keep S w w') (o:∀j,S j->j<base):jb w' base b u sz ps q:=by
 obtain ⟨g,M,E,I,l,x,F,p,y,D,G,J⟩:=h;have B:∀{e' size n m:Nat} {v:Value} {xs:N5},w.ownsRow base e' size v n xs->w'.ownsRow base e' size v n xs:=fun hr=>k.own hr (fun i e a=>by have:=o i a;have:=(hr.lt i e).1;omega)
 exact ⟨g,M,E,I,l,(k.block b (xZ x) (fun a=>by have:=o b a;omega)).trans x,F,k.own p (fun i e a=>by have:=o i a;have:=(p.lt i e).1;omega),k.own y (fun i e a=>by have:=o i a;have:=(y.lt i e).1;omega),D,G,fun j L=>by
  obtain ⟨C,d,K,H,A⟩:=J j L
  exact ⟨C,d,K,H,k.own A (fun i e a=>by have:=o i a;have:=(A.lt i e).1;omega)⟩⟩
theorem jb.below {w w':N6} {base b a:Nat} {sz ps:N3} {q:Int} (h:jb w base b a sz ps q) (e:an w w'):jb w' base b a sz ps q:=h.keep (S:=fun _=>False) (Keep.below e) (fun _ h=>h.elim)
theorem jb.at {w:N6} {base b S:Nat} {sz ps:N3} {q:Int} (h:jb w base b S sz ps q) (H:aR 109 w S sz) (hg:bn sz) (hl:ps.length=aF sz (sz.length-1)):dF 109 116 w b sz ps q:=by
 obtain ⟨g,u,A,E,a,x,J,p,C,y,B,F⟩:=h;refine ⟨S,some ⟨g,0,none⟩,u,A,E,a,x,H,Rd.own p,Rd.own C,y,B,fun j G=>?_⟩;obtain ⟨v,I,e,l,k⟩:=F j G;have m:=yd (cW sz (show j+1<=sz.length-1 by omega)) (Nat.le_of_eq hl.symm);have o:=cR sz j;have n:bL sz ps j=(ps.drop (bI sz j)).take (szN sz (j+1)):=(dB (by rw [yF,yI];omega) fun i D=>by rw [fu D,fv]).symm;refine ⟨v,0,I,some ⟨g,bI sz j,none⟩,u-bI sz j,e,l,Rd.own k,?_⟩;have:=((Rd.own p).drop (bI sz j)).take (szN sz (j+1))
 rwa [yR,dK,dq,<-n] at this
theorem jm (S:Nat) (sz ps:N3) (A:N0) (c:Nat) (q:Int) (w:N6) (hS:aR 109 w S sz) (hg:bn sz) (hq:0<=q/\q<=62) (hl:ps.length=aF sz (sz.length-1)) (hA:Rd w A (au .i64 ps)):Calls prog 17 #[.pointer (some ⟨S,0,none⟩),.slice A ps.length c,.int .i64 q] w fun e w'=>∃b,e=.returned (.tuple #[.pointer (some ⟨b,0,none⟩),.bool true])/\dF 109 116 w' b sz ps q/\uU w' w.heap.size b ps/\jb w' w.heap.size b S sz ps q/\an w w':=by
 obtain ⟨q1,q2⟩:=hq;have hc:=eR S sz w hS;have c3:=cS A ps c w hA (by have:=hg.2;omega);have c6:=fun w' (k:an w w')=>fQ S sz w' (hS.below k) (by have:=hg.1.1.2;omega);have bl:=fun w' (k:an w w')=>eQ S sz w' (hS.below k);have c2:=fun j w' (k:an w w')=>gN S sz j w' (hS.below k) (by have:=hg.1.1.2;omega);have bD:=fun j w' (k:an w w')=>iw S sz j w' (hS.below k) (by have:=hg.1.1.2;omega);rw [<-hl] at hc;obtain ⟨n,hn⟩:∃n,sz.length-1=n:=⟨_,rfl⟩;obtain ⟨N,hN⟩:∃N,ps.length=N:=⟨_,rfl⟩;rw [hn] at bl c2 bD hl;rw [hN] at hc c3 hl ⊢;have R:1<=n/\n<=15:=by have:=hg.1.1;omega
 have gk:N<=1048576:=by have:=hg.2;rw [hn] at this;omega
 obtain ⟨Hc,f1,e0,en,e6,ev,HG,Hn⟩:=aj hc c3 c6 bl c2 bD hg hn;obtain ⟨HN,HS,g3,Hl⟩:=af hN hS hA hl;clear hc c3 c6 bl c2 bD hg hn hN hS hA hl;go_enter func17,ntmps17;go_wp2_with fail;refine Hc.o.mono ?_;rintro e w' ⟨rfl,rfl⟩;go_wp2_with fail;refine f1.o.mono ?_;rintro e C ⟨A',G,rfl,d0,bc,hb⟩;obtain ⟨bh,Hb,el⟩:=ae bc hb d0;clear bc hb d0;go_wp2_with fail;refine (e0.o _ ?_).mono ?_
 ·have hb:=Hb.o;have gb:=hb.size;exact ak
 rintro e w2 ⟨As,cs,rfl,cj,T⟩;obtain ⟨eX,cv⟩:=ab cj T;clear cj T;go_wp2_with fail;refine (en.o _ ?_).mono ?_
 ·have hb:=Hb.o;have T:=cv.o;exact hb.trans ((((ya _ C).alloc (x4 _) _).trans (T.mono (by simp))).mono hb.size)
 rintro e w' ⟨rfl,rfl⟩;go_wp2_with fail
 have e9:1<=N:=by
  have h0:=Hl.o;have h1:=(HG.o.1.at (k:=1) (by have:=HG.o.1.1;omega)).1;have h2:=cW sz (show 1<=n by omega);have h3:bI sz 0+szN sz 1=aF sz 1:=cR sz 0;omega
 obtain ⟨gp,fs,dh,go,_⟩:=bh.o.form am;simp only [yM] at dh;obtain ⟨rfl,ez,rfl⟩:=dh;clear ez
 go_loopw [42] (fun i wr=>∃k:Nat,k<=n/\i=.int .i64 k/\xW sz ps q S gp G C.heap.size w.heap.size As cs k C wr) (fun i _=>n-(intOf i).toNat)
 case atStart=>
  have T:=cv.o;have hk:an C w2:=((ya _ C).alloc (x4 _) _).trans (T.mono (by simp));have ee:=(T.block C.heap.size (by simp)).trans (x6 C _);refine ⟨0,yb _,rfl,none,0,[],?_,yi _ _ _ _,rfl,by simp,?_,fun j hj=>am,aA eX.o (by simp),hk⟩
  ·rw [HN.o];exact ee
  ·rw [HN.o];exact az bh.o hk
 case round=>
  obtain ⟨k,hk,rfl,Al,cl,I,av,cc,c8,d1,c1,bg,d5,hW⟩:=hrel;rw [HN.o] at av c1;obtain ⟨⟨x0,x1,x2,x3⟩,xf⟩:=bx4 av;have ef:=xZ av;have cm:an w wr:=Hb.o.trans (hW.mono Hb.o.size);obtain ⟨a9,bO,b0,bF,a4,ad,b5,HW⟩:=aj av cc c8 d1 c1 bg d5 hW;have a5:=aa cm;clear av cc c8 d1 c1 bg d5 hW cm;by_cases fa:k<n
  ·have hR:=HG.o.1;have b4:k+1<sz.length:=by have:=Hn.o;have:=hR.1;omega
   have z0:=hR.at (k:=k) am;have z1:=hR.at b4;have cr:=HG.o.mul b4;have cd:1<=szN sz (k+1)*szN sz k:=Nat.mul_pos z1.1 z0.1;have P:bI sz k=aF sz k+szN sz (k+1)*szN sz k:=rfl;have E:=cR sz k;have X:=yd (cW sz (show k+1<=n by omega)) (Nat.le_of_eq Hl.o.symm);have a1:=e6.o k;have a0:=ev.o k;have bV:wL sz ps k=(ps.drop (aF sz k)).take (szN sz (k+1)*szN sz k):=(dB (by rw [yF,yI];have:=HN.o;omega) fun i hi=>by rw [fu hi,fv]).symm;have a3:bL sz ps k=(ps.drop (bI sz k)).take (szN sz (k+1)):=(dB (by rw [yF,yI];have:=HN.o;omega) fun i hi=>by rw [fu hi,fv]).symm;obtain ⟨g5,c5,d8,gx,_⟩:=b5.o.form am;simp only [yM] at d8;obtain ⟨rfl,e7,rfl⟩:=d8;clear e7;have p0:=nj b5.o (show k<sz.length by omega);have p1:=nj b5.o b4;rw [z0.2.2] at p0;rw [z1.2.2] at p1;rw [P,<-E,P] at a0;rw [P] at a1 a3;have b8:=Rd.own a4.o;obtain ⟨lo,b3⟩:∃lo,aF sz k=lo:=⟨_,rfl⟩;obtain ⟨r,hr⟩:∃r,szN sz (k+1)=r:=⟨_,rfl⟩;obtain ⟨Z,U⟩:∃Z,szN sz k=Z:=⟨_,rfl⟩;obtain ⟨l,R⟩:∃l,r*Z=l:=⟨_,rfl⟩;rw [<-E,P] at X;rw [b3,hr,U,R] at a0 a1 X;rw [hr,U,R] at cd cr;rw [hr] at p1 z1;rw [U] at p0 z0;rw [b3,hr,U,R] at bV a3
   have dm:Rd wr (some ⟨gp,lo,none⟩) (au .i64 (wL sz ps k)):=by
    have:=(b8.drop lo).take l
    rwa [yR,dK,dq,<-bV] at this
   have bw:(wL sz ps k).length=l:=by rw [nT,hr,U,R]
   have bv:=fun W (h:an wr W)=>wO r Z (some ⟨gp,lo,none⟩) (wL sz ps k) (G-lo) W ⟨z1.1,z1.2.1⟩ ⟨z0.1,z0.2.1⟩ (bw.trans R.symm) am (dm.below h);rw [bw] at bv;obtain ⟨d3,cg,dr,eY,Hr,ei,dG,gf⟩:=aj a1 a0 bv b3 hr U R a3;have f3:=el.o;clear a1 a0 bv P E bV a3 b3 hr U R b8 dm bw;go_wp2_with fail;refine (d3.o _ a5.o am).mono ?_;rintro e w3 ⟨rfl,ck⟩;have b6:=aa ck;clear ck;go_wp2_with fail;refine (cg.o _ (a5.o.trans (b6.o.mono a5.o.size)) am).mono ?_;rintro e B ⟨rfl,cA⟩;have D:=b6.o.trans (cA.mono b6.o.size);have cx:=(D.cell (p:=⟨C.heap.size,1,none⟩) ef).trans x1;have bk:=(D.cell (p:=⟨g5,k,none⟩) (aw p0)).trans p0;have ct:=(D.cell (p:=⟨g5,k+1,none⟩) (aw p1)).trans p1;have f4:C.heap.size<B.heap.size:=by have:=D.size;omega
   have f5:g5<B.heap.size:=aw bk;have H:=aa D;clear D cA b6 x0 x1 x2 x3 xf p0 p1;have fb:(k:Int)+1<sz.length:=am;have g7:¬(G=lo):=am;have gl:lo+l<=G:=am;go_wp2_with fail
   go_cut [13,14] (fun v _ wx=>∃M A d,v=.pointer (some ⟨M,0,none⟩)/\wx.heap[M]?=some (.cells #[.int .i64 r,.int .i64 Z,.slice A l d] 119 (0,0))/\l<=d/\wx.ownsRow B.heap.size 2 1 (.slice A l d) l (au .i64 (wL sz ps k))/\B.heap.size+2<=wx.heap.size/\
    Below (B.heap.size+2) ((B.alloc (.cells #[.int .i64 lo,.int .i64 ((lo:Int)+l)] 111)).alloc (.cells #[.int .i64 ((lo:Int)+l),.int .i64 ((lo:Int)+l+r)] 111)) wx)
   case first=>
    have a:(fun w':N6=>w'.cell? ⟨g5,k+1,none⟩=some (.int .i64 r)/\w'.cell? ⟨g5,k,none⟩=some (.int .i64 Z)/\w'.cell? ⟨C.heap.size,1,none⟩=some (.slice (some ⟨gp,0,none⟩) N G)/\w'.cell? ⟨B.heap.size,0,none⟩=some (.int .i64 lo)/\w'.cell? ⟨B.heap.size,1,none⟩=some (.int .i64 ((lo:Int)+l))) ((B.alloc (.cells #[.int .i64 lo,.int .i64 ((lo:Int)+l)] 111)).alloc (.cells #[.int .i64 ((lo:Int)+l),.int .i64 ((lo:Int)+l+r)] 111)).drew:=
     ⟨ay (ay ct _) _,ay (ay bk _) _,ay (ay cx _) _,ay (x7 _ B.heap.size 0 _ _ _ (x6 B _)) _,ay (x7 _ B.heap.size 1 _ _ _ (x6 B _)) _⟩
    have d4:an wr ((B.alloc (.cells #[.int .i64 lo,.int .i64 ((lo:Int)+l)] 111)).alloc (.cells #[.int .i64 ((lo:Int)+l),.int .i64 ((lo:Int)+l+r)] 111)).drew:=
     (((H.o.alloc (by have:=H.o.size;omega) _).alloc (by have:=H.o.size;simp;omega) _)).drew
    have bp:=aa d4;clear d4;have g1:k<sz.length:=am;have f7:IntKind.i64.wrap ((k:Int)+1)=(k:Int)+1:=yc _ am;have ga:(0:Int)<=(k:Int)+1:=am;have fr:((k:Int)+1).toNat=k+1:=am;have g8:((lo:Int)+l).toNat=lo+l:=am;have fn:(0:Int)<=(lo:Int)+l:=am;have f6:(lo:Int)+l<=G:=am;have g4:(lo:Int)<=(lo:Int)+l:=am;refine eL 23 (fun w':N6=>w'.cell? ⟨g5,k+1,none⟩=some (.int .i64 r)/\w'.cell? ⟨g5,k,none⟩=some (.int .i64 Z)/\w'.cell? ⟨C.heap.size,1,none⟩=some (.slice (some ⟨gp,0,none⟩) N G)/\w'.cell? ⟨B.heap.size,0,none⟩=some (.int .i64 lo)/\w'.cell? ⟨B.heap.size,1,none⟩=some (.int .i64 ((lo:Int)+l))) (by kernel_rfl) ?_;refine wX 0 a ?_;refine wX 1 a ?_;refine wX 2 a ?_;refine wX 3 a ?_;refine wX 4 a ?_;refine wX 5 a ?_;refine wX 6 a ?_;refine wX 7 a ?_;refine wX 8 a ?_;refine wX 9 a ?_;refine wX 10 a ?_;refine wX 11 a ?_;refine wX 12 a ?_;refine wX 13 a ?_;refine wX 14 a ?_;refine wX 15 a ?_;refine wX 16 a ?_;refine wX 17 a ?_;simp only [yn,yo,yp,Act.put,yq,yr,yt];refine aU (rs:=[18,22]) (by kernel_rfl) (by simp) ?_;refine aC.cons rfl (fun K O=>?_) (aC.cons rfl (fun K O=>?_) aC.nil)
    ·simp only [yn,yo,yp];go_simp;refine (dr.o _ bp.o).mono ?_;rintro e w6 ⟨A6,d6,rfl,J,L,y⟩;have b1:=yg (aq y a.1) (yg (aq y a.2.1) (yg (aq y a.2.2.1) (yg (aq y a.2.2.2.1) (aq y a.2.2.2.2))));obtain ⟨a6,V,a7⟩:=ae J L y;clear J L y a;dsimp only;refine O.out _ _ b1 (fun a=>?_);clear O K b1;refine wX 19 a ?_;refine wX 20 a ?_;simp only [yn,yo,yp,Act.put,yq,yr,yt];refine wX0 21 a ?_;simp only [yn,yo,yp,Act.put,yq,yr,yt];refine aU (rs:=[22]) (by kernel_rfl) (by simp) ?_;refine aC.cons rfl (fun K O=>?_) aC.nil;simp only [yn,yo,yp];go_simp;refine O.out _ _ ⟨ay a.1 _,ay a.2.1 _,ay a.2.2.1 _,ay a.2.2.2.1 _,ay a.2.2.2.2 _⟩ (fun a=>?_);clear O K a;refine cF (by rfl) (by kernel_rfl) ?_;simp only [yy,yz];go_wp2_with fail;go_meet;have bo:=a7.o.size;simp at bo;refine ⟨w6.heap.size,A6,d6,rfl,x6 w6 _,a6.o,aA (V.o.alloc _) (by first | omega | (simp;done) | (simp;omega)),(by first | omega | (simp;done) | (simp;omega)),?_⟩;exact (((ya _ _).drew).trans (a7.o.mono (by first | omega | (simp;done) | (simp;omega)))).alloc (by first | omega | (simp;done) | (simp;omega)) _
    ·simp only [yn,yo,yp];go_simp;refine O.out _ _ ⟨ay a.1 _,ay a.2.1 _,ay a.2.2.1 _,ay a.2.2.2.1 _,ay a.2.2.2.2 _⟩ (fun a=>?_);clear O K;refine aU (rs:=[18]) (by kernel_rfl) (by simp) ?_;refine aC.cons rfl (fun K O=>?_) aC.nil;simp only [yn,yo,yp];go_simp;refine (dr.o _ (bp.o.alloc bp.o.size _)).mono ?_;rintro e w6 ⟨A6,d6,rfl,J,L,y⟩;have b1:=yg (aq y a.1) (yg (aq y a.2.1) (yg (aq y a.2.2.1) (yg (aq y a.2.2.2.1) (aq y a.2.2.2.2))));have b2:=(y.block _ (by simp)).trans (x6 _ _);simp only [ym,yL] at b2;obtain ⟨⟨m0,m1,m2⟩,mf⟩:=bx3 b2;have fc:=xZ b2;obtain ⟨a6,V,a7,co⟩:=af J L y b2;clear J L y a b2;dsimp only;refine O.out _ _ b1 (fun a=>?_);clear O K b1;refine wX 19 a ?_;refine wX 20 a ?_;simp only [yn,yo,yp,Act.put,yq,yr,yt];refine wX0 21 a ?_;simp only [yn,yo,yp,Act.put,yq,yr,yt];clear a;refine cF (by rfl) (by kernel_rfl) ?_;simp only [yy,yz];go_wp2_with fail;go_meet;have bo:=a7.o.size;simp at bo;have k3:=i9 (w:=w6) (b:=B.heap.size+1+1) (.int .i64 r) (.int .i64 Z) (.slice A6 l d6);have gs:=k3.size;refine ⟨B.heap.size+1+1,A6,d6,rfl,ki _ _ _ co.o,a6.o,aA (k3.own V.o (fun i hi e=>ar co.o (by decide) V.o (by rw [hi,e]))) (by first | omega | (simp;done) | (simp;omega)),by first | omega | (simp;omega),?_⟩;exact ((((ya _ _).drew).alloc (by first | omega | (simp;done) | (simp;omega)) _).trans (a7.o.mono (by first | omega | (simp;done) | (simp;omega)))).trans (k3.toBelow (by first | omega | (simp;done) | (simp;omega)) (fun i hi=>by first | omega | (simp;omega)))
   case rest=>
    obtain ⟨M,A6,d6,rfl,hM,J,L,gd,bA⟩:=hcut;have dc:an B ((B.alloc (.cells #[.int .i64 lo,.int .i64 ((lo:Int)+l)] 111)).alloc (.cells #[.int .i64 ((lo:Int)+l),.int .i64 ((lo:Int)+l+r)] 111)):=((ya _ _).alloc (x4 _) _).alloc (by simp) _
    have bb:((B.alloc (.cells #[.int .i64 lo,.int .i64 ((lo:Int)+l)] 111)).alloc (.cells #[.int .i64 ((lo:Int)+l),.int .i64 ((lo:Int)+l+r)] 111)).heap[B.heap.size+1]?=some (.cells #[.int .i64 ((lo:Int)+l),.int .i64 ((lo:Int)+l+r)] 111 (0,0)):=by
     have:=x6 (B.alloc (.cells #[.int .i64 lo,.int .i64 ((lo:Int)+l)] 111)) (.cells #[.int .i64 ((lo:Int)+l),.int .i64 ((lo:Int)+l+r)] 111);simpa using this
    have bN:=(bA.block (B.heap.size+1) am).trans bb;have c4:an B wc:=dc.trans (bA.mono am);have a2:=H.o.trans (c4.mono H.o.size);have bB:=(a2.block _ (xZ a9.o)).trans a9.o;have b9:=az bO.o a2;have be:=az a4.o a2;have bd:=az b5.o a2;obtain ⟨⟨n0,n1,n2,n3⟩,nf⟩:=bx4 bB;obtain ⟨⟨m0,m1,m2⟩,mf⟩:=bx3 hM;obtain ⟨⟨t0,t1⟩,tf⟩:=bx2 bN;obtain ⟨cb,d2,dp,Q,cy,ce,f2,V⟩:=aj bN a2 bB b9 be bd hM L;have a6:=aa J;clear a2 bB b9 be bd hM L J c4 dc bb bN bA cx bk ct;have gm:C.heap.size<wc.heap.size:=xZ dp.o;go_wp2_with fail;have a:(fun w':N6=>w'.cell? ⟨C.heap.size,3,none⟩=some (.slice Al k cl)/\w'.cell? ⟨M,0,none⟩=some (.int .i64 r)/\w'.cell? ⟨M,1,none⟩=some (.int .i64 Z)/\w'.cell? ⟨M,2,none⟩=some (.slice A6 l d6)/\w'.cell? ⟨C.heap.size,1,none⟩=some (.slice (some ⟨gp,0,none⟩) N G)/\w'.cell? ⟨B.heap.size+1,0,none⟩=some (.int .i64 ((lo:Int)+l))/\w'.cell? ⟨B.heap.size+1,1,none⟩=some (.int .i64 ((lo:Int)+l+r))) wc.drew:=⟨n3,m0,m1,m2,n1,t0,t1⟩;have g0:¬(G=lo+l):=am;have gr:(lo:Int)+l+r<=G:=am;have f8:(lo:Int)+l<=(lo:Int)+l+r:=am;have f9:((lo:Int)+l+r).toNat=lo+l+r:=am;have gw:((lo:Int)+l).toNat=lo+l:=am;have g6:(0:Int)<=(lo:Int)+l:=am;have g2:(0:Int)<=(lo:Int)+l+r:=am;refine XA.g 18 (fun w':N6=>w'.cell? ⟨C.heap.size,3,none⟩=some (.slice Al k cl)/\w'.cell? ⟨M,0,none⟩=some (.int .i64 r)/\w'.cell? ⟨M,1,none⟩=some (.int .i64 Z)/\w'.cell? ⟨M,2,none⟩=some (.slice A6 l d6)/\w'.cell? ⟨C.heap.size,1,none⟩=some (.slice (some ⟨gp,0,none⟩) N G)/\w'.cell? ⟨B.heap.size+1,0,none⟩=some (.int .i64 ((lo:Int)+l))/\w'.cell? ⟨B.heap.size+1,1,none⟩=some (.int .i64 ((lo:Int)+l+r))) ?_;refine XA.t ?_ [0,1,2,3,4,5,6,7,8,9,10,11,12,13,14,15] a ?_;refine XA.o 16 (fun K O=>?_);go_simp;refine O.out _ _ ⟨ay a.1 _,ay a.2.1 _,ay a.2.2.1 _,ay a.2.2.2.1 _,ay a.2.2.2.2.1 _,ay a.2.2.2.2.2.1 _,ay a.2.2.2.2.2.2 _⟩ (fun a=>?_);clear O K;refine XA.o 17 (fun K O=>?_);refine cN un (.tmp 77) (.tmp 89) rfl rfl C.heap.size (.slice Al k cl) k (List.flatten I) rfl (aZ (Q.o.alloc _) 1) (some ⟨wc.heap.size,0,none⟩) 1 1 [.int .i64 r,.int .i64 Z,.slice A6 l d6,.slice (some ⟨gp,lo+l,none⟩) r (G-(lo+l))] rfl (dO wc _ _ _ rfl) rfl (by simp [Value.oneCell']) am (by unfold maxLen;omega) (by simp;omega) ?_;intro A7 c7 w7 d7 dv Y ek;have Y:=iH Y;have a8:=bX (o:=.cells #[.int .i64 r,.int .i64 Z,.slice A6 l d6,.slice (some ⟨gp,lo+l,none⟩) r (G-(lo+l))] 123 (0,0)) dp.o (by decide) Q.o Y;have i0:=x7 w7 _ 3 _ _ _ a8;have i1:=x7 w7 _ 1 _ _ _ a8;have i3:=frozen_of_row w7 _ 3 _ _ a8;have b7:=bX (o:=.cells #[.int .i64 r,.int .i64 Z,.slice A6 l d6,.slice (some ⟨gp,lo+l,none⟩) r (G-(lo+l))] 123 (0,0)) f2.o (by decide) Q.o Y;have bM:=bX (o:=.cells #[.int .i64 r,.int .i64 Z,.slice A6 l d6,.slice (some ⟨gp,lo+l,none⟩) r (G-(lo+l))] 123 (0,0)) cb.o (by decide) Q.o Y;have i4:=x7 w7 _ 0 _ _ _ b7;have i5:=x7 w7 _ 1 _ _ _ b7;have i6:=x7 w7 _ 2 _ _ _ b7;have i7:=x7 w7 _ 0 _ _ _ bM;have i8:=x7 w7 _ 1 _ _ _ bM;obtain ⟨da,bs,ex,e8⟩:=af d7 a8 Y dv;clear d7 a8 Y ek dv b7 bM;dsimp only;refine O.out _ _ ⟨i0,i4,i5,i6,i1,i7,i8⟩ (fun a=>?_);clear O K a;refine XA.e ?_;simp only [yy,yz];go_wp2_with fail;have eZ:=yW w7 C.heap.size 3 _ _ (.slice A7 (k+1) c7) bs.o;have f0:Keep (fun i=>i=C.heap.size) w7 (w7.setCell ⟨C.heap.size,3,none⟩ (.slice A7 (k+1) c7)):=Keep.setCell (S:=fun i=>i=C.heap.size) (Keep.refl _ _) ⟨C.heap.size,3,none⟩ (.inr rfl) _;have dT:=f0.own da.o (fun i hi e=>ar bs.o (by decide) da.o (by rw [hi,e]))
    have ej:an C (w7.setCell ⟨C.heap.size,3,none⟩ (.slice A7 (k+1) c7)):=
     (((HW.o.trans (d2.o.mono HW.o.size)).alloc am _).drew.trans e8.o).setCell (by simp) _
    have F:∀{b':Nat} {u:Value} {m:Nat} {ys:N5} {e':N7},wc.ownsRow b' e' 1 u m ys->123≠e'->116≠e'->(w7.setCell ⟨C.heap.size,3,none⟩ (.slice A7 (k+1) c7)).ownsRow b' e' 1 u m ys:=fun h h1 h2=>ni h Q.o ex.o bs.o h1 h2;go_roundw
    case rel=>
     refine ⟨k+1,by omega,by go_num,A7,c7,I++[[.int .i64 r,.int .i64 Z,.slice A6 l d6,.slice (some ⟨gp,lo+l,none⟩) r (G-(lo+l))]],?_,?_,by simp [b0.o],?_,?_,?_,F ce.o (by decide) (by decide),ej⟩
     ·rw [HN.o];exact eZ
     ·rw [yJ,List.flatten_cons,List.flatten_nil,List.append_nil];exact dT
     ·intro x hx;rcases yN.1 hx with hx | hx
      ·exact bF.o x hx
      ·rw [List.mem_singleton.1 hx];rfl
     ·rw [HN.o];exact F cy.o (by decide) (by decide)
     ·intro j hj;rcases yl j k with bG | bG
      ·obtain ⟨g9,d9,bm,bC,bz⟩:=ad.o j bG;refine ⟨g9,d9,?_,bC,F (az bz d2.o) (by decide) (by decide)⟩;rw [<-bm];simp [aK,yD (show j<I.length by rw [b0.o];exact bG)]
      ·obtain rfl:j=k:=am;obtain ⟨g9,d9,ds,gv,_⟩:=V.o.form am;simp only [yM] at ds;obtain ⟨rfl,_,rfl⟩:=ds;have e1:=Hr.o;have e2:=ei.o;have e3:=eY.o;have e4:=dG.o;refine ⟨g9,d6,?_,?_,?_⟩
       ·have e5:bI sz j=lo+l:=by unfold bI;rw [e1,e2,e3,e4]
        rw [e5,e1,e2,e4];have:=b0.o;simp [aK,<-this]
       ·rw [e1,e2,e4];exact a6.o
       ·rw [e1,e2,e4];exact aA (F V.o (by decide) (by decide)) (by have:=Hb.o.size;omega)
    case measure=>simp [intOf];omega
  ·obtain rfl:k=n:=am
   have cz:dF 109 116 wr C.heap.size sz ps q:=by
    refine ⟨S,some ⟨gp,0,none⟩,G,Al,cl,I,?_,HS.o.below a5.o,Rd.own a4.o,Rd.own bO.o,?_,bF.o,?_⟩
    ·rw [HN.o,Hn.o];exact a9.o
    ·rw [Hn.o];exact b0.o
    ·intro j hj;rw [Hn.o] at hj;obtain ⟨g9,d9,bm,bC,bz⟩:=ad.o j hj;have hR:=HG.o.1;have b4:j+1<sz.length:=by have:=Hn.o;have:=hR.1;omega
     have X:=yd (cW sz (show j+1<=k by omega)) (Nat.le_of_eq Hl.o.symm);have E:=cR sz j;have a3:bL sz ps j=(ps.drop (bI sz j)).take (szN sz (j+1)):=(dB (by rw [yF,yI];have:=HN.o;omega) fun i hi=>by rw [fu hi,fv]).symm;refine ⟨g9,0,d9,some ⟨gp,bI sz j,none⟩,G-bI sz j,bm,bC,Rd.own bz,?_⟩;have:=((Rd.own a4.o).drop (bI sz j)).take (szN sz (j+1))
     rwa [yR,dK,dq,<-a3] at this
   have dk:uU wr w.heap.size C.heap.size ps:=by unfold uU;rw [HN.o];exact ⟨_,_,_,_,_,a9.o,a4.o,Hb.o.size⟩
   have c9:jb wr w.heap.size C.heap.size S sz ps q:=by
    unfold jb;rw [HN.o,Hn.o];exact ⟨gp,G,Al,cl,I,a9.o,Hb.o.size,a4.o,aA bO.o Hb.o.size,b0.o,bF.o,ad.o⟩
   obtain ⟨eP,eM,eq⟩:=ae cz dk c9;clear cz dk c9;go_wp2_with fail;go_ret2;exact ⟨_,rfl,eP.o,eM.o,eq.o,a5.o⟩
theorem vx (S:Nat) (sz ps:N3) (A:N0) (c:Nat) (q:Int) (w:N6) (h:aR 109 w S sz) (hg:bn sz) (a:0<=q/\q<=62) (hl:ps.length=aF sz (sz.length-1)) (hA:Rd w A (au .i64 ps)):Calls prog 17 #[.pointer (some ⟨S,0,none⟩),.slice A ps.length c,.int .i64 q] w fun e w'=>∃b,e=.returned (.tuple #[.pointer (some ⟨b,0,none⟩),.bool true])/\dF 109 116 w' b sz ps q/\uU w' w.heap.size b ps/\an w w':=
 (jm S sz ps A c q w h hg a hl hA).mono fun e w' ⟨b,i,g,k,_,j⟩=>⟨b,i,g,k,j⟩
def pH (N:Nat) (a:N3) (G:Nat->Prop) (J:Nat->N6->Prop) (w:N6) (e:Ending) (w':N6):Prop:=Keep G w w'/\ (((∀k,k<a.length->cu N (nth a k))/\e=.returned (.bool true)/\J a.length w')\/((¬∀k,k<a.length->cu N (nth a k))/\e=.returned (.bool false)/\J 0 w'))
theorem uu (g X b k d:Nat) (B:N0) (i:Inp) (P M a:N3) (G:Nat->Prop) (J:Nat->N6->Prop) (w:N6) (a5:∀args w,(callFunc g args).run prog w=.ok (.enter g args) w) (h:cL w b i P M k) (hg:bQ i) (hB:Rd w B (au .i64 a)) (c0:a.length<=1048576) (bD:∀j,G j->j<w.heap.size) (bv:∀j,G j->b<j) (hJ:∀j w' R,J j w'->an w' R->J j R) (h0:J 0 w) (v:∀j x y A1 c1 A2 c2 w',(∀k,k<a.length->cu i.data.length (nth a k))->j<a.length->(bf i.data a)[j]?=some x->dF 109 116 w' y i.cfg.sizes P i.cfg.shift->aP w' A1 x.1 c1->aP w' A2 x.2 c2->J j w'->
   Calls prog g #[(ap y),.agg #[.slice A1 x.1.length c1,.slice A2 x.2.length c2],(ap X)] w' fun e R=>e=.returned (.tuple #[])/\J (j+1) R/\Keep G w' R):
  Calls prog 195 #[(ap b),.slice B a.length d,.func (.func g) #[] #[(ap X)]] w (pH i.data.length a G J w):=by
 obtain ⟨V,F,E,ce,S,Ap,cp,Am,cm,u,hF,hE,hS,bM,A,hP,c7,D,cg,wP,wM,c3,bO⟩:=h;have W:=fun w' (q:an w w')=>tq ce d E B i.data a w' (hE.below aH (A.trans (q.mono A.size))) hg.b.2 (hB.below q) c0;have Y:=fun w' (q:an w w')=>jm F i.cfg.sizes P Ap cp i.cfg.shift w' (hF.below (A.trans (q.mono A.size))) hg.c.z ⟨by have:=hg.c.s;omega,by have:=hg.c.s;omega⟩ D (hP.below q);have b4:=hg.c.z;have a0:=fp i.data a;unfold pH;obtain ⟨n,hn⟩:∃n,a.length=n:=⟨_,rfl⟩;obtain ⟨N,hN⟩:∃N,i.data.length=N:=⟨_,rfl⟩;obtain ⟨CN,bl⟩:∃CN,cnt i=CN:=⟨_,rfl⟩;obtain ⟨q,hq⟩:∃q,i.cfg.shift=q:=⟨_,rfl⟩;obtain ⟨pl,a8⟩:∃pl,bf i.data a=pl:=⟨_,rfl⟩;have b5:P.length=aF i.cfg.sizes (i.cfg.sizes.length-1):=D;obtain ⟨sz,bb⟩:∃sz,i.cfg.sizes=sz:=⟨_,rfl⟩;rw [bb] at hF b5 b4 Y v;rw [a8] at W a0 v;rw [hq] at u Y v;rw [bl] at u D;rw [hN] at u W v ⊢;rw [hn] at W c0 a0 v ⊢;rw [D] at Y;obtain ⟨⟨r0,r1,r2,r3,r4,r5,r6,r7,r8⟩,rf⟩:=bx9 u;have ck:=xZ u;obtain ⟨c9,cv,c5,HF,d5,bF,c4,co⟩:=aj a5 W Y hF bM A bD bv;obtain ⟨HJ,H0,d0,d3,bg,cy,c8⟩:=ai hJ h0 v b4 a0 b5 u;clear a5 W Y hF bM A bD bv hJ h0 v b4 a0 b5 u hE hS hP c7 D cg wP wM c3 bO hB hg hn hN bl hq a8 bb;go_enter func195,ntmps195;go_wp2_with fail;refine (cv.o w (ya _ _)).mono ?_;rintro e w1 ⟨b6,hp⟩;have b1:=(b6.block _ ck).trans c8.o;clear r0 r1 r2 r3 r4 r5 r6 r7 r8 rf;obtain ⟨⟨r0,r1,r2,r3,r4,r5,r6,r7,r8⟩,rf⟩:=bx9 b1;have da:=xZ b1;have H:=aa b6;clear b6 b1
 obtain ⟨ok,Lv,C,lc,rfl,d8,be⟩:∃(ok:Bool) (Lv:N0) (C lc:Nat),e=.returned (.tuple #[.slice Lv C lc,.bool ok])/\C<=n/\(((∀k,k<n->cu N (nth a k))/\ok=true/\C=n/\gK w.heap.size w1 pl n (.slice Lv n lc))\/((¬∀k,k<n->cu N (nth a k))/\ok=false/\C=0)):=by
  rcases hp with ⟨h1,A',c',rfl,h2⟩ | ⟨h1,rfl⟩
  ·exact ⟨true,A',n,c',rfl,x4 _,.inl ⟨h1,rfl,rfl,h2⟩⟩
  ·exact ⟨false,none,0,0,rfl,yb _,.inr ⟨h1,rfl,rfl⟩⟩
 have bh:=aa be;clear hp be;go_wp2_with fail;have p:(fun w':N6=>w'.cell? (ao b 0)=some ((ap F))/\w'.cell? (ao b 6)=some (.slice Ap CN cp)/\w'.cell? (ao b 5)=some (yY q)) w1.drew:=⟨r0,r6,r5⟩;refine HA.g (fun w':N6=>w'.cell? (ao b 0)=some ((ap F))/\w'.cell? (ao b 6)=some (.slice Ap CN cp)/\w'.cell? (ao b 5)=some (yY q)) ?_;refine HA.t ?_ [0,1,2,3,4,5,6,7,8,9,10,11,12,13,14,15] p ?_;refine HA.o 16 (fun K hK=>?_);go_simp;refine (c5.o _ H.o.drew).mono ?_;rintro e w2 ⟨y,rfl,_,_,bk,L⟩;have bB:=yg (aq L p.1) (yg (aq L p.2.1) (aq L p.2.2));have a7:an w1 w2:=(ya w1.heap.size w1).drew.trans L;obtain ⟨d1,a2⟩:=ab bk a7;clear L a7 bk p;dsimp only;refine hK.out _ _ bB (fun p=>?_);clear hK K bB;refine HA.t ?_ [17,18,19,20,21] p ?_;refine HA.d ?_;clear p r0 r1 r2 r3 r4 r5 r6 r7 r8 rf;have l:w.heap.size<=w1.heap.size:=H.o.size
 have av:jb w2 w.heap.size y F sz P q:=by
  obtain ⟨g,ct,Al,cl,bc,e0,e1,e2,e3,e4,e5,e6⟩:=d1.o
  exact ⟨g,ct,Al,cl,bc,e0,yd l e1,aA e2 l,aA e3 l,e4,e5,fun j hj=>by
   obtain ⟨g9,d9,k1,k2,k3⟩:=e6 j hj
   exact ⟨g9,d9,k1,k2,aA k3 l⟩⟩
 have bo:J 0 w2:=HJ.o 0 w w2 H0.o (H.o.trans (a2.o.mono l));have bC:an V w2:=bF.o.trans ((H.o.trans (a2.o.mono l)).mono bF.o.size);have bN:Keep G w w2:=Keep.below (H.o.trans (a2.o.mono l));have d4:C=n->(∀k,k<n->cu N (nth a k))->True:=fun _ _=>trivial;clear d4
 have cj:∃m:Bool,(m=true->gK w.heap.size w2 pl n (.slice Lv n lc)/\C=n/\∀k,k<n->cu N (nth a k))/\(m=false->C=0):=by
  rcases bh.o with ⟨e0,_,e1,e2⟩ | ⟨_,_,e1⟩
  ·exact ⟨true,fun _=>⟨e2.below a2.o,e1,e0⟩,fun h=>absurd h (by decide)⟩
  ·exact ⟨false,fun h=>absurd h (by decide),fun _=>e1⟩
 obtain ⟨m,a6,ad⟩:=cj;obtain ⟨b8,cd,cr,cs,T,bs⟩:=ah av bo bC bN a6 ad;clear av bo bC bN a6 ad;go_wp2_with fail
 go_loopw [47] (fun x wr=>∃k:Nat,k<=C/\x=yY k/\J k wr/\jb wr w.heap.size y F sz P q/\an V wr/\Keep G w wr/\(m=true->gK w.heap.size wr pl n (.slice Lv n lc))) (fun x _=>C-(intOf x).toNat)
 ·exact ⟨0,yb _,rfl,cd.o,b8.o,cr.o,cs.o,fun h=>(T.o h).1⟩
 case round=>
  obtain ⟨k,hk,rfl,Z,a1,O,a4,b3⟩:=hrel;by_cases dc:k<C
  ·have Q:m=true:=by
    cases hgg:m with
    | true=>rfl
    | false=>have:=bs.o hgg;omega
   have bA:=(T.o Q).2.1;have a9:=(T.o Q).2.2;have hM:=b3 Q;have b7:k<n:=am;obtain ⟨x,hx⟩:∃x,pl[k]?=some x:=⟨_,yC (by rw [bg.o];exact b7)⟩;obtain ⟨b',o,A1,c1,A2,c2,rfl,d7,p1,p2,r1,r2⟩:=bP (hM.rd bg.o) hx;have a3:=fun w' (q':an wr w')=>d0.o k x y A1 c1 A2 c2 w' a9 b7 hx ((a1.below q').at (HF.o.below (O.trans (q'.mono O.size))) d3.o cy.o) (r1.below q') (r2.below q') (HJ.o _ _ _ Z q');obtain ⟨n1,b9⟩:∃n1,x.1.length=n1:=⟨_,rfl⟩;obtain ⟨n2,bV⟩:∃n2,x.2.length=n2:=⟨_,rfl⟩;rw [b9] at p1 a3;rw [bV] at p2 a3;obtain ⟨d2,cA,b0,b2,cc,dh⟩:=ah a3 a1 O a4 hM Q;clear a3 a1 O a4 hM b3 Z hx r1 r2 b9 bV Q bA a9;have a5:=c9.o;go_wp2_with fail;clear a5;refine (d2.o _ ?_).mono ?_
   ·exact ak
   rintro e w5 ⟨rfl,bG,I⟩;have U:an wr (wr.alloc (.cells #[.slice A1 n1 c1,.slice A2 n2 c2] 67)):=(ya _ _).alloc (x4 _) _;have bw:=(cA.o.below U).keep I c4.o;have bm:an V w5:=(b0.o.trans (U.mono b0.o.size)).trans (I.toBelow (by have:=b0.o.size;simp;omega) (fun j hj=>by have:=co.o j hj;have:=d5.o;omega));have bz:Keep G w w5:=(b2.o.trans (Keep.below U)).trans I;have bd:=(cc.o.below U).keep I c4.o;obtain ⟨d6,cb,cz,cx,c6⟩:=ag bG bw bm bz bd;clear bG bw bm bz bd I U p1 p2;go_wp2_with fail;go_roundw
   ·exact ⟨k+1,by omega,by go_num,d6.o,cb.o,cz.o,cx.o,fun _=>c6.o⟩
   ·simp [intOf];omega
  ·obtain rfl:C=k:=am;obtain ⟨bp,b2⟩:=ab Z a4;clear Z a4 a1 O b3;go_wp2_with fail;go_ret;refine ⟨b2.o,?_⟩;rcases bh.o with ⟨e1,rfl,e2,_⟩ | ⟨e1,rfl,e2⟩
   ·exact .inl ⟨e1,rfl,by rw [<-e2];exact bp.o⟩
   ·exact .inr ⟨e1,rfl,by rw [<-e2];exact bp.o⟩
end Go.Proofs.YthamijnggdjaoaaGreat
namespace Go.Proofs.YthamijnggdjaoaaGreat
open Tryz
section
variable {P:Program} {ops:N9} {Q:Exit->Na->N6->Prop} {S:N6->Prop}
structure HAS (P:Program) (ops:N9) (Q:Exit->Na->N6->Prop) (S:N6->Prop) (i:Nat) (L:List Nat) (a:Na) (w:N6):Prop where
 out:∃o,ops[i]?=some o/\∀K':Na->N6->Prop,Shut (∀a w,S w->(S w->HA P ops Q S (i::L) a w)->K' a w)->if Region.wanted o (yielded ops a.tmps)=true then Oper.wp P o a w K' Q else K' (a.put o.dst undef) w
theorem HAS.c {L:List Nat} {a:Na} {w:N6} {i:Nat} {f:FuncId} {args:N4} {R:Ending->N6->Prop} {o:Oper} (hc:Calls P f args w R) (k:∀e w',R e w'->∃v,e=.returned v/\S w'/\(S w'->HA P ops Q S (i::L) (a.put o.dst v) w')) (g:ops[i]?=some o:=by (simp only [yu,yw,yx];rfl)) (hw:Region.wanted o (yielded ops a.tmps)=true:=by rfl) (he:(execOp a.eval o).run P w=.ok (.enter f args) w:=by go_simp):HAS P ops Q S i L a w:=by
 refine ⟨o,g,fun n m=>?_⟩;rw [if_pos hw];unfold Oper.wp;rw [he];refine hc.mono fun e w' l=>?_;obtain ⟨v,rfl,j,h⟩:=k e w' l;exact m.out _ _ j h
theorem HAS.v {L:List Nat} {a:Na} {w:N6} {i:Nat} {o:Oper} (w':N6) (v:Value) (g:S w') (k:HA P ops Q S (i::L) (a.put o.dst v) w') (e:ops[i]?=some o:=by (simp only [yu,yw,yx];rfl)) (hw:Region.wanted o (yielded ops a.tmps)=true:=by rfl) (he:(execOp a.eval o).run P w=.ok (.value v) w':=by go_simp):HAS P ops Q S i L a w:=by
 refine ⟨o,e,fun j h=>?_⟩;rw [if_pos hw];unfold Oper.wp;rw [he];exact h.out _ _ g fun _=>k
theorem HA.two {L:List Nat} {a:Na} {w:N6} (i j:Nat) (n:HAS P ops Q S i L a w) (h:HAS P ops Q S j L a w) (hr:bT ops L=[i,j]:=by decide +kernel):HA P ops Q S L a w:=by
 obtain ⟨v,m,n⟩:=n;obtain ⟨x,g,h⟩:=h;have p:unl (aO ops.size L)=unl (aO ops.size (i::L))+1:=bW (by rw [hr];simp);have u:unl (aO ops.size L)=unl (aO ops.size (j::L))+1:=bW (by rw [hr];simp);have q:unl (aO ops.size (j::L))=unl (aO ops.size (i::L)):=am;refine ⟨?_⟩;rw [p];refine wpAnyH_ready (by rw [cD];exact hr) (by simp) (AllReadyH.cons m (fun o l=>n o fun a w k hw=>l.out a w k fun e=>(hw e).out) (AllReadyH.cons g (fun o l=>h o fun a w k hw=>l.out a w k fun e=>?_) AllReadyH.nil));have:=(hw e).out;rw [q] at this;exact this
theorem HA.three {L:List Nat} {a:Na} {w:N6} (i j k:Nat) (q:HAS P ops Q S i L a w) (p:HAS P ops Q S j L a w) (o:HAS P ops Q S k L a w) (hr:bT ops L=[i,j,k]:=by decide +kernel):HA P ops Q S L a w:=by
 obtain ⟨D,u,q⟩:=q;obtain ⟨E,n,p⟩:=p;obtain ⟨C,m,o⟩:=o;have x:unl (aO ops.size L)=unl (aO ops.size (i::L))+1:=bW (by rw [hr];simp);have A:unl (aO ops.size L)=unl (aO ops.size (j::L))+1:=bW (by rw [hr];simp);have B:unl (aO ops.size L)=unl (aO ops.size (k::L))+1:=bW (by rw [hr];simp);have v:unl (aO ops.size (j::L))=unl (aO ops.size (i::L)):=am;have y:unl (aO ops.size (k::L))=unl (aO ops.size (i::L)):=am;refine ⟨?_⟩;rw [x];refine wpAnyH_ready (by rw [cD];exact hr) (by simp) (AllReadyH.cons u (fun l h=>q l fun a w g hw=>h.out a w g fun e=>(hw e).out) (AllReadyH.cons n (fun l h=>p l fun a w g hw=>h.out a w g fun e=>?_) (AllReadyH.cons m (fun l h=>o l fun a w g hw=>h.out a w g fun e=>?_) AllReadyH.nil)))
 ·have:=(hw e).out;rw [v] at this;exact this
 ·have:=(hw e).out;rw [y] at this;exact this
end
end Go.Proofs.YthamijnggdjaoaaGreat
namespace Go.Proofs.YthamijnggdjaoaaGreat
open Go.RowKit
open Tryz
section
variable {P:Program}
structure eH (P:Program) (t:N7) (n:Nat):Prop where
 d:∃d,P.underlying t=some d/\d.isRow=true
 s:(P.info? t).map (·.size)=some n
theorem dR {w:N6} {b:Nat} {xs:N4} {t:N7} {i:Nat×Nat} (h:w.heap[b]?=some (.cells xs t i)) (o:Nat) {e:N5} (g:(xs.toList.drop o).take e.length=e):w.rangeAt b o e:=fun j v a=>by
 rw [x7 w b (o+j) xs t i h];rw [<-g,List.getElem?_take] at a
 split at a
 ·rw [List.getElem?_drop] at a;simpa using a
 ·cases a
theorem ji (w:N6) (g:Nat) (a:N4):Keep (fun j=>j=g) w (w.setRow g a):=by
 refine ⟨rfl,rfl,rfl,by simp [World.setRow],fun k i h=>?_⟩;simp only [World.setRow,Array.getElem?_modify];rw [if_neg (fun e=>h e.symm)]
theorem dw {ops:N9} {rest:List Oper} {op:Oper} {a:Na} {w:N6} {Q:Exit->Na->N6->Prop} {j:N7} {x:Operand} {b o:Nat} {xs:N4} {t:N7} {u:Nat×Nat} (e:N4) (p:w.heap[b]?=some (.cells xs t u)) (hr:eH P j e.size) (g:op.guard=none) (k:op.op=.load j x) (q:a.eval x=.pointer (some (ao b o))) (i:(xs.toList.drop o).take e.toList.length=e.toList) (h:wpList P ops Q rest (a.put op.dst (.agg e)) w):wpList P ops Q (op::rest) a w:=by
 obtain ⟨⟨d,m,l⟩,n⟩:=hr;exact wpList_load_mid g j x k b o q e.toList d (dR p o i) m l (by simpa using n) (by simpa using h)
theorem gi {ops:N9} {rest:List Oper} {op:Oper} {a:Na} {w:N6} {Q:Exit->Na->N6->Prop} {g:N7} {x y:Operand} {b n:Nat} {xs ys:N4} {t:N7} (i:w.heap[b]?=some (.cells xs t (0,0))) (hr:eH P g n) (e:op.guard=none) (k:op.op=.store g x y) (q:a.eval x=(ap b)) (l:a.eval y=.agg ys) (u:ys.size=n) (p:xs.size=ys.size) (o:ys.toList.all (·.oneCell')=true) (h:∀w',w'.heap[b]?=some (.cells ys t (0,0))->Keep (fun j=>j=b) w w'->wpList P ops Q rest (a.put op.dst undef) w'):wpList P ops Q (op::rest) a w:=by
 refine wpList_plain e fun K m=>?_;unfold Oper.wp execOp;simp only [k,q,l,Instr.storeAt,Instr.sureAddr,Sem.run_bind,Sem.run_pure,Result.andThen_ok,run_storeVar_row w b t g xs ys i (by rw [u];exact hr.s) p (by rw [<-Array.all_toList];exact o)];exact m _ _ (h _ (setRow_heap w b xs ys t (0,0) i) (ji w b ys))
theorem m5 {f:Func} {x:Tmp} {g:N7} (h:f.results=#[.cell x g]) {a:N4} {w:N6} {b:Nat} {xs:N4} {t:N7} {n:Nat×Nat} (m:a.getD x undef=(ap b)) (l:w.heap[b]?=some (.cells xs t n)) (hr:eH P g xs.size):(results f a).run P w=.ok (.agg xs) w:=by
 obtain ⟨⟨d,j,i⟩,k⟩:=hr;have:=run_loadVar_mid (P:=P) w b 0 g xs.toList d (dR l 0 (by rw [yz,yK])) j i (by simpa using k);rw [Array.toArray_toList] at this;have e:a[x]?.getD undef=(ap b):=by simpa using m
 simp [results,h,e,asAddr,this]
theorem ec {f:Func} {x y:Tmp} {g:N7} (h:f.results=#[.cell x g,.tmp y]) {a:N4} {w:N6} {b:Nat} {xs:N4} {t:N7} {o:Nat×Nat} (m:a.getD x undef=(ap b)) (l:w.heap[b]?=some (.cells xs t o)) (hr:eH P g xs.size):(results f a).run P w=.ok (.tuple #[.agg xs,a.getD y undef]) w:=by
 obtain ⟨⟨d,j,i⟩,k⟩:=hr;have:=run_loadVar_mid (P:=P) w b 0 g xs.toList d (dR l 0 (by rw [yz,yK])) j i (by simpa using k);rw [Array.toArray_toList] at this;have e:a[x]?.getD undef=(ap b):=by simpa using m
 simp [results,h,e,asAddr,this]
end
section
variable {P:Program} {ops:N9} {Q:Exit->Na->N6->Prop} {S:N6->Prop} {n:Nat}
theorem qu {S:N6->Prop} {a:Na} {o:Oper} {j:N7} {x:Operand} {b e:Nat} {xs:N4} {t:N7} {u:Nat×Nat} (g:N4) (n:∀w',S w'->w'.heap[b]?=some (.cells xs t u)) (hr:eH P j g.size) (h:o.op=.load j x) (p:a.eval x=.pointer (some (ao b e))) (i:(xs.toList.drop e).take g.toList.length=g.toList) (hg:Region.wanted o (yielded ops a.tmps)=true):YieldsIf P ops S o (.agg g) a:=by
 obtain ⟨⟨d,l,k⟩,m⟩:=hr;have:=yieldsIf_load_mid (P:=P) (ops:=ops) (S:=S) (op:=o) (a:=a) hg j x h b e p g.toList d (fun w' q=>dR (n w' q) e i) l k (by simpa using m);simpa using this
theorem HA.ld {L:List Nat} {a:Na} {w:N6} (i:Nat) (g:N4) {o:Oper} {j:N7} {x:Operand} {b e:Nat} {xs:N4} {t:N7} {p:Nat×Nat} (n:∀w',S w'->w'.heap[b]?=some (.cells xs t p)) (hr:eH P j g.size) (m:S w) (k:HA P ops Q S (i::L) (a.put o.dst (.agg g)) w) (l:ops[i]?=some o:=by (simp only [yu,yw,yx];rfl)) (hop:o.op=.load j x:=by rfl) (hx:a.eval x=.pointer (some (ao b e)):=by rfl) (hcs:(xs.toList.drop e).take g.toList.length=g.toList:=by rfl) (hg:Region.wanted o (yielded ops a.tmps)=true:=by rfl) (hs:Region.noSelect ops=true:=by decide +kernel) (hQ:∀c a w d v,Q (.panic c) (Act.put a d v) w->Q (.panic c) a w:=by (intro _ _ _ d _ h;cases d<;>exact h)) (hc:jI ops L [i]=true:=by decide +kernel):HA P ops Q S L a w:=
 HA.takes hs hQ m [i] hc (Ys.cons l (qu g n hr hop hx hcs hg) Ys.nil) (by simpa using k)
theorem HA.st {L:List Nat} {a:Na} {w:N6} (i:Nat) {o:Oper} {e:N7} {x y:Operand} {b m:Nat} {xs ys:N4} {t:N7} (g:w.heap[b]?=some (.cells xs t (0,0))) (hr:eH P e m) (k:∀w',w'.heap[b]?=some (.cells ys t (0,0))->Keep (fun j=>j=b) w w'->S w'/\HA P ops Q S (i::L) (a.put o.dst undef) w') (l:ops[i]?=some o:=by (simp only [yu,yw,yx];rfl)) (hop:o.op=.store e x y:=by rfl) (hx:a.eval x=(ap b):=by rfl) (hy:a.eval y=.agg ys:=by rfl) (hn:ys.size=m:=by rfl) (hs:xs.size=ys.size:=by rfl) (h1:ys.toList.all (·.oneCell')=true:=by rfl) (hrd:bT ops L=[i]:=by decide +kernel) (hw:Region.wanted o (yielded ops a.tmps)=true:=by rfl):HA P ops Q S L a w:=by
 obtain ⟨h,k⟩:=k _ (setRow_heap w b xs ys t (0,0) g) (ji w b ys);refine HA.s i _ h k l hrd hw ?_;unfold execOp;simp only [hop,hx,hy,Instr.storeAt,Instr.sureAddr,Sem.run_bind,Sem.run_pure,Result.andThen_ok,run_storeVar_row w b t e xs ys g (by rw [hn];exact hr.s) hs (by rw [<-Array.all_toList];exact h1)]
end
section
variable {P:Program} {ops:N9} {Q:Exit->Na->N6->Prop} {S:N6->Prop}
theorem HA.sole {L:List Nat} {a:Na} {w:N6} (i:Nat) (e:HAS P ops Q S i L a w) (hr:bT ops L=[i]:=by decide +kernel):HA P ops Q S L a w:=by
 obtain ⟨o,g,h⟩:=e;exact HA.one i g hr h
end
theorem vk {w k g a:N6} {U V:Nat} {x y:N4} {t:N7} (ne:U≠V) (m:w.heap.size<=U) (h:w.heap.size<=V) (o:an w k) (n:g.heap[U]?=some (.cells x t (0,0))) (p:Keep (fun j=>j=U) k g) (q:a.heap[V]?=some (.cells y t (0,0))) (i:Keep (fun j=>j=V) g a):a.heap[U]?=some (.cells x t (0,0))/\a.heap[V]?=some (.cells y t (0,0))/\U≠V/\w.heap.size<=U/\w.heap.size<=V/\an w a:=
 have l:=o.trans (p.toBelow o.size (fun j e=>by rw [e];exact m))
 ⟨(i.block U (xZ n) ne).trans n,q,ne,m,h,l.trans (i.toBelow l.size (fun j e=>by rw [e];exact h))⟩
theorem uI {w a:N6} {B U:Nat} {g:N6} (q:Below B g w) (k:Keep (fun j=>j=U) w a) (i:B<=w.heap.size) (h:B<=U):Below B g a:=q.trans (k.toBelow i (fun j e=>by rw [e];exact h))
end Go.Proofs.YthamijnggdjaoaaGreat
namespace Go.Proofs.YthamijnggdjaoaaGreat
open Go.RowKit Go.Shelf
open Tryz
attribute [local go_sem] Oper.semAt_some
def xr (r c:Nat) (ys xs:N3) (A B:N0) (a d e:Nat) (q:Int) (w:N6) (G N M:Nat) (g:List (Fin r)) (W:N6):Prop:= (W.ownsRow w.heap.size 2 1 (.slice (some (ao G 0)) a a) a (au .i64 (gI r c ys xs q (g.map (·.1)) 0 0))/\Boxed W w.heap.size 60 (.slice A r d)/\Boxed W (w.heap.size+1) 60 (.slice B c e)/\Boxed W (w.heap.size+1+1) 3 (yY q)/\
  W.heap[w.heap.size+1+1+1]?=some (.cells #[yY 0,yY 0,yZ] 119 (0,0))/\W.heap[N]?=some (.cells #[yY r,yY c,.slice (some (ao G 0)) a a] 119 (0,0))/\
  W.heap[M]?=some (.cells #[yY r,yY c,.slice (some (ao G 0)) a a] 119 (0,0)))/\an w W
theorem tB (r c:Nat) (ys xs:N3) (A B:N0) (o d e:Nat) (q:Int) (w:N6) (G N M K:Nat) (m:w.heap.size<=K):OwnFrom K (xr r c ys xs A B o d e q w G N M):=by
 intro s W v row u hg hr;obtain ⟨⟨j,h,p,i,l,k,g⟩,a⟩:=u;have n:=ownFrom_below (β:=Unit) (x4 _) m () W v row a hg hr;exact ⟨⟨nh j hg hr,cq rfl h hg hr,cq rfl p hg hr,cq rfl i hg hr,cq rfl l hg hr,cq rfl k hg hr,cq rfl g hg hr⟩,n⟩
theorem rr (r c:Nat) (A B:N0) (ys xs:N3) (d e:Nat) (q:Int) (w:N6) (hr:1<=r/\r<=1048576) (hc:1<=c/\c<=1048576) (hm:r*c<=1048576) (hA:Rd w A (au .i64 ys)) (wy:W64 ys) (c1:ys.length=r) (hB:Rd w B (au .i64 xs)) (bz:xs.length=c) (wx:W64 xs):Calls prog 228 #[.slice A r d,.slice B c e,yY q] w fun e w'=>∃A',e=.returned (.agg #[yY r,yY c,.slice A' (r*c) (r*c)])/\w'.ownsRow w.heap.size 2 1 (.slice A' (r*c) (r*c)) (r*c) (au .i64 (fG r c ys xs q))/\an w w':=by
 obtain ⟨g,a3⟩:∃g,r*c=g:=⟨_,rfl⟩;have co:1<=g:=by rw [<-a3];exact Nat.mul_pos hr.1 hc.1
 have b5:=fun w'=>tL r c w' hr hc hm;have bv:=fun A' w'=>gu r c A' g g w' hr hc a3.symm am;have bG:=fun cs w'=>jO cs w';rw [a3] at b5 hm ⊢;obtain ⟨c8,cc,ce,a4,c9,cg,HA,HB⟩:=aj b5 bv bG a3 bz c1 hA hB;obtain ⟨WX,WY⟩:=ab wx wy;clear b5 bv bG a3 bz c1 hA hB wx wy;refine (callsIn_wide (n:=3)).1 ?_;refine callsIn_of_wp_marks func228 rfl trivial ?_ rfl;simp only [ntmps228,List.size_toArray,List.length_cons,List.length_nil,Nat.reduceAdd,Nat.reduceSub,Array.replicate_succ,Array.replicate_zero,List.push_toArray,List.append_toArray,List.nil_append,List.cons_append]
 gi_wp2_with fail
 refine ⟨trivial,?_⟩;refine (callsIn_wide.2 (c8.o _)).mono ?_;rintro e w1 ⟨A',rfl,C,T⟩;have av:an w w1:=Below.trans (((((ya _ w).alloc (x4 _) _).alloc (by simp) _).alloc (by simp;omega) _).alloc (by simp;omega) _) (T.mono (by first | (simp;done) | (simp;omega)))
 have h2:Boxed w1 w.heap.size 60 (.slice A r d):=by
  refine (T.block w.heap.size (by first | (simp;done) | (simp;omega))).trans ?_;refine (yj _ _ _ (by first | (simp;done) | (simp;omega))).trans ((yj _ _ _ (by first | (simp;done) | (simp;omega))).trans ((yj _ _ _ (by simp)).trans (x6 w _)))
 have h3:Boxed w1 (w.heap.size+1) 60 (.slice B c e):=by
  refine (T.block (w.heap.size+1) (by first | (simp;done) | (simp;omega))).trans ?_;refine (yj _ _ _ (by first | (simp;done) | (simp;omega))).trans ((yj _ _ _ (by simp)).trans ?_);have:=x6 (w.alloc (.cells #[.slice A r d] 60)) (.cells #[.slice B c e] 60);simpa using this
 have h4:Boxed w1 (w.heap.size+1+1) 3 (yY q):=by
  refine (T.block (w.heap.size+1+1) (by first | (simp;done) | (simp;omega))).trans ?_;refine (yj _ _ _ (by simp)).trans ?_;have:=x6 ((w.alloc (.cells #[.slice A r d] 60)).alloc (.cells #[.slice B c e] 60)) (.cells #[yY q] 3);simpa using this
 have h5:w1.heap[w.heap.size+1+1+1]?=some (.cells #[yY 0,yY 0,yZ] 119 (0,0)):=by
  refine (T.block (w.heap.size+1+1+1) (by simp)).trans ?_;have:=x6 (((w.alloc (.cells #[.slice A r d] 60)).alloc (.cells #[.slice B c e] 60)).alloc (.cells #[yY q] 3)) (.cells #[yY 0,yY 0,yZ] 119);simpa using this
 obtain ⟨G,dG,bw,hG,bo⟩:=C.form am;simp only [yM] at bw;obtain ⟨rfl,_,rfl⟩:=bw;have bO:w.heap.size+1+1+1+1<=G:=by simpa using hG
 have C:=aA C (base':=w.heap.size) (by first | (simp;done) | (simp;omega));obtain ⟨bk,a1,H2,H3,H4,H5,bg,c3⟩:=aj C av h2 h3 h4 h5 bO bo;clear C av h2 h3 h4 h5 bO bo hG T
 gi_wp2_with fail
 refine ⟨trivial,?_⟩;refine (callsIn_wide.2 (cc.o _ _)).mono ?_;rintro e w2 ⟨rfl,rfl⟩
 gi_wp2_with fail
 refine ⟨trivial,?_⟩;refine (callsIn_wide.2 (ce.o _ _)).mono ?_;rintro e w3 ⟨rfl,rfl⟩
 gi_wp2_with fail
 obtain ⟨L,M⟩:∃L,L=(w1.alloc (.cells #[yY r,yY c,.slice (some (ao G 0)) g g] 119)).alloc (.cells #[yY r,yY c,.slice (some (ao G 0)) g g] 119):=⟨_,rfl⟩;rw [<-M];have a5:L.heap.size=w1.heap.size+1+1:=by rw [M];simp
 have bN:L.heap[w1.heap.size]?=some (.cells #[yY r,yY c,.slice (some (ao G 0)) g g] 119 (0,0)):=by
  rw [M];exact (yj _ _ _ (by simp)).trans (x6 w1 _)
 have bM:(L.alloc (.cells #[yY r,yY c,.slice (some (ao G 0)) g g] 119)).heap[L.heap.size]?=some (.cells #[yY r,yY c,.slice (some (ao G 0)) g g] 119 (0,0)):=x6 L _
 have hl:∀b o,w1.heap[b]?=some o->(L.alloc (.cells #[yY r,yY c,.slice (some (ao G 0)) g g] 119)).heap[b]?=some o:=fun b o h=>by
  have hb:=xZ h;rw [M];exact (yj _ _ _ (by simp;omega)).trans ((yj _ _ _ (by simp;omega)).trans ((yj _ _ _ hb).trans h))
 have I:an w L:=by rw [M];exact (a1.o.alloc a1.o.size _).alloc (by have:=a1.o.size;simp;omega) _
 have r0:L.ownsRow w.heap.size 2 1 (.slice (some (ao G 0)) g g) g (au .i64 (List.replicate g 0)):=by rw [M];exact (bk.o.alloc _).alloc _
 rw [<-a4.o,rt r c ys xs q 0,a4.o] at r0;obtain ⟨N,hN⟩:∃N,N=w1.heap.size:=⟨_,rfl⟩;rw [<-hN] at bN a5 ⊢;rw [<-a5];have bC:xr r c ys xs A B g d e q w G N L.heap.size [] (L.alloc (.cells #[yY r,yY c,.slice (some (ao G 0)) g g] 119)):=⟨⟨r0.alloc _,hl _ _ H2.o,hl _ _ H3.o,hl _ _ H4.o,hl _ _ H5.o,(yj L _ _ (xZ bN)).trans bN,bM⟩,I.alloc I.size _⟩;obtain ⟨bs,ad,cl,HN,cm⟩:=ag a5 I bM hN bC;clear a5 I bM bN r0 hN M hl bC
 refine' wpIn_rangeFunc_ownG (F:=Fence.wide) (n:=3) rfl am (gf:=219) (lb:=#[(ap L.heap.size)]) rfl trivial (enters_of func219 (by kernel_rfl) rfl)
  (ic _ L.heap.size w.heap.size G 0 r c g g hr.2 hc a4.o.symm (x4 _) _ cl.o) fC (fD (by have:=ad.o.size;simp;omega) (by simp)) (ya _ _) (fun _=>rfl)
  (xr r c ys xs A B g d e q w G N L.heap.size)
  (fun _ _ _=>False)
  (tB r c ys xs A B g d e q w G N L.heap.size _ (by have:=ad.o.size;simp;omega))
  (fun _ _ _ _ _ hs _ _=>hs)
  cm.o
  _ ?assign ?body ?done ?stop
 case assign=>
  intro l x W K H;unfold iT
  gi_wp2
  exact H
 case body=>
  rintro l bb x W ⟨⟨E,b0,b9,b4,V,a6,b7⟩,X⟩ Y;have E:W.ownsRow w.heap.size 2 1 (.slice (some (ao G 0)) g g) g (au .i64 (gI r c ys xs q (bb.map (·.1)) x.1 0)):=by rw [oT x.1 0];exact E
  obtain ⟨a8,H2,H3,H4,H5,c6,be,a7⟩:=aj E b0 b9 b4 V a6 b7 X;have ct:=aa Y;clear E b0 b9 b4 V a6 b7 X Y
  gi_wp2_with fail
  gi_loopw [26] (fun i wr=>∃j:Nat,j<=c/\i=yY j/\wr.ownsRow w.heap.size 2 1 (.slice (some (ao G 0)) g g) g (au .i64 (gI r c ys xs q (bb.map (·.1)) x.1 j))/\Keep (fun i=>i=G) W wr) (fun i _=>c-(intOf i).toNat)
  ·exact ⟨0,yb _,rfl,a8.o,Keep.refl _ _⟩
  case round=>
   obtain ⟨j,hj,rfl,a2,H⟩:=hrel;by_cases Y:j<c
   ·have b3:x.1<ys.length:=by rw [cg.o];exact x.2
    have bm:j<xs.length:=by rw [c9.o];exact Y
    have cr:=bg.o;obtain ⟨b1,o1,ck,bc⟩:=HA.o.num b3;obtain ⟨b2,o2,c7,b8⟩:=HB.o.num bm;have l1:b1<w.heap.size:=aw bc;have l2:b2<w.heap.size:=aw b8;subst ck;subst c7;have U:∀b v,b≠G->∀o,W.cell? (ao b o)=some v->wr.cell? (ao b o)=some v:=fun b v hb o h=>H.cell h hb;have m:(fun w':N6=>w'.cell? (ao w.heap.size 0)=some (.slice (some (ao b1 o1)) r d)/\w'.cell? (ao (w.heap.size+1) 0)=some (.slice (some (ao b2 o2)) c e)/\w'.cell? (ao (w.heap.size+1+1) 0)=some (yY q)/\w'.cell? (ao b1 (o1+x.1))=some (yY (nth ys x.1))/\w'.cell? (ao b2 (o2+j))=some (yY (nth xs j))) wr.drew:=⟨U _ _ am _ (Boxed.cell H2.o),U _ _ am _ (Boxed.cell H3.o),U _ _ am _ (Boxed.cell H4.o),U _ _ am _ ((a7.o.cell (p:=(ao b1 (o1+x.1))) l1).trans bc),U _ _ am _ ((a7.o.cell (p:=(ao b2 (o2+j))) l2).trans b8)⟩;have cp:(x.1:Int)<r:=by have:=x.2;omega
    have Z:x.1*c+j<g:=by rw [<-a4.o];have:=iV (c:=c) x.2;omega
    have c0:=fun w'=>j8 (nth ys x.1) (nth xs j) q w' (WY.o _ b3) (WX.o _ bm);obtain ⟨cb,c4,HK,bl⟩:=af c0 a2 H Z;clear c0 a2 H U Z b3 bm bc b8
    gi_wp2_with fail
    refine fR (fun w':N6=>w'.cell? (ao w.heap.size 0)=some (.slice (some (ao b1 o1)) r d)/\w'.cell? (ao (w.heap.size+1) 0)=some (.slice (some (ao b2 o2)) c e)/\w'.cell? (ao (w.heap.size+1+1) 0)=some (yY q)/\w'.cell? (ao b1 (o1+x.1))=some (yY (nth ys x.1))/\w'.cell? (ao b2 (o2+j))=some (yY (nth xs j))) (by kernel_rfl) (by kernel_rfl) (by rintro ⟨_,_,h⟩;exact h) ?_;refine wpAnyH_take (i:=0) (v:=?_) rfl (by kernel_rfl) (by kernel_rfl) (by kernel_rfl) (fun _ _ _ h=>h) (Or.inl ⟨by rfl,?_⟩) m ?_;rotate_left
    ·intro w9 a;(try dsimp only at a);obtain ⟨P,S,Q,O,R⟩:=a;go_simp;(try with_reducible rfl)
    simp only [yn,yo,yp,Act.put,yq,yr,yt];refine wpAnyH_take (i:=1) (v:=?_) rfl (by kernel_rfl) (by kernel_rfl) (by kernel_rfl) (fun _ _ _ h=>h) (Or.inl ⟨by rfl,?_⟩) m ?_;rotate_left
    ·intro w9 a;(try dsimp only at a);obtain ⟨P,S,Q,O,R⟩:=a;go_simp;(try with_reducible rfl)
    simp only [yn,yo,yp,Act.put,yq,yr,yt];refine wpAnyH_take (i:=2) (v:=?_) rfl (by kernel_rfl) (by kernel_rfl) (by kernel_rfl) (fun _ _ _ h=>h) (Or.inl ⟨by rfl,?_⟩) m ?_;rotate_left
    ·intro w9 a;(try dsimp only at a);obtain ⟨P,S,Q,O,R⟩:=a;go_simp;(try with_reducible rfl)
    simp only [yn,yo,yp,Act.put,yq,yr,yt];refine wpAnyH_take (i:=3) (v:=?_) rfl (by kernel_rfl) (by kernel_rfl) (by kernel_rfl) (fun _ _ _ h=>h) (Or.inl ⟨by rfl,?_⟩) m ?_;rotate_left
    ·intro w9 a;(try dsimp only at a);obtain ⟨P,S,Q,O,R⟩:=a;go_simp;(try with_reducible rfl)
    simp only [yn,yo,yp,Act.put,yq,yr,yt];refine wpAnyH_take (i:=4) (v:=?_) rfl (by kernel_rfl) (by kernel_rfl) (by kernel_rfl) (fun _ _ _ h=>h) (Or.inl ⟨by rfl,?_⟩) m ?_;rotate_left
    ·intro w9 a;(try dsimp only at a);obtain ⟨P,S,Q,O,R⟩:=a;go_simp;(try with_reducible rfl)
    simp only [yn,yo,yp,Act.put,yq,yr,yt];refine wpAnyH_take (i:=5) (v:=?_) rfl (by kernel_rfl) (by kernel_rfl) (by kernel_rfl) (fun _ _ _ h=>h) (Or.inl ⟨by rfl,?_⟩) m ?_;rotate_left
    ·intro w9 a;(try dsimp only at a);obtain ⟨P,S,Q,O,R⟩:=a;go_simp;(try with_reducible rfl)
    simp only [yn,yo,yp,Act.put,yq,yr,yt];refine wpAnyH_take (i:=6) (v:=?_) rfl (by kernel_rfl) (by kernel_rfl) (by kernel_rfl) (fun _ _ _ h=>h) (Or.inl ⟨by rfl,?_⟩) m ?_;rotate_left
    ·intro w9 a;(try dsimp only at a);obtain ⟨P,S,Q,O,R⟩:=a;go_simp;(try with_reducible rfl)
    simp only [yn,yo,yp,Act.put,yq,yr,yt];refine wpAnyH_take (i:=7) (v:=?_) rfl (by kernel_rfl) (by kernel_rfl) (by kernel_rfl) (fun _ _ _ h=>h) (Or.inl ⟨by rfl,?_⟩) m ?_;rotate_left
    ·intro w9 a;(try dsimp only at a);obtain ⟨P,S,Q,O,R⟩:=a;go_simp;(try with_reducible rfl)
    simp only [yn,yo,yp,Act.put,yq,yr,yt];refine wpAnyH_take (i:=8) (v:=?_) rfl (by kernel_rfl) (by kernel_rfl) (by kernel_rfl) (fun _ _ _ h=>h) (Or.inl ⟨by rfl,?_⟩) m ?_;rotate_left
    ·intro w9 a;(try dsimp only at a);obtain ⟨P,S,Q,O,R⟩:=a;go_simp;(try with_reducible rfl)
    simp only [yn,yo,yp,Act.put,yq,yr,yt];refine wpAnyH_take (i:=9) (v:=?_) rfl (by kernel_rfl) (by kernel_rfl) (by kernel_rfl) (fun _ _ _ h=>h) (Or.inl ⟨by rfl,?_⟩) m ?_;rotate_left
    ·intro w9 a;(try dsimp only at a);obtain ⟨P,S,Q,O,R⟩:=a;go_simp;(try with_reducible rfl)
    simp only [yn,yo,yp,Act.put,yq,yr,yt];refine wpAnyH_take (i:=10) (v:=?_) rfl (by kernel_rfl) (by kernel_rfl) (by kernel_rfl) (fun _ _ _ h=>h) (Or.inl ⟨by rfl,?_⟩) m ?_;rotate_left
    ·intro w9 a;(try dsimp only at a);obtain ⟨P,S,Q,O,R⟩:=a;go_simp;(try with_reducible rfl)
    simp only [yn,yo,yp,Act.put,yq,yr,yt];refine wpAnyH_ready (rs:=[11]) (by kernel_rfl) (by simp) ?_;refine AllReadyH.cons rfl (fun K H=>?_) AllReadyH.nil;simp only [yn,yo,yp];go_simp;refine (cb.o _).mono ?_;rintro e w3 ⟨rfl,J⟩;dsimp only;have b6:(fun w':N6=>w'.cell? (ao w.heap.size 0)=some (.slice (some (ao b1 o1)) r d)/\w'.cell? (ao (w.heap.size+1) 0)=some (.slice (some (ao b2 o2)) c e)/\w'.cell? (ao (w.heap.size+1+1) 0)=some (yY q)/\w'.cell? (ao b1 (o1+x.1))=some (yY (nth ys x.1))/\w'.cell? (ao b2 (o2+j))=some (yY (nth xs j))) w3:=⟨aq J m.1,aq J m.2.1,aq J m.2.2.1,aq J m.2.2.2.1,aq J m.2.2.2.2⟩;refine H.out _ _ b6 (fun _=>?_);clear H K m;have m:=b6;clear b6;have y:=az (w:=wr.drew) c4.o J;have cj:∃u,w3.cell? (ao G (x.1*c+j))=some u:=⟨_,bq y bl.o⟩;obtain ⟨u3,p3⟩:=cj;have f3:=y.frozenAt (x.1*c+j);obtain ⟨bd,cd⟩:=ab y J;clear y J;refine wpAnyH_take (i:=12) (v:=?_) rfl (by kernel_rfl) (by kernel_rfl) (by kernel_rfl) (fun _ _ _ h=>h) (Or.inl ⟨by rfl,?_⟩) m ?_;rotate_left
    ·intro w9 a;(try dsimp only at a);obtain ⟨P,S,Q,O,R⟩:=a;go_simp;(try with_reducible rfl)
    simp only [yn,yo,yp,Act.put,yq,yr,yt];refine wpAnyH_ready (rs:=[13]) (by kernel_rfl) (by simp) ?_;refine AllReadyH.cons rfl (fun K H=>?_) AllReadyH.nil;simp only [yn,yo,yp];go_simp;refine H.out _ _ ?_ (fun _=>?_)
    ·obtain ⟨P,S,Q,O,R⟩:=m;exact ⟨(World.cell?_setCell_far _ _ _ _ (show G≠w.heap.size by omega)).trans P,(World.cell?_setCell_far _ _ _ _ (show G≠w.heap.size+1 by omega)).trans S,(World.cell?_setCell_far _ _ _ _ (show G≠w.heap.size+1+1 by omega)).trans Q,(World.cell?_setCell_far _ _ _ _ (show G≠b1 by omega)).trans O,(World.cell?_setCell_far _ _ _ _ (show G≠b2 by omega)).trans R⟩
    refine wpAnyH_done (by kernel_rfl) ?_ _;clear m p3 f3 H K
    gi_wp2_with fail
    refine ⟨⟨j+1,by omega,by go_num,?_,?_⟩,by simp [intOf];omega⟩
    ·rw [<-tx x.2 Y];exact cU bd.o _ _
    ·exact Keep.setCell (HK.o.drew.trans (Keep.below cd.o)) (ao G _) (.inr rfl) _
   ·obtain rfl:j=c:=am
    gi_wp2_with fail
    have c5:=bg.o;have bF:=c3.o;have bA:=bs.o;have bD:=HN.o;have c2:Below w.heap.size W wr:=H.toBelow a7.o.size (fun k U=>am);have bp:=(H.block _ (xZ be.o) am).trans be.o;refine ⟨(fT H fun k o U ho=>?_).from _,⟨c2,fun _=>bp.trans be.o.symm⟩,⟨⟨?_,?_,?_,?_,?_,?_,bp⟩,a7.o.trans c2⟩⟩
    ·subst U;exact kT a8.o ho
    ·rw [List.map_append,List.map_singleton,<-tA hc.1];exact a2
    ·exact (H.block _ (xZ H2.o) am).trans H2.o
    ·exact (H.block _ (xZ H3.o) am).trans H3.o
    ·exact (H.block _ (xZ H4.o) am).trans H4.o
    ·exact (H.block _ (xZ H5.o) am).trans H5.o
    ·exact (H.block _ (xZ c6.o) am).trans c6.o
 case done=>
  rintro D zs W hD rfl ⟨⟨E,b0,b9,b4,V,a6,b7⟩,X⟩ H;obtain ⟨⟨n0,n1,n2⟩,nf⟩:=bx3 a6;obtain ⟨⟨m0,m1,m2⟩,mf⟩:=bx3 V
  gi_wp2
  have a9:(List.finRange r).map (·.1)=List.range r:=List.ext_getElem (by simp) (by simp);rw [a9,rv hc.1] at E;have h3:=ki (yY r) (yY c) (.slice (some (ao G 0)) g g) V;have k3:=i9 (w:=W) (b:=w.heap.size+1+1+1) (yY r) (yY c) (.slice (some (ao G 0)) g g);have c5:=bg.o;have bF:=c3.o;have bA:=bs.o;have bD:=HN.o;simp only [ym] at hD;obtain ⟨W3,bV⟩:∃W3,W3=(((W.setCell (ao (w.heap.size+1+1+1) 0) (yY r)).setCell (ao (w.heap.size+1+1+1) 1) (yY c)).setCell (ao (w.heap.size+1+1+1) 2) (.slice (some (ao G 0)) g g)):=⟨_,rfl⟩;rw [<-bV] at h3 k3 ⊢;clear bV;have bh:W3.heap[D]?=some (.deferred (some [])):=(k3.block D (xZ H) am).trans H;refine ⟨by simp,.inl ⟨_,_,rfl,run_takeDeferred bh,?_⟩⟩;have h4:(W3.putObj D (.deferred none)).heap[w.heap.size+1+1+1]?=some (.cells #[yY r,yY c,.slice (some (ao G 0)) g g] 119 (0,0)):=(World.putObj_heap_other am).trans h3;have y:=ownsRow_putObj (k3.own E (fun k U e=>by simp [Value.ownBlock] at U;omega)) (.deferred none) bh rfl;have a0:an w (W3.putObj D (.deferred none)):=(X.trans (k3.toBelow X.size (fun k U=>am))).trans (belowK_b (w:=w) (x4 _) W3 D _ _ am bh rfl rfl);obtain ⟨W4,bB⟩:∃W4,W4=W3.putObj D (.deferred none):=⟨_,rfl⟩;rw [<-bB] at h4 y a0 ⊢;clear bB c5 bF bA bD a9;obtain ⟨⟨q0,q1,q2⟩,qf⟩:=bx3 h4;refine ⟨.agg #[yY r,yY c,.slice (some (ao G 0)) g g],by simp [results,results228,go_sem,q0,q1,q2],_,rfl,y,a0⟩
 case stop=>
  rintro D c bb W _ _ h _;exact h.elim
end Go.Proofs.YthamijnggdjaoaaGreat
namespace Go.Proofs.YthamijnggdjaoaaGreat
open Go.RowKit
open Tryz
theorem lJ {P:Program} {w:N6} {ops:N9} {rest:List Oper} {o:Oper} {a:Na} {Q:Exit->Na->N6->Prop} (l:o.guard=none) (d s:Operand) (u y:N7) (A:o.op=.call {callee:=.builtin .copy,args:=#[d,s],argTypes:=#[u,y]}) (elem:N7) (hu:P.underlying u=some (.slice elem)) (hsz:(P.info? elem).map (·.size)=some 1) (dp sp:N0) (n dCap sCap:Nat) (hd:a.eval d=.slice dp n dCap) (hs:a.eval s=.slice sp n sCap) (g off:Nat) (cur:N5) (t:N7) (hg:w.heap[g]?=some (.cells cur.toArray t (0,0))) (cs:N5) (q:cs.length=n) (hdp:0<n->dp=some (ao g off)) (hr:Rd w sp cs) (hfit:off+cs.length<=cur.length) (h1:∀v∈cs,v.oneCell'=true) (h:∀w',al (w'.heap[g]?=some (.cells (splice cur off cs).toArray t (0,0)))->Keep (fun i=>i=g) w w'->wpList P ops Q rest (a.put o.dst (goInt cs.length)) w'):
  wpList P ops Q (o::rest) a w:=by
 by_cases C:cs.length=0
 ·obtain rfl:cs=[]:=List.eq_nil_of_length_eq_zero C;refine wpList_copy_nothing l d s u y A elem hu hsz dp sp n dCap n sCap hd hs (by simp at q;subst q;rfl) ?_;exact h w (show _=_ by simpa [splice] using hg) (Keep.refl _ _)
 ·obtain rfl:=hdp am
  have D:∃x,sp=some x/\∀j v,cs[j]?=some v->w.cell? (x.add j)=some v:=by
   obtain ⟨b,H,m,_⟩:=hr 0 cs[0] (yC am);refine ⟨_,m,fun j v B=>?_⟩;obtain ⟨F,G,e,hc⟩:=hr j v B;rw [m] at e;injection e with e
   injection e with e1 e2 _
   subst e1;subst e2;rw [Addr.add_lit];exact hc
  obtain ⟨x,rfl,p⟩:=D;refine wpList_copy_own l d s u y A elem hu hsz g off n dCap x n sCap hd hs cur.toArray t hg cs (by rw [q];exact (Nat.min_self n).symm) p (by simpa using hfit) h1 ?_;exact h _ (show _=_ by simpa [splice] using setRow_heap w g _ _ t _ hg) ⟨rfl,rfl,rfl,by simp [World.setRow],fun k E q=>setRow_other w g k _ q⟩
theorem n6 {P:Program} {w:N6} {ops:N9} {F:N4} {o:Oper} {a:Na} {K:Na->N6->Prop} {Q:Exit->Na->N6->Prop} {E:Prop} (d s:Operand) (x A:N7) (y:o.guard=none) (B:o.op=.call {callee:=.builtin .copy,args:=#[d,s],argTypes:=#[x,A]}) (elem:N7) (hu:P.underlying x=some (.slice elem)) (hsz:(P.info? elem).map (·.size)=some 1) (dp sp:N0) (n dCap sCap:Nat) (hd:a.eval d=.slice dp n dCap) (hs:a.eval s=.slice sp n sCap) (g off:Nat) (cur:N5) (t:N7) (hg:w.heap[g]?=some (.cells cur.toArray t (0,0))) (cs:N5) (m:cs.length=n) (hdp:0<n->dp=some (ao g off)) (hr:Rd w sp cs) (hfit:off+cs.length<=cur.length) (h1:∀v∈cs,v.oneCell'=true) (h:∀w',al (w'.heap[g]?=some (.cells (splice cur off cs).toArray t (0,0)))->Keep (fun i=>i=g) w w'->K (a.put o.dst (goInt cs.length)) w'):
  if Region.wanted o (yielded ops F)=true then Oper.wp P o a w K Q else E:=by
 rw [if_pos (by simp [Region.wanted,y])];by_cases C:cs.length=0
 ·obtain rfl:cs=[]:=List.eq_nil_of_length_eq_zero C;have l:=run_copy_none (P:=P) w x A o.type elem dp sp n dCap n sCap hu hsz (by simp at m;subst m;rfl);unfold Oper.wp;simp [execOp,B,resolve,invoke,builtin,hd,hs,l,Result.andThen];exact h w (show _=_ by simpa [splice] using hg) (Keep.refl _ _)
 ·obtain rfl:=hdp am
  have D:∃u,sp=some u/\∀j v,cs[j]?=some v->w.cell? (u.add j)=some v:=by
   obtain ⟨b,L,p,_⟩:=hr 0 cs[0] (yC am);refine ⟨_,p,fun j v G=>?_⟩;obtain ⟨J,I,e,hc⟩:=hr j v G;rw [p] at e;injection e with e
   injection e with e1 e2 _
   subst e1;subst e2;rw [Addr.add_lit];exact hc
  obtain ⟨u,rfl,q⟩:=D;have l:=run_copy_row (P:=P) w x A o.type elem g off n dCap u n sCap cur.toArray t cs hu hsz hg (by rw [m];exact (Nat.min_self n).symm) q (by simpa using hfit) h1;unfold Oper.wp;simp [execOp,B,resolve,invoke,builtin,hd,hs,l,Result.andThen];exact h _ (show _=_ by simpa [splice] using setRow_heap w g _ _ t _ hg) ⟨rfl,rfl,rfl,by simp [World.setRow],fun k H m=>setRow_other w g k _ m⟩
theorem tw {w:N6} {base:Nat} {e:N7} {g n:Nat} {xs:N5} (h:w.ownsRow base e 1 (.slice (some (ao g 0)) n n) n xs):w.heap[g]?=some (.cells xs.toArray e (0,0)):=by
 rcases h.2 with ⟨l,_⟩ | ⟨m,cap,a,i,_,hg,_,_,k,j⟩
 ·cases l
 ·simp only [yM,Option.some.injEq,Addr.mk.injEq,and_true,true_and] at i;obtain ⟨rfl,rfl⟩:=i;rw [Nat.mul_one] at k j
  have:a=xs.toArray:=by
   rw [<-j,List.take_of_length_le (by simp [k])]
  rw [<-this];exact hg
theorem jl (q:IntKind) (a b:N3) (e:Nat):splice (au q a) e (au q b)=au q (splice a e b):=by
 unfold splice;rw [dq,aS,dK,<-aT,<-aT]
theorem fS {w:N6} {g:Nat} {e:N7} {xs:N5} (h:w.heap[g]?=some (.cells xs.toArray e (0,0))):Rd w (some (ao g 0)) xs:=fun k u a=>by
 refine ⟨g,0,rfl,?_⟩;rw [yR,x7 w g k xs.toArray e (0,0) h];simpa using a
theorem ug {w:N6} {base:Nat} {e:N7} {g:Nat} {xs:N5} (h:w.heap[g]?=some (.cells xs.toArray e (0,0))) (a:base<=g) (hm:xs.length<=maxLen):w.ownsRow base e 1 (.slice (some (ao g 0)) xs.length xs.length) xs.length xs:=
 ⟨by simp,.inr ⟨g,xs.length,xs.toArray,rfl,a,h,x4 _,hm,by simp,by simp⟩⟩
theorem lP {o W D:N3} {lo:Nat} (h:lo+W.length+D.length<=o.length):(splice (splice o lo W) (lo+W.length) D).drop lo=W++(D++o.drop (lo+W.length+D.length)):=by
 have a:splice o lo W=(o.take lo++W)++o.drop (lo+W.length):=by unfold splice;rw [yG]
 have l1:(o.take lo++W).length=lo+W.length:=by rw [yA,yF];omega
 have e:(splice o lo W).take (lo+W.length)=o.take lo++W:=by rw [a,<-l1,List.take_left]
 have i:(splice o lo W).drop (lo+W.length+D.length)=o.drop (lo+W.length+D.length):=by
  rw [a,List.drop_append,l1,List.drop_of_length_le (by rw [l1];omega),List.nil_append,List.drop_drop]
  congr 1
  omega
 have g:splice (splice o lo W) (lo+W.length) D=o.take lo++(W++(D++o.drop (lo+W.length+D.length))):=by
  show (splice o lo W).take (lo+W.length)++(D++(splice o lo W).drop (lo+W.length+D.length))=_
  rw [e,i,yG]
 have l2:(o.take lo).length=lo:=by rw [yF];omega
 rw [g]
 conv=>lhs;rw [<-l2]
 rw [l2,List.drop_append_of_le_length (by rw [l2];exact x4 _),List.drop_of_length_le (by rw [l2];exact x4 _),List.nil_append]
def xK (sz ps:N3) (q:Int) (x y:N3) (G:Nat) (k:Nat) (D:Value) (e g w:N6):Prop:=
 ∃A c o,D=.slice A (szN sz (k+1)) c/\w.ownsRow e.heap.size 2 1 (.slice A (szN sz (k+1)) c) (szN sz (k+1)) (au .i64 (cQ sz ps q x y (sz.length-2-k)))/\
  w.heap[G]?=some (.cells (au .i64 o).toArray 2 (0,0))/\o.length=aF sz (sz.length-1)/\o.drop (aF sz (k+1))=iI sz ps q x y (sz.length-2-k)/\(∀a,A=some a->a.block≠G)/\an g w
theorem sY:eH prog 111 2:=⟨⟨_,underlying111,rfl⟩,by kernel_rfl⟩
theorem vF (b:Nat) (sz ps:N3) (q:Int) (A B:N0) (x y:N3) (c d:Nat) (w:N6) (h:dF 109 116 w b sz ps q) (hg:bn sz) (wp:W64 ps) (hA:Rd w A (au .i64 x)) (hx:x.length=szN sz 0) (wx:W64 x) (hB:Rd w B (au .i64 y)) (hy:y.length=szN sz (sz.length-1)):Calls prog 197 #[.pointer (some ⟨b,0,none⟩),.slice A x.length c,.slice B y.length d] w fun e w'=>∃A' c',e=.returned (.tuple #[.slice A' (aF sz (sz.length-1)) c',.bool true])/\w'.ownsRow w.heap.size 2 1 (.slice A' (aF sz (sz.length-1)) c') (aF sz (sz.length-1)) (au .i64 (ea sz ps q x y))/\an w w':=by
 have hm:=qg b sz ps q A B x y c d w h hg wp hA hx wx hB hy;have eq:=h.lt;obtain ⟨S,Ap,cp,Al,cl,b0,h0,h1,h2,h3,h4,h5,h6⟩:=h;have c3:=fun w' (k:an w w')=>eR S sz w' (h1.below k);have cr:=fun w' (k:an w w')=>eQ S sz w' (h1.below k);have dr:=fun j w' (k:an w w')=>gN S sz j w' (h1.below k) (by have:=hg.1.1.2;omega);have d5:=fun j w' (k:an w w')=>iw S sz j w' (h1.below k) (by have:=hg.1.1.2;omega);have fs:=hg.2;have cy:ea sz ps q x y=iI sz ps q x y (sz.length-1):=rfl;obtain ⟨n,hn⟩:∃n,sz.length-1=n:=⟨_,rfl⟩;obtain ⟨N,hN⟩:∃N,aF sz n=N:=⟨_,rfl⟩;have eP:eV (bi sz ps q x n) y=cQ sz ps q x y 0:=by show _=eV _ _;rw [hn]
 rw [hn] at h0 cr dr d5 h4 h6 c3 fs cy hm hy ⊢;rw [hN] at c3 fs ⊢;rw [eP] at hm;have kp:1<=n/\n<=15:=by have:=hg.1.1;omega
 obtain ⟨Hm,hu,hD,gC,hJ,H0,H3,H4⟩:=aj hm c3 cr dr d5 h0 h3 h4;obtain ⟨H5,H6,HG,WP,Hx,WX,Hy,Hn⟩:=aj h5 h6 hg wp hx wx hy hn;obtain ⟨HN,hQ⟩:=ab hN cy;clear hm c3 cr dr d5 h0 h1 h2 h3 h4 h5 h6 hg wp hA hx wx hB hy hn hN cy eP;go_enter func197,ntmps197;go_wp2_with fail;go_step3;go_wp2_with fail;refine Hm.o.mono ?_;rintro e L ⟨A',c',D,dc,j1,rfl,hr,eM,hc,ho,hb⟩;have bA:=(hb.block b eq).trans H0.o;obtain ⟨⟨r0,r1,r2,r3⟩,rf⟩:=bx4 bA;have gs:b<L.heap.size:=xZ bA;have b2:=hb.size;obtain ⟨Hr,h9,Hc,Ho,Hb,ef⟩:=ah hr eM hc ho hb bA;clear hr eM hc ho hb bA;go_wp2_with fail;refine (hu.o _ Hb.o).mono ?_;rintro e w' ⟨rfl,rfl⟩;have ei:(8:Nat)*N<=281474976710656:=am;have id:=aa ei;clear ei;go_wp2_with (at_make;refine kw ik _ rfl (.tmp 31) (.tmp 31) rfl rfl N rfl rfl id.o (by unfold maxLen;omega) ?_);intro w2 gb cx;have bN:=tw gb;rw [dS] at bN;have bD:=(cx.block b gs).trans ef.o;clear r0 r1 r2 r3 rf;obtain ⟨⟨r0,r1,r2,r3⟩,rf⟩:=bx4 bD;have k1:=xZ bD;have kG:=xZ bN;obtain ⟨d0,i5,kf⟩:=ae cx bN bD;clear gb cx bN bD;have cg:(n:Int)-1=((n-1:Nat):Int):=am;have fb:IntKind.i64.wrap ((n:Int)-1)=((n-1:Nat):Int):=by rw [yc _ am];omega
 rw [cg] at fb;go_wp2_with fail;go_step3;go_wp2_with fail;refine (hD.o _ (Hb.o.trans (d0.o.mono b2))).mono ?_;rintro e w' ⟨rfl,rfl⟩;go_wp2_with fail;clear fb cg r0 r1 r2 r3 rf
 go_loopw [9,12] (fun v i wr=>∃k:Nat,k<=n-1/\i=yY k/\xK sz ps q x y L.heap.size k v w L wr) (fun _ i _=>(intOf i).toNat)
 case atStart=>
  have eX:sz.length-2-(n-1)=0:=by have:=Hn.o;omega
  have d7:n-1+1=n:=am;refine ⟨n-1,x4 _,rfl,D,dc,List.replicate N 0,?_,?_,i5.o,?_,?_,?_,d0.o⟩
  ·rw [d7,<-Hy.o]
  ·rw [eX,d7,<-Hy.o];exact az Ho.o d0.o
  ·rw [Hn.o,HN.o];simp
  ·rw [eX,d7,HN.o];simp [iI]
  ·intro a ha e;have:=(Ho.o.lt a.block (by rw [ha];rfl)).2;omega
 case round=>
  obtain ⟨k,hk,rfl,A9,c9,o,rfl,ho,e5,b3,ej,dv,hW⟩:=hrel;have bw:=(hW.block b gs).trans ef.o;obtain ⟨⟨r0,r1,r2,r3⟩,rf⟩:=bx4 bw;have ex:an w wr:=Hb.o.trans (hW.mono b2);have hY:b<wr.heap.size:=xZ bw;obtain ⟨cz,hG,bO,i7,gz,g7,HW,be⟩:=aj bw ho e5 b3 ej dv hW ex;clear bw ho e5 b3 ej dv hW ex;have fa:=gC.o k;have bb:=hJ.o k;obtain ⟨hV,i8⟩:=ab fa bb;clear fa bb;go_wp2_with fail
  go_cut [13,14] (fun v1 v2 wx=>∃M1 M2,v1=.pointer (some ⟨M1,0,none⟩)/\v2=.pointer (some ⟨M2,0,none⟩)/\wx.heap[M1]?=some (.cells #[yY (aF sz k:Int),yY (bI sz k:Int)] 111 (0,0))/\wx.heap[M2]?=some (.cells #[yY (bI sz k:Int),yY (aF sz (k+1):Int)] 111 (0,0))/\wr.heap.size<=M1/\wr.heap.size<=M2/\an wr wx)
  case first=>
   have t0:∀w',an wr w'->w'.cell? ⟨b,0,none⟩=some (.pointer (some ⟨S,0,none⟩)):=fun w' k=>x7 w' b 0 _ _ _ (sb cz.o w' k);have tl:=sl cz.o;have q:an wr wr.drew:=(br wr).drew;clear r0 r1 r2 r3 rf;refine HA.g (fun w':N6=>an wr w') ?_;refine HA.t ?_ [0,1,2,3,4,6,7,8,9,10] q ?_;obtain ⟨U,hU⟩:∃U,wr.drew=U:=⟨_,rfl⟩;rw [hU] at q ⊢;clear hU
   repeat' first
    | (refine HA.three 5 12 13 ?_ ?_ ?_)
    | (refine HA.three 11 12 13 ?_ ?_ ?_)
    | (refine HA.two 5 12 ?_ ?_)
    | (refine HA.two 5 13 ?_ ?_)
    | (refine HA.two 11 12 ?_ ?_)
    | (refine HA.two 11 13 ?_ ?_)
    | (refine HA.two 12 13 ?_ ?_)
    | (refine HA.sole 5 ?_)
    | (refine HA.sole 11 ?_)
    | (refine HA.sole 12 ?_)
    | (refine HA.sole 13 ?_)
    | (refine HAS.c (i:=5) (hV.o U (be.o.trans (q.mono be.o.size)) am) ?_;rintro e V ⟨rfl,kV⟩;(try replace gA:=sb gA _ kV);(try replace gB:=sb gB _ kV);replace q:=q.trans (kV.mono q.size);refine ⟨_,rfl,q,fun _=>?_⟩;clear kV;obtain ⟨U,rfl⟩:∃U,U=V:=⟨_,rfl⟩)
    | (refine HAS.c (i:=11) (i8.o U (be.o.trans (q.mono be.o.size)) am) ?_;rintro e V ⟨rfl,kV⟩;(try replace gA:=sb gA _ kV);(try replace gB:=sb gB _ kV);replace q:=q.trans (kV.mono q.size);refine ⟨_,rfl,q,fun _=>?_⟩;clear kV;obtain ⟨U,rfl⟩:∃U,U=V:=⟨_,rfl⟩)
    | (have hA:=q.size;have bV:=(br U).alloc (x4 _) (.cells #[yY 0,yY 0] 111);have gA:=x6 U (.cells #[yY 0,yY 0] 111);(try have nB:=xZ gB);(try replace gB:=sb gB _ bV);replace q:=q.alloc q.size (.cells #[yY 0,yY 0] 111);refine HAS.v (i:=12) (U.alloc (.cells #[yY 0,yY 0] 111)) (.pointer (some ⟨U.heap.size,0,none⟩)) q ?_;obtain ⟨V,hv⟩:∃V,U.alloc (.cells #[yY 0,yY 0] 111)=V:=⟨_,rfl⟩;rw [hv] at gA q ⊢;(try rw [hv] at gB);clear hv bV;obtain ⟨mm,hm⟩:∃mm,U.heap.size=mm:=⟨_,rfl⟩;rw [hm] at gA hA ⊢;(try rw [hm] at nB);clear hm;obtain ⟨U,rfl⟩:∃U,U=V:=⟨_,rfl⟩)
    | (have hB:=q.size;have bV:=(br U).alloc (x4 _) (.cells #[yY 0,yY 0] 111);have gB:=x6 U (.cells #[yY 0,yY 0] 111);(try have nA:=xZ gA);(try replace gA:=sb gA _ bV);replace q:=q.alloc q.size (.cells #[yY 0,yY 0] 111);refine HAS.v (i:=13) (U.alloc (.cells #[yY 0,yY 0] 111)) (.pointer (some ⟨U.heap.size,0,none⟩)) q ?_;obtain ⟨V,hv⟩:∃V,U.alloc (.cells #[yY 0,yY 0] 111)=V:=⟨_,rfl⟩;rw [hv] at gB q ⊢;(try rw [hv] at gA);clear hv bV;obtain ⟨mm,hm⟩:∃mm,U.heap.size=mm:=⟨_,rfl⟩;rw [hm] at gB hB ⊢;(try rw [hm] at nA);clear hm;obtain ⟨U,rfl⟩:∃U,U=V:=⟨_,rfl⟩)
    | (refine HA.st 14 gA sY (fun w8 e8 k8=>?_);refine ⟨uI q k8 q.size hA,?_⟩;refine HA.st 15 ((k8.block _ (xZ gB) am).trans gB) sY (fun w9 e9 k9=>?_);have F:=vk (w:=wr) am hA hB q e8 k8 e9 k9;refine ⟨F.2.2.2.2.2,HA.d ?_⟩;have HF:=aa F;clear F e8 k8 e9 k9 t0 tl gA gB q;go_wp2_with fail;go_meet;exact ⟨_,_,rfl,rfl,HF.o.1,HF.o.2.1,HF.o.2.2.2⟩)
  case rest=>
   obtain ⟨M1,M2,rfl,rfl,a6,bB,kk,l7,hB⟩:=hcut;have hR:=HG.o.1;have f5:=Hn.o;have f3:k+1<sz.length:=am;have z0:=hR.at (k:=k) am;have z1:=hR.at f3;have cc:=HG.o.mul f3;have e7:1<=szN sz (k+1)*szN sz k:=Nat.mul_pos z1.1 z0.1;have T:bI sz k=aF sz k+szN sz (k+1)*szN sz k:=rfl;have M:=cR sz k;have O:=cW sz (show k+1<=n by omega);have fr:=HN.o;have d4:sz.length-2-k=n-1-k:=am;have a4:=eD (sz:=sz) (ps:=ps) (q:=q) (x:=x) (y:=y) Hx.o (n-1-k);rw [show sz.length-1-(n-1-k)=k+1 by omega] at a4;have bF:=iL sz ps q x y (n-1-k);have a3:=cw (sz:=sz) (ps:=ps) (q:=q) Hx.o k;have c6:=ir (sz:=sz) (ps:=ps) (q:=q) WX.o k;obtain ⟨Ak,ck,bG,hp,c1⟩:=h9.o.2 k am;rw [a3] at bG;obtain ⟨bo,oo,rfl,pv⟩:=Hr.o _ _ bG;have hT:bo<L.heap.size:=aw pv;have c2:an L wc:=HW.o.trans (hB.mono HW.o.size);have d2:=(c2.cell (p:=⟨bo,oo+k,none⟩) hT).trans pv;have bC:=(hB.block b hY).trans cz.o;have cA:=(hB.block L.heap.size (xZ bO.o)).trans bO.o;have a8:=az hG.o hB;rw [d4] at a8;have bm:=c1.below c2;obtain ⟨lo,cs⟩:∃lo,aF sz k=lo:=⟨_,rfl⟩;obtain ⟨r,hr⟩:∃r,szN sz (k+1)=r:=⟨_,rfl⟩;obtain ⟨I,b6⟩:∃I,szN sz k=I:=⟨_,rfl⟩;obtain ⟨u,Q⟩:∃u,r*I=u:=⟨_,rfl⟩;rw [<-M,T] at bB;rw [T] at a6;rw [<-M,T] at O;rw [cs,hr,b6,Q] at a6 bB O;rw [hr] at a4 z1 a8;rw [b6] at a3 z0 d2;rw [hr,b6,Q] at e7 cc;rw [hr];obtain ⟨X,dm⟩:∃X,cQ sz ps q x y (n-1-k)=X:=⟨_,rfl⟩;obtain ⟨vv,d3⟩:∃vv,bi sz ps q x k=vv:=⟨_,rfl⟩;rw [dm] at a4 bF a8;rw [d3] at a3 c6 bm c1;have gy:=aa c1;have bp:=fun W (h:an wc W)=>rr r I A9 Ak X vv c9 ck q W ⟨z1.1,z1.2.1⟩ ⟨z0.1,z0.2.1⟩ (by rw [Q];exact cc) ((Rd.own a8).below h) bF a4 (bm.below h) a3 c6;rw [Q] at bp;have d1:(fG r I X vv q).length=u:=by rw [oS,Q]
   obtain ⟨ow,cv⟩:∃ow,fG r I X vv q=ow:=⟨_,rfl⟩;rw [cv] at bp d1;obtain ⟨⟨m0,m1⟩,mf⟩:=bx2 a6;obtain ⟨⟨n0,n1,n2,n3⟩,nf⟩:=bx4 bC;have k7:=xZ a6;have i3:L.heap.size<wc.heap.size:=xZ cA;have k4:b<wc.heap.size:=xZ bC;have it:bo<wc.heap.size:=am;have cb:M1≠L.heap.size:=by have:=HW.o.size;have:=xZ bO.o;omega
   have f0:M2≠L.heap.size:=by have:=HW.o.size;have:=xZ bO.o;omega
   have b3:o.length=N:=by rw [i7.o,f5,fr]
   have gU:lo+u+r<=N:=am;have k2:k<sz.length:=am;have kz:¬(N=lo):=am;have l1:lo+u<=N:=am;have ka:(lo:Int)+u<=N:=am;have kb:((lo:Int)+u).toNat=lo+u:=am;have l8:(0:Int)<=(lo:Int)+u:=am;have kE:(lo:Int)<=(lo:Int)+u:=am;obtain ⟨l9,bz,l2,he,hC,hZ,a7,i4⟩:=aj a6 bB bC cA a8 bp d1 cv;obtain ⟨f9,gd,gm,a2,J,bc,hs,HB⟩:=aj dm d3 cs hr b6 Q c2 hB;obtain ⟨H,kD,hS,WV,a1,gx,hq,k3⟩:=aj b3 bm a3 c6 a4 bF d4 bG;clear a6 bB bC cA a8 bp d1 cv dm d3 cs hr b6 Q c2 hB b3 bm a3 c6 a4 bF d4 bG hp c1 pv T M O fr f5 n0 n1 n3 nf mf;go_wp2_with fail;have m:(fun w':N6=>w'.cell? ⟨M1,0,none⟩=some (yY lo)/\w'.cell? ⟨M1,1,none⟩=some (yY ((lo:Int)+u))/\w'.cell? ⟨bo,oo+k,none⟩=some (.slice Ak I ck)/\w'.cell? ⟨b,2,none⟩=some (yY q)) wc.drew:=⟨m0,m1,d2,n2⟩;refine HA.g (fun w':N6=>w'.cell? ⟨M1,0,none⟩=some (yY lo)/\w'.cell? ⟨M1,1,none⟩=some (yY ((lo:Int)+u))/\w'.cell? ⟨bo,oo+k,none⟩=some (.slice Ak I ck)/\w'.cell? ⟨b,2,none⟩=some (yY q)) ?_;refine HA.t ?_ [0,1,2,3,4,5,6,7,8,9,10,11,12,13,14] m ?_;refine HA.o 15 (fun K hK=>?_);go_simp;refine (hZ.o _ ((ya wc.heap.size wc).drew)).mono ?_;rintro e w5 ⟨A5,rfl,bd,a5⟩;have fn:=yg (aq a5 m.1) (yg (aq a5 m.2.1) (yg (aq a5 m.2.2.1) (aq a5 m.2.2.2)));have ad:an wc w5:=(ya wc.heap.size wc).drew.trans a5;have dG:=(ad.block _ i3).trans he.o;have bd:=Rd.own bd;obtain ⟨gw,hf,a0⟩:=ae dG bd ad;clear dG bd a5 ad m;dsimp only;refine hK.out _ _ fn (fun m=>?_);clear hK K fn;refine HA.o 16 (fun K hK=>?_);go_simp;refine hK.out _ _ m (fun m=>?_);clear hK K;refine HA.o 17 (fun K hK=>?_);refine n6 (.tmp 58) (.tmp 69) 60 60 rfl rfl 2 underlying60 (by kernel_rfl) (some ⟨L.heap.size,lo,none⟩) A5 u (N-lo) u rfl rfl L.heap.size lo (au .i64 o) 2 gw.o (au .i64 ow) (by rw [aS,a7.o]) (fun _=>rfl) hf.o (by rw [aS,aS,a7.o,H.o];omega) (aV _ _) ?_;intro w6 ds P;rw [jl] at ds;have gp:=yg (P.cell m.1 (by exact cb)) (yg (P.cell m.2.1 (by exact cb)) (yg (P.cell m.2.2.1 (show bo≠_ by omega)) (P.cell m.2.2.2 (show b≠_ by omega))));have Y:=(P.block M2 (xZ ((a0.o.block _ (xZ bz.o)).trans bz.o)) f0).trans ((a0.o.block _ (xZ bz.o)).trans bz.o);obtain ⟨gv,dp⟩:=ab ds P;clear ds P m;dsimp only;refine hK.out _ _ gp (fun m=>?_);clear hK K gp;refine HA.d ?_
   have gk:w6.ownsRow w.heap.size 2 1 (.slice A9 r c9) r (au .i64 X):=dp.o.own (az hC.o a0.o) (fun i hi e=>by
    cases A9 with
    | none=>cases hi
    | some a=>simp [Value.ownBlock] at hi;exact g7.o a rfl (hi.trans e))
   have dT:=m.2.2.2;have f2:=m.2.2.1;obtain ⟨⟨hM,gV⟩,i0⟩:=bx2 Y;have j2:=xZ Y;obtain ⟨fc,k0⟩:=ab gk Y;clear gk Y m m0 m1 d2 n2;have kA:¬(N=lo+u):=am;have k5:lo+u+r<=N:=am;have k6:(lo:Int)+u+r<=N:=am;have kZ:((lo:Int)+u+r).toNat=lo+u+r:=am;have l3:(0:Int)<=(lo:Int)+u+r:=am;have l0:(lo:Int)+u<=(lo:Int)+u+r:=am;have hF:=aa (show (au .i64 X).length=r by rw [aS,a1.o]);obtain ⟨h7,hX⟩:=ab (show lo+u+(au .i64 X).length<=(au .i64 (splice o lo ow)).length by rw [aS,aS,a1.o,length_splice _ _ _ (by rw [a7.o,H.o];omega),H.o];omega) (show (prog.info? 2).map (·.size)=some 1 by kernel_rfl);go_wp2_with (refine lJ rfl (.tmp 76) (.tmp 77) 60 60 rfl 2 underlying60 hX.o (some ⟨L.heap.size,lo+u,none⟩) A9 r (N-(lo+u)) c9 rfl rfl L.heap.size (lo+u) (au .i64 (splice o lo ow)) 2 gv.o (au .i64 X) hF.o (fun _=>rfl) (Rd.own fc.o) h7.o (aV _ _) ?_);intro w7 bs b7;rw [jl] at bs;obtain ⟨o7,bM⟩:∃o7,splice (splice o lo ow) (lo+u) X=o7:=⟨_,rfl⟩
   have eZ:o7.length=N:=by
    have h1:(splice o lo ow).length=N:=by rw [length_splice _ _ _ (by rw [a7.o,H.o];omega),H.o]
    rw [<-bM,length_splice _ _ _ (by rw [h1,a1.o];omega),h1]
   have f6:o7.drop (aF sz k)=iI sz ps q x y (n-k):=by
    have e1:=Hn.o;have e2:=lP (o:=o) (W:=ow) (D:=X) (lo:=lo) (by rw [a7.o,a1.o,H.o];exact gU);rw [a7.o,a1.o,bM] at e2;rw [gm.o,e2,show n-k=(n-1-k)+1 by omega]
    have e3:aF sz (k+1)=lo+u+r:=by
     rw [<-cR sz k,show bI sz k=aF sz k+szN sz (k+1)*szN sz k from rfl,gm.o,a2.o,J.o,bc.o]
    have e4:=gz.o;rw [e3,hq.o] at e4;rw [iI,show sz.length-1-(n-1-k)=k+1 by omega,show sz.length-2-(n-1-k)=k by omega,a2.o,J.o,f9.o,gd.o,i4.o,<-e4]
   have ce:an L w7:=hs.o.trans (((a0.o.mono am).trans (dp.o.toBelow (by have:=a0.o.size;omega) (fun i hi=>am))).trans (b7.toBelow (by have:=dp.o.size;have:=a0.o.size;omega) (fun i hi=>am)));rw [bM] at bs
   have f8:=b7.own fc.o (fun i hi e=>by
    cases A9 with
    | none=>cases hi
    | some a=>simp [Value.ownBlock] at hi;exact g7.o a rfl (hi.trans e))
   have gF:=b7.cell dT (show b≠_ by omega);have ee:=b7.cell f2 (show bo≠_ by omega);obtain ⟨co,dk,g6,R,i6⟩:=ag bs eZ f6 ce f8;clear bs eZ f6 ce f8 bM b7 dT f2 hM gV i0;by_cases da:k=0
   ·have cm:((k:Int)==0)=true:=by simp [da]
    have cd:w7.ownsRow w.heap.size 2 1 (.slice (some ⟨L.heap.size,0,none⟩) N N) N (au .i64 (ea sz ps q x y)):=by
     have e1:=g6.o;rw [da] at e1;have e2:o7=ea sz ps q x y:=by rw [hQ.o,<-Nat.sub_zero n,<-e1];rfl
     have e3:=ug (base:=w.heap.size) (xs:=au .i64 o7) (by exact co.o) b2 (by rw [aS,dk.o];unfold maxLen;omega);rw [aS,dk.o] at e3;rw [<-e2];exact e3
    have go:=aa cd;clear cd da;have G:=Hb.o.trans (R.o.mono b2);have ga:=aa G;clear G;go_wp2_with fail
    try rw [Exit.noGoto_ret]
    go_ret2;exact ⟨_,_,rfl,go.o,ga.o⟩
   ·have cm:((k:Int)==0)=false:=by simp;omega
    obtain ⟨gl,ol,dl,Bl,el,g9,hd,gf,hH⟩:=H6.o k am;have av:k<b0.length:=by rw [H4.o];omega
    have c5:∀t,t<4->(List.flatten b0)[k*4+t]?=(aK b0 k)[t]?:=fun t ht=>fX H5.o k t av ht;have e0:=c5 0 am;have e1:=c5 1 am;have e2:=c5 2 am;rw [g9] at e0 e1 e2;simp only [Nat.add_zero,yx,yw] at e0 e1 e2;obtain ⟨bl,ob,h8,q0⟩:=H3.o _ _ e0;obtain ⟨_,_,b9,q1⟩:=H3.o _ _ e1;obtain ⟨_,_,a9,q2⟩:=H3.o _ _ e2;subst h8;injection b9 with b9;injection b9 with i1 i2 _;subst i1;subst i2
    injection a9 with a9;injection a9 with i1 i2 _;subst i1;subst i2
    have d6:bl<w.heap.size:=aw q0;have G:=Hb.o.trans (R.o.mono b2);have d9:=(G.cell (p:=⟨bl,ob+k*4,none⟩) d6).trans q0;have bg:=(G.cell (p:=⟨bl,ob+(k*4+1),none⟩) d6).trans q1;have c4:=(G.cell (p:=⟨bl,ob+(k*4+2),none⟩) d6).trans q2;rw [<-yQ] at bg c4;rw [a2.o] at d9;rw [J.o] at bg;rw [a2.o,J.o,bc.o] at c4 hd;have eY:=(G.block b eq).trans H0.o;obtain ⟨⟨n0,n1,n2,n3⟩,nf⟩:=bx4 eY;have b5:=nT sz ps k;rw [a2.o,J.o,bc.o] at b5;have bb:=rF r I gl ol u dl (wL sz ps k) A9 X c9 q w7.drew ⟨z1.1,z1.2.1⟩ ⟨z0.1,z0.2.1⟩ bc.o.symm hd am b5 ((gf.below G).drewN 1) (ss WP.o sz k) ((Rd.own i6.o).drewN 1) a1.o gx.o;have kS:k<n:=am;obtain ⟨hO,ga⟩:=ab bb G;clear bb G eY b5 gf hH g9 e0 e1 e2 q0 q1 q2 c5 av hd;go_wp2_with fail
    go_region_held3 (fun w'=>w'.cell? ⟨b,3,none⟩=some (.slice (some ⟨bl,ob,none⟩) n cl)/\w'.cell? ⟨bl,ob+k*4,none⟩=some (yY r)/\w'.cell? ⟨bl,ob+k*4+1,none⟩=some (yY I)/\w'.cell? ⟨bl,ob+k*4+2,none⟩=some (.slice (some ⟨gl,ol,none⟩) u dl)/\w'.cell? ⟨b,2,none⟩=some (yY q)) (simp [go_sem, *])
     ((go_at_call 229;refine hO.o.mono ?_;rintro e w8 ⟨A8,c8,rfl,Z,E⟩;have g0:=aq E n3;have g1:=aq E d9;have g2:=aq E bg;have g3:=aq E c4;have g4:=aq E n2;have g5:=aq E ee;obtain ⟨hI,gO⟩:=ab Z E;clear Z E))
    go_wp2_with fail;have b1:=ja (wL sz ps k) r I X q;obtain ⟨bk,b8⟩:∃bk,gR (wL sz ps k) r I X q=bk:=⟨_,rfl⟩;have Z:=aA (base':=w7.heap.size) hI.o (by simp);rw [b8] at b1 Z;obtain ⟨cj,f7,gr⟩:=ae b1 Z b8;have E:=(ya w7.heap.size w7).drew.trans gO.o;have hh:=aa E;clear b1 Z b8 E g0 g1 g2 g3 g4 g5 n0 n1 n2 n3 nf ee d9 bg c4 gF cm
    go_loopw [103] (fun i wx=>∃j:Nat,j<=I/\i=yY j/\wx.ownsRow w7.heap.size 2 1 (.slice A8 I c8) I (au .i64 (eU bk j (fun i=>if 0<nth vv i then nth bk i else 0)))/\an w7 wx) (fun i _=>I-(intOf i).toNat)
    ·exact ⟨0,yb _,rfl,by rw [dL];exact f7.o,hh.o⟩
    case round=>
     obtain ⟨j,hj,rfl,C,b4⟩:=hrel;by_cases ct:j<I
     ·obtain ⟨g8,d8,ez,im,_⟩:=C.form am;simp only [yM] at ez;obtain ⟨rfl,hz,rfl⟩:=ez;clear hz;have dh:j<bk.length:=by rw [cj.o];exact ct
      have p1:=bq C ct;rw [dt _ dh,if_neg am] at p1;have f1:=C.frozenAt j;have e6:=et (l:=bk) (k:=j) (fun i=>if 0<nth vv i then nth bk i else 0) dh;obtain ⟨bv,ov,rfl,l6⟩:=((gy.o.below R.o).below b4).num (show j<vv.length by rw [hS.o];exact ct);obtain ⟨HO,bh,hL⟩:=ae C b4 e6;clear C b4 e6 dh;go_wp2_with fail;refine (uf _ _ _).mono ?_;rintro e w9 ⟨rfl,rfl⟩;go_wp2_with fail;go_roundw
      ·exact ⟨j+1,by omega,by go_num,by rw [<-hL.o];exact cU HO.o j _,bh.o.setCell (p:=⟨g8,j,none⟩) im _⟩
      ·simp [intOf];omega
     ·obtain rfl:j=I:=am;obtain ⟨HO,bh⟩:=ab C b4;clear C b4;have f4:IntKind.i64.wrap ((k:Int)-1)=((k-1:Nat):Int):=by rw [yc _ am];omega
      have c7:(k:Int)-1=((k-1:Nat):Int):=am;rw [c7] at f4;go_wp2_with fail;clear f4 c7;go_roundw
      case rel=>
       have ek:k-1+1=k:=am;have en:=Hn.o;have hE:L.heap.size<w7.heap.size:=xZ co.o
       have ih:cQ sz ps q x y (sz.length-2-(k-1))=eU bk j (fun i=>if 0<nth vv i then nth bk i else 0):=by
        rw [show sz.length-2-(k-1)=(n-1-k)+1 by omega,cQ,show sz.length-2-(n-1-k)=k by omega,show sz.length-1-(n-1-k)=k+1 by omega,f9.o,gd.o,a2.o,J.o,gr.o];rw [<-cj.o,eu];rfl
       refine ⟨k-1,by omega,rfl,A8,c8,o7,?_,?_,?_,?_,?_,?_,?_⟩
       ·rw [ek,J.o]
       ·rw [ek,J.o,ih];exact aA HO.o am
       ·exact (bh.o.block _ hE).trans co.o
       ·rw [dk.o,en,HN.o]
       ·rw [ek,g6.o,show sz.length-2-(k-1)=n-k by omega]
       ·intro a ha e9;have:=(HO.o.lt a.block (by rw [ha];rfl)).1;omega
       ·exact R.o.trans (bh.o.mono am)
      case measure=>simp [intOf];omega
theorem xc (X g base C n c:Nat) (i:Inp) (P s:N3) (R W:N0) (S T:Nat) (x:Ex) (w:N6) (hg:bQ i) (wP:W64 P) (U:cG (inN i) (kt i) x) (hN:dF 109 116 w C i.cfg.sizes P i.cfg.shift) (Z:aP w R x.1 S) (r2:aP w W x.2 T) (Q:w.heap[X]?=some (.cells #[.slice (some (ao g 0)) n c] 60 (0,0))) (V:w.ownsRow base 2 1 (.slice (some (ao g 0)) n c) n (au .i64 s)) (hn:n=cnt i):Calls prog 196 #[(ap C),.agg #[.slice R x.1.length S,.slice W x.2.length T],(ap X)] w fun e w'=>e=.returned (.tuple #[])/\w'.heap[X]?=some (.cells #[.slice (some (ao g 0)) n c] 60 (0,0))/\
   w'.ownsRow base 2 1 (.slice (some (ao g 0)) n c) n (au .i64 (eK s (ea i.cfg.sizes P i.cfg.shift x.1 x.2)))/\Keep (fun j=>j=g) w w':=by
 have l:=fun w' (q:an w w')=>vF C i.cfg.sizes P i.cfg.shift R W x.1 x.2 S T w' (hN.below q) hg.c.z wP (Z.hr.below q) U.1 Z.hw (r2.hr.below q) U.2;have B:aF i.cfg.sizes (i.cfg.sizes.length-1)=n:=hn.symm;have Y:=hg.c.z.bound (k:=i.cfg.sizes.length-1) (by have:=hg.c.z.1.1;omega);rw [B] at l Y;have u:=ll (sz:=i.cfg.sizes) (ps:=P) (q:=i.cfg.shift) (x:=x.1) (y:=x.2) U.1 (by have:=hg.c.z.1.1;omega);rw [B] at u;obtain ⟨gv,N⟩:∃gv,ea i.cfg.sizes P i.cfg.shift x.1 x.2=gv:=⟨_,rfl⟩;rw [N] at l u ⊢;obtain ⟨n1,F⟩:∃n1,x.1.length=n1:=⟨_,rfl⟩;obtain ⟨n2,K⟩:∃n2,x.2.length=n2:=⟨_,rfl⟩;rw [F,K] at l ⊢;have G:X≠g:=fun e=>ar Q (by decide) V (by rw [e];rfl);have av:=V.lt g rfl;have a0:=xZ Q;obtain ⟨ad,HX,Hs,a1,a8⟩:=ag l Q V u G;clear l Q V u G N F K B hn hN Z r2 U hg wP;go_enter func196,ntmps196;go_wp2_with fail;refine (ad.o _ ?_).mono ?_
 ·exact ak
 rintro e w1 ⟨A,d,rfl,ho,L⟩;have m:an w w1:=((ya _ w).alloc (x4 _) _).trans (L.mono (by simp));have p:=(m.block _ a0).trans HX.o;have I:=az Hs.o m;have H:=fq ho;have b0:=(yd (show w.heap.size<=(w.alloc (.cells #[.slice R n1 S,.slice W n2 T] 67)).heap.size by simp) (x4 _));obtain ⟨y0,yf⟩:=bx1 p
 have M:=mr base (some (ao g 0)) A s gv n c d w1 I (Rd.own ho) a1.o am (fun a b' ha a6=>by
  injection ha with ha
  subst ha;have:=(H b' a6).1;simp at this ⊢
  omega)
 have E:=xZ p;obtain ⟨a5,a4,a9⟩:=ae p m M;clear p m L I ho M H;go_wp2_with fail;refine a9.o.mono ?_;rintro e w2 ⟨rfl,J,v⟩
 have D:=(v.block _ E (fun e=>by
  have h1:g=X:=by simpa [Value.ownBlock] using e
  exact a8.o h1.symm)).trans a5.o
 have O:Keep (fun j=>j=g) w w2:=(Keep.below a4.o).trans (v.mono (fun j _ h=>by
  have h1:g=j:=by simpa [Value.ownBlock] using h
  exact h1.symm))
 obtain ⟨a2,a3,a7⟩:=ae D J O;clear D J O v y0 yf;go_wp2_with fail
 go_end0
 exact ⟨rfl,a2.o,a3.o,a7.o⟩
def mt (i:Inp) (P a:N3) (n:Nat) (w:N6) (e:Ending) (w':N6):Prop:=an w w'/\ ((de i a/\∃A c,e=.returned (.tuple #[.slice A n c,.bool true])/\n<=c/\w'.ownsRow w.heap.size 2 1 (.slice A n c) n (au .i64 (bj i P (bf i.data a))))\/(¬de i a/\e=.returned (.tuple #[yZ,.bool false])))
theorem ks (b k d:Nat) (B:N0) (i:Inp) (P M a:N3) (w:N6) (h:cL w b i P M k) (hg:bQ i) (wP:W64 P) (hB:Rd w B (au .i64 a)) (a2:a.length<=1048576):Calls prog 151 #[(ap b),.slice B a.length d] w (mt i P a (cnt i) w):=by
 have R:cnt i<=1048576:=hg.c.z.bound (k:=i.cfg.sizes.length-1) (by have:=hg.c.z.1.1;omega);have av:=jz hg.c.z;have H:=kC b k i P M w h R;have bc:=h.lt;have a4:∀args w,(callFunc 196 args).run prog w=.ok (.enter 196 args) w:=enters_of func196 (by kernel_rfl) rfl
 have l:=fun (X p base n c:Nat) (w':N6) (q:an w w') (F:n=cnt i) (T:p<w'.heap.size) (ad:b<p) (K:w'.heap[X]?=some (.cells #[.slice (some (ao p 0)) n c] 60 (0,0))) (hs:w'.ownsRow base 2 1 (.slice (some (ao p 0)) n c) n (au .i64 (List.replicate (cnt i) 0)))=>
  uu 196 X b k d B i P M a (fun j=>j=p) (fun j v=>(v.heap[X]?=some (.cells #[.slice (some (ao p 0)) n c] 60 (0,0))/\v.ownsRow base 2 1 (.slice (some (ao p 0)) n c) n (au .i64 (bj i P ((bf i.data a).take j))))/\True) w' a4 (h.below q) hg (hB.below q) a2
   (fun j G=>am) (fun j G=>am) (fun j v v' G hb=>⟨⟨(hb.block _ (xZ G.1.1)).trans G.1.1,az G.1.2 hb⟩,trivial⟩) ⟨⟨K,hs⟩,trivial⟩
 have a8:∀(X p base n c:Nat),n=cnt i->∀j x C L N Q O w',(∀k,k<a.length->cu i.data.length (nth a k))->j<a.length->(bf i.data a)[j]?=some x->dF 109 116 w' C i.cfg.sizes P i.cfg.shift->aP w' L x.1 N->aP w' Q x.2 O->
   ((w'.heap[X]?=some (.cells #[.slice (some (ao p 0)) n c] 60 (0,0))/\w'.ownsRow base 2 1 (.slice (some (ao p 0)) n c) n (au .i64 (bj i P ((bf i.data a).take j))))/\True)->
   Calls prog 196 #[(ap C),.agg #[.slice L x.1.length N,.slice Q x.2.length O],(ap X)] w' fun e D=>e=.returned (.tuple #[])/\((D.heap[X]?=some (.cells #[.slice (some (ao p 0)) n c] 60 (0,0))/\D.ownsRow base 2 1 (.slice (some (ao p 0)) n c) n (au .i64 (bj i P ((bf i.data a).take (j+1)))))/\True)/\Keep (fun j=>j=p) w' D:=by
  intro X p base n c F j x C L N Q O w' g G hx hN r1 r2 hJ
  have b1:(bf i.data a).take (j+1)=(bf i.data a).take j++[x]:=by
   rw [List.take_add_one,hx];rfl
  refine (xc X p base C n c i P _ L Q N O x w' hg wP (tr hg g G hx) hN r1 r2 hJ.1.1 hJ.1.2 F).mono ?_;rintro e D ⟨rfl,h1,h2,h3⟩;exact ⟨rfl,⟨⟨h1,by rw [b1,iJ];exact h2⟩,trivial⟩,h3⟩
 have l:=fun X p base n c w' q F T ad K hs=>l X p base n c w' q F T ad K hs (a8 X p base n c F);have y:(bf i.data a).take a.length=bf i.data a:=List.take_of_length_le (by rw [fp];exact x4 _);unfold pH at l;unfold mt jA at *;unfold de;dsimp only at l;rw [y] at l;obtain ⟨n,F⟩:∃n,cnt i=n:=⟨_,rfl⟩;rw [F] at H l R av ⊢;have J:=fun w'=>jM ik w' rfl n am (by unfold maxLen;omega);simp only [dS] at J;obtain ⟨m,hm⟩:∃m,a.length=m:=⟨_,rfl⟩;rw [hm] at l ⊢;obtain ⟨b0,b5,b7⟩:=ae H l J;clear H l J F hm a8 y a4 h hB hg wP a2;go_enter func151,ntmps151;go_wp2_with fail;refine b0.o.mono ?_;rintro e E ⟨L,N,Q,O,rfl,b9,b4,b3,b8,a5,a7⟩;obtain ⟨V,a0,Y,W⟩:=b7.o E;obtain ⟨u,a1,b6⟩:=ae a7 Y W;have bb:=xL L Q n N n O E;clear a5 b3 b8 b9 b4 a7 Y W;go_wp2_with fail;clear a0 bb;have bd:E.heap.size<V.heap.size:=(a1.o.lt E.heap.size rfl).2;have K:=x6 V (.cells #[.slice (some (ao E.heap.size 0)) n n] 60);have I:an w (V.alloc (.cells #[.slice (some (ao E.heap.size 0)) n n] 60)):=(u.o.trans (b6.o.mono u.o.size)).alloc (by have:=u.o.size;omega) _;have he:=b5.o V.heap.size E.heap.size E.heap.size n n _ I rfl (by simp;omega) (by have:=u.o.size;omega) K (a1.o.alloc _);obtain ⟨He,Z⟩:=ab he I;clear he K I;refine He.o.mono ?_;rintro e w3 ⟨a3,h3⟩;have a9:=Z.o.trans (a3.toBelow Z.o.size (fun j G=>by have:=u.o.size;omega));have U:=aa a9;clear a9 a3;rcases h3 with ⟨g,rfl,⟨a6,S⟩,_⟩ | ⟨g,rfl,_⟩
 ·skip
  obtain ⟨x0,xf⟩:=bx1 a6;obtain ⟨A,b2⟩:=ab g (aA (base':=w.heap.size) S u.o.size);clear g a6 S;go_wp2_with fail;go_ret2;exact ⟨U.o,.inl ⟨A.o,_,_,rfl,x4 _,b2.o⟩⟩
 ·have A:=aa g;clear g;go_wp2_with fail;go_ret2;exact ⟨U.o,.inr ⟨A.o,rfl⟩⟩
theorem sM (b k:Nat) (i:Inp) (P M:N3) (w:N6) (h:cL w b i P M k) (v:i.cfg.steps.toNat<=k):Calls prog 115 #[(ap b)] w fun e w'=>e=.returned (.bool false)/\∃d,w'=w.drewN d:=by
 obtain ⟨V,F,E,T,S,G,U,R,J,m,y,p,n,x,l,A⟩:=h;have a:=fun w' (q:an w w')=>gX S i.data.length i.cfg.batch.toNat i.cfg.steps.toNat i.draws w' (n.below (l.trans (q.mono l.size)));obtain ⟨sn,g⟩:∃sn,i.cfg.steps.toNat=sn:=⟨_,rfl⟩;rw [g] at a v;obtain ⟨⟨L,D,Q,C,I,O,H,K,W⟩,N⟩:=bx9 m;have u:(sn:Int)<=k:=am;have j:=aa a;clear m y p n x l A a g;go_enter func115,ntmps115;go_wp2_with fail
 go_quiet ((go_at_call 150;refine Calls.quiet_of ((j.o _ ?_).mono fun e w' ⟨B,hw⟩=>⟨B,0,hw.symm⟩);exact ak))
 go_wp2_with fail;go_ret;exact ⟨rfl,_,rfl⟩
theorem sO (b k:Nat) (i:Inp) (P M:N3) (w:N6) (h:cL w b i P M k) (hg:bQ i) (hk:k<i.cfg.steps.toNat) (bA: -9223372036854775808<=i.cfg.rate/\i.cfg.rate<=9223372036854775807) (b3: -9223372036854775808<=i.cfg.mom/\i.cfg.mom<=9223372036854775807):Calls prog 115 #[(ap b)] w fun e w'=>e=.returned (.bool true)/\cL w' b i (eS i.cfg.rate i.cfg.mom i.cfg.shift P M (dZ i P k)) (eT i.cfg.mom i.cfg.shift M (dZ i P k)) (k+1)/\Keep (fun j=>j=b) w w':=by
 have m:=fun d B w' (q:an w w') (hw:W64 P) (hB:Rd w' B (au .i64 (bU i.draws i.data.length i.cfg.batch.toNat k))) hl=>ks b k d B i P M (bU i.draws i.data.length i.cfg.batch.toNat k) w' (h.below q) hg hw hB hl;have a7:=kj hg k;have bv:cnt i<=1048576:=hg.c.z.bound (k:=i.cfg.sizes.length-1) (by have:=hg.c.z.1.1;omega);have bF:=jz hg.c.z;obtain ⟨V,F,E,ce,S,Ap,cp,Am,cm,h0,h1,h2,h3,h4,h5,h6,h7,h8,h9,wP,wM,bM,c9⟩:=h;have g1:=hg.c.w;have g2:=hg.c.ba;have g3:=hg.b;have g4:=hg.c.st;have b9:1<=i.data.length/i.cfg.batch.toNat:=Nat.div_pos am am;have bc:=eG i.draws (t:=k) b9;have a6:=fun w' (q:an w w')=>gX S i.data.length i.cfg.batch.toNat i.cfg.steps.toNat i.draws w' (h3.below (h5.trans (q.mono h5.size)));have a0:=fun w' (q:an w w')=>ou S i.data.length i.cfg.batch.toNat i.cfg.steps.toNat k i.draws w' (h3.below (h5.trans (q.mono h5.size))) am am g3.2 am hk;have b4:=du i P (bf i.data (bU i.draws i.data.length i.cfg.batch.toNat k));have C:=fun (G:N0) cg w' (q:an w w') (hG:Rd w' G (au .i64 (bj i P (bf i.data (bU i.draws i.data.length i.cfg.batch.toNat k))))) hGb=>vw i.cfg.rate i.cfg.mom i.cfg.shift Ap Am G (cnt i) cp cm cg P M _ w' (h6.below q) (h7.below q) hG h8 h9 b4 bv bA b3 wM hGb;have m:=fun d B w' q hB hl=>m d B w' q wP hB hl;unfold mt at m
 have p:∀(w':N6) (D H:N0) (T Q:Nat),w'.heap[b]?=some (.cells #[(ap F),.slice E i.data.length ce,(ap S),yY i.cfg.rate,yY i.cfg.mom,yY i.cfg.shift,.slice D (cnt i) T,.slice H (cnt i) Q,yY ((k:Int)+1)] 262 (0,0))->
   Keep (fun j=>j=b) w w'->Rd w' D (au .i64 (eS i.cfg.rate i.cfg.mom i.cfg.shift P M (dZ i P k)))->Rd w' H (au .i64 (eT i.cfg.mom i.cfg.shift M (dZ i P k)))->(∀a,D=some a->a.block≠b)->(∀a,H=some a->a.block≠b)->w'.ownsRow 0 2 1 (.slice D (cnt i) T) (cnt i) (au .i64 (eS i.cfg.rate i.cfg.mom i.cfg.shift P M (dZ i P k)))->w'.ownsRow 0 2 1 (.slice H (cnt i) Q) (cnt i) (au .i64 (eT i.cfg.mom i.cfg.shift M (dZ i P k)))->
   cL w' b i (eS i.cfg.rate i.cfg.mom i.cfg.shift P M (dZ i P k)) (eT i.cfg.mom i.cfg.shift M (dZ i P k)) (k+1):=fun w' D H T Q e0 e1 e2 e3 e4 e5 e6 e7=>
  ⟨V,F,E,ce,S,D,T,H,Q,by rw [Int.natCast_add];exact e0,h1,h2,h3,h4,h5.trans (e1.toBelow h5.size (fun j hj=>am)),e2,e3,by rw [kW];exact h8,by rw [kY];exact h9,kX _ _ _ _ _ _,le _ _ _ _,e4,e5,e6,e7⟩
 obtain ⟨P',a8⟩:∃P',eS i.cfg.rate i.cfg.mom i.cfg.shift P M (dZ i P k)=P':=⟨_,rfl⟩;obtain ⟨M',a4⟩:∃M',eT i.cfg.mom i.cfg.shift M (dZ i P k)=M':=⟨_,rfl⟩;have eP:eS i.cfg.rate i.cfg.mom i.cfg.shift P M (bj i P (bf i.data (bU i.draws i.data.length i.cfg.batch.toNat k)))=P':=a8;have eM:eT i.cfg.mom i.cfg.shift M (bj i P (bf i.data (bU i.draws i.data.length i.cfg.batch.toNat k)))=M':=a4;rw [a8,a4] at p ⊢;rw [eP,eM] at C;obtain ⟨gv,bs⟩:∃gv,bj i P (bf i.data (bU i.draws i.data.length i.cfg.batch.toNat k))=gv:=⟨_,rfl⟩;rw [bs] at m C;rw [bc] at m;obtain ⟨bl,a3⟩:∃bl,bU i.draws i.data.length i.cfg.batch.toNat k=bl:=⟨_,rfl⟩;rw [a3] at m a0 a7;obtain ⟨sn,b6⟩:∃sn,i.cfg.steps.toNat=sn:=⟨_,rfl⟩;obtain ⟨bt,b1⟩:∃bt,i.cfg.batch.toNat=bt:=⟨_,rfl⟩;obtain ⟨n,hn⟩:∃n,cnt i=n:=⟨_,rfl⟩;obtain ⟨N,hN⟩:∃N,i.data.length=N:=⟨_,rfl⟩;obtain ⟨ra,av⟩:∃ra,i.cfg.rate=ra:=⟨_,rfl⟩;obtain ⟨mo,b7⟩:∃mo,i.cfg.mom=mo:=⟨_,rfl⟩;obtain ⟨q,hq⟩:∃q,i.cfg.shift=q:=⟨_,rfl⟩;have cd:bt<=1048576:=am;have ck:k+1<=1048576:=am;rw [b6] at a6 hk;rw [b1] at m a0;rw [hn] at m C h0 p;rw [hN] at h0 p;rw [av,b7,hq] at h0 C p;obtain ⟨⟨r0,r1,r2,r3,r4,r5,r6,r7,r8⟩,rf⟩:=bx9 h0;have c4:=xZ h0;have cr:¬((sn:Int)<=k):=am;obtain ⟨bG,c8,bO,c7,bh,bN,H0⟩:=ai a6 a0 m C p a7 h0;clear a6 a0 m C p a7 h0 h1 h2 h3 h4 h5 h6 h7 h8 h9 wP wM bM c9 g1 g2 g3 g4 b9 bc b4 a8 a4 eP eM bs a3 b6 b1 hn hN av b7 hq hg bv bF bA b3;go_enter func115,ntmps115;go_wp2_with fail
 go_quiet ((go_at_call 150;refine Calls.quiet_of ((bG.o _ ?_).mono fun e w' ⟨he,hw⟩=>⟨he,0,hw.symm⟩);exact ak))
 go_wp2_with fail;obtain ⟨W1,X⟩:∃W1,W1=w.drewN nq:=⟨_,rfl⟩;have bD:an w W1:=by rw [X];exact yh (ya _ _) _
 have a9:W1.heap[b]?=some (.cells #[(ap F),.slice E N ce,(ap S),yY ra,yY mo,yY q,.slice Ap n cp,.slice Am n cm,yY k] 262 (0,0)):=by rw [X];exact H0.o
 rw [<-X];clear X r0 r1 r2 r3 r4 r5 r6 r7 r8 rf;obtain ⟨⟨r0,r1,r2,r3,r4,r5,r6,r7,r8⟩,rf⟩:=bx9 a9;obtain ⟨a5,cl⟩:=ab bD a9;clear bD a9;have l:(fun w':N6=>w'.cell? (ao b 2)=some ((ap S))/\w'.cell? (ao b 8)=some (yY k)) W1.drew:=⟨r2,r8⟩;refine HA.g (fun w':N6=>w'.cell? (ao b 2)=some ((ap S))/\w'.cell? (ao b 8)=some (yY k)) ?_;refine HA.t ?_ [0,1,2,3,4,5,6,7,8,9] l ?_;refine HA.o 10 (fun K hK=>?_);go_simp;refine (c8.o _ a5.o.drew).mono ?_;rintro e w2 ⟨Bb,cb,rfl,bC,b5,U⟩;have bk:=yg (aq U l.1) (aq U l.2);have I:=a5.o.drew.trans (U.mono a5.o.size);have a2:=bO.o cb Bb w2 I b5 am;obtain ⟨bo,bz⟩:=ab I a2;clear U I a2 b5 l bC;dsimp only;refine hK.out _ _ bk (fun l=>?_);clear hK K bk;refine HA.o 11 (fun K hK=>?_);go_simp;refine bz.o.mono ?_;rintro e w3 ⟨W,h3⟩
 obtain ⟨Ag,cg,rfl,b8⟩:∃A c,e=.returned (.tuple #[.slice A n c,.bool true])/\w3.ownsRow w2.heap.size 2 1 (.slice A n c) n (au .i64 gv):=by
  rcases h3 with ⟨_,A,c,he,_,ho⟩ | ⟨bV,_⟩
  ·exact ⟨A,c,he,ho⟩
  ·exact absurd bN.o bV
 have b2:=yg (aq W l.1) (aq W l.2);have L:=bo.o.trans (W.mono bo.o.size);have y:=(L.block b c4).trans H0.o;obtain ⟨R,be,bd⟩:=ae L b8 y;clear W L h3 b8 y l;dsimp only;refine hK.out _ _ b2 (fun l=>?_);clear hK K b2;refine HA.t ?_ [12,13,14,15,16] l ?_;refine HA.d ?_;clear l r0 r1 r2 r3 r4 r5 r6 r7 r8 rf;have y:=bd.o;obtain ⟨⟨r0,r1,r2,r3,r4,r5,r6,r7,r8⟩,rf⟩:=bx9 y;have c3:=xZ y;clear y;go_wp2_with fail;have l:(fun w':N6=>w'.cell? (ao b 3)=some (yY ra)/\w'.cell? (ao b 4)=some (yY mo)/\w'.cell? (ao b 5)=some (yY q)/\w'.cell? (ao b 6)=some (.slice Ap n cp)/\w'.cell? (ao b 7)=some (.slice Am n cm)) w3.drew:=⟨r3,r4,r5,r6,r7⟩;refine XA.g 15 (fun w':N6=>w'.cell? (ao b 3)=some (yY ra)/\w'.cell? (ao b 4)=some (yY mo)/\w'.cell? (ao b 5)=some (yY q)/\w'.cell? (ao b 6)=some (.slice Ap n cp)/\w'.cell? (ao b 7)=some (.slice Am n cm)) ?_;refine XA.t ?_ [0,1,2,3,4,5,6,7,8,9,10] l ?_;refine XA.o 11 (fun K hK=>?_);go_simp;refine (c7.o Ag cg _ R.o.drew (Rd.own be.o).drew (fun a Y=>(fq be.o a Y).2)).mono ?_;rintro e w4 ⟨D,T,H,Q,rfl,cc,c0,bm,bb,v⟩;have bw:=yg (aq v l.1) (yg (aq v l.2.1) (yg (aq v l.2.2.1) (yg (aq v l.2.2.2.1) (aq v l.2.2.2.2))));have J:an w3 w4:=(ya w3.heap.size w3).drew.trans v;have x:=(J.block b c3).trans bd.o;obtain ⟨b0,Z,a1,O⟩:=af (R.o.trans (J.mono R.o.size)) x bm bb;clear v J x bm bb cc c0 l;dsimp only;refine hK.out _ _ bw (fun l=>?_);clear hK K bw;refine XA.t0 ?_ [12,13,14] l ?_;refine XA.e ?_;clear l r0 r1 r2 r3 r4 r5 r6 r7 r8 rf;have x:=Z.o;obtain ⟨⟨r0,r1,r2,r3,r4,r5,r6,r7,r8⟩,rf⟩:=bx9 x;have co:=xZ x;clear x;simp only [yy,yz];go_wp2_with fail;have e1:=yW w4 b 6 _ _ (.slice D n T) Z.o;have e2:=yW _ b 7 _ _ (.slice H n Q) e1;have e3:=yW _ b 8 _ _ (yY ((k:Int)+1)) e2;have u:Keep (fun j=>j=b) w4 (((w4.setCell (ao b 6) (.slice D n T)).setCell (ao b 7) (.slice H n Q)).setCell (ao b 8) (yY ((k:Int)+1))):=Keep.setCell (S:=fun j=>j=b) (Keep.setCell (S:=fun j=>j=b) (Keep.setCell (S:=fun j=>j=b) (Keep.refl _ _) (ao b 6) (.inr rfl) _) (ao b 7) (.inr rfl) _) (ao b 8) (.inr rfl) _;obtain ⟨W9,bg⟩:∃W9,W9=((w4.setCell (ao b 6) (.slice D n T)).setCell (ao b 7) (.slice H n Q)).setCell (ao b 8) (yY ((k:Int)+1)):=⟨_,rfl⟩;rw [<-bg] at u e3 ⊢;clear bg e1 e2;have cj:=R.o.size;have ad:=fq a1.o;have bB:=fq O.o;have n1:∀a,D=some a->a.block≠b:=fun a Y e=>by have:=(ad a Y).1;simp at this;omega
 have n2:∀a,H=some a->a.block≠b:=fun a Y e=>by have:=(bB a Y).1;simp at this;omega
 have bp:=bh.o W9 D H T Q (by simpa using e3) ((Keep.below b0.o).trans u) (u.rd (Rd.own a1.o) (fun a Y e=>n1 a Y e)) (u.rd (Rd.own O.o) (fun a Y e=>n2 a Y e)) n1 n2 (u.own (aA (base':=0) a1.o (yb _)) (fun j hj e=>ar Z.o (by decide) a1.o (by rw [hj,e]))) (u.own (aA (base':=0) O.o (yb _)) (fun j hj e=>ar Z.o (by decide) O.o (by rw [hj,e])));obtain ⟨c5,c6⟩:=ab bp ((Keep.below (S:=fun j=>j=b) b0.o).trans u);clear bp u e3 n1 n2 ad bB;go_ret;exact ⟨rfl,c5.o,c6.o⟩
def uS (i:Inp) (s:Nat) (w:N6) (e:Ending) (w':N6):Prop:=an w w'/\∃A c base,e=.returned (.tuple #[.slice A (s+1) c,yY 0])/\s+1<=c/\w.heap.size<=base/\dX base w' i (s+1) (.slice A (s+1) c)
theorem mE (A:N0) (c:Nat) (D:N0) (cd:Nat) (T:N0) (ct:Nat) (R:N0) (cr:Nat) (i:Inp) (w:N6) (h:dJ w A c D T ct R i) (hg:bQ i):Calls prog 88 #[.agg (ax A c D cd T ct R cr i)] w (uS i i.cfg.steps.toNat w):=by
 have Z:=fun w' (q:an w w')=>mP A c D cd T ct R cr i w' (h.below q) hg;have Q:cnt i<=1048576:=hg.c.z.bound (k:=i.cfg.sizes.length-1) (by have:=hg.c.z.1.1;omega);have g:=fun b k w' (hr:cL w' b i (aN i k).1 (aN i k).2 k)=>kC b k i _ _ w' hr Q;have G:=fun b k w' (hr:cL w' b i (aN i k).1 (aN i k).2 k) (hk:k<i.cfg.steps.toNat)=>sO b k i _ _ w' hr hg hk h.ra h.rm;have y:=fun b k w' (hr:cL w' b i (aN i k).1 (aN i k).2 k) (hk:i.cfg.steps.toNat<=k)=>sM b k i _ _ w' hr hk;have a:=hg.c.st;have b4:=fN i hg.s
 have bA:∀b k w',cL w' b i (aN i k).1 (aN i k).2 k->W64 (aN i k).1/\W64 (aN i k).2:=fun b k w' hr=>by
  obtain ⟨V,F,E,ce,S,Ap,cp,Am,cm,_,_,_,_,_,_,_,_,_,_,wP,wM,_⟩:=hr;exact ⟨wP,wM⟩
 obtain ⟨s,hs⟩:∃s,i.cfg.steps.toNat=s:=⟨_,rfl⟩;have d7:s<=1048576:=am;unfold jA at g;rw [hs] at G y ⊢;obtain ⟨n,hn⟩:∃n,cnt i=n:=⟨_,rfl⟩;rw [hn] at g Q b4;obtain ⟨vs,av⟩:∃vs,ax A c D cd T ct R cr i=vs:=⟨_,rfl⟩;have cs:∃a0 a1 a2 a3 a4 a5 a6 a7 a8 a9 Y b2 b0 b7 X,vs=#[a0,a1,a2,a3,a4,a5,a6,a7,a8,a9,Y,b2,b0,b7,X]:=⟨_,_,_,_,_,_,_,_,_,_,_,_,_,_,_,av.symm⟩;rw [av] at Z ⊢;obtain ⟨a0,a1,a2,a3,a4,a5,a6,a7,a8,a9,Y,b2,b0,b7,X,rfl⟩:=cs;obtain ⟨c0,W,bc,bd,I,P⟩:=ah Z g G y b4 bA;clear Z g G y a b4 bA hs hn av h hg;go_enter func88,ntmps88;go_wp2_with fail;have O:an w (w.alloc (.cells #[a0,a1,a2,a3,a4,a5,a6,a7,a8,a9,Y,b2,b0,b7,X] 29)):=(ya _ w).alloc (x4 _) _;refine (c0.o _ O).mono ?_;rintro e l ⟨b,rfl,hr,b8,bM⟩;have ad:cL l b i (aN i 0).1 (aN i 0).2 0:=hr;have cj:=hr.lt;have a:=W.o b 0 l ad;obtain ⟨HB,Hr,bN⟩:=ae (O.trans (bM.mono O.size)) ad a;have d6:w.heap.size<=b:=by have:=b8;simp at this;omega
 clear O bM hr ad a b8;go_wp2_with fail;refine bN.o.mono ?_;rintro e w2 ⟨A1,c1,A2,c2,rfl,_,_,C,u,_,M⟩;have H:=mK (base:=l.heap.size) (x:=aN i 0) C u (x4 _) (I.o 0).1 (I.o 0).2 Q (P.o b 0 l Hr.o).1 (P.o b 0 l Hr.o).2;have bD:=dX.one M.size H;have U:an l (w2.alloc (.cells #[.slice A1 n c1,.slice A2 n c2] 62)):=M.alloc M.size _;have bb:=Hr.o.below U;have bm:=HB.o.trans (U.mono HB.o.size);obtain ⟨d1,cc,cl,d0⟩:=af bD bb bm U.size;clear C u M H bD U bb bm;go_wp2_with fail
 go_loopw [6] (fun v wr=>∃k Ao co,k<=s/\v=.slice Ao (k+1) co/\cL wr b i (aN i k).1 (aN i k).2 k/\dX l.heap.size wr i (k+1) (.slice Ao (k+1) co)/\an w wr/\l.heap.size<=wr.heap.size) (fun v _=>s-(wn v-1))
 ·exact ⟨0,_,1,yb _,rfl,cc.o,d1.o,cl.o,d0.o⟩
 case round=>
  obtain ⟨k,Ao,co,hk,rfl,hR,hM,L,ck⟩:=hrel;by_cases c6:k<s
  ·have bv:=bc.o b k wr hR c6;obtain ⟨cA,HM,N⟩:=ae bv hM L;clear bv hM L hR;go_wp2_with fail;refine cA.o.mono ?_;rintro e w5 ⟨rfl,bz,J⟩;have m:cL w5 b i (aN i (k+1)).1 (aN i (k+1)).2 (k+1):=bz;have bh:=HM.o.keep J (fun j hj=>am);have bs:an w w5:=N.o.trans (J.toBelow N.o.size (fun j hj=>am));have c8:=J.size;have a:=W.o b (k+1) w5 m;obtain ⟨b5,bV,bC,be⟩:=af m bh bs a;clear bz m bh bs a J;go_wp2_with fail;refine be.o.mono ?_;rintro e w6 ⟨A3,c3,A4,c4,rfl,_,_,C,u,_,B⟩;have b3:l.heap.size<=w5.heap.size:=yd ck c8;have H:=mK (base:=l.heap.size) (x:=aN i (k+1)) C u b3 (I.o (k+1)).1 (I.o (k+1)).2 Q (P.o b (k+1) w5 b5.o).1 (P.o b (k+1) w5 b5.o).2;have d3:=bV.o.below B;have bp:=b5.o.below B;have bl:=bC.o.trans (B.mono bC.o.size);have b9:l.heap.size<=w6.heap.size:=yd b3 B.size;obtain ⟨d4,m1,m2,m3,m4⟩:=d3;obtain ⟨R1,R2,R3,R4,cx,c5,c7⟩:=ai m1 m2 m3 m4 H bp bl;clear C u B H bp bl m1 m2 m3 m4 b3;go_wp2_with (at_builtin;refine aE xg _ rfl (.tmp 20) (.tmp 23) rfl l.heap.size (.slice Ao (k+1) co) (k+1) _ rfl R1.o [.slice A3 n c3,.slice A4 n c4] rfl rfl (by simp [Value.oneCell']) am (by unfold maxLen;omega) b9 ?_);intro g9 c9 w9 bw K b6;have bo:=dX.push R1.o R2.o R3.o R4.o cx.o bw b6;have bg:cL w9 b i (aN i (k+1)).1 (aN i (k+1)).2 (k+1):=c5.o.grown R1.o K b6 cj (by decide);have bG:an w w9:=c7.o.trans (K.mono (by have:=HB.o.size;omega));obtain ⟨cy,cb,b1⟩:=ae bo bg bG;have cv:l.heap.size<=w9.heap.size:=yd b9 K.size;clear bw K b6 bo bg bG;go_wp2_with fail;go_roundw
   ·exact ⟨k+1,_,c9,by omega,rfl,cb.o,cy.o,b1.o,cv⟩
   ·simp [wn];omega
  ·obtain rfl:s=k:=am;have bB:=bd.o b s wr hR (x4 _);have d2:=HB.o.size;obtain ⟨bO,HM,N⟩:=ae bB hM L;clear bB hM L hR;go_wp2_with fail;refine bO.o.mono ?_;rintro e w5 ⟨rfl,d5,rfl⟩;have bk:=HM.o.below (yh (ya wr.heap.size wr) d5)
   have p:s+1<=co:=by
    obtain ⟨_,c9,cg,p⟩:=HM.o.form;injection cg with _ _ e3
    omega
   obtain ⟨cz,bF,b1⟩:=ae bk p (yh N.o d5);clear bk p;go_wp2_with fail;go_ret2;exact ⟨b1.o,Ao,co,_,rfl,bF.o,d2,cz.o⟩
end Go.Proofs.YthamijnggdjaoaaGreat
namespace Go.Proofs.YthamijnggdjaoaaGreat
open Go.RowKit
open Tryz
open Classical in
noncomputable def bS (i:Inp):N8:=if bQ i then cT i (i.cfg.steps.toNat+1) else []
theorem fo (i:Inp):(bS i).length<=1048577:=by
 unfold bS
 split
 ·rename_i h;have:=h.c.st;rw [dj];omega
 ·simp
end Go.Proofs.YthamijnggdjaoaaGreat
