/- No condition. -/
import Derived.Test.YthamijnggdjaoaaGreatQ03
import Derived.BigRegion
set_option linter.unusedSimpArgs false
set_option linter.unusedVariables false
set_option maxRecDepth 100000
set_option maxHeartbeats 4000000
namespace Go.Proofs.YthamijnggdjaoaaGreat
open Go.RowKit
open Tryz
theorem tU (n:Int) (w:N6) (h:1<=n):Calls prog 253 #[yY n] w fun e w'=>e=.returned (.bool false)/\w=w':=by
 have a:¬n<1:=am;go_enter func253,ntmps253;go_wp2;go_ret;exact ⟨aL (by first | rfl | (simp;omega) | (simp;done)),rfl⟩
theorem oY (A:N0) (l:N3) (c:Nat) (w:N6) (hA:Rd w A (au .i64 l)) (hl:l.length<=17592186043904) (m:∀k,k<l.length->1<=nth l k):Calls prog 94 #[.slice A l.length c,.func (.func 253) #[] #[]] w fun e w'=>e=.returned (yY (-1))/\w=w':=by
 obtain ⟨n,h⟩:∃n,l.length=n:=⟨_,rfl⟩;have hw:=fun k (j:k<l.length)=>tU (nth l k) w (m k j);rw [h] at hl hw ⊢;obtain ⟨HA,u,q⟩:=ae hA h hw;clear hA h hw m;go_enter func94,ntmps94;go_wp2_with fail
 go_loop [5,8] (fun _ i=>∃k:Nat,k<=n/\i=yY k) (fun _ i=>n-(intOf i).toNat)
 ·exact ⟨0,yb _,rfl⟩
 case round=>
  obtain ⟨k,j,rfl⟩:=hrel;by_cases a:k<n
  ·obtain ⟨b,o,rfl,p⟩:=HA.o.num (show k<l.length by rw [u.o];exact a);have hw:=q.o k a;have g:=aa hw;clear hw;go_wp2_with fail;refine g.o.mono ?_;rintro e w' ⟨rfl,rfl⟩;go_wp2_with fail;go_round
   ·exact ⟨k+1,by omega,by go_num⟩
   ·simp [intOf];omega
  ·obtain rfl:k=n:=am;go_wp2_with fail;go_ret;exact ⟨rfl,rfl⟩
theorem ma (A:N0) (l:N3) (c:Nat) (w:N6) (hA:Rd w A (au .i64 l)) (hl:l.length<=17592186043904) (a:∀k,k<l.length->1<=nth l k):Calls prog 49 #[.slice A l.length c,.func (.func 253) #[] #[]] w fun e w'=>e=.returned (.bool false)/\w=w':=by
 have g:=oY A l c w hA hl a;have h:=aa g;clear g hA a;go_enter func49,ntmps49;go_wp2_with fail;refine h.o.mono ?_;rintro e w' ⟨rfl,rfl⟩;go_wp2;go_ret;exact ⟨rfl,rfl⟩
theorem rK (n:Nat) (w:N6) (F:n<=1048576):Calls prog 224 #[yY n] w fun e w'=>∃v,e=.returned v/\w'.ownsRow w.heap.size 3 1 v n (au .i64 (j4 n))/\an w w':=by
 go_enter func224,ntmps224;go_wp2_with fail
 go_loopw [3,6] (fun v i wr=>∃k:Nat,k<=n/\i=yY k/\wr.ownsRow w.heap.size 3 1 v k (au .i64 (j4 k))/\an w wr) (fun _ i _=>n-(intOf i).toNat)
 ·exact ⟨0,yb _,rfl,yi _ _ _ _,ya _ _⟩
 case round=>
  obtain ⟨k,E,rfl,a,m⟩:=hrel;by_cases y:k<n
  ·obtain ⟨A,B,rfl,_⟩:=aB a;obtain ⟨g,p⟩:=ab a m;clear a m;go_wp2_with (at_builtin;refine aE iK _ rfl (.tmp 9) (.tmp 11) rfl w.heap.size (.slice A k B) k _ rfl g.o [yY (k:Int)] rfl rfl (aV .i64 [_]) am (by unfold maxLen;omega) p.o.size ?_);intro C G D j l x;have h:=p.o.trans l;obtain ⟨u,q⟩:=ab j h;clear j l x h;go_wp2_with fail;go_roundw
   case rel=>
    refine ⟨k+1,by omega,by go_num,?_,q.o⟩;have:j4 (k+1)=j4 k++[(k:Int)]:=di _ _;rw [this,aT];exact u.o
   case measure=>simp [intOf];omega
  ·obtain rfl:k=n:=am;obtain ⟨g,p⟩:=ab a m;clear a m;go_wp2_with fail;go_ret;exact ⟨_,rfl,g.o,p.o⟩
theorem tT (b c i:Nat) (A:N0) (l:N3) (B:N0) (q:N3) (d:Nat) (w:N6) (h:aY w b A c l i) (hi:i+q.length<=l.length) (hl:l.length<=1048576) (hu:U64 l) (hB:Rd w B (au .i64 q)) (P:∀a,B=some a->a.block≠b) (E:∀k,k<q.length->1<=nth q k/\nth q k<=1048576):Calls prog 223 #[(ap b),.slice B q.length d] w fun e w'=>∃v,e=.returned (.tuple #[v,.bool true])/\w'.ownsRow w.heap.size 3 1 v q.length (au .i64 (bH q.length fun k=>nth l (i+k)%nth q k))/\aY w' b A c l (i+q.length)/\Keep (fun j=>j=b) w w':=by
 have K:=jg b c i A l w h am am;have G:=fun n=>ma B q d (w.drewN n) (hB.drewN n) am (fun k hk=>(E k hk).1);have u:=fun j m w' (h:aY w' b A c l j) (hj:j<l.length)=>mJ b c j m A l w' h hj am hu;obtain ⟨n,hn⟩:∃n,q.length=n:=⟨_,rfl⟩;rw [hn] at hi G E ⊢;obtain ⟨N,hN⟩:∃N,l.length=N:=⟨_,rfl⟩;rw [hN] at hi hl K u;have a1:=h.lt;obtain ⟨a0,Z,Y,H,HB,Hn,a7,a5⟩:=aj K G u h hB hn E P;clear K G u h hB hn E hu P hN;have hq:decide (((N-i:Nat):Int)<(n:Int))=false:=by simp;omega
 have ad:decide (N-i<n)=false:=by simp;omega
 go_enter func223,ntmps223;go_wp2_with fail;refine a0.o.mono ?_;rintro e w' ⟨rfl,a,rfl⟩;go_wp2_with fail;refine (Z.o a).mono ?_;rintro e w' ⟨rfl,rfl⟩;clear hq ad;go_wp2_with fail
 go_loopw [6,26] (fun v x wr=>∃k:Nat,k<=n/\x=yY k/\wr.ownsRow w.heap.size 3 1 v k (au .i64 (bH k fun k=>nth l (i+k)%nth q k))/\aY wr b A c l (i+k)/\Keep (fun j=>j=b) w wr) (fun _ x _=>n-(intOf x).toNat)
 ·exact ⟨0,yb _,rfl,yi _ _ _ _,H.o.drewN a,(Keep.refl _ _).drewN a⟩
 case round=>
  obtain ⟨k,hk,rfl,g,W,L⟩:=hrel;by_cases O:k<n
  ·obtain ⟨Al,cl,rfl,_⟩:=aB g;have T:=L.rd HB.o (fun a ha e=>a5.o a ha e);obtain ⟨bB,oB,rfl,p⟩:=T.num (show k<q.length by rw [Hn.o];exact O);have a9:=a7.o k O;obtain ⟨m,hm⟩:∃m:Nat,nth q k=(m:Int):=⟨(nth q k).toNat,by omega⟩;rw [hm] at p a9;have u:=Y.o (i+k) m wr W am am am;obtain ⟨y,hy⟩:∃y,nth l (i+k)%(m:Int)=y:=⟨_,rfl⟩;rw [hy] at u;have b0:=L.size;have V:=g.lt;obtain ⟨C,HK,Hm,U,Hy,a3⟩:=ah g L hm u hy V;clear g L W T hm u hy V;go_wp2_with fail;refine U.o.mono ?_;rintro e w1 ⟨rfl,S,F⟩;have D:=F.own C.o (fun x hx e=>by have:=(a3.o x hx).1;omega);have av:=F.size;obtain ⟨a2,a4,J⟩:=ae S F D;clear S F D;go_wp2_with (at_builtin;refine aE iK _ rfl (.tmp 36) (.tmp 38) rfl w.heap.size (.slice Al k cl) k _ rfl J.o [yY y] rfl rfl (aV .i64 [_]) am (by unfold maxLen;omega) am ?_);intro g6 c6 w6 M I a8;obtain ⟨a6,X⟩:=ab M I;have Q:=(HK.o.trans a4.o).below2 I;have R:=aa Q;clear M I a8 Q;go_wp2_with fail;go_roundw
   case rel=>
    refine ⟨k+1,by omega,by go_num,?_,?_,R.o⟩
    ·rw [di,aT,Hm.o,Hy.o];exact a6.o
    ·exact ⟨(X.o.block b a1).trans a2.o.blk,R.o.rd H.o.rd (fun a ha e=>H.o.ne a ha e),H.o.ne⟩
   case measure=>simp [intOf];omega
  ·obtain rfl:k=n:=am;obtain ⟨C,HK,HS⟩:=ae g L W;clear g L W;go_wp2_with fail;go_ret2;exact ⟨_,rfl,C.o,HS.o,HK.o⟩
theorem eF {w:N6} {p q:Addr} {x v:Value} (h:w.cell? q=some v):∃a,(w.setCell p x).cell? q=some a:=by
 by_cases e:p=q
 ·subst e;exact ⟨x,World.cell?_setCell_same w p x h⟩
 ·exact ⟨v,(World.cell?_setCell_other w p q x e).trans h⟩
theorem fq {w:N6} {base size n c m:Nat} {e:N7} {A:N0} {xs:N5} (h:w.ownsRow base e size (.slice A n c) m xs):∀a,A=some a->base<=a.block/\a.block<w.heap.size:=fun a k=>by
 subst k;rcases h.2 with ⟨l,_⟩ | ⟨g,cap,j,i,_⟩
 ·cases l
 ·simp only [yM,Option.some.injEq] at i;obtain ⟨rfl,_,_⟩:=i;exact h.lt g rfl
theorem sI (P g n c base i j:Nat) (p:N3) (w:N6) (hP:w.heap[P]?=some (.cells #[.slice (some (ao g 0)) n c] 22 (0,0))) (a:w.ownsRow base 3 1 (.slice (some (ao g 0)) n c) n (au .i64 p)) (I:i<n) (K:j<n) (Q:n<=1048576):Calls prog 225 #[yY i,yY j,(ap P)] w fun e w'=>e=.returned (.tuple #[])/\w'.ownsRow base 3 1 (.slice (some (ao g 0)) n c) n (au .i64 (swp p i j))/\Keep (fun k=>k=g) w w':=by
 have m:=fF a;have F:=bq a I;have y:=bq a K;have M:=a.frozenAt i;have R:=a.frozenAt j;have l:=mI (p:=p) (i:=i) (j:=j) am am;obtain ⟨u,L⟩:=bx1 hP;have H:(i:Int)<n:=am;have E:(j:Int)<n:=am;have h:g≠P:=fun e=>ar hP (by decide) a (by rw [<-e];rfl);have D:=(World.cell?_setCell_other w (ao g i) (ao P 0) (yY (nth p j)) (by simp [h])).trans u;have v:=(World.cell?_setCell_other w (ao g j) (ao P 0) (yY (nth p i)) (by simp [h])).trans u;obtain ⟨N,A⟩:=eF (w:=w) (p:=(ao g i)) (x:=yY (nth p j)) (q:=(ao g j)) y;obtain ⟨O,B⟩:=eF (w:=w) (p:=(ao g j)) (x:=yY (nth p i)) (q:=(ao g i)) F;obtain ⟨G,J,C⟩:=ae a m l;clear a m hP l;go_enter func225,ntmps225;go_wp2_with fail
 go_region
 all_goals go_wp2_with fail
 all_goals
  go_end0
  refine ⟨rfl,?_,?_⟩
 ·exact aZ (cU (cU G.o i _) j _) 1
 ·exact (Keep.setCell (S:=fun k=>k=g) (Keep.setCell (S:=fun k=>k=g) (Keep.refl _ w) (ao g i) (.inr rfl) _) (ao g j) (.inr rfl) _).drew
theorem mN (n b c i:Nat) (A:N0) (l:N3) (w:N6) (h:aY w b A c l i) (hn:1<=n) (b4:n<=1048576) (hi:i+(n-1)<=l.length) (hl:l.length<=1048576) (hu:U64 l):Calls prog 190 #[yY n,(ap b)] w fun e w'=>∃v,e=.returned (.tuple #[v,.bool true])/\w'.ownsRow w.heap.size 3 1 v n (au .i64 (cX l n i))/\aY w' b A c l (i+(n-1))/\Keep (fun j=>j=b) w w':=by
 obtain ⟨m,hm⟩:∃m,n-1=m:=⟨_,rfl⟩;rw [hm] at hi ⊢;have b5:cX l n i=dy n (dC l n i) m:=by unfold cX;rw [hm]
 rw [b5];have bO:m<n:=am;have bG:n<=m+1:=am;clear hm b5;have J:=fun B d w' (h:aY w' b A c l i) (hB:Rd w' B (au .i64 (bH m fun k=>((n-k:Nat):Int)))) D=>tT b c i A l B (bH m fun k=>((n-k:Nat):Int)) d w' h (by rw [aG];exact hi) hl hu hB D (fun k U=>by rw [aG] at U;rw [aI _ U];omega)
 simp only [aG] at J;have he:(bH m fun k=>nth l (i+k)%nth (bH m fun k=>((n-k:Nat):Int)) k)=bH m fun k=>(dC l n i k:Int):=df fun k U=>by rw [aI _ U,lq l am]
 rw [he] at J;have av:=fun w'=>rK n w' b4;have bV:=h.lt;obtain ⟨bC,a4,H⟩:=ae J av h;clear J he av h hu;go_enter func190,ntmps190;go_wp2_with fail
 go_loopw [6,7] (fun v x wr=>∃k:Nat,k<=m/\x=yY ((n:Int)-k)/\wr.ownsRow w.heap.size 3 1 v k (au .i64 (bH k fun k=>((n-k:Nat):Int)))/\an w wr) (fun _ x _=>(intOf x).toNat)
 ·exact ⟨0,yb _,by go_num,yi _ _ _ _,ya _ _⟩
 case round=>
  obtain ⟨k,U,rfl,q,Y⟩:=hrel;by_cases O:k<m
  ·obtain ⟨Al,cl,rfl,_⟩:=aB q;obtain ⟨C,Hb⟩:=ab q Y;clear q Y;go_wp2_with (at_builtin;refine aE iK _ rfl (.tmp 29) (.tmp 31) rfl w.heap.size (.slice Al k cl) k _ rfl C.o [yY ((n:Int)-k)] rfl rfl (aV .i64 [_]) am (by unfold maxLen;omega) Hb.o.size ?_);intro g6 c6 w6 a7 a9 bw;have L:=Hb.o.trans a9;obtain ⟨bv,bd⟩:=ab a7 L;clear a7 a9 bw L;go_wp2_with fail;go_roundw
   case rel=>
    refine ⟨k+1,by omega,by go_num,?_,bd.o⟩;rw [di,aT,show ((n-k:Nat):Int)=(n:Int)-k by omega];exact bv.o
   case measure=>simp [intOf];omega
  ·obtain rfl:m=k:=am;obtain ⟨Al,cl,rfl,_⟩:=aB q
   have D:∀a,Al=some a->a.block≠b:=fun a ha e=>by
    subst ha;have:=fq q a rfl;omega
   have b6:=bC.o Al cl wr (H.o.below Y) (Rd.own q) D;obtain ⟨bs,Hb⟩:=ab b6 Y;clear q Y b6 D;obtain ⟨wq,rfl⟩:∃wq:N6,wq=wr:=⟨_,rfl⟩;go_wp2_with fail;refine bs.o.mono ?_;rintro e w1 ⟨v1,rfl,I,b3,M⟩;obtain ⟨A1,c1,rfl,_⟩:=aB I;have X:=fq I;have a2:=Rd.own I;have c0:=M.size;have P:=(Keep.below (S:=fun j=>j=b) Hb.o).trans M;have bN:=P.size;obtain ⟨b7,b8,bc,b9⟩:=af b3 P a2 X;clear b3 M a2 I X P;go_wp2_with fail;refine (a4.o w1).mono ?_;rintro e W ⟨v2,rfl,G,R⟩;obtain ⟨g,E,rfl,_⟩:=G.form hn;have bb:=R.size;have bM:=G.lt g rfl;have hP:=x6 W (.cells #[.slice (some (ao g 0)) n E] 22);have N:=R.alloc bb (.cells #[.slice (some (ao g 0)) n E] 22);have b1:=G.alloc (.cells #[.slice (some (ao g 0)) n E] 22);have a6:=bc.o.below N;obtain ⟨HP,a8,a3,b0⟩:=af hP N b1 a6;clear hP N b1 a6 G R;go_wp2_with fail;obtain ⟨K,y⟩:∃K,K=W.alloc (.cells #[.slice (some (ao g 0)) n E] 22):=⟨_,rfl⟩;have bF:W.heap.size<K.heap.size:=by rw [y];simp
   have bg:al (K.heap[W.heap.size]?=some (.cells #[.slice (some (ao g 0)) n E] 22 (0,0))):=aa (by rw [y];exact HP.o);have ad:al (an w1 K):=aa (by rw [y];exact a8.o);have bm:al (K.ownsRow w1.heap.size 3 1 (.slice (some (ao g 0)) n E) n (au .i64 (j4 n))):=aa (by rw [y];exact a3.o);have bD:al (Rd K A1 (au .i64 (bH m fun k=>(dC l n i k:Int)))):=aa (by rw [y];exact b0.o);rw [<-y];clear HP a8 a3 b0 y
   go_loopw [46] (fun x wr=>∃k:Nat,k<=m/\x=yY k/\wr.heap[W.heap.size]?=some (.cells #[.slice (some (ao g 0)) n E] 22 (0,0))/\wr.ownsRow w1.heap.size 3 1 (.slice (some (ao g 0)) n E) n (au .i64 (dy n (dC l n i) k))/\Keep (fun j=>j=g) K wr) (fun x _=>m-(intOf x).toNat)
   ·exact ⟨0,yb _,rfl,bg.out,bm.out,Keep.refl _ _⟩
   case round=>
    obtain ⟨k,U,rfl,hP,q,V⟩:=hrel;by_cases O:k<m
    ·have hr:=V.rd bD.out (fun a ha e=>by have:=(b9.o a ha).2;omega);obtain ⟨bA,oA,rfl,p⟩:=hr.num (show k<_ by rw [aG];exact O);rw [aI _ O] at p;have bh:=kd l (n:=n) (i:=i) (k:=k) am;have u:=sI W.heap.size g n E w1.heap.size (n-1-k) (dC l n i k) (dy n (dC l n i) k) wr hP q am am b4;rw [show ((n-1-k:Nat):Int)=(n:Int)-1-k by omega] at u;have bk:=xZ hP;obtain ⟨Z,HP,HK⟩:=ae u hP V;clear u hP q V hr;obtain ⟨dk,F⟩:∃dk,dC l n i k=dk:=⟨_,rfl⟩;rw [F] at p;have u:=Z.o;rw [F] at u bh;obtain ⟨a5,be⟩:=ab u F;clear Z u F;go_wp2_with fail;refine a5.o.mono ?_;rintro e w5 ⟨rfl,a0,Q⟩;have a1:=(Q.block _ bk am).trans HP.o;obtain ⟨bB,bp,bz⟩:=ae a1 a0 (HK.o.trans Q);clear a1 a0 Q p;go_wp2_with fail;go_roundw
     case rel=>
      refine ⟨k+1,by omega,by go_num,bB.o,?_,bz.o⟩;rw [dy,be.o];exact bp.o
     case measure=>simp [intOf];omega
    ·obtain rfl:m=k:=am;obtain ⟨x0,xf⟩:=bx1 hP;have T:Keep (fun j=>j=b) w wr:=b8.o.below2 ((ad.out.mono am).trans (V.toBelow am (fun j hj=>am)));have b2:aY wr b A c l (i+m):=⟨(V.block b am am).trans ((ad.out.block b am).trans b7.o.blk),T.rd H.o.rd (fun a ha e=>H.o.ne a ha e),H.o.ne⟩;obtain ⟨bl,bo,C⟩:=ae T b2 (aA (base':=w.heap.size) q am);clear T b2 q V hP;go_wp2_with fail;go_ret2;exact ⟨_,rfl,C.o,bo.o,bl.o⟩
theorem nL:cE prog 136 22 (yZ) 1 24:=⟨underlying136,info_parts (by kernel_rfl),rfl,by decide⟩
def vY (S n b c i k base:Nat) (A:N0) (l:N3) (p q u:Value) (vs:N5) (w:N6) (e:Ending) (w':N6):Prop:=
 e=.returned (.bool true)/\∃g a o h,w'.heap[S]?=some (.cells #[p,q,u,.slice o (k+1) h] 326 (0,0))/\
  w'.ownsRow base 22 1 (.slice o (k+1) h) (k+1) (vs++[.slice g n a])/\n<=a/\w'.ownsRow base 3 1 (.slice g n a) n (au .i64 (cX l n i))/\
  w'.heap[b]?=some (.cells #[.slice A l.length c,yY ((i+(n-1):Nat):Int)] 371 (0,0))/\
  (∀base' m v xs,w.ownsRow base' 3 1 v m xs->w'.ownsRow base' 3 1 v m xs)/\Keep (fun j=>j=b\/j=S\/base<=j) w w'
theorem rO (N P1 Y S n b c i k base:Nat) (A:N0) (l:N3) (X:N0) (Z:Nat) (x0 x1 x2:Value) (vs:N5) (w:N6) (hN:w.heap[N]?=some (.cells #[yY n] 3 (0,0))) (ad:w.heap[P1]?=some (.cells #[(ap b)] 327 (0,0))) (F:w.heap[Y]?=some (.cells #[(ap S)] 253 (0,0))) (hS:w.heap[S]?=some (.cells #[x0,x1,x2,.slice X k Z] 326 (0,0))) (h:aY w b A c l i) (T:w.ownsRow base 22 1 (.slice X k Z) k vs) (Q:base<=w.heap.size) (hk:k<=1048576) (hn:1<=n) (bs:n<=1048576) (hi:i+(n-1)<=l.length) (hl:l.length<=1048576) (hu:U64 l):Calls prog 189 #[(ap N),(ap P1),(ap Y)] w (vY S n b c i k base A l x0 x1 x2 vs w):=by
 have b3:=mN n b c i A l w h hn bs hi hl hu
 have a9:b≠S:=fun e=>by
  have V:=h.blk;rw [e,hS] at V;simp at V
 have b0:b≠Y:=fun e=>by
  have V:=h.blk;rw [e,F] at V;simp at V
 have a4:∀j,(Value.slice X k Z).ownBlock=some j->j≠b:=fun j D e=>ar h.blk (by decide) T (by rw [<-e,D]);have I:∀base' m v xs,w.ownsRow base' 3 1 v m xs->∀j,v.ownBlock=some j->j≠b:=fun base' m v xs hr j D e=>ar h.blk (by decide) hr (by rw [<-e,D]);obtain ⟨p0,pf⟩:=bx1 hN;obtain ⟨q0,qf⟩:=bx1 ad;have b7:=xZ F;have bc:=xZ hS;obtain ⟨be,b9,HS,bl,bh,a2,a7,bd⟩:=aj b3 F hS T a4 I a9 b0;clear b3 F hS T a4 I a9 b0 hN ad h hu;go_enter func189,ntmps189;go_wp2_with fail;refine be.o.mono ?_;rintro e w1 ⟨v1,rfl,U,b1,u⟩;obtain ⟨A1,c1,rfl,b4⟩:=aB U;have P:=(u.block Y b7 (fun e=>bd.o e.symm)).trans b9.o;have O:=(u.block S bc (fun e=>a7.o e.symm)).trans HS.o;have L:=u.own bl.o (fun j D e=>bh.o j D e);have bB:=u.size;obtain ⟨t0,tf⟩:=bx1 P;obtain ⟨⟨y0,y1,y2,y3⟩,yf⟩:=bx4 O;obtain ⟨bo,b6,B,bp,bb,p,bw⟩:=ai U b1 u P O L b4;clear U b1 u P O L b4 p0 pf q0 qf;go_wp2_with fail;have x:(fun w':N6=>w'.cell? (ao Y 0)=some ((ap S))/\w'.cell? (ao S 3)=some (.slice X k Z)) w1.drew:=⟨t0,y3⟩;refine XA.g 8 (fun w':N6=>w'.cell? (ao Y 0)=some ((ap S))/\w'.cell? (ao S 3)=some (.slice X k Z)) ?_;refine XA.t ?_ [0,1,2,3,4,5] x ?_;refine XA.o 6 (fun K hK=>?_);go_simp;refine hK.out _ _ ⟨ay x.1 _,ay x.2 _⟩ (fun x=>?_);clear hK K;refine XA.o 7 (fun K hK=>?_);refine cN nL (.tmp 16) (.tmp 18) rfl rfl base (.slice X k Z) k vs rfl (aZ (p.o.alloc _) 1) (some (ao w1.heap.size 0)) 1 1 [.slice A1 n c1] rfl (dO w1 _ _ _ rfl) rfl (by simp [Value.oneCell']) am (by unfold maxLen;omega) (by simp;omega) ?_;intro A7 c7 G a5 b2 q _;have q:=iH q;have E:=bX (o:=.cells #[.slice A1 n c1] 22 (0,0)) bb.o (by decide) p.o q;have a8:=bX (o:=.cells #[.slice A1 n c1] 22 (0,0)) bp.o (by decide) p.o q;have J:=bX (o:=.cells #[.slice A1 n c1] 22 (0,0)) b6.o.blk (by decide) p.o q;have i0:=x7 G _ 0 _ _ _ a8;have i3:=x7 G _ 3 _ _ _ E;have bA:=frozen_of_row G _ 3 _ _ E;obtain ⟨a6,W,b5,y,av⟩:=ag a5 E q b2 J;clear a5 E q b2 a8 J;dsimp only;refine hK.out _ _ ⟨i0,i3⟩ (fun x=>?_);clear hK K x;refine XA.e ?_;simp only [yy,yz];go_wp2_with fail;have a0:=yW G S 3 _ _ (.slice A7 (k+1) c7) W.o;have a:Keep (fun j=>j=S) G (G.setCell (ao S 3) (.slice A7 (k+1) c7)):=Keep.setCell (S:=fun j=>j=S) (Keep.refl _ _) (ao S 3) (.inr rfl) _;have a1:=a.own a6.o (fun j D e=>ar W.o (by decide) a6.o (by rw [D,e]));have a3:=(a.block b (by have:=xZ av.o;omega) (fun e=>a7.o e)).trans av.o;have M:∀base' m v xs,w1.ownsRow base' 3 1 v m xs->(G.setCell (ao S 3) (.slice A7 (k+1) c7)).ownsRow base' 3 1 v m xs:=fun base' m v xs h=>ni h p.o b5.o W.o (by decide) (by decide)
 have C:Keep (fun j=>j=b\/j=S\/base<=j) w (G.setCell (ao S 3) (.slice A7 (k+1) c7)):=by
  refine ⟨a.os.trans (y.o.os.trans B.o.os),a.tape.trans (y.o.tape.trans B.o.tape),a.output.trans (y.o.output.trans B.o.output),?_,fun j D hn=>?_⟩
  ·have:=y.o.size;have:=a.size;simp at *;omega
  ·have bg:¬j=b:=fun e=>hn (.inl e);have bm:¬j=S:=fun e=>hn (.inr (.inl e));have bz:j<base:=by rcases yl j base with h | h;exact h;exact absurd (.inr (.inr h)) hn
   have V:=B.o.block j D bg;have h2:=y.o.block j bz;have h3:=a.block j (by have:=y.o.size;simp at this;omega) bm;refine h3.trans (h2.trans (Eq.trans ?_ V));exact yj w1 _ j am
 obtain ⟨bk,bv,b8,H,R⟩:=ag a0 a1 a3 M C;clear a0 a a1 a3 M C;go_ret;refine ⟨rfl,A1,c1,A7,c7,bk.o,bv.o,bw.o,?_,b8.o,fun base' m v xs hr=>H.o _ _ _ _ (B.o.own hr (fun j D e=>a2.o _ _ _ _ hr j D e)),R.o⟩;exact H.o _ _ _ _ (aA bo.o Q)
def epN (n batch steps:Nat):Nat:=fL steps (n/batch)
def dN (w:N6) (S n batch steps:Nat) (l:N3):Prop:=
 ∃a i g k vs,w.heap[S]?=some (.cells #[yY batch,yY steps,.slice a (n/batch) i,.slice g (epN n batch steps) k] 326 (0,0))/\
  Rd w a (dE (n-n%batch) batch (n/batch))/\Rd w g vs/\vs.length=epN n batch steps/\
  ∀j,j<epN n batch steps->∃h e,vs[j]?=some (.slice h n e)/\n<=e/\Rd w h (au .i64 (cX l n (j*(n-1))))
theorem mF {B:Nat} {u v:N6} {S n batch steps:Nat} {l:N3} (h:dN (cZ B u) S n batch steps l) (a:Agr B u v):dN v S n batch steps l:=by
 obtain ⟨g,i,E,C,vs,y,p,D,q,A⟩:=h
 exact ⟨g,i,E,C,vs,mG y a,fA p a,fA D a,q,fun j o=>by
  obtain ⟨F,x,e,k,m⟩:=A j o
  exact ⟨F,x,e,k,fA m a⟩⟩
theorem dN.below {w w':N6} {S n batch steps:Nat} {l:N3} (h:dN w S n batch steps l) (a:an w w'):dN w' S n batch steps l:=by
 obtain ⟨i,k,B,y,vs,e,q,A,u,x⟩:=h
 exact ⟨i,k,B,y,vs,(a.block _ (xZ e)).trans e,q.below a,A.below a,u,fun j p=>by
  obtain ⟨C,v,g,m,o⟩:=x j p
  exact ⟨C,v,g,m,o.below a⟩⟩
def wu (a wr:N6) (S n b c k:Nat) (A:N0) (l:N3) (m o p:Value):Prop:=
 ∃h g vs,wr.heap[S]?=some (.cells #[m,o,p,.slice h k g] 326 (0,0))/\wr.ownsRow a.heap.size 22 1 (.slice h k g) k vs/\
  (∀j,j<k->∃i e,vs[j]?=some (.slice i n e)/\n<=e/\wr.ownsRow a.heap.size 3 1 (.slice i n e) n (au .i64 (cX l n (j*(n-1)))))/\
  wr.heap[b]?=some (.cells #[.slice A l.length c,yY ((k*(n-1):Nat):Int)] 371 (0,0))/\Keep (fun j=>j=b\/j=S) a wr
theorem lT (A:N0) (l:N3) (c n batch steps:Nat) (w:N6) (hA:Rd w A (au .u64 l)) (hl:l.length<=1048576) (hu:U64 l) (hb:1<=batch) (cc:batch<=n) (hn:n<=1048576) (a6:steps<=1048576) (hd:epN n batch steps*(n-1)<=l.length):Calls prog 146 #[yY n,yY batch,yY steps,.slice A l.length c] w fun e w'=>∃S,e=.returned (.tuple #[(ap S),yY 0])/\dN (cZ w.heap.size w') S n batch steps l/\w.heap.size<=S/\an w w':=by
 have e2:¬((n:Int)<1):=am;have dv:¬((1048576:Int)<n):=am;have dm:¬((steps:Int)<0):=am;have dp:¬((1048576:Int)<steps):=am;have e3:¬((batch:Int)<1):=am;have e4:¬((n:Int)<batch):=am;obtain ⟨N,hN⟩:∃N,l.length=N:=⟨_,rfl⟩;have Y:=fun w'=>pA (n-n%batch) batch w' am hb am;rw [pq n batch hb cc] at Y;obtain ⟨y,W⟩:∃y,n/batch=y:=⟨_,rfl⟩;have c6:1<=y:=by rw [<-W];exact Nat.div_pos cc hb
 have d9:y<=n:=by rw [<-W];exact Nat.div_le_self _ _
 obtain ⟨r,hr⟩:∃r,n%batch=r:=⟨_,rfl⟩;have da:r<=n:=by rw [<-hr];exact Nat.mod_le _ _
 rw [hr,W] at Y;have e1:(n:Int).tmod (batch:Int)=(r:Int):=by rw [<-hr];rfl
 have dc:(n:Int)%(batch:Int)=(r:Int):=by rw [<-hr];rfl
 have e0:IntKind.i64.wrap (r:Int)=(r:Int):=yc _ am;have dh:IntKind.i64.wrap ((n:Int)-(r:Int))=((n-r:Nat):Int):=by rw [yc _ am];omega
 have dr:¬(batch=0):=am;obtain ⟨HA,Hu,Hd,HN,c8,bp,Hr⟩:=ai hA hu hd hN Y W hr;rw [hN] at hl ⊢;clear hA hu hd hN Y W hr;go_enter func146,ntmps146;go_wp2_with fail
 go_cut [10] (fun v wx=>∃P2 S D F,v=(ap P2)/\wx.heap[P2]?=some (.cells #[(ap S)] 253 (0,0))/\wx.heap[S]?=some (.cells #[yY batch,yY steps,.slice D y F,yZ] 326 (0,0))/\
  wx.ownsRow (w.heap.size+1) 111 2 (.slice D y F) y (dE (n-r) batch y)/\w.heap.size+1<=P2/\w.heap.size+1<=S/\Below (w.heap.size+1) (w.alloc (.cells #[yY n] 3)) wx)
 case first=>
  have d1:=x7 (w.alloc (.cells #[yY n] 3)) w.heap.size 0 _ _ _ (x6 w _);have g:(fun w':N6=>w'.cell? (ao w.heap.size 0)=some (yY n)) (w.alloc (.cells #[yY n] 3)).drew:=d1;refine eL 12 (fun w':N6=>w'.cell? (ao w.heap.size 0)=some (yY n)) (by kernel_rfl) ?_;refine wX 0 g ?_;refine wX 1 g ?_;refine wX 2 g ?_;refine wX 3 g ?_;refine wX 4 g ?_;refine wX 5 g ?_;refine wX 6 g ?_;refine wX 7 g ?_;simp only [yn,yo,yp,Act.put,yq,yr,yt];refine aU (rs:=[8,11]) (by kernel_rfl) (by simp) ?_;refine aC.cons rfl (fun K i=>?_) (aC.cons rfl (fun K i=>?_) aC.nil)
  ·simp only [yn,yo,yp];go_simp;refine (c8.o _).mono ?_;rintro e q ⟨v,rfl,ho,m⟩;obtain ⟨D,F,rfl,_⟩:=aB ho;have a1:=aq m g;have m:Below _ _ _:=m;simp only [yL,ym] at ho m;obtain ⟨Ho,L⟩:=ab ho m;clear ho m g;dsimp only;refine i.out _ _ a1 (fun g=>?_);clear i K a1;refine wX 9 g ?_;simp only [yn,yo,yp,Act.put,yq,yr,yt];refine aU (rs:=[10,11]) (by kernel_rfl) (by simp) ?_;refine aC.cons rfl (fun K i=>?_) (aC.cons rfl (fun K i=>?_) aC.nil)
   ·simp only [yn,yo,yp];go_simp;refine i.out _ _ (ay g _) (fun g=>?_);clear i K;refine aU (rs:=[11]) (by kernel_rfl) (by simp) ?_;refine aC.cons rfl (fun K i=>?_) aC.nil;simp only [yn,yo,yp];go_simp;refine i.out _ _ (ay g _) (fun g=>?_);clear i K g;refine cF (by rfl) (by kernel_rfl) ?_;simp only [yy,yz];go_wp2_with fail;go_meet;have Z:=L.o.size;simp at Z;refine ⟨q.heap.size+1,q.heap.size,D,F,rfl,?_,?_,(Ho.o.alloc _).alloc _,by omega,by omega,?_⟩
    ·have:=x6 (q.alloc (.cells #[yY batch,yY steps,.slice D y F,yZ] 326)) (.cells #[(ap q.heap.size)] 253);simpa using this
    ·exact (yj _ _ _ (by simp)).trans (x6 q _)
    ·exact ((((ya _ _).drew).trans L.o).alloc am _).alloc (by simp;omega) _
   ·simp only [yn,yo,yp];go_simp;refine i.out _ _ (ay g _) (fun g=>?_);clear i K;refine aU (rs:=[10]) (by kernel_rfl) (by simp) ?_;refine aC.cons rfl (fun K i=>?_) aC.nil;simp only [yn,yo,yp];go_simp;refine i.out _ _ (ay g _) (fun g=>?_);clear i K g;refine cF (by rfl) (by kernel_rfl) ?_;simp only [yy,yz];go_wp2_with fail;go_meet;have Z:=L.o.size;simp at Z;refine ⟨q.heap.size,q.heap.size+1,D,F,rfl,?_,?_,(Ho.o.alloc _).alloc _,by omega,by omega,?_⟩
    ·exact (yj _ _ _ (by simp)).trans (x6 q _)
    ·have:=x6 (q.alloc (.cells #[(ap (q.heap.size+1))] 253)) (.cells #[yY batch,yY steps,.slice D y F,yZ] 326);simpa using this
    ·exact ((((ya _ _).drew).trans L.o).alloc am _).alloc (by simp;omega) _
  ·simp only [yn,yo,yp];go_simp;refine i.out _ _ (ay g _) (fun g=>?_);clear i K;refine aU (rs:=[8]) (by kernel_rfl) (by simp) ?_;refine aC.cons rfl (fun K i=>?_) aC.nil;simp only [yn,yo,yp];go_simp;refine (c8.o _).mono ?_;rintro e q ⟨v,rfl,ho,m⟩;have u:q.heap[w.heap.size+1]?=some (.cells #[.pointer none] 253 (0,0)):=(m.block (w.heap.size+1) (by simp)).trans (by rw [<-show (w.alloc (.cells #[yY n] 3)).heap.size=w.heap.size+1 by simp];exact x6 _ _);obtain ⟨t0,tf⟩:=bx1 u;have ck:=xZ u;have T:=aa u;clear u;obtain ⟨D,F,rfl,_⟩:=aB ho;have a1:=aq m g;have m:Below _ _ _:=m;simp only [yL,ym] at ho m;obtain ⟨Ho,L⟩:=ab ho m;clear ho m g;dsimp only;refine i.out _ _ a1 (fun g=>?_);clear i K a1;refine wX 9 g ?_;simp only [yn,yo,yp,Act.put,yq,yr,yt];refine aU (rs:=[10]) (by kernel_rfl) (by simp) ?_;refine aC.cons rfl (fun K i=>?_) aC.nil;simp only [yn,yo,yp];go_simp;refine i.out _ _ (ay g _) (fun g=>?_);clear i K g;refine cF (by rfl) (by kernel_rfl) ?_;simp only [yy,yz];go_wp2_with fail;go_meet;have Z:=L.o.size;simp at Z;have hk:Keep (fun j=>j=w.heap.size+1) q (q.setCell (ao (w.heap.size+1) 0) ((ap q.heap.size))):=Keep.setCell (S:=fun j=>j=w.heap.size+1) (Keep.refl _ _) (ao (w.heap.size+1) 0) (.inr rfl) _;have h0:Below (w.heap.size+1) (w.alloc (.cells #[yY n] 3)) q:=((ya _ _).alloc (by simp) _).drew.trans (L.o.mono am);refine ⟨w.heap.size+1,q.heap.size,D,F,rfl,?_,?_,?_,by omega,by omega,?_⟩
   ·exact (yj _ _ _ (by simpa using ck)).trans (yW q (w.heap.size+1) 0 _ _ _ T.o)
   ·have:=x6 (q.setCell (ao (w.heap.size+1) 0) ((ap q.heap.size))) (.cells #[yY batch,yY steps,.slice D y F,yZ] 326)
    rwa [show (q.setCell (ao (w.heap.size+1) 0) ((ap q.heap.size))).heap.size=q.heap.size by simp] at this
   ·exact aA ((hk.own Ho.o (fun j G e=>ar T.o (by decide) Ho.o (by rw [G,e]))).alloc _) am
   ·exact (h0.trans (hk.toBelow am (fun j G=>am))).alloc (by simp;omega) _
 case rest=>
  obtain ⟨P2,S,D,F,rfl,u,hS,bM,dT,dG,be⟩:=hcut;have bo:an w wc:=((ya _ w).alloc (x4 _) _).trans (be.mono am);have bD:=(be.block w.heap.size am).trans (x6 w (.cells #[yY n] 3));have bk:=ux A l c wc (HA.o.below bo) (by have:=HN.o;omega);rw [HN.o] at bk;obtain ⟨T,HS,ct,bh,c4,cl⟩:=ah u hS bM bo bD bk;clear u hS bM bo bD bk be;go_wp2_with fail;refine cl.o.mono ?_;rintro e w3 ⟨b,A3,c3,rfl,b2,c5,cz,H⟩;have a7:=(H.block _ (xZ T.o)).trans T.o;have a4:=(H.block _ (xZ HS.o)).trans HS.o;have bz:=(H.block _ (xZ c4.o)).trans c4.o;have b6:=az ct.o H;have av:=bh.o.trans (H.mono bh.o.size);have dk:=H.size;obtain ⟨t0,tf⟩:=bx1 a7;obtain ⟨⟨y0,y1,y2,y3⟩,yf⟩:=bx4 a4;have l1:=xZ a7;have l2:=xZ a4;obtain ⟨bG,bN,bm,a9,bb,b3,d0⟩:=ai a7 a4 bz b6 av b2 c5;clear a7 a4 bz b6 av b2 c5 H;go_wp2_with fail;have he:epN n batch steps=fL steps y:=by unfold epN;rw [bp.o]
  have cA:=gG steps y;have hd:=Hd.o;rw [he] at hd;rw [HN.o] at hd;obtain ⟨E,hE⟩:∃E,fL steps y=E:=⟨_,rfl⟩;rw [hE] at he cA hd;have bg:=lr steps y (w3.alloc (.cells #[(ap b)] 327)) a6 c6 am;rw [hE] at bg;obtain ⟨He,d7,bv⟩:=ae he hd bg;clear he hd bg hE;refine bv.o.mono ?_;rintro e w' ⟨rfl,rfl⟩;obtain ⟨Q,I⟩:∃Q,Q=w3.alloc (.cells #[(ap b)] 327):=⟨_,rfl⟩;have a8:Q.heap[w3.heap.size]?=some (.cells #[(ap b)] 327 (0,0)):=by rw [I];exact x6 w3 _
  have J:an w3 Q:=by rw [I];exact (ya _ _).alloc (x4 _) _
  have cs:w3.heap.size<Q.heap.size:=xZ a8;have U:=(J.block _ l2).trans bN.o;have a0:=(J.block _ l1).trans bG.o;have a5:=(J.block _ (xZ bm.o)).trans bm.o;have C:=az a9.o J;have p:=b3.o.below J;have b5:=bb.o.trans (J.mono bb.o.size);rw [<-I];have d5:=xZ a5;have Y:=p.lt
  have c2:b≠S:=fun e=>by
   have h1:=p.blk;rw [e,U] at h1;simp at h1
  have M:∀{x t},Q.heap[x]?=some (.cells #[t] 3 (0,0))\/Q.heap[x]?=some (.cells #[t] 327 (0,0))\/Q.heap[x]?=some (.cells #[t] 253 (0,0))->¬(x=b\/x=S):=fun h=>by
   rintro (rfl | rfl)
   ·have h1:=p.blk;rcases h with h | h | h<;>(rw [h1] at h;simp at h)
   ·rcases h with h | h | h<;>(rw [U] at h;simp at h)
  have cd:=M (.inl a5);have bc:=M (.inr (.inl a8));have b1:=M (.inr (.inr a0));have bA:=C.lt
  have bF:∀a,A3=some a->¬(a.block=b\/a.block=S):=fun a ha=>by
   rintro (h | h)
   ·exact p.ne a ha h
   ·have:=d0.o a ha;have:=xZ HS.o;omega
  have bd:∀j,(Value.slice D y F).ownBlock=some j->¬(j=b\/j=S):=fun j G=>by
   rintro (rfl | rfl)
   ·exact ar p.blk (by decide) C G.symm
   ·exact ar U (by decide) C G.symm
  obtain ⟨d6,cm,b0,cj,bV,X,a2,d3⟩:=aj a8 U a0 a5 C p b5 cd;obtain ⟨c0,b9,d8,bO,ds⟩:=ag bc b1 bF bd c2;clear a8 U a0 a5 C p b5 cd bc b1 bF bd c2 M bA J I bv bG bN bm a9 b3 t0 tf y0 y1 y2 y3 yf;go_wp2_with fail
  go_loopw [57] (fun x wr=>∃k:Nat,k<=E/\x=yY k/\wu Q wr S n b c3 k A3 l (yY batch) (yY steps) (.slice D y F)) (fun x _=>E-(intOf x).toNat)
  case atStart=>
   refine ⟨0,yb _,rfl,none,0,[],cm.o,yi _ _ _ _,fun j G=>am,?_,Keep.refl _ _⟩;rw [Nat.zero_mul];exact X.o.blk
  case round=>
   obtain ⟨k,hk,rfl,Ao,co,vs,hS,V,B,bs,i⟩:=hrel;by_cases cp:k<E
   ·have cr:k*(n-1)+(n-1)<=N:=by
     have h1:(k+1)*(n-1)<=E*(n-1):=yX _ cp;rw [yP] at h1;have:=d7.o;omega
    have a6:aY wr b A3 c3 l (k*(n-1)):=⟨bs,i.rd X.o.rd (fun a ha e=>d8.o a ha e),X.o.ne⟩
    have c7:=rO w.heap.size w3.heap.size P2 S n b c3 (k*(n-1)) k Q.heap.size A3 l Ao co (yY batch) (yY steps) (.slice D y F) vs wr
     ((i.block _ d5 d3.o).trans cj.o) ((i.block _ cs c0.o).trans d6.o) ((i.block _ am b9.o).trans b0.o) hS a6 V i.size am am hn (by rw [HN.o];exact cr) (by rw [HN.o];exact hl) Hu.o
    obtain ⟨cv,bl,HK⟩:=ae c7 B i;clear c7 B i a6 hS V bs;go_wp2_with fail;refine cv.o.mono ?_;rintro e w5 ⟨rfl,A1,c1,d2,cg,bB,a3,ce,bw,c9,R,P⟩
    have ad:Keep (fun j=>j=b\/j=S) Q w5:=⟨P.os.trans HK.o.os,P.tape.trans HK.o.tape,P.output.trans HK.o.output,yd HK.o.size P.size,fun j G hn=>(P.block j (ye G HK.o.size) (fun h=>by
     rcases h with h | h | h
     ·exact hn (.inl h)
     ·exact hn (.inr h)
     ·omega)).trans (HK.o.block j G hn)⟩
    have O:∀j,j<k+1->∃A' c',(vs++[Value.slice A1 n c1])[j]?=some (.slice A' n c')/\n<=c'/\w5.ownsRow Q.heap.size 3 1 (.slice A' n c') n (au .i64 (cX l n (j*(n-1)))):=fun j G=>by
     have d4:vs.length=k:=by have:=a3.1;simp at this;omega
     rcases yl j k with h | h
     ·obtain ⟨A',c',k1,k2,k3⟩:=bl.o j h;exact ⟨A',c',by rw [yD am];exact k1,k2,R _ _ _ _ k3⟩
     ·obtain rfl:j=k:=am;exact ⟨A1,c1,by rw [yE am,d4];simp,ce,bw⟩
    have b4:wu Q w5 S n b c3 (k+1) A3 l (yY batch) (yY steps) (.slice D y F):=⟨d2,cg,_,bB,a3,O,by rw [yP];exact c9,ad⟩;have cx:=aa b4;clear b4 bB a3 ce bw c9 R P ad O;go_wp2_with fail;go_roundw
    ·exact ⟨k+1,by omega,by go_num,cx.o⟩
    ·simp [intOf];omega
   ·obtain rfl:E=k:=am;have u:=(i.block _ am b9.o).trans b0.o;have I:=a2.o.size
    have b8:dN (cZ w.heap.size wr) S n batch steps l/\w.heap.size<=S:=by
     refine ⟨?_,by omega⟩;refine ⟨D,F,Ao,co,vs,?_,?_,Rd.own (ed V I),?_,?_⟩
     ·rw [He.o,bp.o,eN am];exact hS
     ·rw [Hr.o,bp.o];exact Rd.own (ed (i.own bV.o bO.o) am)
     ·have:=V.1;rw [He.o];omega
     ·intro j G;rw [He.o] at G;obtain ⟨A',c',k1,k2,k3⟩:=B j G;exact ⟨A',c',k1,k2,Rd.own (ed k3 I)⟩
    have bC:an w wr:=a2.o.trans (i.toBelow a2.o.size (fun j G=>by have:=cz;have:=bh.o.size;rcases G with h | h<;>omega));obtain ⟨t0,tf⟩:=bx1 u;obtain ⟨b7,cy⟩:=ab b8 bC;clear b8 bC hS V B bs i u;go_wp2_with fail;go_ret2;exact ⟨S,rfl,b7.o.1,b7.o.2,cy.o⟩
structure Inp where
 cfg:Cfg
 data:N8
 start:N3
 draws:N3
def fV (n b st:Nat):Nat:=epN n b st*(n-1)
theorem xh (n b st:Nat):epN n b st<=st:=gG _ _
theorem nt {n b st:Nat} (g:n<=1048576) (h:st<=1048576):fV n b st<=1099511627776:=by
 have a:=xh n b st;have e:epN n b st*(n-1)<=1048576*1048576:=Nat.mul_le_mul am am;unfold fV;omega
def inN (i:Inp):Nat:=szN i.cfg.sizes 0
def kt (i:Inp):Nat:=szN i.cfg.sizes (i.cfg.sizes.length-1)
def cnt (i:Inp):Nat:=aF i.cfg.sizes (i.cfg.sizes.length-1)
def fZ (i:Inp):Bool:=decide (i.cfg.batch<=i.data.length/\i.data.length<=1048576)
def xd (i:Inp):Bool:=decide (∀x∈i.data,cG (inN i) (kt i) x)
def fB (i:Inp):Bool:=xd i&&decide (i.start.length=cnt i)
def iZ (i:Inp):Bool:=decide (fV i.data.length i.cfg.batch.toNat i.cfg.steps.toNat<=i.draws.length)
noncomputable def aW (i:Inp):Int:=if aM i.cfg≠0 then aM i.cfg else if fZ i=false then 7 else if fB i=false then 5 else if iZ i=false then 8 else 0
theorem wT {i:Inp} (h:aM i.cfg≠0):aW i=aM i.cfg:=by unfold aW;rw [if_pos h]
theorem wV {i:Inp} (a:aM i.cfg=0) (h:fZ i=false):aW i=7:=by unfold aW;rw [if_neg (by simp [a]),if_pos h]
theorem wW {i:Inp} (e:aM i.cfg=0) (a:fZ i=true) (h:fB i=false):aW i=5:=by unfold aW;rw [if_neg (by simp [e]),if_neg (by simp [a]),if_pos h]
theorem wU {i:Inp} (g:aM i.cfg=0) (a:fZ i=true) (e:fB i=true) (h:iZ i=false):aW i=8:=by unfold aW;rw [if_neg (by simp [g]),if_neg (by simp [a]),if_neg (by simp [e]),if_pos h]
theorem wY {i:Inp} (g:aM i.cfg=0) (a:fZ i=true) (e:fB i=true) (h:iZ i=true):aW i=0:=by unfold aW;rw [if_neg (by simp [g]),if_neg (by simp [a]),if_neg (by simp [e]),if_neg (by simp [h])]
structure bQ (i:Inp):Prop where
 c:fe i.cfg
 b:i.cfg.batch<=i.data.length/\i.data.length<=1048576
 f:∀x∈i.data,cG (inN i) (kt i) x
 s:i.start.length=cnt i
 d:fV i.data.length i.cfg.batch.toNat i.cfg.steps.toNat<=i.draws.length
theorem eW {i:Inp}:aW i=0↔bQ i:=by
 constructor
 ·intro h;by_cases a:aM i.cfg=0
  ·cases h1:fZ i with
   | false=>rw [wV a h1] at h;omega
   | true=>
    cases h2:fB i with
    | false=>rw [wW a h1 h2] at h;omega
    | true=>
     cases h3:iZ i with
     | false=>rw [wU a h1 h2 h3] at h;omega
     | true=>
      simp only [fB,Bool.and_eq_true] at h2;exact ⟨eE.1 a,of_decide_eq_true h1,of_decide_eq_true h2.1,of_decide_eq_true h2.2,of_decide_eq_true h3⟩
  ·rw [wT a] at h;exact absurd h a
 ·intro h;refine wY (eE.2 h.c) (yS h.b) ?_ (yS h.d);simp only [fB,Bool.and_eq_true];exact ⟨yS h.f,yS h.s⟩
theorem fk (n:Int) (w:N6):Calls prog 83 #[yY n] w fun e w'=>e=.returned (.bool (okB n))/\w=w':=by
 by_cases a:n<1
 ·go_enter func83,ntmps83;go_wp2;go_ret;exact ⟨aL (by unfold okB;simp;omega),rfl⟩
 ·by_cases g:1048576<n
  ·go_enter func83,ntmps83;go_wp2;go_ret;exact ⟨aL (by unfold okB;simp;omega),rfl⟩
  ·go_enter func83,ntmps83;go_wp2;go_ret;exact ⟨aL (by unfold okB;simp;omega),rfl⟩
def xG (sz:N3) (w:N6) (e:Ending) (w':N6):Prop:=an w w'/\((bn sz/\∃b,e=.returned (.tuple #[(ap b),yY 0])/\aR 109 w' b sz/\w.heap.size<=b)\/(¬bn sz/\e=.returned (.tuple #[.pointer none,yY (cB sz)])))
def xo (sz:N3) (w:N6) (e:Ending) (w':N6):Prop:=an w w'/\((bn sz/\∃b,e=.returned (.tuple #[(ap b),yY 0])/\aR 109 (cZ w.heap.size w') b sz/\w.heap.size<=b)\/(¬bn sz/\e=.returned (.tuple #[.pointer none,yY (cB sz)])))
theorem gY (A:N0) (sz:N3) (c:Nat) (w:N6) (hA:Rd w A (au .i64 sz)) (hc:sz.length<=c) (hm:c<=9223372036854775807):Calls prog 16 #[.slice A sz.length c] w (xo sz w):=by
 by_cases g:2<=sz.length/\sz.length<=16
 ·by_cases i:∀k,k<sz.length->1<=nth sz k/\nth sz k<=1048576
  ·refine (mL A sz c w hA hc hm ⟨g,i⟩).mono fun e w' ⟨j,h⟩=>⟨j,?_⟩;rcases h with ⟨h,a⟩ | ⟨h,b,a,l,m⟩
   ·have hg:¬bn sz:=fun hg=>by have:=hg.2;omega
    exact .inr ⟨hg,by rw [fO hg ⟨g,i⟩];exact a⟩
   ·exact .inl ⟨⟨⟨g,i⟩,h⟩,b,a,l,m⟩
  ·refine (n9 A sz c w hA hc hm g i).mono fun e w' ⟨a,hw⟩=>?_;subst hw;exact ⟨ya _ _,.inr ⟨fun hg=>i hg.1.2,by rw [dx (fun hr=>i hr.2)];exact a⟩⟩
 ·refine (oc A sz c w hc hm g).mono fun e w' ⟨a,hw⟩=>?_;subst hw;exact ⟨ya _ _,.inr ⟨fun hg=>g hg.1.1,by rw [dx (fun hr=>g hr.1)];exact a⟩⟩
theorem kH (A:N0) (sz:N3) (c:Nat) (w:N6) (hA:Rd w A (au .i64 sz)) (hc:sz.length<=c) (hm:c<=9223372036854775807):Calls prog 16 #[.slice A sz.length c] w (xG sz w):=by
 refine (gY A sz c w hA hc hm).mono ?_;rintro e w' ⟨a,⟨hg,b,g,i,j⟩ | h⟩
 ·exact ⟨a,.inl ⟨hg,b,g,gj i (Agr.refl _ _),j⟩⟩
 ·exact ⟨a,.inr h⟩
abbrev bE (A:N0) (c:Nat) (k:Cfg):N4:=#[.slice A k.sizes.length c,yY k.shift,yY k.rate,yY k.mom,yY k.workers,yY k.batch,yY k.micros,yY k.steps,yY k.bucket,yY k.chunk,yY k.window,yY k.cap]
structure ff (w:N6) (A:N0) (c:Nat) (k:Cfg):Prop where
 hc:k.sizes.length<=c
 hm:c<=9223372036854775807
 hl:k.sizes.length<=17592186043904
 hr:Rd w A (au .i64 k.sizes)
theorem ff.below {w w':N6} {A:N0} {c:Nat} {k:Cfg} (h:ff w A c k) (a:an w w'):ff w' A c k:=⟨h.hc,h.hm,h.hl,h.hr.below a⟩
theorem lw (A:N0) (c:Nat) (k:Cfg) (w:N6) (h:ff w A c k):Calls prog 41 #[.agg (bE A c k)] w fun e w'=>e=.returned (yY (aM k))/\an w w':=by
 have x:=fun w' (q:an w w')=>kH A k.sizes c w' (h.hr.below q) h.hc h.hm;have Z:=@uC k;have f9:=@uA k;have Y:=@uz k;have X:=@uD k;have U:=@uB k;have f0:=@uE k;unfold wkB shB iB baB jL at *;obtain ⟨n,m⟩:∃n,aM k=n:=⟨_,rfl⟩;rw [m] at Z f9 Y X U f0 ⊢;clear m h;obtain ⟨sz,H,ra,mo,u,ba,mi,st,bu,ch,wi,ca⟩:=k;dsimp only [bE] at *;obtain ⟨L,hL⟩:∃L,sz.length=L:=⟨_,rfl⟩;rw [hL] at x ⊢;obtain ⟨V,F6,F9,Fs,I,R,F0⟩:=ai x Z f9 Y X U f0;clear x Z f9 Y X U f0 hL;go_enter func41,ntmps41;go_wp2_with fail;have W:=x6 w (.cells #[.slice A L c,yY H,yY ra,yY mo,yY u,yY ba,yY mi,yY st,yY bu,yY ch,yY wi,yY ca] 24);have S:=(ya _ w).alloc (x4 _) (.cells #[.slice A L c,yY H,yY ra,yY mo,yY u,yY ba,yY mi,yY st,yY bu,yY ch,yY wi,yY ca] 24);refine (V.o _ S).mono ?_;rintro e w1 ⟨j,hs⟩;have P:=(j.block _ (xZ W)).trans W;have g:=aa (S.trans (j.mono S.size));obtain ⟨⟨z0,z1,z2,z3,z4,z5,z6,z7,z8,z9,a1,a4⟩,zf⟩:=fY P;clear W S j P
 -- the sizes' n
 obtain ⟨p,K,rfl,M⟩:∃p K,e=.returned (.tuple #[.pointer p,yY K])/\cB sz=K:=by
  rcases hs with ⟨hg,b,rfl,_⟩ | ⟨hg,rfl⟩
  ·exact ⟨_,0,rfl,eO hg⟩
  ·exact ⟨_,_,rfl,rfl⟩
 have a:=aa M;clear hs M;by_cases h1:u<1
 ·go_wp2_with fail;go_ret;exact ⟨aD (F6.o (by rw [yU];omega)).symm,g.o⟩
 by_cases a3:64<u
 ·go_wp2_with fail;go_ret;exact ⟨aD (F6.o (by rw [yU];omega)).symm,g.o⟩
 have i:=aa (show decide (1<=u/\u<=64)=true by rw [yV];omega);by_cases h2:H<1
 ·go_wp2_with fail;go_ret;exact ⟨aD (F9.o i.o (by rw [yU];omega)).symm,g.o⟩
 by_cases a2:62<H
 ·go_wp2_with fail;go_ret;exact ⟨aD (F9.o i.o (by rw [yU];omega)).symm,g.o⟩
 have l:=aa (show decide (1<=H/\H<=62)=true by rw [yV];omega);by_cases Q:K≠0
 ·have hq:(K != 0)=true:=by rw [bne_iff_ne];exact Q
  have H3:=aa Q;clear Q;go_wp2_with fail;go_ret;exact ⟨aD (by rw [Fs.o i.o l.o (by rw [a.o];exact H3.o)];exact a.o.symm),g.o⟩
 obtain rfl:K=0:=am;clear Q;go_wp2_with fail;refine (fk mi _).mono ?_;rintro e w' ⟨rfl,rfl⟩;obtain ⟨b0,B⟩:∃b,okB mi=b:=⟨_,rfl⟩;have v:=aa B;rw [B];clear B;rcases bK b0 with rfl | rfl
 ·go_wp2_with fail;go_ret;exact ⟨aD (I.o i.o l.o a.o (by simp [v.o])).symm,g.o⟩
 go_wp2_with fail;refine (fk bu _).mono ?_;rintro e w' ⟨rfl,rfl⟩;obtain ⟨b1,j⟩:∃b,okB bu=b:=⟨_,rfl⟩;have G:=aa j;rw [j];clear j;rcases bK b1 with rfl | rfl
 ·go_wp2_with fail;go_ret;exact ⟨aD (I.o i.o l.o a.o (by simp [v.o,G.o])).symm,g.o⟩
 go_wp2_with fail;refine (fk ch _).mono ?_;rintro e w' ⟨rfl,rfl⟩;obtain ⟨b2,C⟩:∃b,okB ch=b:=⟨_,rfl⟩;have J:=aa C;rw [C];clear C;rcases bK b2 with rfl | rfl
 ·go_wp2_with fail;go_ret;exact ⟨aD (I.o i.o l.o a.o (by simp [v.o,G.o,J.o])).symm,g.o⟩
 go_wp2_with fail;refine (fk wi _).mono ?_;rintro e w' ⟨rfl,rfl⟩;obtain ⟨b3,D⟩:∃b,okB wi=b:=⟨_,rfl⟩;have O:=aa D;rw [D];clear D;rcases bK b3 with rfl | rfl
 ·go_wp2_with fail;go_ret;exact ⟨aD (I.o i.o l.o a.o (by simp [v.o,G.o,J.o,O.o])).symm,g.o⟩
 go_wp2_with fail;refine (fk ca _).mono ?_;rintro e w' ⟨rfl,rfl⟩;obtain ⟨b4,F⟩:∃b,okB ca=b:=⟨_,rfl⟩;have T:=aa F;rw [F];clear F;rcases bK b4 with rfl | rfl
 ·go_wp2_with fail;go_ret;exact ⟨aD (I.o i.o l.o a.o (by simp [v.o,G.o,J.o,O.o,T.o])).symm,g.o⟩
 by_cases N:st=0
 ·have hq:(st != 0)=false:=by rw [N];rfl
  have y:=aa (show (okB mi&&okB bu&&okB ch&&okB wi&&okB ca&&decide (0<=st/\st<=1048576))=true by rw [v.o,G.o,J.o,O.o,T.o];simp;omega);clear N;by_cases h5:ba<u
  ·go_wp2_with fail;go_ret;exact ⟨aD (R.o i.o l.o a.o y.o (by rw [yU];omega)).symm,g.o⟩
  by_cases a0:1048576<ba
  ·go_wp2_with fail;go_ret;exact ⟨aD (R.o i.o l.o a.o y.o (by rw [yU];omega)).symm,g.o⟩
  go_wp2_with fail;go_ret;exact ⟨aD (F0.o i.o l.o a.o y.o (by rw [yV];omega)).symm,g.o⟩
 ·have hq:(st != 0)=true:=by rw [bne_iff_ne];exact N
  have H4:=aa N;clear N;go_wp2_with fail;refine (fk st _).mono ?_;rintro e w' ⟨rfl,rfl⟩;obtain ⟨b5,E⟩:∃b,okB st=b:=⟨_,rfl⟩;have O5:=aa E;rw [E];clear E;rcases bK b5 with rfl | rfl
  ·go_wp2_with fail;go_ret;exact ⟨aD (I.o i.o l.o a.o (by rw [v.o,G.o,J.o,O.o,T.o];have:=rB O5.o;have:=H4.o;simp;omega)).symm,g.o⟩
  have y:=aa (show (okB mi&&okB bu&&okB ch&&okB wi&&okB ca&&decide (0<=st/\st<=1048576))=true by rw [v.o,G.o,J.o,O.o,T.o];have:=ft O5.o;simp;omega);by_cases h5:ba<u
  ·go_wp2_with fail;go_ret;exact ⟨aD (R.o i.o l.o a.o y.o (by rw [yU];omega)).symm,g.o⟩
  by_cases a0:1048576<ba
  ·go_wp2_with fail;go_ret;exact ⟨aD (R.o i.o l.o a.o y.o (by rw [yU];omega)).symm,g.o⟩
  go_wp2_with fail;go_ret;exact ⟨aD (F0.o i.o l.o a.o y.o (by rw [yV];omega)).symm,g.o⟩
theorem ro (n:Nat) (w:N6) (h:1<=n) (a:n<=1048576):Calls prog 87 #[yY n] w fun e w'=>e=.returned (yY ((n-1:Nat):Int))/\w=w':=by
 have g:(0:Int)<=(n:Int)-1:=am;go_enter func87,ntmps87;go_wp2
 all_goals
  go_ret;exact ⟨aD am,rfl⟩
theorem pd (A:N0) (c n:Nat) (k:Cfg) (w:N6) (h:ff w A c k) (hg:fe k) (hn:k.batch<=n/\(n:Int)<=1048576):Calls prog 86 #[.agg (bE A c k),yY n] w fun e w'=>e=.returned (yY (epN n k.batch.toNat k.steps.toNat:Int))/\an w w':=by
 have l:=fun w' (q:an w w')=>lw A c k w' (h.below q);rw [eE.2 hg] at l;have g1:=hg.w;have Z:=hg.ba;have Y:=hg.st;clear h hg;obtain ⟨sz,F,ra,D,H,ba,mi,st,bu,ch,wi,ca⟩:=k;dsimp only [bE] at *;obtain ⟨bt,rfl⟩:∃bt:Nat,ba=bt:=⟨ba.toNat,by omega⟩;obtain ⟨sn,rfl⟩:∃sn:Nat,st=sn:=⟨st.toNat,by omega⟩;rw [Int.toNat_natCast,Int.toNat_natCast];obtain ⟨L,I⟩:∃L,sz.length=L:=⟨_,rfl⟩;rw [I] at l ⊢;obtain ⟨a,g⟩:∃a,n/bt=a:=⟨_,rfl⟩;have m:1<=a:=by rw [<-g];exact Nat.div_pos am am
 have B:a<=n:=by rw [<-g];exact Nat.div_le_self _ _
 have J:epN n bt sn=(sn+a-1)/a:=by unfold epN;rw [g,ml _ _ m]
 rw [J];have y:(sn+a-1)/a<=sn+a-1:=Nat.div_le_self _ _;obtain ⟨E,j⟩:∃E,(sn+a-1)/a=E:=⟨_,rfl⟩;rw [j] at y ⊢;have M:(n:Int).tdiv (bt:Int)=(a:Int):=by rw [<-g];rfl
 have K:(n:Int)/(bt:Int)=(a:Int):=by rw [<-g];rfl
 have i:(sn:Int)+a-1=((sn+a-1:Nat):Int):=am;have U:((sn:Int)+a-1).tdiv (a:Int)=(E:Int):=by rw [i,<-j];rfl
 have G:((sn:Int)+a-1)/(a:Int)=(E:Int):=by rw [i,<-j];rfl
 have R:¬(bt=0):=am;have T:¬(a=0):=am;have Q:¬((n:Int)<bt):=am;have O:¬((1048576:Int)<n):=am;have x:=aa l;clear l I g J j i;go_enter func86,ntmps86;go_wp2_with fail;have C:=x6 w (.cells #[.slice A L c,yY F,yY ra,yY D,yY H,yY bt,yY mi,yY sn,yY bu,yY ch,yY wi,yY ca] 24);have v:=(ya _ w).alloc (x4 _) (.cells #[.slice A L c,yY F,yY ra,yY D,yY H,yY bt,yY mi,yY sn,yY bu,yY ch,yY wi,yY ca] 24);refine (x.o _ v).mono ?_;rintro e V ⟨rfl,p⟩;have u:=(p.block _ (xZ C)).trans C;have P:=aa (v.trans (p.mono v.size));obtain ⟨⟨z0,z1,z2,z3,z4,X,z6,W,z8,z9,N,S⟩,zf⟩:=fY u;clear C v p u;go_wp2_with fail;go_ret;exact ⟨rfl,P.o⟩
theorem tI (A:N0) (c n:Nat) (k:Cfg) (w:N6) (h:ff w A c k) (hg:fe k) (J:k.batch<=n/\(n:Int)<=1048576):Calls prog 44 #[.agg (bE A c k),yY n] w fun e w'=>e=.returned (yY (fV n k.batch.toNat k.steps.toNat:Int))/\an w w':=by
 have a:=fun w' (q:an w w')=>pd A c n k w' (h.below q) hg J;have N:=hg.w;have M:=hg.ba;have P:=hg.st;have i:=fun w'=>ro n w' am am;have g:=nt (n:=n) (b:=k.batch.toNat) (st:=k.steps.toNat) am am;unfold fV at g ⊢;clear h hg;obtain ⟨sz,B,ra,x,C,ba,mi,st,bu,ch,wi,ca⟩:=k;dsimp only [bE] at *;obtain ⟨L,D⟩:∃L,sz.length=L:=⟨_,rfl⟩;rw [D] at a ⊢;obtain ⟨E,F⟩:∃E,epN n ba.toNat st.toNat=E:=⟨_,rfl⟩;obtain ⟨m,hm⟩:∃m,n-1=m:=⟨_,rfl⟩;rw [F] at a g ⊢;rw [hm] at i g ⊢;obtain ⟨y,v⟩:∃y,E*m=y:=⟨_,rfl⟩;rw [v] at g ⊢;have G:(E:Int)*(m:Int)=(y:Int):=by rw [<-v];push_cast;rfl
 obtain ⟨p,u⟩:=ab a i;clear a i D F hm v;go_enter func44,ntmps44;go_wp2_with fail;have I:=x6 w (.cells #[.slice A L c,yY B,yY ra,yY x,yY C,yY ba,yY mi,yY st,yY bu,yY ch,yY wi,yY ca] 24);have l:=(ya _ w).alloc (x4 _) (.cells #[.slice A L c,yY B,yY ra,yY x,yY C,yY ba,yY mi,yY st,yY bu,yY ch,yY wi,yY ca] 24);refine (p.o _ l).mono ?_;rintro e K ⟨rfl,j⟩;have H:=aa (l.trans (j.mono l.size));clear I l j;go_wp2_with fail;refine (u.o _).mono ?_;rintro e O ⟨rfl,rfl⟩;go_wp2_with fail;go_ret;exact ⟨rfl,H.o⟩
abbrev ax (A:N0) (c:Nat) (D:N0) (cd:Nat) (T:N0) (ct:Nat) (R:N0) (cr:Nat) (i:Inp):N4:=
 #[.slice A i.cfg.sizes.length c,yY i.cfg.shift,yY i.cfg.rate,yY i.cfg.mom,yY i.cfg.workers,yY i.cfg.batch,yY i.cfg.micros,yY i.cfg.steps,yY i.cfg.bucket,yY i.cfg.chunk,yY i.cfg.window,yY i.cfg.cap,
  .slice D i.data.length cd,.slice T i.start.length ct,.slice R i.draws.length cr]
structure dJ (w:N6) (A:N0) (c:Nat) (D:N0) (T:N0) (ct:Nat) (R:N0) (i:Inp):Prop where
 c:ff w A c i.cfg
 d:aQ rEx 2 w D i.data
 dl:i.data.length<=1048576
 t:aP w T i.start ct
 tl:i.start.length<=1048576
 r:Rd w R (au .u64 i.draws)
 rl:i.draws.length<=1048576
 ru:U64 i.draws
 ra: -9223372036854775808<=i.cfg.rate/\i.cfg.rate<=9223372036854775807
 rm: -9223372036854775808<=i.cfg.mom/\i.cfg.mom<=9223372036854775807
theorem dJ.below {w w':N6} {A:N0} {c:Nat} {D T R:N0} {e:Nat} {i:Inp} (h:dJ w A c D T e R i) (a:an w w'):dJ w' A c D T e R i:=
 ⟨h.c.below a,h.d.below aH a,h.dl,h.t.below a,h.tl,h.r.below a,h.rl,h.ru,h.ra,h.rm⟩
theorem iX (A:N0) (c:Nat) (D:N0) (cd:Nat) (T:N0) (ct:Nat) (R:N0) (cr:Nat) (i:Inp) (w:N6) (h:dJ w A c D T ct R i):Calls prog 14 #[.agg (ax A c D cd T ct R cr i)] w fun e w'=>e=.returned (yY (aW i))/\an w w':=by
 have a5:=fun w' (q:an w w')=>lw A c i.cfg w' (h.c.below q);have b9:=fun w' (q:an w w')=>kH A i.cfg.sizes c w' (h.c.hr.below q) h.c.hc h.c.hm;have av:=fun S w' (hS:aR 109 w' S i.cfg.sizes)=>eR S i.cfg.sizes w' hS;have a4:=fun a b w' (q:an w w')=>pi a b cd D i.data w' (h.d.below aH q) h.dl;have E:=fun (hg:fe i.cfg) (hb:i.cfg.batch<=i.data.length/\(i.data.length:Int)<=1048576) w' (q:an w w')=>tI A c i.data.length i.cfg w' (h.c.below q) hg hb;have fc:=@wT i;have f7:=@wV i;have P:=@wW i;have y:=@wU i;have B:=@wY i;have b6:=@eE i.cfg;have bh:=h.c.hr;have c4:=h.dl;have c8:=h.tl;have c3:=h.rl;unfold jc at a4;unfold fZ at f7 P y B;unfold fB xd inN kt cnt at P y B;unfold iZ at y B;obtain ⟨b3,a2⟩:∃b3,aW i=b3:=⟨_,rfl⟩;rw [a2] at fc f7 P y B ⊢;clear a2 h;obtain ⟨⟨sz,J,ra,I,O,ba,mi,st,bu,ch,wi,ca⟩,data,start,draws⟩:=i;dsimp only [ax,bE] at *;obtain ⟨L,hL⟩:∃L,sz.length=L:=⟨_,rfl⟩;obtain ⟨N,hN⟩:∃N,data.length=N:=⟨_,rfl⟩;obtain ⟨M,hM⟩:∃M,start.length=M:=⟨_,rfl⟩;obtain ⟨Q,hQ⟩:∃Q,draws.length=Q:=⟨_,rfl⟩;obtain ⟨cc,bA⟩:∃cc,aM ⟨sz,J,ra,I,O,ba,mi,st,bu,ch,wi,ca⟩=cc:=⟨_,rfl⟩;rw [hL] at a5 b9 av E P y B ⊢;rw [hN] at a4 E f7 P y B c4 ⊢;rw [hM] at P y B c8 ⊢;rw [hQ] at y B c3 ⊢;rw [bA] at a5 fc f7 P y B b6;obtain ⟨CN,b8⟩:∃CN,aF sz (L-1)=CN:=⟨_,rfl⟩;rw [b8] at av P y B;obtain ⟨ND,bk⟩:∃ND,fV N ba.toNat st.toNat=ND:=⟨_,rfl⟩;rw [bk] at E y B;obtain ⟨c7,bM,c6,cg,cb,Fc,F7,F5⟩:=aj a5 b9 av a4 E fc f7 P;obtain ⟨F8,F0,c0,bm,HL,cm⟩:=ah y B b6 bh hL b8;clear a5 b9 av a4 E fc f7 P y B b6 bh hL hN hM hQ bA b8 bk;go_enter func14,ntmps14;go_wp2_with fail;have hz:=(yj (w.alloc (.cells #[.slice A L c,yY J,yY ra,yY I,yY O,yY ba,yY mi,yY st,yY bu,yY ch,yY wi,yY ca,.slice D N cd,.slice T M ct,.slice R Q cr] 29)) (.cells #[.slice A L c,yY J,yY ra,yY I,yY O,yY ba,yY mi,yY st,yY bu,yY ch,yY wi,yY ca] 24) w.heap.size (by simp)).trans (x6 w _);have hy:=x6 (w.alloc (.cells #[.slice A L c,yY J,yY ra,yY I,yY O,yY ba,yY mi,yY st,yY bu,yY ch,yY wi,yY ca,.slice D N cd,.slice T M ct,.slice R Q cr] 29)) (.cells #[.slice A L c,yY J,yY ra,yY I,yY O,yY ba,yY mi,yY st,yY bu,yY ch,yY wi,yY ca] 24);rw [show (w.alloc (.cells #[.slice A L c,yY J,yY ra,yY I,yY O,yY ba,yY mi,yY st,yY bu,yY ch,yY wi,yY ca,.slice D N cd,.slice T M ct,.slice R Q cr] 29)).heap.size=w.heap.size+1 by simp] at hy;have hB:an w ((w.alloc (.cells #[.slice A L c,yY J,yY ra,yY I,yY O,yY ba,yY mi,yY st,yY bu,yY ch,yY wi,yY ca,.slice D N cd,.slice T M ct,.slice R Q cr] 29)).alloc (.cells #[.slice A L c,yY J,yY ra,yY I,yY O,yY ba,yY mi,yY st,yY bu,yY ch,yY wi,yY ca] 24)):=((ya _ w).alloc (x4 _) _).alloc (by simp) _;obtain ⟨W0,bo⟩:∃W0,W0=(w.alloc (.cells #[.slice A L c,yY J,yY ra,yY I,yY O,yY ba,yY mi,yY st,yY bu,yY ch,yY wi,yY ca,.slice D N cd,.slice T M ct,.slice R Q cr] 29)).alloc (.cells #[.slice A L c,yY J,yY ra,yY I,yY O,yY ba,yY mi,yY st,yY bu,yY ch,yY wi,yY ca] 24):=⟨_,rfl⟩;rw [<-bo] at hz hy hB ⊢;clear bo;refine (c7.o _ hB).mono ?_;rintro e w1 ⟨rfl,b1⟩;have b0:=(b1.block _ (xZ hz)).trans hz;have a3:=(b1.block _ (xZ hy)).trans hy;have HB:=aa (hB.trans (b1.mono hB.size));obtain ⟨⟨z0,z1,z2,z3,z4,z5,z6,z7,z8,z9,F,H,C,G,v⟩,zf⟩:=em b0;obtain ⟨⟨y0,y1,y2,y3,y4,y5,y6,y7,y8,y9,m,n⟩,yf⟩:=fY a3;have lz:=xZ b0;have ly:=xZ a3;obtain ⟨HZ,HY⟩:=ab b0 a3;clear hz hy hB b1 b0 a3;by_cases h3:cc≠0
 ·have hq:(cc != 0)=true:=by rw [bne_iff_ne];exact h3
  have H3:=aa h3;clear h3;go_wp2_with fail;go_ret;exact ⟨aD (Fc.o H3.o).symm,HB.o⟩
 obtain rfl:cc=0:=am;clear h3;have hg:=c0.o.1 rfl;have g1:=hg.w;have g2:=hg.ba;have g3:=hg.st;have gz:=hg.z;have HG:=aa hg;dsimp only at g1 g2 g3 gz;clear hg;have bs:=gz.1.1;rw [HL.o] at bs;have s0:=gz.1.at (k:=0) (by have:=HL.o;omega);have s1:=gz.1.at (k:=L-1) (by have:=HL.o;omega);obtain ⟨X,Z,rfl,p0⟩:=bm.o.num (show 0<sz.length by have:=HL.o;omega);obtain ⟨_,_,e',p1⟩:=bm.o.num (show L-1<sz.length by have:=HL.o;omega);injection e' with e';injection e' with e1 e2 _;subst e1;subst e2
 rw [s0.2.2,Nat.add_zero] at p0;rw [s1.2.2] at p1;obtain ⟨n0,bb⟩:∃n0,szN sz 0=n0:=⟨_,rfl⟩;obtain ⟨n1,b7⟩:∃n1,szN sz (L-1)=n1:=⟨_,rfl⟩;have P:=F5.o;have y:=F8.o;have B:=F0.o;rw [bb,b7] at P y B;rw [bb] at p0 s0;rw [b7] at p1 s1;obtain ⟨F5,F8,F0,ce⟩:=af P y B gz;have bF:X<w.heap.size:=aw p0;obtain ⟨P0,P1⟩:=ab p0 p1;clear P y B gz bb b7 p0 p1 s0 s1;obtain ⟨bt,rfl⟩:∃bt:Nat,ba=bt:=⟨ba.toNat,by omega⟩;go_wp2_with fail;refine (bM.o _ HB.o).mono ?_;rintro e w2 ⟨a8,hs⟩
 obtain ⟨S,rfl,hS⟩:∃S,e=.returned (.tuple #[(ap S),yY 0])/\aR 109 w2 S sz:=by
  rcases hs with ⟨_,S,he,hS,_⟩ | ⟨bG,_⟩
  ·exact ⟨S,he,hS⟩
  ·exact absurd ce.o bG
 clear hs;have ad:=(a8.block _ lz).trans HZ.o;have a7:=(a8.block _ ly).trans HY.o;have a1:=aa (HB.o.trans (a8.mono HB.o.size));clear z0 z1 z2 z3 z4 z5 z6 z7 z8 z9 F H C G v zf y0 y1 y2 y3 y4 y5 y6 y7 y8 y9 m n yf lz ly;obtain ⟨⟨z0,z1,z2,z3,z4,z5,z6,z7,z8,z9,F,H,C,G,v⟩,zf⟩:=em ad;obtain ⟨⟨y0,y1,y2,y3,y4,y5,y6,y7,y8,y9,m,n⟩,yf⟩:=fY a7;have lz:=xZ ad;have ly:=xZ a7;obtain ⟨c1,c9,HS⟩:=ae ad a7 hS;clear a8 ad a7 hS;have p0:=(a1.o.cell (p:=(ao X Z)) bF).trans P0.o;have p1:=(a1.o.cell (p:=⟨X,Z+(L-1),none⟩) bF).trans P1.o;have bN:IntKind.i64.wrap ((L:Int)-1)=((L-1:Nat):Int):=by rw [yc _ am];omega
 have cp:((L-1:Nat):Int)<L:=am;have co:L-1<L:=am;have cl:0<L:=am;have cj:(0:Int)<L:=am;go_wp2_with fail;have j:(fun w':N6=>w'.cell? (ao w.heap.size 12)=some (.slice D N cd)/\w'.cell? (ao (w.heap.size+1) 0)=some (.slice (some (ao X Z)) L c)/\w'.cell? (ao X Z)=some (yY n0)/\w'.cell? ⟨X,Z+(L-1),none⟩=some (yY n1)) w2.drew:=⟨C,y0,p0,p1⟩;refine HA.g (fun w':N6=>w'.cell? (ao w.heap.size 12)=some (.slice D N cd)/\w'.cell? (ao (w.heap.size+1) 0)=some (.slice (some (ao X Z)) L c)/\w'.cell? (ao X Z)=some (yY n0)/\w'.cell? ⟨X,Z+(L-1),none⟩=some (yY n1)) ?_;refine HA.t ?_ [0,1,2,3,4,5,6,7,8,9,10,11,12,13] j ?_;refine HA.o 14 (fun K hK=>?_);go_simp;refine (cg.o n0 n1 _ a1.o.drew).mono ?_;rintro e w3 ⟨W,d,hd⟩;have bg:=yg (aq W j.1) (yg (aq W j.2.1) (yg (aq W j.2.2.1) (aq W j.2.2.2)));have u:an w2 w3:=(ya w2.heap.size w2).drew.trans W;have U:=(u.block _ lz).trans c1.o;have Y:=(u.block _ ly).trans c9.o;have bd:=HS.o.below u;obtain ⟨a9,bB,bl,c2⟩:=af (a1.o.trans (u.mono a1.o.size)) U Y bd
 obtain ⟨a6,rfl,b5⟩:∃a6,e=.returned (.tuple #[yY d,.bool a6])/\decide (∀x∈data,cG n0 n1 x)=a6:=by
  rcases hd with ⟨ha,rfl⟩ | ⟨ha,rfl⟩
  ·exact ⟨true,rfl,yS ha⟩
  ·exact ⟨false,rfl,yT ha⟩
 have a0:=aa b5;clear W u U Y bd hd b5 j;dsimp only;refine hK.out _ _ bg (fun j=>?_);clear hK K bg;refine HA.t ?_ [15,16,17,18,19] j ?_;refine HA.d ?_;clear j z0 z1 z2 z3 z4 z5 z6 z7 z8 z9 F H C G v zf y0 y1 y2 y3 y4 y5 y6 y7 y8 y9 m n yf lz ly bN;have U:=bB.o;have Y:=bl.o;obtain ⟨⟨z0,z1,z2,z3,z4,z5,z6,z7,z8,z9,F,H,C,G,v⟩,zf⟩:=em U;obtain ⟨⟨y0,y1,y2,y3,y4,y5,y6,y7,y8,y9,m,n⟩,yf⟩:=fY Y;have lz:=xZ U;have ly:=xZ Y;clear U Y;by_cases h7:N<bt
 ·have hq:(N:Int)<bt:=am;go_wp2_with fail;go_ret;exact ⟨aD (F7.o trivial (by rw [yU];omega)).symm,a9.o⟩
 have cs:¬((N:Int)<bt):=am;have ck:¬((1048576:Int)<N):=am;have G1:=aa (show decide ((bt:Int)<=N/\N<=1048576)=true by rw [yV];omega);rcases bK a6 with rfl | rfl
 ·go_wp2_with fail
  go_quiet (fail)
  go_wp2_with fail;go_ret;exact ⟨aD (F5.o trivial G1.o (by rw [a0.o];rfl)).symm,yh a9.o _⟩
 have b2:=fun w' (q:an w3 w')=>c6.o S w' (c2.o.below q);have b4:=aa b2;clear b2;by_cases h5:M≠CN
 ·have hq:((M:Int) != (CN:Int))=true:=by rw [bne_iff_ne];omega
  have H5:=aa h5;clear h5;go_wp2_with fail
  go_quiet ((go_at_call 43;refine Calls.quiet_of ((b4.o _ ?_).mono fun e w' ⟨he,hw⟩=>⟨he,0,hw.symm⟩);exact ak))
  go_wp2_with fail;go_ret;exact ⟨aD (F5.o trivial G1.o (by rw [a0.o,yT H5.o];rfl)).symm,yh a9.o _⟩
 have hq:((M:Int) != (CN:Int))=false:=by rw [bne_eq_false_iff_eq];omega
 have G2:=aa (show (decide (∀x∈data,cG n0 n1 x)&&decide (M=CN))=true by rw [a0.o,yS (show M=CN by omega)];rfl);clear h5;go_wp2_with fail
 go_quiet ((go_at_call 43;refine Calls.quiet_of ((b4.o _ ?_).mono fun e w' ⟨he,hw⟩=>⟨he,0,hw.symm⟩);exact ak))
 go_wp2_with fail;obtain ⟨V,hV⟩:∃V,V=w3.drewN nq:=⟨_,rfl⟩;have bD:an w V:=by rw [hV];exact yh a9.o _
 have be:V.heap[w.heap.size]?=some (.cells #[.slice (some (ao X Z)) L c,yY J,yY ra,yY I,yY O,yY bt,yY mi,yY st,yY bu,yY ch,yY wi,yY ca,.slice D N cd,.slice T M ct,.slice R Q cr] 29 (0,0)):=by rw [hV];exact bB.o
 have bC:V.heap[w.heap.size+1]?=some (.cells #[.slice (some (ao X Z)) L c,yY J,yY ra,yY I,yY O,yY bt,yY mi,yY st,yY bu,yY ch,yY wi,yY ca] 24 (0,0)):=by rw [hV];exact bl.o
 clear z0 z1 z2 z3 z4 z5 z6 z7 z8 z9 F H C G v zf y0 y1 y2 y3 y4 y5 y6 y7 y8 y9 m n yf;rw [<-hV];clear hV;obtain ⟨⟨z0,z1,z2,z3,z4,z5,z6,z7,z8,z9,F,H,C,G,v⟩,zf⟩:=em be;obtain ⟨⟨y0,y1,y2,y3,y4,y5,y6,y7,y8,y9,m,n⟩,yf⟩:=fY bC;have bc:=aa bD;clear bD be bC;have E:=cb.o HG.o am V.drew bc.o.drew;have bp:=aa E;clear E;have j:(fun w':N6=>w'.cell? (ao w.heap.size 14)=some (.slice R Q cr)/\w'.cell? (ao (w.heap.size+1) 0)=some (.slice (some (ao X Z)) L c)/\w'.cell? (ao (w.heap.size+1) 1)=some (yY J)/\w'.cell? (ao (w.heap.size+1) 2)=some (yY ra)/\w'.cell? (ao (w.heap.size+1) 3)=some (yY I)/\w'.cell? (ao (w.heap.size+1) 4)=some (yY O)/\w'.cell? (ao (w.heap.size+1) 5)=some (yY bt)/\w'.cell? (ao (w.heap.size+1) 6)=some (yY mi)/\w'.cell? (ao (w.heap.size+1) 7)=some (yY st)/\w'.cell? (ao (w.heap.size+1) 8)=some (yY bu)/\w'.cell? (ao (w.heap.size+1) 9)=some (yY ch)/\w'.cell? (ao (w.heap.size+1) 10)=some (yY wi)/\w'.cell? (ao (w.heap.size+1) 11)=some (yY ca)) V.drew:=⟨v,y0,y1,y2,y3,y4,y5,y6,y7,y8,y9,m,n⟩;refine HA.g (fun w':N6=>w'.cell? (ao w.heap.size 14)=some (.slice R Q cr)/\w'.cell? (ao (w.heap.size+1) 0)=some (.slice (some (ao X Z)) L c)/\w'.cell? (ao (w.heap.size+1) 1)=some (yY J)/\w'.cell? (ao (w.heap.size+1) 2)=some (yY ra)/\w'.cell? (ao (w.heap.size+1) 3)=some (yY I)/\w'.cell? (ao (w.heap.size+1) 4)=some (yY O)/\w'.cell? (ao (w.heap.size+1) 5)=some (yY bt)/\w'.cell? (ao (w.heap.size+1) 6)=some (yY mi)/\w'.cell? (ao (w.heap.size+1) 7)=some (yY st)/\w'.cell? (ao (w.heap.size+1) 8)=some (yY bu)/\w'.cell? (ao (w.heap.size+1) 9)=some (yY ch)/\w'.cell? (ao (w.heap.size+1) 10)=some (yY wi)/\w'.cell? (ao (w.heap.size+1) 11)=some (yY ca)) ?_;refine HA.t ?_ [0,1,2,3,4] j ?_;refine HA.o 5 (fun K hK=>?_);go_simp;refine bp.o.mono ?_;rintro e w4 ⟨rfl,l⟩;have bv:=aa (bc.o.trans ((ya V.heap.size V).drew.trans l |>.mono bc.o.size));have bw:=yg (aq l j.1) (yg (aq l j.2.1) (yg (aq l j.2.2.1) (yg (aq l j.2.2.2.1) (yg (aq l j.2.2.2.2.1) (yg (aq l j.2.2.2.2.2.1) (yg (aq l j.2.2.2.2.2.2.1) (yg (aq l j.2.2.2.2.2.2.2.1) (yg (aq l j.2.2.2.2.2.2.2.2.1) (yg (aq l j.2.2.2.2.2.2.2.2.2.1) (yg (aq l j.2.2.2.2.2.2.2.2.2.2.1) (yg (aq l j.2.2.2.2.2.2.2.2.2.2.2.1) (aq l j.2.2.2.2.2.2.2.2.2.2.2.2))))))))))));clear l j;dsimp only;refine hK.out _ _ bw (fun j=>?_);clear hK K bw;refine HA.t ?_ [6,7] j ?_;refine HA.d ?_;clear j z0 z1 z2 z3 z4 z5 z6 z7 z8 z9 F H C G v zf y0 y1 y2 y3 y4 y5 y6 y7 y8 y9 m n yf;by_cases h8:ND<=Q
 ·have bO:¬((Q:Int)<ND):=am;have c5:decide ((Q:Int)<ND)=false:=by simp;omega
  have bV:decide (Q<ND)=false:=by simp;omega
  have G8:=aa (yS h8);go_wp2_with fail;go_ret;exact ⟨aD (F0.o trivial G1.o G2.o G8.o).symm,bv.o⟩
 ·have bO:(Q:Int)<ND:=am;have c5:decide ((Q:Int)<ND)=true:=by simp;omega
  have bV:decide (Q<ND)=true:=by simp;omega
  have G8:=aa (yT h8);go_wp2_with fail;go_ret;exact ⟨aD (F8.o trivial G1.o G2.o G8.o).symm,bv.o⟩
theorem nZ (g j l u:N0) (p m L J:N3) (h i k a:Nat) (w:N6) (X:aP w g p h) (U:aP w j m i) (Z:aP w l L k) (V:aP w u J a):Calls prog 31 #[.agg #[.slice g p.length h,.slice j m.length i],.agg #[.slice l L.length k,.slice u J.length a]] w fun e w'=>e=.returned (.bool (decide (p=L)&&decide (m=J)))/\an w w':=by
 have D:=fun w' (q:an w w')=>mQ g l p L h k w' (X.hr.below q) (Z.hr.below q) X.hl Z.hl;have E:=fun w' (q:an w w')=>mQ j u m J i a w' (U.hr.below q) (V.hr.below q) U.hl V.hl;obtain ⟨T,I⟩:∃T,decide (p=L)=T:=⟨_,rfl⟩;obtain ⟨b2,G⟩:∃b2,decide (m=J)=b2:=⟨_,rfl⟩;obtain ⟨K,y⟩:∃n,p.length=n:=⟨_,rfl⟩;obtain ⟨M,H⟩:∃n,m.length=n:=⟨_,rfl⟩;obtain ⟨Q,B⟩:∃n,L.length=n:=⟨_,rfl⟩;obtain ⟨O,C⟩:∃n,J.length=n:=⟨_,rfl⟩;rw [I,y,B] at D;rw [G,H,C] at E;rw [I,G,y,H,B,C];obtain ⟨W,a0⟩:=ab D E;clear D E I G y H B C X U Z V;go_enter func31,ntmps31;go_wp2_with fail;have Y:=(yj (w.alloc (.cells #[.slice g K h,.slice j M i] 79)) (.cells #[.slice l Q k,.slice u O a] 79) w.heap.size (by simp)).trans (x6 w _);have R:=x6 (w.alloc (.cells #[.slice g K h,.slice j M i] 79)) (.cells #[.slice l Q k,.slice u O a] 79);rw [show (w.alloc (.cells #[.slice g K h,.slice j M i] 79)).heap.size=w.heap.size+1 by simp] at R;have S:an w ((w.alloc (.cells #[.slice g K h,.slice j M i] 79)).alloc (.cells #[.slice l Q k,.slice u O a] 79)):=((ya _ w).alloc (x4 _) _).alloc (by simp) _;obtain ⟨N,P⟩:∃N,N=(w.alloc (.cells #[.slice g K h,.slice j M i] 79)).alloc (.cells #[.slice l Q k,.slice u O a] 79):=⟨_,rfl⟩;rw [<-P] at Y R S ⊢;clear P;refine (W.o _ S).mono ?_;rintro e w1 ⟨rfl,d,rfl⟩;have v:=yh S d;have A:(N.drewN d).heap[w.heap.size]?=some (.cells #[.slice g K h,.slice j M i] 79 (0,0)):=Y;have x:(N.drewN d).heap[w.heap.size+1]?=some (.cells #[.slice l Q k,.slice u O a] 79 (0,0)):=R;clear Y R S;generalize N.drewN d=W1 at A x v ⊢;obtain ⟨⟨z0,z1⟩,zf⟩:=bx2 A;obtain ⟨⟨y0,y1⟩,yf⟩:=bx2 x;have F:=aa v;clear A x v;rcases bK T with rfl | rfl
 ·go_wp2_with fail;go_ret;exact ⟨rfl,F.o⟩
 go_wp2_with fail;refine (a0.o _ F.o).mono ?_;rintro e w2 ⟨rfl,a,rfl⟩;go_wp2_with fail;go_ret;exact ⟨by simp,yh F.o a⟩
theorem eC:cE prog 26 2 (yY 0) 1 8:=⟨underlying26,info_parts (by kernel_rfl),rfl,by decide⟩
theorem oI (A:N0) (n c:Nat) (w:N6) (Q:n<=1048576):Calls prog 65 #[.slice A n c] w fun e w'=>∃H,e=.returned (.agg #[.slice A n c,.slice H n n])/\w'.ownsRow w.heap.size 2 1 (.slice H n n) n (au .i64 (List.replicate n 0))/\an w w':=by
 have h:=fun w'=>jM eC w' rfl n am (by unfold maxLen;omega);simp only [dS] at h;have D:=aa h;clear h;have B:=x6 w (.cells #[yZ,yZ] 79);have q:an w (w.alloc (.cells #[yZ,yZ] 79)):=(ya _ w).alloc (x4 _) _;have l:=xZ B;obtain ⟨V,p,k,i⟩:=D.o (w.alloc (.cells #[yZ,yZ] 79));rw [show (w.alloc (.cells #[yZ,yZ] 79)).heap.size=w.heap.size+1 by simp] at p k;obtain ⟨a,m,u⟩:=ae ((i.block w.heap.size l).trans B) (aA (base':=w.heap.size) k am) (q.trans (i.mono am));have g:=a.o;obtain ⟨⟨R,N⟩,P⟩:=bx2 g;have J:=xZ g;clear B q k i g l;go_enter func65,ntmps65;go_wp2_with fail;have M:=yW V w.heap.size 0 _ _ (.slice A n c) a.o;have L:=yW _ w.heap.size 1 _ _ (.slice (some (ao (w.heap.size+1) 0)) n n) M;have F:((V.setCell (ao w.heap.size 0) (.slice A n c)).setCell (ao w.heap.size 1) (.slice (some (ao (w.heap.size+1) 0)) n n)).heap[w.heap.size]?=some (.cells #[.slice A n c,.slice (some (ao (w.heap.size+1) 0)) n n] 79 (0,0)):=by simpa using L
 have x:Keep (fun j=>j=w.heap.size) V ((V.setCell (ao w.heap.size 0) (.slice A n c)).setCell (ao w.heap.size 1) (.slice (some (ao (w.heap.size+1) 0)) n n)):=Keep.setCell (S:=fun j=>j=w.heap.size) (Keep.setCell (S:=fun j=>j=w.heap.size) (Keep.refl _ _) _ (.inr rfl) _) _ (.inr rfl) _;obtain ⟨E,y⟩:∃E,E=(V.setCell (ao w.heap.size 0) (.slice A n c)).setCell (ao w.heap.size 1) (.slice (some (ao (w.heap.size+1) 0)) n n):=⟨_,rfl⟩;rw [<-y] at F x ⊢;obtain ⟨⟨K,I⟩,O⟩:=bx2 F;have C:=x.own m.o (fun j G e=>ar a.o (by decide) m.o (by rw [G,e]));exact yk (v:=.agg #[.slice A n c,.slice (some (ao (w.heap.size+1) 0)) n n]) (by simp [results,results65,go_sem,K,I]) rfl ⟨_,rfl,C,u.o.trans (x.toBelow u.o.size (fun j G=>am))⟩
def fP (n:Nat) (a:List (N3)):N3:=a.foldl eK (List.replicate n 0)
theorem qH (n:Nat) (a:List (N3)) (x:N3):fP n (a++[x])=eK (fP n a) x:=by simp [fP]
theorem jK (n:Nat) (e:List (N3)):(fP n e).length=n:=by
 have:∀(l:List (N3)) (a:N3),(l.foldl eK a).length=a.length:=by
  intro l
  induction l with
  | nil=>intro a;rfl
  | cons x l ih=>intro a;rw [List.foldl_cons,ih,gc]
 unfold fP;rw [this];simp
def xp (g:List (N3)) (n:Nat) (w:N6) (e:Ending) (w':N6):Prop:=∃v a,e=.returned (.tuple #[v,.bool a])/\an w w'/\((∀(j:Nat) (x:N3),g[j]?=some x->x.length=n)->a=true/\w'.ownsRow w.heap.size 2 1 v n (au .i64 (fP n g)))
def xI (g:List (N3)) (n:Nat) (w:N6) (e:Ending) (w':N6):Prop:=∃v a,e=.returned (.tuple #[v,.bool a])/\an w w'/\((∀(j:Nat) (x:N3),g[j]?=some x->x.length=n)->a=true/\w'.ownsRow w.heap.size 2 1 v n (au .i64 (fP n g)))/\(a=true->∀(j:Nat) (x:N3),g[j]?=some x->x.length=n)
theorem oH (V:N0) (e:List (N3)) (c n:Nat) (x0:N3) (w:N6) (hV:aQ jS 1 w V e) (hl:e.length<=17592186043904) (h0:e[0]?=some x0) (hn:x0.length=n):Calls prog 103 #[.slice V e.length c] w (xI e n w):=by
 obtain ⟨N,W⟩:∃N,e.length=N:=⟨_,rfl⟩;have a7:0<N:=by rw [<-W];exact (yB.1 h0).1
 obtain ⟨b,o,A0,c0,rfl,hb,p0,_,Z⟩:=ie hV h0;rw [W] at hl ⊢;rw [hn,Nat.add_zero] at p0;rw [hn] at Z;have av:¬(N=0):=am;have D:=fun w'=>jM eC w' rfl n am (by unfold maxLen;omega);simp only [dS] at D;obtain ⟨T,HV,HN⟩:=ae D hV W;clear D hV W h0 hn;have a4:(0:Int)<N:=am;have ad:((N:Int)==0)=false:=by simp;omega
 go_enter func103,ntmps103;obtain ⟨W2,R,O,M⟩:=T.o w;go_wp2_with fail;obtain ⟨q,a1⟩:=ab O M;clear R O M p0 T
 go_loopw [5] (fun x wr=>∃k:Nat,k<=N/\x=yY k/\wr.ownsRow w.heap.size 2 1 (.slice (some (ao w.heap.size 0)) n n) n (au .i64 (fP n (e.take k)))/\al (∀(j:Nat) (x:N3),j<k->e[j]?=some x->x.length=n)/\an w wr) (fun x _=>N-(intOf x).toNat)
 ·exact ⟨0,yb _,rfl,q.o,aa fun j x hj=>am,a1.o⟩
 case round=>
  obtain ⟨U,rfl⟩:∃U:N6,U=wr:=⟨_,rfl⟩;obtain ⟨k,hk,rfl,a,B,u⟩:=hrel;by_cases a0:k<N
  ·obtain ⟨x,F⟩:∃x,e[k]?=some x:=⟨_,yC (by rw [HN.o];exact a0)⟩;have a3:(k:Int)<N:=am;have g1:aQ jS 1 U (some (ao b o)) e:=HV.o.below n7 u;obtain ⟨b',o',A,cA,I,a8,p,hA,Q⟩:=ie g1 F;injection I with I;injection I with I e2 _;subst I;subst e2
   obtain ⟨X,HO,G,HA,P⟩:=ag F a u hA p;obtain ⟨m,hm⟩:∃m,x.length=m:=⟨_,rfl⟩;have S:=aa hm;rw [hm] at p Q;clear F a u hA hm g1;by_cases L:m=n
   ·subst L;go_wp2_with fail;clear p
    go_loopw [6] (fun y wr=>∃t:Nat,t<=m/\y=yY t/\wr.ownsRow w.heap.size 2 1 (.slice (some (ao w.heap.size 0)) m m) m (au .i64 (eU (fP m (e.take k)) t (fun t=>wrap64 (nth (fP m (e.take k)) t+nth x t))))/\Keep (fun i=>i=w.heap.size) U wr) (fun y _=>m-(intOf y).toNat)
    ·exact ⟨0,yb _,rfl,by rw [dL];exact HO.o,Keep.refl _ _⟩
    case round=>
     obtain ⟨t,ht,rfl,a,H⟩:=hrel;by_cases g:t<m
     ·have a2:(t:Int)<m:=am;have C:t<(fP m (e.take k)).length:=by rw [jK];exact g
      have p1:=bq a g;rw [dt _ C,if_neg am] at p1;have f1:=a.frozenAt t;obtain ⟨b2,o2,rfl,p3⟩:=HA.o.num (show t<x.length by rw [S.o];exact g);have a5:b<w.heap.size:=hb;have p2:wr.cell? (ao b (o+k))=some (.slice (some (ao b2 o2)) m cA):=H.cell (by rw [P.o,S.o]) (by dsimp only;omega)
      have a6:b2<w.heap.size:=by
       obtain ⟨_,_,A9,c9,E,_,q9,r9,_⟩:=ie HV.o X.o;injection E with E;injection E with E v _;subst E;subst v
       have:=(G.o.cell (p:=(ao b (o+k))) hb).trans q9;rw [P.o] at this;injection this with this
       simp only [yM] at this;rw [<-this.1] at r9;obtain ⟨b8,o8,v,q8⟩:=r9.num (show t<x.length by rw [S.o];exact g);injection v with v;injection v with v _ _;subst v
       exact aw q8
      have p4:wr.cell? (ao b2 (o2+t))=some (yY (nth x t)):=H.cell p3 (by dsimp only;omega);have J:=et (l:=fP m (e.take k)) (k:=t) (fun t=>wrap64 (nth (fP m (e.take k)) t+nth x t)) C;obtain ⟨HK,q,Y⟩:=ae H a J;clear H a J C p3;go_wp2_with fail
      go_region
      all_goals go_wp2_with fail
      all_goals
       go_roundw
       case rel=>
        refine ⟨t+1,by omega,by go_num,?_,?_⟩
        ·rw [<-Y.o];exact cU (aZ q.o 1) t _
        ·exact Keep.setCell (HK.o.drewN 1) (ao w.heap.size t) (.inr rfl) _
       case measure=>simp [intOf];omega
     ·obtain rfl:m=t:=am;obtain ⟨HK,q⟩:=ab H a;clear H a;go_wp2_with fail;go_roundw
      case rel=>
       refine ⟨k+1,by omega,by go_num,?_,aa fun j y hj K=>?_,G.o.trans (HK.o.toBelow (by have:=G.o.size;omega) (fun j hj=>am))⟩
       ·rw [List.take_add_one,X.o,Option.toList_some,qH];have E:=q.o;have v:=eu (fP m (e.take k)) (fun t=>wrap64 (nth (fP m (e.take k)) t+nth x t));rw [jK] at v;unfold eK;rw [jK,<-v];exact E
       ·rcases yl j k with h | h
        ·exact B.out j y h K
        ·obtain rfl:j=k:=am;rw [X.o] at K;injection K with K;rw [<-K];exact S.o
      case measure=>simp [intOf];omega
   ·have a9:((m:Int) != (n:Int))=true:=by rw [bne_iff_ne];omega
    go_wp2_with fail;go_ret2;refine ⟨_,_,rfl,G.o,fun h=>absurd ?_ L,fun h=>by cases h⟩;rw [<-S.o];exact h k x X.o
  ·obtain rfl:k=N:=am;obtain ⟨HO,G⟩:=ab a u;clear a u;go_wp2_with fail;go_ret2;refine ⟨_,_,rfl,G.o,fun h=>⟨rfl,?_⟩,fun _ j x F=>B.out j x (by have:=(yB.1 F).1;rw [HN.o] at this;exact this) F⟩;have:=HO.o
   rwa [<-HN.o,yK] at this
theorem qP (V:N0) (a:List (N3)) (c n:Nat) (g:N3) (w:N6) (m:aQ jS 1 w V a) (hl:a.length<=17592186043904) (k:a[0]?=some g) (o:g.length=n):Calls prog 103 #[.slice V a.length c] w (xp a n w):=by
 refine (oH V a c n g w m hl k o).mono ?_;rintro e w' ⟨v,h,j,i,l, -⟩;exact ⟨v,h,j,i,l⟩
abbrev Pl:=Nat×Nat×Int
def plW (k c m:Nat):List Pl:=(List.range m).map fun i=>(k,i/c,((i%c:Nat):Int))
def plB (k m:Nat):List Pl:=(List.range m).map fun i=>(k,i, -1)
def plK (sz:N3) (k:Nat):List Pl:=plW k (szN sz k) (szN sz (k+1)*szN sz k)++plB k (szN sz (k+1))
def plL (sz:N3) (n:Nat):List Pl:=(List.range n).flatMap (plK sz)
theorem vm (k c m:Nat):(plW k c m).length=m:=by simp [plW]
theorem vo (k m:Nat):(plB k m).length=m:=by simp [plB]
theorem ng (sz:N3) (n:Nat):plL sz (n+1)=plL sz n++plK sz n:=by simp [plL,yO,List.flatMap_append]
theorem pW (sz:N3) (n:Nat):(plL sz n).length=aF sz n:=by
 induction n with
 | zero=>rfl
 | succ n ih=>
  have:=cR sz n;unfold bI at this;rw [ng,yA,ih];unfold plK;rw [yA,vm,vo];omega
def plV (l:List Pl):N5:=l.flatMap fun p=>[yY (p.1:Int),yY (p.2.1:Int),yY p.2.2]
theorem jU (a b:List Pl):plV (a++b)=plV a++plV b:=by simp [plV,List.flatMap_append]
theorem pV (p:Pl):plV [p]=[yY (p.1:Int),yY (p.2.1:Int),yY p.2.2]:=rfl
theorem wN:∀(l:List Pl) (i:Nat) (p:Pl),l[i]?=some p->(plV l)[i*3]?=some (yY (p.1:Int))/\(plV l)[i*3+1]?=some (yY (p.2.1:Int))/\(plV l)[i*3+2]?=some (yY p.2.2):=by
 intro l
 induction l with
 | nil=>intro i p h;simp at h
 | cons a l ih=>
  intro i p h;have e:plV (a::l)=[yY (a.1:Int),yY (a.2.1:Int),yY a.2.2]++plV l:=rfl;rw [e]
  cases i with
  | zero=>
   simp at h;subst h;exact ⟨rfl,rfl,rfl⟩
  | succ i=>
   have:=ih i p (by simpa using h);rw [yE (by simp;omega),yE (by simp;omega),yE (by simp;omega)];simp only [List.length_cons,List.length_nil];rw [show (i+1)*3-(0+1+1+1)=i*3 by omega,show (i+1)*3+1-(0+1+1+1)=i*3+1 by omega,show (i+1)*3+2-(0+1+1+1)=i*3+2 by omega];exact this
theorem tj (k c r j:Nat) (a:j<c):plW k c (r*c+j+1)=plW k c (r*c+j)++[(k,r,(j:Int))]:=by
 unfold plW;rw [yO,List.map_append];have e:(r*c+j)/c=r:=by rw [Nat.add_comm,Nat.add_mul_div_right _ _ am,Nat.div_eq_of_lt a,yR]
 have g:(r*c+j)%c=j:=by rw [Nat.add_comm,Nat.add_mul_mod_self_right,Nat.mod_eq_of_lt a]
 rw [List.map_singleton,e,g]
theorem tp (k r:Nat):plB k (r+1)=plB k r++[(k,r, -1)]:=by simp [plB,yO]
def gAt (sz ps:N3) (q:Int) (x y:N3) (p:Pl):Int:=
 if 0<=p.2.2 then cP (nth (cQ sz ps q x y (sz.length-2-p.1)) p.2.1) (nth (bi sz ps q x p.1) p.2.2.toNat) q else nth (cQ sz ps q x y (sz.length-2-p.1)) p.2.1
theorem vB (l:N3) (n:Nat) (h:l.length=n):(List.range n).map (nth l)=l:=(dB h fun k _=>rfl).symm
theorem uG {sz ps:N3} {q:Int} {x y:N3} (a:x.length=szN sz 0) {k:Nat} (e:k+2<=sz.length):
  fG (szN sz (k+1)) (szN sz k) (cQ sz ps q x y (sz.length-2-k)) (bi sz ps q x k) q++cQ sz ps q x y (sz.length-2-k)=(plK sz k).map (gAt sz ps q x y):=by
 unfold plK;rw [List.map_append]
 congr 1
 ·unfold fG bH plW;rw [List.map_map];refine List.map_congr_left fun i _=>?_;unfold vq gAt
  show _=if 0<=((i%szN sz k:Nat):Int) then cP (nth (cQ sz ps q x y (sz.length-2-k)) (i/szN sz k)) (nth (bi sz ps q x k) ((i%szN sz k:Nat):Int).toNat) q else nth (cQ sz ps q x y (sz.length-2-k)) (i/szN sz k)
  rw [if_pos (Int.natCast_nonneg _),Int.toNat_natCast]
 ·unfold plB;rw [List.map_map];have hl:=eD (sz:=sz) (ps:=ps) (q:=q) (x:=x) (y:=y) a (sz.length-2-k);rw [show sz.length-1-(sz.length-2-k)=k+1 by omega] at hl;have:=vB _ _ hl
  conv=>lhs;rw [<-this]
  refine List.map_congr_left fun i _=>?_;unfold gAt;simp
theorem ue {sz ps:N3} {q:Int} {x y:N3} (e:x.length=szN sz 0):∀j,j+1<=sz.length->iI sz ps q x y j=(((List.range (sz.length-1)).drop (sz.length-1-j)).flatMap (plK sz)).map (gAt sz ps q x y):=by
 intro j
 induction j with
 | zero=>intro _;rw [Nat.sub_zero,List.drop_eq_nil_of_le (by simp)];rfl
 | succ j ih=>
  intro g
  have a:(List.range (sz.length-1)).drop (sz.length-1-(j+1))=(sz.length-2-j)::(List.range (sz.length-1)).drop (sz.length-1-j):=by
   rw [show sz.length-1-(j+1)=sz.length-2-j by omega];rw [List.drop_eq_getElem_cons (by simp;omega),List.getElem_range]
   congr 2
   omega
  rw [a,List.flatMap_cons,List.map_append,<-ih am,iI,<-yG]
  congr 1
  have:=uG (sz:=sz) (ps:=ps) (q:=q) (x:=x) (y:=y) e (k:=sz.length-2-j) am;rw [show sz.length-2-j+1=sz.length-1-j by omega,show sz.length-2-(sz.length-2-j)=j by omega] at this;exact this
theorem nF {sz ps:N3} {q:Int} {x y:N3} (a:x.length=szN sz 0) (hl:1<=sz.length):ea sz ps q x y=(plL sz (sz.length-1)).map (gAt sz ps q x y):=by
 unfold ea;rw [ue a _ am,Nat.sub_self,yz];rfl
theorem ll {sz ps:N3} {q:Int} {x y:N3} (a:x.length=szN sz 0) (hl:1<=sz.length):(ea sz ps q x y).length=aF sz (sz.length-1):=by
 rw [nF a hl,List.length_map,pW]
theorem vn {sz:N3} {n:Nat} {p:Pl} (h:p∈plL sz n):p.1<n/\p.2.1<szN sz (p.1+1)/\(p.2.2= -1\/(0<=p.2.2/\p.2.2.toNat<szN sz p.1)):=by
 unfold plL at h;obtain ⟨k,e,h⟩:=List.mem_flatMap.1 h;have e:=List.mem_range.1 e;unfold plK at h;rcases yN.1 h with h | h
 ·unfold plW at h;obtain ⟨i,a,rfl⟩:=List.mem_map.1 h;have a:=List.mem_range.1 a
  have hc:0<szN sz k:=by
   rcases Nat.eq_zero_or_pos (szN sz k) with g | g
   ·rw [g,Nat.mul_zero] at a;omega
   ·exact g
  exact ⟨e,Nat.div_lt_of_lt_mul (by rw [Nat.mul_comm];exact a),.inr ⟨by dsimp only;omega,by dsimp only;rw [Int.toNat_natCast];exact Nat.mod_lt _ hc⟩⟩
 ·unfold plB at h;obtain ⟨i,a,rfl⟩:=List.mem_map.1 h;exact ⟨e,List.mem_range.1 a,.inl rfl⟩
theorem um:cE prog 247 250 (.agg #[yY 0,yY 0,yY 0]) 3 24:=⟨underlying247,info_parts (by kernel_rfl),rfl,by decide⟩
theorem mW (A:N0) (sz:N3) (c:Nat) (w:N6) (hA:Rd w A (au .i64 sz)) (hg:bn sz):Calls prog 140 #[.slice A sz.length c] w fun e w'=>∃A' c',e=.returned (.slice A' (aF sz (sz.length-1)) c')/\w'.ownsRow w.heap.size 250 3 (.slice A' (aF sz (sz.length-1)) c') (aF sz (sz.length-1)) (plV (plL sz (sz.length-1)))/\an w w':=by
 have a0:=hg.1.1;obtain ⟨b,o,rfl,W⟩:=hA.num (show 0<sz.length by omega);have C:b<w.heap.size:=aw W;obtain ⟨L,hL⟩:∃L,sz.length=L:=⟨_,rfl⟩;rw [hL] at a0 ⊢;obtain ⟨HA,HG,HL⟩:=ae hA hg hL;clear hA hg hL W;go_enter func140,ntmps140;go_wp2_with fail
 go_loopw [3,4] (fun v i wr=>∃k:Nat,k+1<=L/\i=yY k/\wr.ownsRow w.heap.size 250 3 v (aF sz k) (plV (plL sz k))/\an w wr) (fun _ i _=>L-(intOf i).toNat)
 ·exact ⟨0,by omega,rfl,yi _ _ _ _,ya _ _⟩
 case round=>
  obtain ⟨wq,rfl⟩:∃wq:N6,wq=wr:=⟨_,rfl⟩;obtain ⟨k,hk,rfl,G,Z⟩:=hrel;obtain ⟨A0,c9,rfl,_⟩:=aB G;obtain ⟨S,a3⟩:=ab G Z;clear G Z;have b5:IntKind.i64.wrap ((k:Int)+1)=(k:Int)+1:=yc _ am;by_cases b7:k+1<L
  ·have hR:=HG.o.1;have b1:=HL.o;have z0:=hR.at (k:=k) am;have z1:=hR.at (k:=k+1) am;obtain ⟨_,_,Q,p0⟩:=HA.o.num (show k<sz.length by omega);injection Q with Q;injection Q with e1 e2 _;subst e1;subst e2
   obtain ⟨_,_,Q,p1⟩:=HA.o.num (show k+1<sz.length by omega);injection Q with Q;injection Q with e1 e2 _;subst e1;subst e2
   rw [z0.2.2] at p0;rw [z1.2.2] at p1;have b3:=HG.o.bound (k:=k+1) am;have hm:=cR sz k;have l:bI sz k=aF sz k+szN sz (k+1)*szN sz k:=rfl;have F:plK sz k=plW k (szN sz k) (szN sz (k+1)*szN sz k)++plB k (szN sz (k+1)):=rfl;obtain ⟨a,X⟩:∃a,szN sz k=a:=⟨_,rfl⟩;obtain ⟨E,T⟩:∃E,szN sz (k+1)=E:=⟨_,rfl⟩;obtain ⟨N,hN⟩:∃N,aF sz k=N:=⟨_,rfl⟩;obtain ⟨M,hM⟩:∃M,bI sz k=M:=⟨_,rfl⟩;rw [X] at p0 l F z0;rw [T] at p1 l hm F z1;rw [hN,hM] at l;rw [hM] at hm;rw [<-hm] at b3;obtain ⟨b2,HN,Hm⟩:=ae F hN hm;have av:(k:Int)+1<L:=am;have b4:(k:Int)<L:=am;clear X T F hm hN hM b1 hR;go_wp2_with fail
   go_loopw [3,5] (fun v i wr=>∃r:Nat,r<=E/\i=yY r/\wr.ownsRow w.heap.size 250 3 v (N+r*a) (plV (plL sz k++plW k a (r*a)))/\an w wr) (fun _ i _=>E-(intOf i).toNat)
   case atStart=>
    refine ⟨0,yb _,rfl,?_,a3.o⟩;rw [Nat.zero_mul,show plW k a 0=[] from rfl,List.append_nil,Nat.add_zero,<-HN.o];exact S.o
   case round=>
    obtain ⟨w1,rfl⟩:∃w1:N6,w1=wr:=⟨_,rfl⟩;obtain ⟨r,hr,rfl,O,D⟩:=hrel;obtain ⟨A1,d1,rfl,_⟩:=aB O;have a2:=(D.cell (p:=(ao b (o+k))) C).trans p0;have U:=(D.cell (p:=⟨b,o+(k+1),none⟩) C).trans p1;obtain ⟨a5,a1⟩:=ab O D;clear O D;by_cases b6:r<E
    ·have Y:r*a+a<=E*a:=by
      have:=yX a (show r+1<=E by omega)
      rwa [yP] at this
     have P:(r+1)*a=r*a+a:=yP r a;obtain ⟨B,u⟩:∃B,r*a=B:=⟨_,rfl⟩;obtain ⟨m1,a4⟩:∃m1,E*a=m1:=⟨_,rfl⟩;have I:=fun j (hj:j<a)=>tj k a r j hj;rw [u] at Y P I;rw [a4] at Y l;obtain ⟨b0,a9,a7⟩:=ae I P u;clear I P u a4;go_wp2_with fail
     go_loopw [3,6] (fun v i wr=>∃j:Nat,j<=a/\i=yY j/\wr.ownsRow w.heap.size 250 3 v (N+(B+j)) (plV (plL sz k++plW k a (B+j)))/\an w wr) (fun _ i _=>a-(intOf i).toNat)
     case atStart=>
      refine ⟨0,yb _,rfl,?_,a1.o⟩;rw [Nat.add_zero,<-a7.o];exact a5.o
     case round=>
      obtain ⟨R,rfl⟩:∃R:N6,R=wr:=⟨_,rfl⟩;obtain ⟨j,hj,rfl,h,g⟩:=hrel;obtain ⟨A2,d2,rfl,_⟩:=aB h;have b9:=(g.cell (p:=(ao b (o+k))) C).trans p0;have hz:=g.size;obtain ⟨m,n⟩:=ab h g;clear h g a2 U;by_cases V:j<a
      ·have a6:=b0.o j V;have a8:=aa a6;clear a6;go_wp2_with (at_builtin;refine aE um R rfl (.tmp 32) (.tmp 37) rfl w.heap.size (.slice A2 (N+(B+j)) d2) (N+(B+j)) _ rfl m.o [yY k,yY r,yY j] rfl rfl (by simp [Value.oneCell']) am (by unfold maxLen;omega) am ?_);intro g7 c7 w7 q y J;have x:=n.o.trans y;obtain ⟨H,K⟩:=ab q x;clear q y J x;go_wp2_with fail;go_roundw
       case rel=>
        refine ⟨j+1,by omega,by go_num,?_,K.o⟩;have:=H.o;rw [<-pV (k,r,(j:Int)),<-jU,yG,<-a8.o,show N+(B+j)+1=N+(B+(j+1)) by omega,show B+j+1=B+(j+1) by omega] at this;exact this
       case measure=>simp [intOf];omega
      ·obtain rfl:j=a:=am;go_wp2_with fail;go_roundw
       case rel=>
        refine ⟨r+1,by omega,by go_num,?_,n.o⟩;rw [a9.o];exact m.o
       case measure=>simp [intOf];omega
    ·obtain rfl:r=E:=am;have ad:=aa l;clear l;go_wp2_with fail
     go_loopw [3,7] (fun v i wr=>∃t:Nat,t<=r/\i=yY t/\wr.ownsRow w.heap.size 250 3 v (M+t) (plV (plL sz k++plW k a (r*a)++plB k t))/\an w wr) (fun _ i _=>r-(intOf i).toNat)
     case atStart=>
      refine ⟨0,yb _,rfl,?_,a1.o⟩;rw [show plB k 0=[] from rfl,List.append_nil,Nat.add_zero,ad.o];exact a5.o
     case round=>
      obtain ⟨R,rfl⟩:∃R:N6,R=wr:=⟨_,rfl⟩;obtain ⟨t,ht,rfl,h,g⟩:=hrel;obtain ⟨A2,d2,rfl,_⟩:=aB h;have b8:=(g.cell (p:=⟨b,o+(k+1),none⟩) C).trans p1;have hz:=g.size;obtain ⟨m,n⟩:=ab h g;clear h g a2 U;by_cases V:t<r
      ·go_wp2_with (at_builtin;refine aE um R rfl (.tmp 48) (.tmp 52) rfl w.heap.size (.slice A2 (M+t) d2) (M+t) _ rfl m.o [yY k,yY t,yY (-1)] rfl rfl (by simp [Value.oneCell']) am (by unfold maxLen;omega) am ?_);intro g7 c7 w7 q y J;have x:=n.o.trans y;obtain ⟨H,K⟩:=ab q x;clear q y J x;go_wp2_with fail;go_roundw
       case rel=>
        refine ⟨t+1,by omega,by go_num,?_,K.o⟩;have:=H.o;rw [<-pV (k,t, -1),<-jU,show M+t+1=M+(t+1) by omega] at this;rw [tp];simp only [yG] at this ⊢;exact this
       case measure=>simp [intOf];omega
      ·obtain rfl:t=r:=am;go_wp2_with fail;go_roundw
       case rel=>
        refine ⟨k+1,by omega,by go_num,?_,n.o⟩;rw [ng,b2.o,<-yG,<-Hm.o];exact m.o
       case measure=>simp [intOf];omega
  ·obtain rfl:k=L-1:=am;have av:¬((((L-1:Nat):Int)+1)<L):=am;go_wp2_with fail;go_ret;exact ⟨_,_,rfl,S.o,a3.o⟩
theorem qY (As Ap Y V:N0) (sz ps x y:N3) (cs cp cy cv:Nat) (q:Int) (G:N5) (w:N6) (h:jq w As Ap sz ps cs) (hx:x.length=szN sz 0) (hY:Rd w Y (au .i64 y)) (hy:y.length=szN sz (sz.length-1)) (hV:Rd w V G) (S:dM w G sz.length (bi sz ps q x)):Calls prog 107 #[.agg #[.slice As sz.length cs,.slice Ap ps.length cp,yY q],yY ((sz.length-1:Nat):Int),.slice V sz.length cv,.slice Y y.length cy] w fun e w'=>∃A c,e=.returned (.slice A y.length c)/\w'.ownsRow w.heap.size 2 1 (.slice A y.length c) y.length (au .i64 (cQ sz ps q x y 0))/\an w w':=by
 have T:=h.hg.1.1;have F:=fun w'=>fm As Ap sz.length ps.length cs cp q w' am;have Z:=(h.hg.1.at (k:=sz.length-1) am).2.1;obtain ⟨Aj,cj,e1,e2,e3⟩:=S.2 (sz.length-1) am;have n:=cw (sz:=sz) (ps:=ps) (q:=q) hx (sz.length-1);obtain ⟨U,oo,rfl,J⟩:=hV _ _ e1;have Q:U<w.heap.size:=aw J;rw [<-hy] at n Z
 have O:cQ sz ps q x y 0=bH y.length fun i=>wrap64 (nth (bi sz ps q x (sz.length-1)) i-nth y i):=by
  show eV _ _=_
  unfold eV;rw [n]
 obtain ⟨a,ha⟩:∃a,bi sz ps q x (sz.length-1)=a:=⟨_,rfl⟩;obtain ⟨L,hL⟩:∃L,sz.length=L:=⟨_,rfl⟩;obtain ⟨m,hm⟩:∃m,ps.length=m:=⟨_,rfl⟩;obtain ⟨E,I⟩:∃E,y.length=E:=⟨_,rfl⟩;rw [O];rw [ha] at J e3 n ⊢;rw [hL] at F T J ⊢;rw [n] at J;rw [hm] at F ⊢;rw [I] at J n Z ⊢;obtain ⟨a8,HY,a1,a3,a7⟩:=ag F hY I n e3;clear F hY I n e1 e2 e3 h hx hy hV S O ha hL hm;have b0:((L-1:Nat):Int)<L:=am;have av:L-1<L:=am;have hq:(((L-1:Nat):Int)==((L-1:Nat):Int))=true:=by simp
 go_enter func107,ntmps107;go_wp2_with fail;refine (a8.o _).mono ?_;rintro e w1 ⟨rfl,a0⟩;have N:an w w1:=((ya _ w).alloc (x4 _) _).trans (a0.mono (by simp));have a5:=aa N;clear a0 N;go_wp2_with fail;clear hq
 go_loopw [9,10] (fun v i wr=>∃k:Nat,k<=E/\i=yY k/\wr.ownsRow w.heap.size 2 1 v k (au .i64 (bH k fun i=>wrap64 (nth a i-nth y i)))/\an w wr) (fun _ i _=>E-(intOf i).toNat)
 ·exact ⟨0,yb _,rfl,yi _ _ _ _,a5.o⟩
 case round=>
  obtain ⟨k,hk,rfl,l,H⟩:=hrel;obtain ⟨Al,cl,rfl,b1⟩:=aB l;by_cases P:k<E
  ·obtain ⟨ba,M,rfl,p1⟩:=a7.o.num (show k<a.length by rw [a3.o];exact P);obtain ⟨D,oy,rfl,p2⟩:=HY.o.num (show k<y.length by rw [a1.o];exact P);have l1:ba<w.heap.size:=aw p1;have l2:D<w.heap.size:=aw p2;have s1:=(H.cell (p:=⟨U,oo+(L-1),none⟩) Q).trans J;have s2:=(H.cell (p:=(ao ba (M+k))) l1).trans p1;have s3:=(H.cell (p:=(ao D (oy+k))) l2).trans p2;have hz:=H.size;obtain ⟨B,HW⟩:=ab l H;clear l H p1 p2;have ad:(k:Int)<E:=am;go_wp2_with fail;have j:(fun w':N6=>w'.cell? ⟨U,oo+(L-1),none⟩=some (.slice (some (ao ba M)) E cj)/\w'.cell? (ao ba (M+k))=some (yY (nth a k))/\w'.cell? (ao D (oy+k))=some (yY (nth y k))) wr.drew:=⟨s1,s2,s3⟩;refine HA.g (fun w':N6=>w'.cell? ⟨U,oo+(L-1),none⟩=some (.slice (some (ao ba M)) E cj)/\w'.cell? (ao ba (M+k))=some (yY (nth a k))/\w'.cell? (ao D (oy+k))=some (yY (nth y k))) ?_;refine HA.t ?_ [0,1,2,3,4,5,6,7,8,9,10,11,12] j ?_;refine HA.o 13 (fun K X=>?_);go_simp;refine X.out _ _ ⟨ay j.1 _,ay j.2.1 _,ay j.2.2 _⟩ (fun j=>?_);clear X K;refine HA.o 14 (fun K X=>?_);refine cN fJ (.tmp 25) (.tmp 38) rfl rfl w.heap.size (.slice Al k cl) k _ rfl (aZ (B.o.alloc _) 1) (some (ao wr.heap.size 0)) 1 1 [yY (IntKind.i64.wrap (nth a k-nth y k))] rfl (dO wr _ _ _ rfl) rfl (by simp [Value.oneCell']) am (by unfold maxLen;omega) (by simp;omega) ?_;intro A4 c4 w4 u C a9 a2;have W:=yg ((C.cell (p:=⟨U,oo+(L-1),none⟩) Q).trans j.1) (yg ((C.cell (p:=(ao ba (M+k))) l1).trans j.2.1) ((C.cell (p:=(ao D (oy+k))) l2).trans j.2.2));have R:an w w4:=((HW.o.alloc hz _).drew).trans C;obtain ⟨a4,a6⟩:=ab u R;clear u C a9 a2 R j;dsimp only;refine X.out _ _ W (fun j=>?_);clear X K W;refine HA.t ?_ [15] j ?_;refine HA.d ?_;clear j s1 s2 s3;go_wp2_with fail;go_roundw
   case rel=>
    have e9:IntKind.i64.wrap (nth a k-nth y k)=wrap64 (nth a k-nth y k):=by rw [IntKind.wrap_i64,wrap64]
    have u:=a4.o;rw [e9] at u;exact ⟨k+1,by omega,by go_num,by rw [di,aT];exact u,a6.o⟩
   case measure=>simp [intOf];omega
  ·obtain rfl:k=E:=am;obtain ⟨B,HW⟩:=ab l H;clear l H;go_wp2_with fail;go_ret;exact ⟨_,_,rfl,B.o,HW.o⟩
theorem qX (j:Nat) (As Ap Y V:N0) (sz ps x y:N3) (cs cp cy cv:Nat) (q:Int) (X:N5) (w:N6) (h:jq w As Ap sz ps cs) (hx:x.length=szN sz 0) (wx:W64 x) (hV:Rd w V X) (b8:dM w X sz.length (bi sz ps q x)) (hj:j+2<=sz.length) (T:∀w',an w w'->Calls prog 107 #[.agg #[.slice As sz.length cs,.slice Ap ps.length cp,yY q],yY ((sz.length-1-j:Nat):Int),.slice V sz.length cv,.slice Y y.length cy] w' fun e H=>∃A c,e=.returned (.slice A (szN sz (sz.length-1-j)) c)/\H.ownsRow w'.heap.size 2 1 (.slice A (szN sz (sz.length-1-j)) c) (szN sz (sz.length-1-j)) (au .i64 (cQ sz ps q x y j))/\an w' H):Calls prog 107 #[.agg #[.slice As sz.length cs,.slice Ap ps.length cp,yY q],yY ((sz.length-2-j:Nat):Int),.slice V sz.length cv,.slice Y y.length cy] w fun e H=>∃A c,e=.returned (.slice A (szN sz (sz.length-2-j)) c)/\H.ownsRow w.heap.size 2 1 (.slice A (szN sz (sz.length-2-j)) c) (szN sz (sz.length-2-j)) (au .i64 (cQ sz ps q x y (j+1)))/\an w H:=by
 have b9:=h.hg.1.1;have R:=fun w'=>fm As Ap sz.length ps.length cs cp q w' am;obtain ⟨k,hk⟩:∃k,sz.length-2-j=k:=⟨_,rfl⟩;have a6:sz.length-1-j=k+1:=am;have a7:k+1<sz.length:=am;rw [a6] at T;have z0:=h.hg.1.at (k:=k) am;have z1:=h.hg.1.at a7;obtain ⟨Ak,ck,e1,e2,e3⟩:=b8.2 k am;have O:=cw (sz:=sz) (ps:=ps) (q:=q) hx k;rw [O] at e1;obtain ⟨bo,oo,rfl,pv⟩:=hV _ _ e1;have bG:bo<w.heap.size:=aw pv;have G:=eD (sz:=sz) (ps:=ps) (q:=q) (x:=x) (y:=y) hx j;rw [a6] at G;have a1:=iL sz ps q x y j;have l:=eD (sz:=sz) (ps:=ps) (q:=q) (x:=x) (y:=y) hx (j+1);rw [show sz.length-1-(j+1)=k by omega] at l;have g:=fun c (hc:c<szN sz k)=>ur (sz:=sz) (ps:=ps) (q:=q) (x:=x) (y:=y) (j:=j) (c:=c) hx hj (by rw [hk];exact hc);have E:=fun r c (hr:r<szN sz (k+1)) (hc:c<szN sz k) w' (hb:an w w')=>jj As Ap sz ps cs cp k r c q w' (h.below hb) a7 hr hc;obtain ⟨b,o,rfl,p0⟩:=h.hA.num (show k<sz.length by omega);rw [z0.2.2] at p0;have bO:b<w.heap.size:=aw p0;have WP:=aa h.wp;rw [hk] at g ⊢;obtain ⟨ev,bg⟩:∃ev,cQ sz ps q x y j=ev:=⟨_,rfl⟩;obtain ⟨en,bk⟩:∃en,cQ sz ps q x y (j+1)=en:=⟨_,rfl⟩;obtain ⟨vv,bs⟩:∃vv,bi sz ps q x k=vv:=⟨_,rfl⟩;obtain ⟨L,hL⟩:∃L,sz.length=L:=⟨_,rfl⟩;obtain ⟨m,hm⟩:∃m,ps.length=m:=⟨_,rfl⟩;obtain ⟨Y0,ad⟩:∃Y0,y.length=Y0:=⟨_,rfl⟩;obtain ⟨r1,b1⟩:∃r1,szN sz (k+1)=r1:=⟨_,rfl⟩;obtain ⟨W,a9⟩:∃W,szN sz k=W:=⟨_,rfl⟩;rw [bg] at G a1 g T;rw [bk] at l g ⊢;rw [bs] at e3 O g;rw [hL] at R b9 a7 T E hj ⊢;rw [hm] at R T E ⊢;rw [ad] at T ⊢;rw [b1] at G T E z1;rw [a9] at O l pv p0 g E z0 ⊢;rw [G] at g;obtain ⟨cb,bM,c8,bB,cc,bD,Z,bw⟩:=aj R O e3 T G a1 l g;obtain ⟨bV,cg⟩:=ab E a9;clear R O e3 T G a1 l g E h hx hV b8 bg bk bs hL hm ad b1 a9 e1 e2 hk a6;have bz:((k:Int)==((L-1:Nat):Int))=false:=by simp;omega
 have ct:k<L:=am;have d2:(k:Int)<L:=am;go_enter func107,ntmps107;go_wp2_with fail;refine (cb.o _).mono ?_;rintro e w1 ⟨rfl,a8⟩;have I:=(a8.block w.heap.size (by simp)).trans (x6 w (.cells #[.slice (some ⟨b,o,none⟩) L cs,.slice Ap m cp,yY q] 150));have av:an w w1:=((ya _ w).alloc (x4 _) _).trans (a8.mono (by simp));obtain ⟨⟨y0,y1,y2⟩,yf⟩:=bx3 I;obtain ⟨a5,S⟩:=ab av I;clear a8 av I;go_wp2_with fail;refine (bB.o w1 a5.o).mono ?_;rintro e H ⟨A2,c2,rfl,b6,a4⟩;have D:=(a4.block _ (xZ S.o)).trans S.o;have b5:=a5.o.trans (a4.mono a5.o.size);have U:=Rd.own b6;clear y0 y1 y2 yf bz;obtain ⟨⟨y0,y1,y2⟩,yf⟩:=bx3 D;have C:w.heap.size<H.heap.size:=xZ D;obtain ⟨J,cm,bc⟩:=ae b5 D U;clear b6 a4 b5 D U;go_wp2_with fail
 go_loopw [9,12] (fun v i wr=>∃c:Nat,c<=W/\i=yY c/\wr.ownsRow H.heap.size 2 1 v c (au .i64 (en.take c))/\an H wr) (fun _ i _=>W-(intOf i).toNat)
 ·exact ⟨0,yb _,rfl,yi _ _ _ _,ya _ _⟩
 case round=>
  obtain ⟨wq,rfl⟩:∃wq:N6,wq=wr:=⟨_,rfl⟩;obtain ⟨c,hc,rfl,M,P⟩:=hrel;obtain ⟨Al,cl,rfl,d3⟩:=aB M;have x0:=(P.cell (p:=⟨w.heap.size,0,none⟩) C).trans y0;have K:=J.o.trans (P.mono J.o.size);have cx:=(K.cell (p:=⟨b,o+k,none⟩) bO).trans p0;have d1:H.heap.size<=wq.heap.size:=P.size;obtain ⟨a0,bv,bm⟩:=ae M P K;clear M P K;by_cases Q:c<W
  ·have g:=bw.o c Q;have b7:=aa g;clear g;go_wp2_with fail
   go_loopw [13,14] (fun s i wx=>∃r:Nat,r<=r1/\i=yY r/\s=yY (kc sz ps q k c ev r)/\an wq wx) (fun _ i _=>r1-(intOf i).toNat)
   ·exact ⟨0,yb _,rfl,rfl,ya _ _⟩
   case round=>
    obtain ⟨wo,rfl⟩:∃wo:N6,wo=wr:=⟨_,rfl⟩;obtain ⟨r,hr,rfl,rfl,u⟩:=hrel;have a:=bv.o.trans (u.mono bv.o.size);have n:=J.o.trans (a.mono J.o.size);by_cases b2:r<r1
    ·obtain ⟨be,oe,rfl,pe⟩:=bc.o.num (show r<ev.length by rw [cc.o];exact b2);have cj:be<H.heap.size:=aw pe;have cd:=(a.cell (p:=⟨be,oe+r,none⟩) cj).trans pe;have bA:=(a.cell (p:=⟨w.heap.size,0,none⟩) C).trans y0;have bC:=(a.cell (p:=⟨w.heap.size,1,none⟩) C).trans y1;have c5:=(a.cell (p:=⟨w.heap.size,2,none⟩) C).trans y2;have b0:=bV.o r c b2 Q wo.drew n.drew;have bl:=fun w'=>iU (nth ps (aF sz k+r*W+c)) (nth ev r) q w' (WP.o.nth _) (bD.o.nth _);obtain ⟨c9,bF,a2⟩:=ae b0 bl u;clear b0 bl u pe a n;have cr:(r:Int)<r1:=am;go_wp2_with fail
     go_region_held3 (fun w'=>w'.cell? ⟨w.heap.size,0,none⟩=some (.slice (some ⟨b,o,none⟩) L cs)/\w'.cell? ⟨w.heap.size,1,none⟩=some (.slice Ap m cp)/\w'.cell? ⟨w.heap.size,2,none⟩=some (yY q)/\w'.cell? ⟨be,oe+r,none⟩=some (yY (nth ev r))) (simp [go_sem, *])
      ((first | (go_at_call 143;refine c9.o.mono ?_;rintro e w3 ⟨rfl,F⟩;have g0:=aq F bA;have g1:=aq F bC;have g2:=aq F c5;have g3:=aq F cd;have b3:=a2.o.trans (((ya wo.heap.size wo).drew.trans F).mono a2.o.size);have c4:=aa b3;clear F b3) | (go_at_call 106;refine (bF.o _).mono ?_;rintro e w4 ⟨rfl,rfl⟩)))
     go_wp2_with fail;go_roundw
     ·exact ⟨r+1,by omega,by go_num,by rw [IntKind.wrap_i64,kc,wrap64,cg.o],c4.o⟩
     ·simp [intOf];omega
    ·obtain rfl:r=r1:=am;obtain ⟨ba,oa,rfl,pa⟩:=c8.o.num (show c<vv.length by rw [bM.o];exact Q);have ce:ba<w.heap.size:=aw pa;have co:=(n.cell (p:=⟨ba,oa+c,none⟩) ce).trans pa;have d0:=(n.cell (p:=⟨bo,oo+k,none⟩) bG).trans pv;have N:=az a0.o u;have cz:=u.size;have bd:=cM en c (by rw [Z.o];exact Q);obtain ⟨a2,a3,c0,bb⟩:=af u N bd a;clear u N bd pa a n;have cA:(c:Int)<W:=am;go_wp2_with fail;refine (kK _ _ _).mono ?_;rintro e w7 ⟨rfl,rfl⟩;rw [<-b7.o];go_wp2_with (at_builtin;refine aE fJ wo rfl (.tmp 76) (.tmp 86) rfl H.heap.size (.slice Al c cl) c _ rfl a3.o [yY (nth en c)] rfl rfl (by simp [Value.oneCell']) am (by unfold maxLen;omega) am ?_);intro g7 c7 w7 b4 bp c3;have bh:=bb.o.trans bp;obtain ⟨bN,c6⟩:=ab b4 bh;clear b4 bp c3 bh;go_wp2_with fail;go_roundw
     ·exact ⟨c+1,by omega,by go_num,by rw [c0.o,aT];exact bN.o,c6.o⟩
     ·simp [intOf];omega
  ·obtain rfl:c=W:=am;have B:=a0.o;rw [List.take_of_length_le (by rw [Z.o];exact x4 _)] at B;have Hf:=aa (aA B (base':=w.heap.size) (by have:=J.o.size;omega));clear B;go_wp2_with fail;go_ret;exact ⟨_,_,rfl,Hf.o,bm.o⟩
theorem m6 (m k Y V:N0) (sz ps x y:N3) (l v o p:Nat) (q:Int) (a:N5) (C:x.length=szN sz 0) (E:W64 x) (B:y.length=szN sz (sz.length-1)):
  ∀(j:Nat) (w:N6),j+1<=sz.length->jq w m k sz ps l->Rd w Y (au .i64 y)->Rd w V a->dM w a sz.length (bi sz ps q x)->
   Calls prog 107 #[.agg #[.slice m sz.length l,.slice k ps.length v,yY q],yY ((sz.length-1-j:Nat):Int),.slice V sz.length p,.slice Y y.length o] w fun e D=>∃A c,e=.returned (.slice A (szN sz (sz.length-1-j)) c)/\D.ownsRow w.heap.size 2 1 (.slice A (szN sz (sz.length-1-j)) c) (szN sz (sz.length-1-j)) (au .i64 (cQ sz ps q x y j))/\an w D:=by
 intro j
 induction j with
 | zero=>
  intro w _ h u n g;have:=qY m k Y V sz ps x y l v o p q a w h C u B n g;rw [Nat.sub_zero,<-B];exact this
 | succ j ih=>
  intro w F h u n g;have:=qX j m k Y V sz ps x y l v o p q a w h C E n g am (fun w' i=>ih w' am (h.below i) (u.below i) (n.below i) (g.below i));rw [show sz.length-1-(j+1)=sz.length-2-j by omega];exact this
def xq (sz ps:N3) (q:Int) (x y:N3) (B:Nat) (k:Nat) (v:Value) (i:Obj) (l e w:N6):Prop:=
 ∃A c a,v=.slice A k c/\w.ownsRow e.heap.size 26 1 (.slice A k c) k a/\
  (∀j,1<=j->j<k->∃h g,a[j]?=some (.slice h (szN sz j) g)/\w.ownsRow e.heap.size 2 1 (.slice h (szN sz j) g) (szN sz j) (au .i64 (cQ sz ps q x y (sz.length-1-j))))/\an e w
theorem oP {P:Program} {f:FuncId} {args:N4} {W:N6} {a n:Nat} {v:Value} (h:∀w',Calls P f args w' fun e g=>e=.returned v/\w'=g):Calls P f args (W.drewN (a+n)) fun e g=>e=.returned v/\∃m,g=W.drewN (a+m):= (h _).mono fun _ _ h=>⟨h.1,n,h.2.symm⟩
theorem qW (As Ap X Y:N0) (sz ps x y:N3) (cs cp cx cy:Nat) (q:Int) (w:N6) (h:jq w As Ap sz ps cs) (hX:Rd w X (au .i64 x)) (hx:x.length=szN sz 0) (wx:W64 x) (ds:x.length<=cx) (hY:Rd w Y (au .i64 y)) (hy:y.length=szN sz (sz.length-1)):Calls prog 104 #[.agg #[.slice As sz.length cs,.slice Ap ps.length cp,.int .i64 q],.slice X x.length cx,.slice Y y.length cy] w fun e w'=>∃A' c',e=.returned (.slice A' (aF sz (sz.length-1)) c')/\Rd w' A' (au .i64 (ea sz ps q x y))/\an w w':=by
 have d5:=h.hg.1.1;have cr:=nF (sz:=sz) (ps:=ps) (q:=q) (x:=x) (y:=y) hx am;have b2:=pW sz (sz.length-1);have b8:=fun w'=>fm As Ap sz.length ps.length cs cp q w' am;have a4:=fun w' (hb:an w w')=>jN As Ap X sz ps x cs cp cx q w' (h.below hb) (hX.below hb) hx wx ds;have bc:=fun w' (hb:an w w')=>mW As sz cs w' (h.hA.below hb) h.hg;have a5:=fun j V cv E w' (hb:an w w') (hj:j+1<=sz.length) (hV:Rd w' V E) (b3:dM w' E sz.length (bi sz ps q x))=>m6 As Ap Y V sz ps x y cs cp cy cv q E hx wx hy j w' hj (h.below hb) (hY.below hb) hV b3;have ex:=h.hg.2;have hG:=h.hg;rw [cr];obtain ⟨L,hL⟩:∃L,sz.length=L:=⟨_,rfl⟩;obtain ⟨m,hm⟩:∃m,ps.length=m:=⟨_,rfl⟩;obtain ⟨Y0,dm⟩:∃Y0,y.length=Y0:=⟨_,rfl⟩;obtain ⟨X0,d7⟩:∃X0,x.length=X0:=⟨_,rfl⟩;rw [hL] at b8 a4 a5 bc d5 b2 ex ⊢;rw [hm] at b8 a4 a5 ⊢;rw [dm] at a5 ⊢;rw [d7] at a4 ⊢;obtain ⟨N,hN⟩:∃N,aF sz (L-1)=N:=⟨_,rfl⟩;rw [hN] at bc b2 ex ⊢;obtain ⟨ez,fn,f9,g5,bA,HG,HL,Hx⟩:=aj b8 a4 a5 bc b2 hG hL hx;have WX:=aa wx;clear b8 a4 a5 bc b2 hG hX hx wx ds hY hy cr hL hm dm d7 hN h;go_enter func104,ntmps104;go_wp2_with fail;refine (fn.o _ ?_).mono ?_
 ·exact ak
 rintro e w1 ⟨V,cv,E,rfl,hV,b3,go,cd⟩;have a3:=(cd.block w.heap.size (by simp)).trans (x6 w (.cells #[.slice As L cs,.slice Ap m cp,.int .i64 q] 150));have dr:an w w1:=((ya _ w).alloc (x4 _) _).trans (cd.mono (by simp));obtain ⟨⟨z0,z1,z2⟩,zf⟩:=bx3 a3;obtain ⟨cb,bo,gr,dc⟩:=af dr a3 hV b3;clear cd a3 dr hV b3 go;go_wp2_with fail;refine (g5.o _ cb.o).mono ?_;rintro e w2 ⟨Pa,pc,rfl,eP,Q⟩;have O:=(Q.block _ (xZ bo.o)).trans bo.o;have cA:=cb.o.trans (Q.mono cb.o.size);have d6:=gr.o.below Q;have bd:=dc.o.below Q;have d0:=Rd.own eP;clear z0 z1 z2 zf;obtain ⟨⟨z0,z1,z2⟩,zf⟩:=bx3 O;have g:w.heap.size<w2.heap.size:=xZ O;obtain ⟨b1,gx,d3,bm,bz⟩:=ag cA O d6 bd d0;clear Q O cA d6 bd eP d0;go_wp2_with fail
 go_loopw [9,10] (fun v i wr=>∃k:Nat,k<=L/\i=.int .i64 k/\xq sz ps q x y w.heap.size k v (.cells #[] 0 (0,0)) w w2 wr) (fun _ i _=>L-(intOf i).toNat)
 ·exact ⟨0,yb _,rfl,none,0,[],rfl,yi _ _ _ _,fun j h1 h2=>am,ya _ _⟩
 case round=>
  obtain ⟨wq,rfl⟩:∃wq:N6,wq=wr:=⟨_,rfl⟩;obtain ⟨k,hk,rfl,Aa,ca,av,rfl,ej,eM,a0⟩:=hrel;have x0:=(a0.cell (p:=⟨w.heap.size,0,none⟩) g).trans z0;have x1:=(a0.cell (p:=⟨w.heap.size,1,none⟩) g).trans z1;have x2:=(a0.cell (p:=⟨w.heap.size,2,none⟩) g).trans z2;obtain ⟨b6,dT,bb⟩:=ae ej eM a0;clear ej eM a0;by_cases bB:k<L
  ·have gp:(k:Int)<=((L-1:Nat):Int):=am;go_wp2_with fail;refine (ez.o _).mono ?_;rintro e w3 ⟨rfl,D⟩;have B:=bb.o.trans (D.mono bb.o.size);have G:=az b6.o D;have g8:=B.size;clear x0 x1 x2;obtain ⟨A,M,gd⟩:=ae B G D;clear D B G;go_wp2_with (at_builtin;refine aE uk w3 rfl (.tmp 27) (.tmp 28) rfl w2.heap.size (.slice Aa k ca) k av rfl M.o [.slice none 0 0] rfl rfl (by simp [Value.oneCell']) am (by unfold maxLen;omega) g8 ?_);intro g4 c4 w4 eY da eX;have ef:=A.o.trans da;have gw:=b6.o.1
   have bV:∀{mm:Nat} {u:Value} {ys:N5} {b0:Nat},w3.ownsRow b0 2 1 u mm ys->w4.ownsRow b0 2 1 u mm ys:=fun h=>h.kept eX (by
    rename_i u _ _
    cases hu:u.ownBlock with
    | none=>exact .inl rfl
    | some i=>exact .inr fun e9=>es M.o h (by decide) i e9.symm hu)
   have bk:∀j,1<=j->j<k->∃Aj cj,(av++[Value.slice none 0 0])[j]?=some (.slice Aj (szN sz j) cj)/\w4.ownsRow w2.heap.size 2 1 (.slice Aj (szN sz j) cj) (szN sz j) (au .i64 (cQ sz ps q x y (sz.length-1-j))):=fun j h1 h2=>by
    obtain ⟨Aj,cj,e1,e2⟩:=dT.o j h1 h2;exact ⟨Aj,cj,by rw [yD am];exact e1,bV (az e2 gd.o)⟩
   obtain ⟨U,l,ek⟩:=ae eY ef bk;clear eY da eX ef bk;have y0:=(l.o.cell (p:=⟨w.heap.size,0,none⟩) g).trans z0;have y1:=(l.o.cell (p:=⟨w.heap.size,1,none⟩) g).trans z1;have y2:=(l.o.cell (p:=⟨w.heap.size,2,none⟩) g).trans z2;by_cases gU:k=0
   ·have dh:¬(0:Int)<(k:Int):=am;go_wp2_with fail;go_roundw
    ·exact ⟨k+1,by omega,by go_num,some ⟨g4,0,none⟩,c4,_,rfl,U.o,fun j h1 h2=>am,l.o⟩
    ·simp [intOf];omega
   ·have dh:(0:Int)<(k:Int):=am;have gO:0<k:=am;have a9:=f9.o (L-1-k) V cv E w4 (b1.o.trans (l.o.mono b1.o.size)) am (d3.o.below l.o) (bm.o.below l.o);rw [show L-1-(L-1-k)=k by omega] at a9;have cz:=aa a9;clear a9;have gF:k<k+1:=Nat.lt_succ_self k;have gs:(k:Int)<(k:Int)+1:=am;go_wp2_with fail;refine cz.o.mono ?_;rintro e w5 ⟨A5,c5,rfl,ck,b5⟩;have d4:=l.o.trans (b5.mono l.o.size);have H:=az U.o b5;have g0:=l.o.size;have q0:=H.cellAt k am
    have qk:(av++[Value.slice none 0 0])[k]?=some (.slice none 0 0):=by
     have:=U.o.1;rw [yE (by simp at this;omega)];simp at this;simp [show av.length=k by omega]
    rw [qk] at q0;have qf:=H.frozenAt k;have ct:=(H.stored k (.slice A5 (szN sz k) c5)).1;obtain ⟨g3,d9,fc,fb,el,gC⟩:=ah ct d4 ck b5 H qk;clear ct d4 ck b5 H qk y0 y1 y2;go_wp2_with fail;have dp:Keep (fun i=>i=g4) w5 (w5.setCell ⟨g4,k,none⟩ (.slice A5 (szN sz k) c5)):=Keep.setCell (S:=fun i=>i=g4) (Keep.refl _ _) ⟨g4,k,none⟩ (.inr rfl) _
    have P:∀{mm:Nat} {u:Value} {ys:N5} {b0:Nat},w5.ownsRow b0 2 1 u mm ys->(w5.setCell ⟨g4,k,none⟩ (.slice A5 (szN sz k) c5)).ownsRow b0 2 1 u mm ys:=fun h=>dp.own h (fun i hi e9=>by
     subst e9
     exact es el.o h (by decide) i rfl hi)
    go_roundw
    case rel=>
     refine ⟨k+1,by omega,by go_num,some ⟨g4,0,none⟩,c4,_,rfl,g3.o,fun j h1 h2=>?_,d9.o.trans (dp.toBelow d9.o.size (fun i hi=>by subst hi;exact (U.o.lt i rfl).1))⟩;have gB:(av++[Value.slice none 0 0]).length=k+1:=by have:=U.o.1;simpa using this
     rcases yl j k with ee | ee
     ·obtain ⟨Aj,cj,e1,e2⟩:=ek.o j h1 ee;refine ⟨Aj,cj,?_,P (az e2 fb.o)⟩;rw [List.getElem?_set_ne am];exact e1
     ·obtain rfl:j=k:=am;refine ⟨A5,c5,?_,?_⟩
      ·rw [List.getElem?_set_self am]
      ·have:=P (aA fc.o (base':=w2.heap.size) g0);rw [HL.o];exact this
    case measure=>simp [intOf];omega
  ·obtain rfl:k=L:=am;have gp:¬((k:Int)<=((k-1:Nat):Int)):=am;have gy:1<=k:=am;go_wp2_with fail;refine (ez.o _).mono ?_;rintro e w3 ⟨rfl,D⟩;obtain ⟨ga,gV,bg,gz,_⟩:=b6.o.form am;simp only [yM] at bg;obtain ⟨rfl,g7,rfl⟩:=bg;clear g7;have B:=bb.o.trans (D.mono bb.o.size);have G:=az b6.o D
   have bs:∀j,1<=j->j<k->∃Aj cj,av[j]?=some (.slice Aj (szN sz j) cj)/\w3.ownsRow w2.heap.size 2 1 (.slice Aj (szN sz j) cj) (szN sz j) (au .i64 (cQ sz ps q x y (sz.length-1-j))):=fun j h1 h2=>by
    obtain ⟨Aj,cj,e1,e2⟩:=dT.o j h1 h2;exact ⟨Aj,cj,e1,az e2 D⟩
   obtain ⟨A,M,en⟩:=ae B G bs;clear D B G bs x0 x1 x2;go_wp2_with fail;have be:decide (k<=k-1)=false:=yT am;rw [be];clear be
   go_loopw [11,12] (fun v i wr=>∃t:Nat,t<=N/\i=.int .i64 t/\wr.ownsRow w3.heap.size 2 1 v t (au .i64 (((plL sz (k-1)).map (gAt sz ps q x y)).take t))/\an w3 wr) (fun _ i _=>N-(intOf i).toNat)
   ·exact ⟨0,yb _,rfl,yi _ _ _ _,ya _ _⟩
   case round=>
    obtain ⟨J,rfl⟩:∃J:N6,J=wr:=⟨_,rfl⟩;obtain ⟨t,ht,rfl,a1,e0⟩:=hrel;obtain ⟨Al,cl,rfl,_⟩:=aB a1;obtain ⟨a7,n⟩:=ab a1 e0;clear a1 e0;by_cases bB:t<N
    ·obtain ⟨pp,b4⟩:∃pp,(plL sz (k-1))[t]?=some pp:=⟨_,yC (by rw [bA.o];exact bB)⟩;have bh:=vn (List.mem_of_getElem? b4)
     have bl:nth ((plL sz (k-1)).map (gAt sz ps q x y)) t=gAt sz ps q x y pp:=by
      unfold nth;rw [List.getD_eq_getElem?_getD,List.getElem?_map,b4];rfl
     have bM:=cM ((plL sz (k-1)).map (gAt sz ps q x y)) t (by rw [List.length_map,bA.o];exact bB);rw [bl] at bM;obtain ⟨f0,f1,f2⟩:=wN _ _ _ b4;obtain ⟨bp,op,bD,c0⟩:=bz.o _ _ f0;obtain ⟨_,_,e',c1⟩:=bz.o _ _ f1;rw [bD] at e';injection e' with e';injection e' with i1 i2 _;subst i1;subst i2
     obtain ⟨_,_,e',c2⟩:=bz.o _ _ f2;rw [bD] at e';injection e' with e';injection e' with i1 i2 _;subst i1;subst i2
     subst bD;have a:=A.o.trans (n.o.mono A.o.size);have f8:=aq a c0;have cg:=aq a c1;have co:=aq a c2;rw [<-yQ] at cg co;obtain ⟨K,R,C⟩:=pp;dsimp only at bh f8 cg co;obtain ⟨m1,m2,m3⟩:=bh;obtain ⟨A8,c8,g1,g2⟩:=en.o (K+1) am am;obtain ⟨_,_,e8,p8⟩:=(Rd.own M.o) _ _ g1;injection e8 with e8;injection e8 with i1 i2 _;subst i1;subst i2
     rw [yR] at p8;have bF:=eD (sz:=sz) (ps:=ps) (q:=q) (x:=x) (y:=y) Hx.o (sz.length-2-K);have gm:=HL.o;rw [show sz.length-1-(sz.length-2-K)=K+1 by omega] at bF;rw [show sz.length-1-(K+1)=sz.length-2-K by omega] at g2;have bO:=iL sz ps q x y (sz.length-2-K);obtain ⟨b9,o9,rfl,p9⟩:=(Rd.own g2).num (show R<(cQ sz ps q x y (sz.length-2-K)).length by rw [bF];exact m2);have dk:=aq n.o p8;have c3:=aq n.o p9;obtain ⟨A7,c7,h1,h2,h3⟩:=bm.o.2 K am;have a2:=cw (sz:=sz) (ps:=ps) (q:=q) Hx.o K;rw [a2] at h1;obtain ⟨bv,ov,fs,p7⟩:=d3.o _ _ h1;subst fs;have d2:=aq a p7;have bw:=h3.below a;have ce:=ir (sz:=sz) (ps:=ps) (q:=q) WX.o K;have fr:=HG.o.1.at (k:=K+1) am;have gl:=HG.o.1.at (k:=K) am;have y2:=(a.cell (p:=⟨w.heap.size,2,none⟩) g).trans z2;obtain ⟨ev,cc⟩:∃ev,cQ sz ps q x y (sz.length-2-K)=ev:=⟨_,rfl⟩;obtain ⟨vv,bN⟩:∃vv,bi sz ps q x K=vv:=⟨_,rfl⟩;obtain ⟨n1,dv⟩:∃n1,szN sz (K+1)=n1:=⟨_,rfl⟩;obtain ⟨n0,ei⟩:∃n0,szN sz K=n0:=⟨_,rfl⟩;have eq:gAt sz ps q x y (K,R,C)=if 0<=C then cP (nth ev R) (nth vv C.toNat) q else nth ev R:=by unfold gAt;rw [cc,bN]
     rw [cc] at c3 bO;rw [bN] at bw ce a2;rw [dv] at dk m2 fr;rw [ei] at d2 m3 gl a2;obtain ⟨d8,d1,f7,gb,f5,gf,gv⟩:=ai eq bM bw bO ce a2 a;clear eq bM bw bO ce a2 a bl b4 f0 f1 f2 c0 c1 c2 g1 g2 p8 p9 h1 h2 h3 p7 bF cc bN dv ei gm;have h0:(t:Int)<N:=am;go_wp2_with fail;have e1:IntKind.i64.wrap ((K:Int)+1)=(K:Int)+1:=yc _ am;have e2:(K:Int)+1<k:=am;have e3:K+1<k:=am;have e4:(R:Int)<n1:=am;have e5:(0:Int)<=(K:Int)+1:=am;have e6:((K:Int)+1).toNat=K+1:=am;have e7:¬((K:Int)+1<0):=am;have e8:¬((k:Int)<=(K:Int)+1):=am;have l8:ga<J.heap.size:=aw dk;have l9:b9<J.heap.size:=aw c3;have l7:bv<J.heap.size:=aw d2;have l2:w.heap.size<J.heap.size:=aw y2
     go_quiet (fail)
     have pb:=ay (W:=J) (p:=⟨b9,o9+R,none⟩) c3 (.cells #[.int .i64 (K:Int),.int .i64 (R:Int),.int .i64 C] 250);by_cases hC:0<=C
     ·obtain ⟨C1,rfl⟩:∃C1:Nat,C=(C1:Int):=⟨C.toNat,by omega⟩;have gk:C1<n0:=am;have h4:(C1:Int)<n0:=am;have gA:¬((C1:Int)<0):=am;obtain ⟨b7,o7,rfl,p6⟩:=f7.o.num (show C1<vv.length by rw [gf.o];exact gk);have l6:b7<J.heap.size:=aw p6;have f3:(K:Int)<k:=am;have f4:K<k:=am;have eZ:=fun w'=>iU (nth ev R) (nth vv C1) q w' (gb.o.nth _) (f5.o.nth _);have g9:=aa eZ;clear eZ;obtain ⟨na,rfl⟩:∃na:Nat,na=nq:=⟨_,rfl⟩;go_wp2_with fail
      go_quiet ((go_at_call 106;exact oP g9.o))
      have fa:w3.heap.size<=J.heap.size:=n.o.size;have a8:=aa (show ((J.alloc (.cells #[.int .i64 (K:Int),.int .i64 (R:Int),.int .i64 (C1:Int)] 250)).drewN (na+nq)).heap.size=J.heap.size+1 by simp);have I:=yh (n.o.alloc n.o.size (.cells #[.int .i64 (K:Int),.int .i64 (R:Int),.int .i64 (C1:Int)] 250)) (na+nq);have ad:=aZ (a7.o.alloc (.cells #[.int .i64 (K:Int),.int .i64 (R:Int),.int .i64 (C1:Int)] 250)) (na+nq);go_wp2_with (at_builtin;go_loud (refine aE fJ _ rfl (.tmp 76) (.tmp 78) rfl w3.heap.size (.slice Al t cl) t _ rfl ad [.int .i64 (cP (nth ev R) (nth vv C1) q)] (congrArg (fun b:Nat=>Value.slice (some ⟨b,0,none⟩) 1 1) a8.o.symm) rfl (by simp [Value.oneCell']) am (by unfold maxLen;omega) I.size ?_));intro g6 c6 w6 Z a6 bG;have F:=I.trans a6;obtain ⟨c9,bC⟩:=ab Z F;clear Z a6 bG F ad I;go_wp2_with fail;go_roundw
      case rel=>
       refine ⟨t+1,by omega,by go_num,?_,bC.o⟩;have hv:=d8.o;rw [if_pos (Int.natCast_nonneg _),Int.toNat_natCast] at hv;rw [d1.o,hv,aT];exact c9.o
      case measure=>simp [intOf];omega
     ·have HC:=aa hC;have fa:w3.heap.size<=J.heap.size:=n.o.size;have a8:=aa (show ((J.alloc (.cells #[.int .i64 (K:Int),.int .i64 (R:Int),.int .i64 C] 250)).drewN nq).heap.size=J.heap.size+1 by simp);have I:=yh (n.o.alloc n.o.size (.cells #[.int .i64 (K:Int),.int .i64 (R:Int),.int .i64 C] 250)) nq;have ad:=aZ (a7.o.alloc (.cells #[.int .i64 (K:Int),.int .i64 (R:Int),.int .i64 C] 250)) nq;go_wp2_with (at_builtin;go_loud (refine aE fJ _ rfl (.tmp 76) (.tmp 78) rfl w3.heap.size (.slice Al t cl) t _ rfl ad [.int .i64 (nth ev R)] (congrArg (fun b:Nat=>Value.slice (some ⟨b,0,none⟩) 1 1) a8.o.symm) rfl (by simp [Value.oneCell']) am (by unfold maxLen;omega) I.size ?_));intro g6 c6 w6 Z a6 bG;have F:=I.trans a6;obtain ⟨c9,bC⟩:=ab Z F;clear Z a6 bG F ad I;go_wp2_with fail;go_roundw
      case rel=>
       refine ⟨t+1,by omega,by go_num,?_,bC.o⟩;have hv:=d8.o;rw [if_neg (by have:=HC.o;omega)] at hv;rw [d1.o,hv,aT];exact c9.o
      case measure=>simp [intOf];omega
    ·obtain rfl:t=N:=am;have T:=a7.o;rw [List.take_of_length_le (by rw [List.length_map,bA.o];exact x4 _)] at T;have cm:=aa (Rd.own T);clear T;have dG:=b1.o.trans ((A.o.trans (n.o.mono A.o.size)).mono b1.o.size);have f6:=aa dG;clear dG;go_wp2_with fail;go_ret;exact ⟨_,_,rfl,cm.o,f6.o⟩
end Go.Proofs.YthamijnggdjaoaaGreat
