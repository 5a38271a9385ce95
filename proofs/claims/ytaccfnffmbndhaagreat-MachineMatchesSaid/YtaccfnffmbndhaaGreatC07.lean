/- No condition. -/
import Derived.Test.YtaccfnffmbndhaaGreatC00
import Derived.Test.YtaccfnffmbndhaaGreatC05
import Derived.Test.YtaccfnffmbndhaaGreatC06
import Derived.Test.YtaccfnffmbndhaaGreatC02
import Derived.Deep.RegionHeld3
import Derived.Deep.DeepCutAuto
import Derived.Test.YtaccfnffmbndhaaGreatC03
import Derived.Test.YtaccfnffmbndhaaGreatC01
set_option linter.unusedSimpArgs false
set_option linter.unusedVariables false
set_option maxRecDepth 100000
set_option maxHeartbeats 4000000
namespace Go.Proofs.YtaccfnffmbndhaaGreat
open Go.RowKit
structure nY (w:World) (As Ap:Option Addr) (sz ps:List Int) (cs:Nat):Prop where
 hA:Rd w As (aq .i64 sz)
 hP:Rd w Ap (aq .i64 ps)
 hg:dy sz
 hl:ps.length=aZ sz (sz.length-1)
 hc:sz.length≤cs
 wp:W64 ps
theorem nY.below {w i:World} {j q:Option Addr} {sz ps:List Int} {o:Nat} (h:nY w j q sz ps o) (p:Below w.heap.size w i):nY i j q sz ps o:=⟨h.hA.below p,h.hP.below p,h.hg,h.hl,h.hc,h.wp⟩
theorem nY.drew {w:World} {i j:Option Addr} {sz ps:List Int} {o:Nat} (h:nY w i j sz ps o):nY w.drew i j sz ps o:=⟨h.hA,h.hP,h.hg,h.hl,h.hc,h.wp⟩
theorem lN (j u:Option Addr) (n m p cp:Nat) (q:Int) (w:World) (hn:1≤n∧n≤1000):Calls Tryz.prog 158 #[.agg #[.slice j n p,.slice u m cp,KL q]] w fun e o=>e=.returned (KL ((n-1:Nat):Int))∧Below w.heap.size w o:=by
 obtain ⟨h1,v⟩:=hn
 have hw:IntKind.i64.wrap ((n:Int)-1)=((n-1:Nat):Int):=by rw [JI _ (by omega)];omega
 have i:(n:Int)-1=((n-1:Nat):Int):=by omega
 rw [i] at hw
 go_enter Tryz.func158,Tryz.ntmps158
 go_wp2
 go_ret
 refine ⟨by first | rfl | (rw [i];rfl),?_⟩
 exact al
theorem pK (V Z:Option Addr) (sz ps:List Int) (A cp k r c:Nat) (q:Int) (w:World) (h:nY w V Z sz ps A) (T:k+1<sz.length) (hr:r<szN sz (k+1)) (hc:c<szN sz k):
  Calls Tryz.prog 186 #[.agg #[.slice V sz.length A,.slice Z ps.length cp,KL q],KL k,KL r,KL c] w fun e j=>e=.returned (KL (nth ps (aZ sz k+r*szN sz k+c)))∧Below w.heap.size w j:=by
 have hR:=h.hg.1
 have I:=hR.1.2
 have Y:=hR.at (k:=k) (by omega)
 have J:=h.hg.mul T
 have i:aZ sz k+r*szN sz k+c<ps.length:=by
  have h1:=eP sz k
  have h2:=fv sz (show k+1≤sz.length-1 by omega)
  have h3:r*szN sz k+szN sz k≤szN sz (k+1)*szN sz k:=by
   have:=KH (szN sz k) (show r+1≤szN sz (k+1) by omega)
   rwa [Kx] at this
  have h4:=h.hl
  unfold cW at h1
  omega
 have v:=fun j (hb:Below w.heap.size w j)=>nu V sz k A j (h.hA.below hb) hR T h.hc
 have R:ps.length≤1048576:=by rw [h.hl];exact h.hg.2
 obtain ⟨b,o,rfl,O⟩:=h.hA.num (show k<sz.length by omega)
 obtain ⟨B,H,rfl,C⟩:=h.hP.num i
 have hrc:r*szN sz k≤szN sz (k+1)*szN sz k:=KH _ (by omega)
 rw [Y.2.2] at O
 obtain ⟨a,ha⟩:∃a,szN sz k=a:=⟨_,rfl⟩
 obtain ⟨N,hN⟩:∃N,aZ sz k=N:=⟨_,rfl⟩
 obtain ⟨n,hn⟩:∃n,sz.length=n:=⟨_,rfl⟩
 obtain ⟨m,hm⟩:∃m,ps.length=m:=⟨_,rfl⟩
 rw [ha] at O C i hc hrc Y ⊢
 rw [hN] at C i v ⊢
 rw [hn] at v T I ⊢
 rw [hm] at i R ⊢
 obtain ⟨ra,y⟩:∃ra,r*a=ra:=⟨_,rfl⟩
 rw [y] at C i hrc ⊢
 have Q:b<w.heap.size:=ar O
 have L:B<w.heap.size:=ar C
 have D:(r:Int)*(a:Int)=(ra:Int):=by rw [←y];push_cast;rfl
 have U:=aa v;clear v h hR J hrc Y hn hm hN ha y hr
 have a6:IntKind.i64.wrap ((r:Int)*(a:Int))=(ra:Int):=by rw [D];exact JI _ (by omega)
 have a2:IntKind.i64.wrap ((N:Int)+(ra:Int))=(N:Int)+ra:=JI _ (by omega)
 have a1:IntKind.i64.wrap ((N:Int)+(ra:Int)+(c:Int))=(N:Int)+ra+c:=JI _ (by omega)
 have a0:(0:Int)≤(N:Int)+ra+c:=by omega
 have a4:(N:Int)+ra+c<m:=by omega
 have a7:((N:Int)+ra+c).toNat=N+ra+c:=by omega
 have a5:(k:Int)<n:=by omega
 have a3:k<n:=by omega
 have a8:=zC
 clear D
 go_enter Tryz.func186,Tryz.ntmps186
 go_wp2_with fail
 go_region_held3 (fun j=>j.cell? ⟨w.heap.size,0,none⟩=some (.slice (some ⟨b,o,none⟩) n A)∧j.cell? ⟨w.heap.size,1,none⟩=some (.slice (some ⟨B,H,none⟩) m cp)∧j.cell? ⟨b,o+k,none⟩=some (KL a)∧j.cell? ⟨B,H+(N+ra+c),none⟩=some (KL (nth ps (N+ra+c)))) (simp [go_sem,World.cell?_alloc_past, *])
  ((go_at_call 204;refine (U.out _ ?_).mono ?_;(focus (exact al;done));rintro e w1 ⟨rfl,x⟩;have u:Below w.heap.size w w1:=Below.trans (by exact al) (x.mono (by simp));have g0:=am x (JF _ w.heap.size 0 _ _ _ (JE w (.cells #[.slice (some ⟨b,o,none⟩) n A,.slice (some ⟨B,H,none⟩) m cp,KL q] 214)));have g1:=am x (JF _ w.heap.size 1 _ _ _ (JE w (.cells #[.slice (some ⟨b,o,none⟩) n A,.slice (some ⟨B,H,none⟩) m cp,KL q] 214)));have g2:=(u.cell (p:=⟨b,o+k,none⟩) Q).trans O;have g3:=(u.cell (p:=⟨B,H+(N+ra+c),none⟩) L).trans C;have X:=aa u;clear x u))
 go_wp2_with fail
 go_ret
 exact ⟨rfl,X.out⟩
theorem Bo (J O:Option Addr) (sz ps:List Int) (y cp k r:Nat) (q:Int) (w:World) (h:nY w J O sz ps y) (Q:k+1<sz.length) (hr:r<szN sz (k+1)):
  Calls Tryz.prog 203 #[.agg #[.slice J sz.length y,.slice O ps.length cp,KL q],KL k,KL r] w fun e u=>e=.returned (KL (nth ps (cW sz k+r)))∧Below w.heap.size w u:=by
 have hR:=h.hg.1
 have C:=hR.1.2
 have x:cW sz k+r<ps.length:=by
  have h1:=eP sz k
  have h2:=fv sz (show k+1≤sz.length-1 by omega)
  have h4:=h.hl
  omega
 have i:=fun u (U:Below w.heap.size w u)=>vt J sz k y u (h.hA.below U) hR Q h.hc
 have I:ps.length≤1048576:=by rw [h.hl];exact h.hg.2
 obtain ⟨b,o,rfl,Y⟩:=h.hA.num (show k<sz.length by omega)
 obtain ⟨A,B,rfl,H⟩:=h.hP.num x
 obtain ⟨M,hM⟩:∃M,cW sz k=M:=⟨_,rfl⟩
 obtain ⟨n,hn⟩:∃n,sz.length=n:=⟨_,rfl⟩
 obtain ⟨m,hm⟩:∃m,ps.length=m:=⟨_,rfl⟩
 rw [hM] at H x i ⊢
 rw [hn] at i Q C ⊢
 rw [hm] at x I ⊢
 have D:A<w.heap.size:=ar H
 have N:=aa i;clear i h hR hn hm hM hr Y
 have V:IntKind.i64.wrap ((M:Int)+(r:Int))=(M:Int)+r:=JI _ (by omega)
 have R:(0:Int)≤(M:Int)+r:=by omega
 have X:(M:Int)+r<m:=by omega
 have Z:((M:Int)+r).toNat=M+r:=by omega
 have a0:=zC
 go_enter Tryz.func203,Tryz.ntmps203
 go_wp2_with fail
 go_region_held3 (fun u=>u.cell? ⟨w.heap.size,0,none⟩=some (.slice (some ⟨b,o,none⟩) n y)∧u.cell? ⟨w.heap.size,1,none⟩=some (.slice (some ⟨A,B,none⟩) m cp)∧u.cell? ⟨A,B+(M+r),none⟩=some (KL (nth ps (M+r)))) (simp [go_sem,World.cell?_alloc_past, *])
  ((go_at_call 223;refine (N.out _ ?_).mono ?_;(focus (exact al;done));rintro e T ⟨rfl,j⟩;have v:Below w.heap.size w T:=Below.trans (by exact al) (j.mono (by simp));have g0:=am j (JF _ w.heap.size 0 _ _ _ (JE w (.cells #[.slice (some ⟨b,o,none⟩) n y,.slice (some ⟨A,B,none⟩) m cp,KL q] 214)));have g1:=am j (JF _ w.heap.size 1 _ _ _ (JE w (.cells #[.slice (some ⟨b,o,none⟩) n y,.slice (some ⟨A,B,none⟩) m cp,KL q] 214)));have g3:=(v.cell (p:=⟨A,B+(M+r),none⟩) D).trans H;have L:=aa v;clear j v))
 go_wp2_with fail
 go_ret
 exact ⟨rfl,L.out⟩
def pU (sz ps:List Int) (q:Int) (k r:Nat) (v:List Int):Nat→Int
 | 0=>nth ps (cW sz k+r)
 | c+1=>wrap64 (pU sz ps q k r v c+eL (nth ps (aZ sz k+r*szN sz k+c)) (nth v c) q)
theorem DG (I C:Option Addr) (sz ps:List Int) (H cp k r:Nat) (q:Int) (V:Option Addr) (v:List Int) (cv:Nat) (w:World) (h:nY w I C sz ps H) (hk:k+1<sz.length) (hr:r<szN sz (k+1)) (hV:Rd w V (aq .i64 v)) (hv:v.length=szN sz k) (wv:W64 v):
  Calls Tryz.prog 184 #[.agg #[.slice I sz.length H,.slice C ps.length cp,KL q],KL k,KL r,.slice V v.length cv] w fun e u=>e=.returned (KL (pU sz ps q k r v v.length))∧Below w.heap.size w u:=by
 have D:=fun u (hb:Below w.heap.size w u)=>Bo I C sz ps H cp k r q u (h.below hb) hk hr
 have y:=fun c (hc:c<szN sz k) u (hb:Below w.heap.size w u)=>pK I C sz ps H cp k r c q u (h.below hb) hk hr hc
 have a0:v.length≤1048576:=by rw [hv];exact (h.hg.1.at (k:=k) (by omega)).2.1
 obtain ⟨n,hn⟩:∃n,sz.length=n:=⟨_,rfl⟩
 obtain ⟨m,hm⟩:∃m,ps.length=m:=⟨_,rfl⟩
 obtain ⟨x,hx⟩:∃x,v.length=x:=⟨_,rfl⟩
 rw [hn,hm] at D y ⊢
 rw [hx] at a0 ⊢
 obtain ⟨a7,a2,HV,Hv,Hx,WV,WP⟩:=aj D y hV hv hx wv h.wp;clear D y hV hv hx wv h hn hm hr hk
 go_enter Tryz.func184,Tryz.ntmps184
 go_wp2_with fail
 refine (a7.out _ ?_).mono ?_
 ·exact al
 rintro e w1 ⟨rfl,J⟩
 have j:=(J.block w.heap.size (by simp)).trans (JE w (.cells #[.slice I n H,.slice C m cp,KL q] 214))
 have N:Below w.heap.size w w1:=((JG _ w).alloc (JD _) _).trans (J.mono (by simp))
 obtain ⟨B,a5⟩:=ae j N;clear J j N
 go_wp2_with fail
 go_loopw [9,10] (fun s i wr=>∃c:Nat,c≤x∧i=KL c∧s=KL (pU sz ps q k r v c)∧wr.heap[w.heap.size]?=some (.cells #[.slice I n H,.slice C m cp,KL q] 214 (0,0))∧Below w.heap.size w wr) (fun _ i _=>x-(intOf i).toNat)
 case atStart=>exact ⟨0,JH _,rfl,rfl,B.out,a5.out⟩
 case round=>
  obtain ⟨c,hc,rfl,rfl,j,L⟩:=hrel
  by_cases Z:c<x
  ·obtain ⟨X,ov,rfl,pv⟩:=HV.out.num (show c<v.length by rw [Hx.out];exact Z)
   have a1:X<w.heap.size:=ar pv
   have a4:=(L.cell (p:=⟨X,ov+c,none⟩) a1).trans pv
   obtain ⟨⟨x0,x1,x2⟩,xf⟩:=bx3 j
   have O:=JC j
   have a8:X<wr.heap.size:=by have:=L.size;omega
   have y:=a2.out c (by have:=Hv.out;have:=Hx.out;omega)
   have Q:=fun u=>qI (nth ps (aZ sz k+r*szN sz k+c)) (nth v c) q u (WP.out.nth _) (WV.out.nth _)
   obtain ⟨a6,Y,R,B⟩:=ag y Q L j;clear y Q L j pv
   have ab:(c:Int)<x:=by omega
   go_wp2_with fail
   go_region_held3 (fun u=>u.cell? ⟨w.heap.size,0,none⟩=some (.slice I n H)∧u.cell? ⟨w.heap.size,1,none⟩=some (.slice C m cp)∧u.cell? ⟨w.heap.size,2,none⟩=some (KL q)∧u.cell? ⟨X,ov+c,none⟩=some (KL (nth v c))) (simp [go_sem, *])
    ((first | (go_at_call 186;refine (a6.out wr.drew R.out.drew).mono ?_;rintro e w3 ⟨rfl,o⟩;have g0:=am o x0;have g1:=am o x1;have g2:=am o x2;have g3:=am o a4;have A:=(o.block w.heap.size O).trans B.out;have U:=R.out.trans (((JG wr.heap.size wr).drew.trans o).mono R.out.size);obtain ⟨T,a3⟩:=ae A U;clear o A U) | (go_at_call 128;refine (Y.out _).mono ?_;rintro e w4 ⟨rfl,rfl⟩)))
   go_wp2_with fail
   go_roundw
   case rel=>exact ⟨c+1,by omega,by go_num,by rw [IntKind.wrap_i64,pU,wrap64],T.out,a3.out⟩
   case measure=>simp [intOf];omega
  ·obtain rfl:c=x:=by omega
   have R:=aa L;clear L j
   go_wp2_with fail
   go_ret
   exact ⟨rfl,R.out⟩
theorem GV:dq Tryz.prog 289 64 (KN) 1 24:=⟨Tryz.underlying289,info_parts (by kernel_rfl),rfl,by decide⟩
theorem xr (P base:Nat) (A B:Option Addr) (n c m d:Nat) (xs:List Value) (w:World) (hP:w.heap[P]?=some (.cells #[.slice A n c] 289 (0,0))) (L:w.ownsRow base 64 1 (.slice A n c) n xs) (hn:n≤1000000) (p:base≤w.heap.size) (X:base≤P):
  Calls Tryz.prog 214 #[.slice B m d,.pointer (some ⟨P,0,none⟩)] w fun e D=>(∃v,e=.returned v)∧∃J q,D.heap[P]?=some (.cells #[.slice J (n+1) q] 289 (0,0))∧D.ownsRow base 64 1 (.slice J (n+1) q) (n+1) (xs++[.slice B m d])∧
   Keep (fun i=>i=P∨(Value.slice A n c).ownBlock=some i) w D:=by
 obtain ⟨p0,pf⟩:=bx1 hP
 have H:=JC hP
 obtain ⟨O,N⟩:=ae hP L;clear hP L
 go_enter Tryz.func214,Tryz.ntmps214
 go_wp2_with (at_builtin;refine aQ GV w rfl (.tmp 3) (.tmp 5) rfl base (.slice A n c) n xs rfl N.out [.slice B m d] rfl rfl (by simp [Value.oneCell']) (by omega) (by unfold maxLen;omega) p ?_)
 intro g q C u I j
 have o:=(j.block P H (an O.out (by decide) N.out)).trans O.out
 have j:Keep (fun i=>i=P∨(Value.slice A n c).ownBlock=some i) w C:=(Keep.refl _ w).grown j (fun k T=>.inr (.inr T))
 obtain ⟨q0,qf⟩:=bx1 o
 obtain ⟨x,y,U⟩:=af o u j;clear o u I j
 go_wp2_with fail
 have Y:=KG C P 0 _ _ (.slice (some ⟨g,0,none⟩) (n+1) q) x.out
 have R:Keep (fun i=>i=P) C (C.setCell ⟨P,0,none⟩ (.slice (some ⟨g,0,none⟩) (n+1) q)):=Keep.setCell (S:=fun i=>i=P) (Keep.refl _ _) ⟨P,0,none⟩ (.inr rfl) _
 have Z:=R.own y.out (fun i V e=>an x.out (by decide) y.out (by rw [V,e]))
 have Q:=U.out.setCell ⟨P,0,none⟩ (.inr (.inl rfl)) (.slice (some ⟨g,0,none⟩) (n+1) q)
 go_end0
 exact ⟨⟨_,rfl⟩,_,_,Y,Z,Q⟩
theorem sM (w:World) (e:TypeId) (v:Value) (base:Nat) (i:base≤w.heap.size):(w.alloc (.cells #[v] e)).ownsRow base e 1 (.slice (some ⟨w.heap.size,0,none⟩) 1 1) 1 [v]:=
 ⟨by simp,.inr ⟨w.heap.size,1,#[v],rfl,i,JE w _,JD _,by unfold maxLen;omega,by simp,by simp⟩⟩
def IV (sz ps:List Int) (q:Int) (x:List Int) (P n₀:Nat) (k:Nat) (p w:World):Prop:=
 ∃A c vals,w.heap[P]?=some (.cells #[.slice A (k+1) c] 289 (0,0))∧w.ownsRow n₀ 64 1 (.slice A (k+1) c) (k+1) vals∧
  (∀j,j≤k→∃o i,vals[j]?=some (.slice o (szN sz j) i)∧w.ownsRow n₀ 2 1 (.slice o (szN sz j) i) (szN sz j) (aq .i64 (cT sz ps q x j)))∧Below n₀ p w
theorem Dc (b:Nat) (sz ps:List Int) (q:Int) (A:Option Addr) (x:List Int) (c:Nat) (w:World) (h:kT 186 280 w b sz ps q) (hg:dy sz) (wp:W64 ps) (hA:Rd w A (aq .i64 x)) (hx:x.length=szN sz 0) (wx:W64 x):
  Calls Tryz.prog 196 #[.pointer (some ⟨b,0,none⟩),.slice A x.length c] w fun e N=>∃A' c' vals,e=.returned (.tuple #[.slice A' sz.length c',.bool true])∧Rd N A' vals∧iz N vals sz.length (cT sz ps q x)∧sz.length≤c'∧Below w.heap.size w N:=by
 have c9:=h.lt
 obtain ⟨S,Ap,cp,Al,cl,U,h0,h1,h2,h3,h4,h5,h6⟩:=h
 obtain ⟨⟨r0,r1,r2,r3⟩,rf⟩:=bx4 h0
 have z0:=hg.1.at (k:=0) (by have:=hg.1.1.1;omega)
 have hs:=pI S sz w h1 (by have:=hg.1.1.2;omega)
 have y:=fun N (k:Below w.heap.size w N)=>dY A x c N (hA.below k) (by omega)
 obtain ⟨n,hn⟩:∃n,sz.length-1=n:=⟨_,rfl⟩
 have aR:sz.length=n+1:=by have:=hg.1.1.1;omega
 have ew:1≤n∧n≤15:=by have:=hg.1.1;omega
 obtain ⟨m,hm⟩:∃m,szN sz 0=m:=⟨_,rfl⟩
 rw [hn] at r3 h4 h6
 rw [hx,hm] at y ⊢
 have b2:0<sz.length:=by omega
 have b8:((m:Int) != (m:Int))=false:=by simp
 have eS:m≤1048576:=by rw [←hm];exact z0.2.1
 rw [hm] at z0
 obtain ⟨Hs,Z0,e7,HG,Hn,aM,Hm,H0⟩:=ak hs z0.2.2 y hg hn aR hm h0;obtain ⟨H3,H4,H5,H6,WP,WX,Hx,HA⟩:=ak h3 h4 h5 h6 wp wx hx hA;clear hs y h0 h1 h2 h3 h4 h5 h6 hg z0 hm hn aR wp wx hx hA
 go_enter Tryz.func196,Tryz.ntmps196
 go_wp2_with fail
 refine Hs.out.mono ?_
 rintro e w1 ⟨A1,c1,rfl,ho,hb⟩
 obtain ⟨g,c',hv,_,_⟩:=ho.form b2
 simp only [Ku] at hv
 obtain ⟨rfl,_,rfl⟩:=hv
 have p0:=cq ho b2
 rw [Z0.out] at p0
 have Hb:=aa hb;clear hb ho r0 r1 r2 r3 rf
 go_wp2_with fail
 refine (e7.out _ Hb.out).mono ?_
 rintro e w2 ⟨A2,c2,rfl,ev,c6,bX⟩
 have ao:=Hb.out.trans (bX.mono Hb.out.size)
 have ab:=(ao.block b c9).trans H0.out
 obtain ⟨⟨r0,r1,r2,r3⟩,rf⟩:=bx4 ab
 have ee:=JC ab
 have d6:=Hx.out
 rw [Hm.out] at d6
 have b0:=Hb.out.size
 obtain ⟨d4,a8,en⟩:=af (ax c6 b0) ao ab;clear c6 bX ao ab b0
 rw [Hn.out] at r3
 go_wp2_with fail
 go_loopw [37] (fun i wr=>∃k:Nat,k≤n∧i=KL k∧IV sz ps q x (w2.heap.size+1) w.heap.size k w wr) (fun i _=>n-(intOf i).toNat)
 case atStart=>
  refine ⟨0,JH _,rfl,some ⟨w2.heap.size,0,none⟩,1,[.slice A2 m c2],?_,?_,?_,?_⟩
  ·have:=JE (w2.alloc (.cells #[.slice A2 m c2] 64)) (.cells #[.slice (some ⟨w2.heap.size,0,none⟩) 1 1] 289)
   simpa using this
  ·exact (sM w2 64 (.slice A2 m c2) w.heap.size a8.out.size).alloc _
  ·intro j hj
   obtain rfl:j=0:=by omega
   refine ⟨A2,c2,by rw [Hm.out];rfl,?_⟩
   rw [Hm.out]
   exact (d4.out.alloc _).alloc _
  ·have ao:=a8.out
   have ez:=a8.out.size
   exact al
 case round=>
  obtain ⟨k,hk,rfl,Ao,co,vals,hP,ho,hv,hW⟩:=hrel
  have d3:k<sz.length:=by have:=aM.out;omega
  have aP:=(hW.block b c9).trans H0.out
  obtain ⟨⟨r0,r1,r2,r3⟩,rf⟩:=bx4 aP
  obtain ⟨p0,pf⟩:=bx1 hP
  obtain ⟨go,ei,cr,eU,_⟩:=ho.form (by omega)
  simp only [Ku] at cr
  obtain ⟨rfl,da,rfl⟩:=cr
  clear da
  have dc:=JC hP
  have es:b<wr.heap.size:=JC aP
  have hz:=hW.size
  obtain ⟨HP,Ho,Hv,HW,eG⟩:=ah hP ho hv hW aP;clear hP ho hv hW aP
  rw [Hn.out] at r3
  by_cases J:k<n
  ·have hR:=HG.out.1
   have cx:k+1<sz.length:=by have:=aM.out;omega
   have z0:=hR.at d3
   have z1:=hR.at cx
   have cs:=HG.out.mul cx
   obtain ⟨gl,ol,dl,Bl,el,hcs,hd,cb,d0⟩:=H6.out k J
   have dr:(bq U k).length=4:=H5.out _ (by rw [oE (by rw [H4.out];exact J)];exact List.getElem_mem _)
   have y:∀t,t<4→(List.flatten U)[k*4+t]?=(bq U k)[t]?:=fun t ht=>lD H5.out k t (by rw [H4.out];exact J) ht
   have e0:=y 0 (by omega);have Q:=y 1 (by omega);have e2:=y 2 (by omega);have e3:=y 3 (by omega)
   rw [hcs] at e0 Q e2 e3
   simp only [Nat.add_zero,Kb,Ka] at e0 Q e2 e3
   obtain ⟨bl,oo,dn,q0⟩:=H3.out _ _ e0
   obtain ⟨_,_,X,q1⟩:=H3.out _ _ Q
   obtain ⟨_,_,R,q2⟩:=H3.out _ _ e2
   obtain ⟨_,_,Y,q3⟩:=H3.out _ _ e3
   subst dn
   injection X with X;injection X with i1 i2 _;subst i1;subst i2
   injection R with R;injection R with i1 i2 _;subst i1;subst i2
   injection Y with Y;injection Y with i1 i2 _;subst i1;subst i2
   have a7:bl<w.heap.size:=ar q0
   have bG:=(HW.out.cell (p:=⟨bl,oo+k*4,none⟩) a7).trans q0
   have bb:=(HW.out.cell (p:=⟨bl,oo+(k*4+1),none⟩) a7).trans q1
   have bo:=(HW.out.cell (p:=⟨bl,oo+(k*4+2),none⟩) a7).trans q2
   have bh:=(HW.out.cell (p:=⟨bl,oo+(k*4+3),none⟩) a7).trans q3
   rw [←Ky] at bb bo bh
   obtain ⟨Aj,cj,cv,bO⟩:=Hv.out k (JD _)
   have pj:=(Rd.own Ho.out) k _ cv
   obtain ⟨_,_,ej,pj⟩:=pj
   injection ej with ej;injection ej with i1 i2 _;subst i1;subst i2
   rw [Kz] at pj
   have wv:=nl (sz:=sz) (ps:=ps) (q:=q) WX.out k
   have a6:=eC (sz:=sz) (ps:=ps) (q:=q) Hx.out k
   have a0:=fun W (h:Below wr.heap.size wr W)=>Er (szN sz (k+1)) (szN sz k) gl ol (szN sz (k+1)*szN sz k) dl (wL sz ps k) Aj (cT sz ps q x k) cj q W ⟨z1.1,z1.2.1⟩ ⟨z0.1,z0.2.1⟩ rfl hd (by omega) (xn _ _ _) ((cb.below HW.out).below h) (C8 WP.out sz k) ((Rd.own bO).below h) a6 wv
   obtain ⟨r,hr⟩:∃r,szN sz (k+1)=r:=⟨_,rfl⟩
   obtain ⟨c0,av⟩:∃c0,szN sz k=c0:=⟨_,rfl⟩
   obtain ⟨nn,bs⟩:∃nn,szN sz (k+1)*szN sz k=nn:=⟨_,rfl⟩
   rw [bs] at a0 bo cs hd
   rw [hr] at a0 bG bh z1
   rw [av] at a0 bb z0
   have bi:=pj
   rw [av] at bi
   have b5:=d0.below HW.out
   obtain ⟨dp,Hr,e5,ef,cO,eo⟩:=ai a0 hr av bs b5 a6;clear a0 hr av bs d0 b5 cb hd q0 q1 q2 q3 e0 Q e2 e3 y dr hcs pj a6 cv bO
   go_wp2_with fail
   obtain ⟨V,hV⟩:∃V,V=wr.alloc (.cells #[KL r,KL c0,.slice (some ⟨gl,ol,none⟩) nn dl,.slice Bl r el] 286):=⟨_,rfl⟩
   have b9:V.heap[wr.heap.size]?=some (.cells #[KL r,KL c0,.slice (some ⟨gl,ol,none⟩) nn dl,.slice Bl r el] 286 (0,0)):=by rw [hV];exact JE wr _
   have O:Below wr.heap.size wr V:=by rw [hV];exact (JG _ _).alloc (JD _) _
   rw [←hV]
   clear hV
   have v2:=am O r2
   have v3:=am O r3
   have vp:=am O p0
   have vj:=am O bi
   obtain ⟨⟨y0,y1,y2,y3⟩,yf⟩:=bx4 b9
   have bA:b<V.heap.size:=ar v2
   have dT:w2.heap.size+1<V.heap.size:=ar vp
   have eM:wr.heap.size<V.heap.size:=ar y0
   have eu:go<V.heap.size:=ar vj
   obtain ⟨k1,a3⟩:∃k1,k+1=k1:=⟨_,rfl⟩
   have ek:k<k1:=by omega
   rw [a3] at vp
   have eB:=aa a3;clear a3;obtain ⟨D,ey⟩:=ae O b9;clear O b9 r0 r1 r2 r3 rf p0 pf bi bG bb bo bh
   go_region_held3 (fun N=>N.cell? ⟨wr.heap.size,0,none⟩=some (KL r)∧N.cell? ⟨wr.heap.size,1,none⟩=some (KL c0)∧N.cell? ⟨wr.heap.size,2,none⟩=some (.slice (some ⟨gl,ol,none⟩) nn dl)∧N.cell? ⟨w2.heap.size+1,0,none⟩=some (.slice (some ⟨go,0,none⟩) k1 co)∧N.cell? ⟨go,k,none⟩=some (.slice Aj c0 cj)∧N.cell? ⟨b,2,none⟩=some (KL q)) (simp [go_sem, *])
    ((go_at_call 215;refine (dp.out V.drew D.out.drew).mono ?_;rintro e w5 ⟨A5,c5,rfl,bw,v⟩;have g0:=am v y0;have g1:=am v y1;have g2:=am v y2;have g3:=am v y3;have g4:=am v vp;have g5:=am v vj;have g6:=am v v2;have g7:=am v v3;obtain ⟨aG,ad⟩:=ae bw v;clear bw v))
   go_wp2_with fail
   have b7:Below wr.heap.size wr w5:=(D.out.drew).trans (ad.out.mono (by have:=D.out.size;simp;omega))
   have b8:∀a b',A5=some a→Bl=some b'→a.block≠b'.block:=fun a b' ha dv=>by
    obtain ⟨b1,o1,Q,ea⟩:=cO.out.num (k:=0) (by rw [FF,Hr.out];omega)
    rw [dv] at Q
    injection Q with Q
    subst Q
    have l1:b1<wr.heap.size:=ar ea
    have l2:=(aG.out.lt a.block (by rw [ha];rfl)).1
    have l3:=D.out.size
    simp at l2 ⊢
    omega
   refine (uF _ A5 Bl _ (bL sz ps k) r c5 el w5 aG.out (cO.out.below b7) (by rw [FF,Hr.out]) (by omega) b8).mono ?_
   rintro e w6 ⟨rfl,a1,bV⟩
   have bI:eI (BQ (wL sz ps k) r c0 (cT sz ps q x k) q) (bL sz ps k)=zL sz ps q k (cT sz ps q x k):=by unfold zL;rw [Hr.out,e5.out]
   rw [bI] at a1
   have a1:=ax (base':=V.heap.size) a1 (by simp)
   have a5:∀i,(Value.slice A5 r c5).ownBlock=some i→V.heap.size≤i:=fun i hi=>by have:=(aG.out.lt i hi).1;simpa using this
   have a4:Below V.heap.size V w6:=((JG _ V).drew.trans (ad.out.mono (by simp))).trans (bV.toBelow (by have:=ad.out.size;simpa using this) a5)
   have u2:=(a4.cell (p:=⟨b,2,none⟩) bA).trans v2
   have u3:=(a4.cell (p:=⟨b,3,none⟩) bA).trans v3
   have up:=(a4.cell (p:=⟨w2.heap.size+1,0,none⟩) dT).trans vp
   obtain ⟨cd,c7,eb⟩:=af a1 a4 a5
   have cy:IntKind.i64.wrap ((k:Int)+1)=(k:Int)+1:=JI _ (by omega)
   have em:=aa cy;clear cy a1 a4 bV bI a5 b8 aG ad b7 g0 g1 g2 g3 g4 g5 g6 g7 v2 v3 vp vj y0 y1 y2 y3 yf
   go_upto_if 67 with (fail)
   go_cut [] (fun wx=>Below V.heap.size V wx∧wx.ownsRow V.heap.size 2 1 (.slice A5 r c5) r (aq .i64 (cT sz ps q x (k+1))))
   case first=>
    by_cases bn:k+1<n
    ·have C:cT sz ps q x (k+1)=sE (zL sz ps q k (cT sz ps q x k)):=by
      have:=Hn.out
      show (if k+1<sz.length-1 then _ else _)=_
      rw [if_pos (by omega)]
     have T:=tH sz ps q k (cT sz ps q x k)
     rw [Hr.out] at T
     obtain ⟨z,hz⟩:∃z,zL sz ps q k (cT sz ps q x k)=z:=⟨_,rfl⟩
     rw [hz] at T C
     have L:=cd.out
     rw [hz] at L
     have b4:=iR z (fun i=>max (nth z i) 0)
     unfold sE at C
     rw [←b4,T] at C
     obtain ⟨d2,bf,be⟩:=af T L C;clear b4 T hz C L u2 u3 up
     go_wp2_with fail
     have b3:decide ((k:Int)+1<n)=true:=KA (by omega)
     rw [b3]
     clear bn b3
     go_loopw [70] (fun i wx=>∃j:Nat,j≤r∧i=KL j∧wx.ownsRow V.heap.size 2 1 (.slice A5 r c5) r (aq .i64 (jC z j (fun i=>max (nth z i) 0)))∧Below V.heap.size V wx) (fun i _=>r-(intOf i).toNat)
     case atStart=>exact ⟨0,JH _,rfl,by rw [gP];exact bf.out,c7.out⟩
     case round=>
      obtain ⟨j,hj,rfl,o,B⟩:=hrel
      by_cases J:j<r
      ·obtain ⟨g7,d7,ct,dG,_⟩:=o.form (by omega)
       simp only [Ku] at ct
       obtain ⟨rfl,e6,rfl⟩:=ct
       clear e6
       have bd:j<z.length:=by rw [d2.out];exact J
       have p1:=cq o J
       rw [fN _ bd,if_neg (by omega)] at p1
       have f1:=o.frozenAt j
       have bN:=iQ (l:=z) (k:=j) (fun i=>max (nth z i) 0) bd
       obtain ⟨HO,HB,d5⟩:=af o B bN;clear o B bN bd
       go_wp2_with fail
       refine (DS _ _).mono ?_
       rintro e w9 ⟨rfl,rfl⟩
       go_wp2_with fail
       go_roundw
       case rel=>exact ⟨j+1,by omega,by go_num,by rw [←d5.out];exact dA HO.out j _,HB.out.setCell (p:=⟨g7,j,none⟩) dG _⟩
       case measure=>simp [intOf];omega
      ·obtain rfl:j=r:=by omega
       obtain ⟨HO,HB⟩:=ae o B;clear o B
       go_wp2_with fail
       go_meet
       exact ⟨HB.out,by rw [be.out];exact HO.out⟩
    ·have C:cT sz ps q x (k+1)=zL sz ps q k (cT sz ps q x k):=by
      have:=Hn.out
      show (if k+1<sz.length-1 then _ else _)=_
      rw [if_neg (by omega)]
     have be:=aa C;clear C
     go_wp2_with fail
     go_meet
     exact ⟨c7.out,by rw [be.out];exact cd.out⟩
   case rest=>
    obtain ⟨B,L⟩:=hcut
    have I:Below wr.heap.size wr wc:=D.out.trans (B.mono D.out.size)
    have cc:=(I.block _ dc).trans HP.out
    have b6:=ap Ho.out I
    obtain ⟨eq,bf,bv,H,a2⟩:=ah B L cc b6 I;clear B L cc b6 I u2 u3 up
    have bU:w.heap.size≤wc.heap.size:=by have:=a2.out.size;omega
    have cw:w.heap.size≤w2.heap.size+1:=by have:=a8.out.size;omega
    have bz:=xr (w2.heap.size+1) w.heap.size (some ⟨go,0,none⟩) A5 (k+1) co r c5 vals wc bv.out H.out (by omega) bU cw
    have e4:=aa bz;clear bz
    go_wp2_with fail
    refine e4.out.mono ?_
    rintro e w8 ⟨⟨v8,rfl⟩,A8,c8,e8,d8,cf⟩
    have d1:Below w.heap.size w w8:=(HW.out.trans (a2.out.mono HW.out.size)).trans (cf.toBelow bU (fun i hi=>by
     rcases hi with rfl | hi
     ·exact cw
     ·exact (H.out.lt i hi).1))
    have Z:∀{m:Nat} {u:Value} {ys:List Value},wc.ownsRow w.heap.size 2 1 u m ys→w8.ownsRow w.heap.size 2 1 u m ys:=fun h=>cf.own h (fun i hi e=>by
     rcases e with rfl | e
     ·exact an bv.out (by decide) h hi.symm
     ·exact iO H.out h (by decide) i e hi)
    have ec:=H.out.1
    go_wp2_with fail
    go_roundw
    case rel=>
     refine ⟨k+1,by omega,by go_num,A8,c8,vals++[.slice A5 r c5],e8,d8,fun j hj=>?_,d1⟩
     rcases JR j (k+1) with dk | dk
     ·obtain ⟨Aj,cj,h1,h2⟩:=Hv.out j (by omega)
      exact ⟨Aj,cj,by rw [Ki (by omega)];exact h1,Z (ap h2 a2.out)⟩
     ·obtain rfl:j=k+1:=by omega
      refine ⟨A5,c5,?_,?_⟩
      ·rw [Kj (by omega),Hr.out]
       simp [show vals.length=k+1 by omega]
      ·rw [Hr.out]
       exact Z (ax bf.out (by have:=D.out.size;omega))
    case measure=>simp [intOf];omega
  ·obtain rfl:k=n:=by omega
   have aR:=aM.out
   have ci:iz wr vals sz.length (cT sz ps q x):=by
    refine ⟨?_,fun j hj=>?_⟩
    ·have:=Ho.out.1;omega
    ·obtain ⟨Aj,cj,h1,h2⟩:=Hv.out j (by omega)
     have a6:=eC (sz:=sz) (ps:=ps) (q:=q) Hx.out j
     obtain ⟨A',c',e,hc⟩:=aw h2
     injection e with Q e2 e3
     subst Q;subst e3
     rw [a6]
     exact ⟨_,_,h1,hc,Rd.own h2⟩
   have cA:sz.length≤co:=by
    obtain ⟨A',c',e,hc⟩:=aw Ho.out
    injection e with Q e2 e3
    omega
   have bM:=Rd.own Ho.out
   obtain ⟨d9,ds,e9⟩:=af bM ci cA;clear bM ci cA;clear aR
   go_wp2_with fail
   go_ret2
   exact ⟨some ⟨go,0,none⟩,co,vals,(by rw [aM.out];rfl),d9.out,ds.out,e9.out,HW.out⟩
def mx (a y:List Int):List Int:=dh a.length fun i=>wrap64 (nth a i-nth y i)
theorem Ca (a y:List Int):(mx a y).length=a.length:=bR _ _
theorem Cb (a y:List Int):W64 (mx a y):=fE fun _ _=>gH _
theorem Gy (b:Nat) (sz ps:List Int) (q:Int) (A B:Option Addr) (x y:List Int) (c d:Nat) (w:World) (h:kT 186 280 w b sz ps q) (hg:dy sz) (wp:W64 ps) (hA:Rd w A (aq .i64 x)) (hx:x.length=szN sz 0) (wx:W64 x) (hB:Rd w B (aq .i64 y)) (hy:y.length=szN sz (sz.length-1)):
  Calls Tryz.prog 177 #[.pointer (some ⟨b,0,none⟩),.slice A x.length c,.slice B y.length d] w fun e C=>∃A' c' D dc vals,e=.returned (.tuple #[.slice A' sz.length c',.slice D y.length dc,.bool true])∧Rd C A' vals∧iz C vals sz.length (cT sz ps q x)∧sz.length≤c'∧
   C.ownsRow w.heap.size 2 1 (.slice D y.length dc) y.length (aq .i64 (mx (cT sz ps q x (sz.length-1)) y))∧Below w.heap.size w C:=by
 have ht:=Dc b sz ps q A x c w h hg wp hA hx wx
 have hv:=eC (sz:=sz) (ps:=ps) (q:=q) hx (sz.length-1)
 have hl:=hg.1.1
 have a6:=(hg.1.at (k:=sz.length-1) (by omega)).2.1
 have H:((y.length:Int) != (szN sz (sz.length-1):Int))=false:=by simp;omega
 obtain ⟨n,hn⟩:∃n,sz.length=n:=⟨_,rfl⟩
 obtain ⟨m,hm⟩:∃m,y.length=m:=⟨_,rfl⟩
 rw [hn] at ht hl hv H hy a6 ⊢
 rw [←hy,hm] at hv H a6
 rw [hm]
 obtain ⟨a,ha⟩:∃a,cT sz ps q x (n-1)=a:=⟨_,rfl⟩
 have J:=iR a (fun i=>wrap64 (nth a i-nth y i))
 rw [ha] at hv ⊢
 unfold mx
 rw [←J,hv]
 clear J
 have Ha:=aa ha;clear ha;obtain ⟨Ht,Hv,HB,Hm⟩:=ag ht hv hB hm;clear ht h hg wp hA hx wx hn hv hm hB hy
 obtain ⟨b2,b5⟩:=hl
 go_enter Tryz.func177,Tryz.ntmps177
 go_wp2_with fail
 refine Ht.out.mono ?_
 rintro e w1 ⟨A',c',vals,rfl,hr,U,hc,hb⟩
 obtain ⟨Aj,cj,e1,e2,e3⟩:=U.2 (n-1) (by omega)
 rw [Ha.out,Hv.out] at e1 e2
 rw [Ha.out] at e3
 have a7:=hr
 obtain ⟨bo,oo,rfl,p0⟩:=hr _ _ e1
 have Y:(n:Int)-1=((n-1:Nat):Int):=by omega
 have hw:IntKind.i64.wrap ((n:Int)-1)=((n-1:Nat):Int):=by rw [JI _ (by omega)];omega
 have hi:((n-1:Nat):Int)<n:=by omega
 have ad:n-1<n:=by omega
 have hal:=Hv.out
 have V:=dY Aj a cj w1 e3 (by omega)
 rw [hal] at V
 obtain ⟨aP,b0,Hb,av,aR,Hc⟩:=ai V hal hb U a7 hc;clear hr a7 U e1 e2 e3 hb V hal hc
 rw [Y] at hw
 go_wp2_with fail
 refine aP.out.mono ?_
 rintro e w2 ⟨D,dc,rfl,b1,u,T⟩
 have a2:=Hb.out.trans (T.mono Hb.out.size)
 have ab:=Hb.out.size
 have a1:=aa u
 have u:=ax u ab
 obtain ⟨Z,X,a4⟩:=af a2 u T;clear a2 u T p0 hw Y hi ad H
 go_wp2_with fail
 go_loopw [42] (fun i wr=>∃k:Nat,k≤m∧i=KL k∧wr.ownsRow w.heap.size 2 1 (.slice D m dc) m (aq .i64 (jC a k (fun i=>wrap64 (nth a i-nth y i))))∧Keep (fun i=>(Value.slice D m dc).ownBlock=some i) w2 wr) (fun i _=>m-(intOf i).toNat)
 case atStart=>exact ⟨0,JH _,rfl,by rw [gP];exact X.out,Keep.refl _ _⟩
 case round=>
  obtain ⟨k,hk,rfl,j,N⟩:=hrel
  by_cases O:k<m
  ·obtain ⟨g7,d7,a5,b4,_⟩:=j.form (by omega)
   simp only [Ku] at a5
   obtain ⟨rfl,aM,rfl⟩:=a5
   clear aM
   have Q:k<a.length:=by rw [b0.out];exact O
   have p1:=cq j O
   rw [fN _ Q,if_neg (by omega)] at p1
   have f1:=j.frozenAt k
   have a0:=iQ (l:=a) (k:=k) (fun i=>wrap64 (nth a i-nth y i)) Q
   obtain ⟨v,oy,rfl,py⟩:=HB.out.num (show k<y.length by rw [Hm.out];exact O)
   have ao:v<w.heap.size:=ar py
   have H:g7≠v:=by omega
   have a3:Below w.heap.size w wr:=Z.out.trans (N.toBelow Z.out.size (fun i hi=>(X.out.lt i hi).1))
   have aG:=(a3.cell (p:=⟨v,oy+k,none⟩) ao).trans py
   obtain ⟨HO,HK,a8⟩:=af j N a0;clear j N a0 Q a3 py
   go_wp2_with fail
   have b3:(k:Int)<m:=by omega
   have I:(fun C:World=>C.cell? ⟨g7,k,none⟩=some (KL (nth a k))∧C.cell? ⟨v,oy+k,none⟩=some (KL (nth y k))) wr.drew:=⟨p1,aG⟩
   refine XA.g 11 (fun C:World=>C.cell? ⟨g7,k,none⟩=some (KL (nth a k))∧C.cell? ⟨v,oy+k,none⟩=some (KL (nth y k))) ?_
   refine XA.t ?_ [0,1,2,3,4,5,6,7,8,9] I ?_
   refine XA.o 10 (fun K N=>?_)
   go_simp
   refine (zv _ _ _).mono ?_
   rintro e w9 ⟨rfl,rfl⟩
   dsimp only
   refine N.out _ _ I (fun I=>?_)
   clear N K I
   refine XA.e ?_
   simp only [Kc,Ke]
   go_wp2_with fail
   go_roundw
   case rel=>
    refine ⟨k+1,by omega,by go_num,?_,?_⟩
    ·rw [←a8.out];exact dA (bC HO.out 1) k _
    ·exact Keep.setCell (HK.out.drewN 1) ⟨g7,k,none⟩ (.inr rfl) _
   case measure=>simp [intOf];omega
  ·obtain rfl:k=m:=by omega
   have L:Below w1.heap.size w1 wr:=a4.out.trans (N.toBelow a4.out.size (fun i hi=>(a1.out.lt i hi).1))
   obtain ⟨HO,R⟩:=ae j L;clear j L N
   go_wp2_with fail
   go_ret3
   exact ⟨_,_,_,_,vals,rfl,aR.out.below R.out,av.out.below R.out,Hc.out,HO.out,Hb.out.trans (R.out.mono Hb.out.size)⟩
end Go.Proofs.YtaccfnffmbndhaaGreat
namespace Go.Proofs.YtaccfnffmbndhaaGreat
open Go.RowKit Go.Shelf
attribute [local go_sem] Oper.semAt_some
theorem sN {W:World} {base:Nat} {e:TypeId} {size n c G:Nat} {xs:List Value} {o:Obj} (h:W.ownsRow base e size (.slice (some ⟨G,0,none⟩) n c) n xs) (p:W.heap[G]?=some o):o.isCells=true:=by
 rcases h.2 with ⟨q,_⟩ | ⟨g,cap,j,hv,_,i,_⟩
 ·cases q
 ·simp only [Ku,Option.some.injEq,Addr.mk.injEq] at hv
  rw [←hv.1.1,p] at i
  cases i;rfl
def mD (ms:List Int) (c:Nat) (ys:List Int) (q:Int) (i:List Int) (k:Nat):List Int:=eI i (oC (ll ms c k) (nth ys k) q)
def mC (ms:List Int) (r c:Nat) (ys:List Int) (q:Int):List Int:=(List.range r).foldl (mD ms c ys q) (List.replicate c 0)
theorem tB (ms:List Int) (c:Nat) (ys:List Int) (q:Int) (i:List Int) (k:Nat):(mD ms c ys q i k).length=i.length:=bR _ _
theorem FD (ms:List Int) (r c:Nat) (ys:List Int) (q:Int):((List.finRange r).foldl (fun i k=>mD ms c ys q i k.1) (List.replicate c 0))=mC ms r c ys q:=by
 unfold mC
 have h:List.range r=(List.finRange r).map (·.1):=List.ext_getElem (by simp) (by simp)
 rw [h,List.foldl_map]
theorem yD (r c k:Nat) (g o:Nat) (ms:List Int) (y q:Int) (W:World) (j:k<r) (hc:1≤c∧c≤1048576) (i:ms.length=r*c)
  (hA:Rd W (some ⟨g,o,none⟩) (aq .i64 ms)) (A:W64 ms) (x: -9223372036854775808≤y∧y≤9223372036854775807):
  Calls Tryz.prog 201 #[.slice (some ⟨g,o+k*c,none⟩) c c,KL y,KL q] W fun e p=>∃v u,e=.returned (.slice v c u)∧p.ownsRow W.heap.size 2 1 (.slice v c u) c (aq .i64 (oC (ll ms c k) y q))∧Below W.heap.size W p:=by
 have:=AQ (some ⟨g,o+k*c,none⟩) (ll ms c k) c y q W (zW hA j i) (by rw [ik];omega) (vS A j i) x
 rwa [ik] at this
def FR (r c:Nat) (g o p d:Nat) (ms:List Int) (B:Option Addr) (ys:List Int) (e:Nat) (q:Int) (w:World) (G N M:Nat) (i:List (Fin r)) (W:World):Prop:=
 (W.ownsRow w.heap.size 2 1 (.slice (some ⟨G,0,none⟩) c c) c (aq .i64 (i.foldl (fun j k=>mD ms c ys q j k.1) (List.replicate c 0)))∧Boxed W N 64 (.slice (some ⟨G,0,none⟩) c c)∧Boxed W (w.heap.size+1) 64 (.slice B r e)∧Boxed W (w.heap.size+1+1) 3 (KL q)∧W.heap[M]?=some (.cells #[KL r,KL c,.slice (some ⟨g,o,none⟩) p d] 282 (0,0)))∧Below w.heap.size w W
theorem CR (r c:Nat) (g o y d:Nat) (ms:List Int) (B:Option Addr) (ys:List Int) (e:Nat) (q:Int) (w:World) (G N M K:Nat) (u:w.heap.size≤K):OwnFrom K (FR r c g o y d ms B ys e q w G N M):=by
 intro s W C row hs hg hr
 obtain ⟨⟨h1,j,A,p,x⟩,i⟩:=hs
 have v:=ownFrom_below (β:=Unit) (JD _) u () W C row i hg hr
 exact ⟨⟨vA h1 hg hr,dK rfl j hg hr,dK rfl A hg hr,dK rfl p hg hr,dK rfl x hg hr⟩,v⟩
theorem Ch (r c:Nat) (g o L d:Nat) (ms:List Int) (B:Option Addr) (ys:List Int) (e:Nat) (q:Int) (w:World) (hr:1≤r∧r≤1048576) (hc:1≤c∧c≤1048576) (av:L=r*c) (hd:L≤d) (hm:L≤17592186043904)
  (bi:ms.length=L) (hA:Rd w (some ⟨g,o,none⟩) (aq .i64 ms)) (wm:W64 ms) (hB:Rd w B (aq .i64 ys)) (bn:ys.length=r) (wy:W64 ys):
  Calls Tryz.prog 179 #[.agg #[KL r,KL c,.slice (some ⟨g,o,none⟩) L d],.slice B r e,KL q] w fun e O=>∃A' c',e=.returned (.tuple #[.slice A' c c',.bool true])∧O.ownsRow w.heap.size 2 1 (.slice A' c c') c (aq .i64 (mC ms r c ys q))∧Below w.heap.size w O:=by
 have b0:=fun O=>lO r c (some ⟨g,o,none⟩) L d O hr hc av hm
 have be:=fun cs O=>qC cs O
 have bb:(8:Nat)*c≤281474976710656:=by omega
 have cf:=aa bb;clear bb;obtain ⟨bU,bV,aG,bw,bX,HA,HB,WM⟩:=ak b0 be av bi bn hA hB wm;have WY:=aa wy;clear b0 be av bi bn hA hB wm wy
 refine (callsIn_wide (n:=3)).1 ?_
 refine callsIn_of_wp_marks Tryz.func179 rfl trivial ?_ rfl
 simp only [Tryz.ntmps179,List.size_toArray,List.length_cons,List.length_nil,Nat.reduceAdd,Nat.reduceSub,Array.replicate_succ,Array.replicate_zero,List.push_toArray,List.append_toArray,List.nil_append,List.cons_append]
 gi_wp2_with fail
 refine ⟨trivial,?_⟩
 refine (callsIn_wide.2 (bU.out _)).mono ?_
 rintro e w1 ⟨rfl,rfl⟩
 gi_wp2_with (gi_at_make;refine uM kD _ rfl (.tmp 22) (.tmp 22) rfl rfl c rfl rfl cf.out (by unfold maxLen;omega) ?_)
 intro w2 u R
 rw [dS] at u
 have a6:Below w.heap.size w w2:=Below.trans (((((JG _ w).alloc (JD _) _).alloc (by simp) _).alloc (by simp;omega) _).alloc (by simp;omega) _) (R.mono (by omega))
 have h3:w2.heap[w.heap.size]?=some (.cells #[KL r,KL c,.slice (some ⟨g,o,none⟩) L d] 282 (0,0)):=by
  refine (R.block w.heap.size (by omega)).trans ?_
  refine (JP _ _ _ (by first | (simp;done) | (simp;omega))).trans ((JP _ _ _ (by first | (simp;done) | (simp;omega))).trans ((JP _ _ _ (by simp)).trans (JE w _)))
 have h4:Boxed w2 (w.heap.size+1) 64 (.slice B r e):=by
  refine (R.block (w.heap.size+1) (by omega)).trans ?_
  refine (JP _ _ _ (by first | (simp;done) | (simp;omega))).trans ((JP _ _ _ (by simp)).trans ?_)
  have:=JE (w.alloc (.cells #[KL r,KL c,.slice (some ⟨g,o,none⟩) L d] 282)) (.cells #[.slice B r e] 64)
  simpa using this
 have h5:Boxed w2 (w.heap.size+1+1) 3 (KL q):=by
  refine (R.block (w.heap.size+1+1) (by omega)).trans ?_
  refine (JP _ _ _ (by simp)).trans ?_
  have:=JE ((w.alloc (.cells #[KL r,KL c,.slice (some ⟨g,o,none⟩) L d] 282)).alloc (.cells #[.slice B r e] 64)) (.cells #[KL q] 3)
  simpa using this
 obtain ⟨G,hG⟩:∃G,w.heap.size+1+1+1+1=G:=⟨_,rfl⟩
 rw [hG] at u R ⊢
 obtain ⟨X,bo,HG,H3,H4,H5⟩:=ai u a6 hG h3 h4 h5
 obtain ⟨⟨m0,m1,m2⟩,mf⟩:=bx3 h3
 have bA:w.heap.size<w2.heap.size:=JC h3
 clear u R a6 hG h3 h4 h5
 gi_wp2_with fail
 refine ⟨trivial,?_⟩
 refine (callsIn_wide.2 (bV.out _ _)).mono ?_
 rintro e w1 ⟨rfl,rfl⟩
 gi_wp2_with fail
 obtain ⟨A,hW0⟩:∃A,A=w2.alloc (.cells #[.slice (some ⟨G,0,none⟩) c c] 64):=⟨_,rfl⟩
 rw [←hW0]
 have a4:A.heap.size=w2.heap.size+1:=by rw [hW0];simp
 have bO:Boxed A w2.heap.size 64 (.slice (some ⟨G,0,none⟩) c c):=by rw [hW0];exact Boxed.new w2 _ _
 have b4:Boxed A (w.heap.size+1) 64 (.slice B r e):=by rw [hW0];exact H4.out.alloc _
 have b5:Boxed A (w.heap.size+1+1) 3 (KL q):=by rw [hW0];exact H5.out.alloc _
 have r0:A.ownsRow w.heap.size 2 1 (.slice (some ⟨G,0,none⟩) c c) c (aq .i64 (List.replicate c 0)):=by rw [hW0];exact ax (X.out.alloc _) (by have:=HG.out;omega)
 have Y:Below w.heap.size w A:=by rw [hW0];exact bo.out.alloc (by omega) _
 have bM:(A.alloc (.cells #[KL r,KL c,.slice (some ⟨g,o,none⟩) L d] 282)).heap[A.heap.size]?=some (.cells #[KL r,KL c,.slice (some ⟨g,o,none⟩) L d] 282 (0,0)):=JE A _
 obtain ⟨N,hN⟩:∃N,N=w2.heap.size:=⟨_,rfl⟩
 rw [←hN] at bO a4 ⊢
 rw [←a4]
 obtain ⟨bz,J,bf,bI,bv,cb,cc,HN⟩:=ak a4 Y bM bO b4 b5 r0 hN;have cx:=aa hW0;clear a4 Y bM bO b4 b5 r0 hN hW0 m0 m1 m2 mf bA
 have c9:FR r c g o L d ms B ys e q w G N A.heap.size [] (A.alloc (.cells #[KL r,KL c,.slice (some ⟨g,o,none⟩) L d] 282)):=⟨⟨cc.out.alloc _,bI.out.alloc _,bv.out.alloc _,cb.out.alloc _,bf.out⟩,J.out.alloc (by have:=J.out.size;omega) _⟩
 refine' wpIn_rangeFunc_ownG (F:=Fence.wide) (n:=3) rfl (by omega) (gf:=217) (lb:=#[.pointer (some ⟨A.heap.size,0,none⟩)]) rfl trivial (enters_of Tryz.func217 (by kernel_rfl) rfl)
  (mN _ A.heap.size w.heap.size g o r c L d hr.2 hc aG.out hd _ bf.out) j9 (ka (by have:=J.out.size;simp;omega) (by simp)) (JG _ _) (fun _=>rfl)
  (FR r c g o L d ms B ys e q w G N A.heap.size)
  (fun _ _ _=>False)
  (CR r c g o L d ms B ys e q w G N A.heap.size _ (by have:=J.out.size;simp;omega))
  (fun _ _ _ _ _ hs _ _=>hs)
  c9
  _ ?assign ?body ?done ?stop
 case assign=>
  intro l x W K hK
  unfold oH
  gi_wp2
  exact hK
 case body=>
  rintro l c6 x W ⟨⟨I,U,a1,a2,ad⟩,a3⟩ b7
  have b8:=a1.cell
  have bl:=a2.cell
  have aP:=U.cell
  obtain ⟨Q,HO,HM,a5,H4,H5,cy⟩:=aj I U ad a3 a1 a2 b7;clear I ad a3 a1 a2 b7 U
  have cr:G<W.heap.size:=by
   obtain ⟨g6,d6,C,_,V⟩:=Q.out.form (by omega:0<c)
   simp only [Ku,Option.some.injEq,Addr.mk.injEq] at C
   rw [C.1.1];exact V
  gi_wp2_with fail
  have a0:x.1<ys.length:=by rw [bX.out];exact x.2
  have b1:=fun W' (k:Below W.heap.size W W')=>yD r c x.1 g o ms (nth ys x.1) q W' x.2 hc (bw.out.trans aG.out) ((HA.out.below a5.out).below k) WM.out (WY.out _ a0)
  have cv:(x.1:Int)<r:=by have:=x.2;omega
  obtain ⟨b2,o2,cd,p2⟩:=(HB.out.below a5.out).num a0
  subst cd
  have cl:G<N:=by
   obtain ⟨g6,d6,C,_,V⟩:=X.out.form (by omega:0<c)
   simp only [Ku,Option.some.injEq,Addr.mk.injEq] at C
   have:=HN.out
   have h7:G<w2.heap.size:=by rw [C.1.1];exact V
   omega
  have b6:¬G=N:=by omega
  have bh:¬G=w.heap.size+1:=by have:=HG.out;omega
  have bd:¬G=w.heap.size+1+1:=by have:=HG.out;omega
  have cj:¬G=b2:=by
   obtain ⟨b3,o3,e3,p3⟩:=HB.out.num a0
   have H:b3<w.heap.size:=ar p3
   simp only [Option.some.injEq,Addr.mk.injEq] at e3
   have:=HG.out
   omega
  have bG:=aa b1;clear b1 a0
  refine iZ (fun O=>O.cell? ⟨N,0,none⟩=some (.slice (some ⟨G,0,none⟩) c c)∧O.cell? ⟨w.heap.size+1,0,none⟩=some (.slice (some ⟨b2,o2,none⟩) r e)∧O.cell? ⟨w.heap.size+1+1,0,none⟩=some (KL q)∧O.cell? ⟨b2,o2+x.1,none⟩=some (KL (nth ys x.1))) (by kernel_rfl) (by kernel_rfl) (by rintro ⟨_,_,h⟩;exact h) ?_
  have p:(fun O:World=>O.cell? ⟨N,0,none⟩=some (.slice (some ⟨G,0,none⟩) c c)∧O.cell? ⟨w.heap.size+1,0,none⟩=some (.slice (some ⟨b2,o2,none⟩) r e)∧O.cell? ⟨w.heap.size+1+1,0,none⟩=some (KL q)∧O.cell? ⟨b2,o2+x.1,none⟩=some (KL (nth ys x.1))) W.drew:=⟨aP,b8,bl,p2⟩
  clear aP b8 bl p2
  refine wpAnyH_take (i:=0) (v:=?_) rfl (by kernel_rfl) (by kernel_rfl) (by kernel_rfl) (fun _ _ _ h=>h) (Or.inl ⟨by rfl,?_⟩) p ?_
  rotate_left
  ·intro w9 j;(try dsimp only at j);obtain ⟨s1,s2,s3,s4⟩:=j;go_simp;(try with_reducible rfl)
  simp only [JT,JU,JV,Act.put,JW,JX,J0]
  refine wpAnyH_take (i:=1) (v:=?_) rfl (by kernel_rfl) (by kernel_rfl) (by kernel_rfl) (fun _ _ _ h=>h) (Or.inl ⟨by rfl,?_⟩) p ?_
  rotate_left
  ·intro w9 j;(try dsimp only at j);obtain ⟨s1,s2,s3,s4⟩:=j;go_simp;(try with_reducible rfl)
  simp only [JT,JU,JV,Act.put,JW,JX,J0]
  refine wpAnyH_take (i:=2) (v:=?_) rfl (by kernel_rfl) (by kernel_rfl) (by kernel_rfl) (fun _ _ _ h=>h) (Or.inl ⟨by rfl,?_⟩) p ?_
  rotate_left
  ·intro w9 j;(try dsimp only at j);obtain ⟨s1,s2,s3,s4⟩:=j;go_simp;(try with_reducible rfl)
  simp only [JT,JU,JV,Act.put,JW,JX,J0]
  refine wpAnyH_take (i:=3) (v:=?_) rfl (by kernel_rfl) (by kernel_rfl) (by kernel_rfl) (fun _ _ _ h=>h) (Or.inl ⟨by rfl,?_⟩) p ?_
  rotate_left
  ·intro w9 j;(try dsimp only at j);obtain ⟨s1,s2,s3,s4⟩:=j;go_simp;(try with_reducible rfl)
  simp only [JT,JU,JV,Act.put,JW,JX,J0]
  refine wpAnyH_take (i:=4) (v:=?_) rfl (by kernel_rfl) (by kernel_rfl) (by kernel_rfl) (fun _ _ _ h=>h) (Or.inl ⟨by rfl,?_⟩) p ?_
  rotate_left
  ·intro w9 j;(try dsimp only at j);obtain ⟨s1,s2,s3,s4⟩:=j;go_simp;(try with_reducible rfl)
  simp only [JT,JU,JV,Act.put,JW,JX,J0]
  refine wpAnyH_take (i:=5) (v:=?_) rfl (by kernel_rfl) (by kernel_rfl) (by kernel_rfl) (fun _ _ _ h=>h) (Or.inl ⟨by rfl,?_⟩) p ?_
  rotate_left
  ·intro w9 j;(try dsimp only at j);obtain ⟨s1,s2,s3,s4⟩:=j;go_simp;(try with_reducible rfl)
  simp only [JT,JU,JV,Act.put,JW,JX,J0]
  refine wpAnyH_take (i:=6) (v:=?_) rfl (by kernel_rfl) (by kernel_rfl) (by kernel_rfl) (fun _ _ _ h=>h) (Or.inl ⟨by rfl,?_⟩) p ?_
  rotate_left
  ·intro w9 j;(try dsimp only at j);obtain ⟨s1,s2,s3,s4⟩:=j;go_simp;(try with_reducible rfl)
  simp only [JT,JU,JV,Act.put,JW,JX,J0]
  refine wpAnyH_ready (rs:=[7]) (by kernel_rfl) (by simp) ?_
  refine AllReadyH.cons rfl (fun K hK=>?_) AllReadyH.nil
  simp only [JT,JU,JV]
  go_simp
  refine (bG.out _ ?_).mono ?_
  ·exact (JG _ W).drew
  rintro e w3 ⟨A',c',rfl,y,H⟩
  dsimp only
  refine hK.out _ _ ?_ (fun j=>?_)
  ·exact ⟨am H p.1,am H p.2.1,am H p.2.2.1,am H p.2.2.2⟩
  clear hK K
  have ao:=ap (w:=W.drew) Q.out H
  have a8:∀a b,(some ⟨G,0,none⟩:Option Addr)=some a→A'=some b→a.block≠b.block:=fun a b ha hb=>by
   cases ha;subst hb
   have h1:=(y.form (by omega:0<c))
   obtain ⟨g5,d5,b9,ci,_⟩:=h1
   simp only [Ku,Option.some.injEq] at b9
   rw [b9.1]
   have h2:=Q.out.form (by omega:0<c)
   obtain ⟨g6,d6,C,_,V⟩:=h2
   simp only [Ku,Option.some.injEq,Addr.mk.injEq] at C
   have h7:G<W.heap.size:=by rw [C.1.1];exact V
   show G≠g5
   have h8:W.heap.size≤g5:=ci
   omega
  have a7:=uF w.heap.size (some ⟨G,0,none⟩) A' _ _ c c c' w3 ao (Rd.own y) (by unfold oC;rw [bR,ik]) (by omega) a8
  refine wpAnyH_ready (rs:=[8]) (by kernel_rfl) (by simp) ?_
  refine AllReadyH.cons rfl (fun K hK=>?_) AllReadyH.nil
  simp only [JT,JU,JV,Act.put,JW,JX,J0]
  obtain ⟨aR,ct,c7,bN⟩:=ag a7 ao y H;clear a7 ao y H a8
  go_simp
  refine aR.out.mono ?_
  rintro e w4 ⟨rfl,ab,Z⟩
  dsimp only
  refine hK.out _ _ ?_ (fun co=>?_)
  ·exact ⟨Z.cell j.1 (by simp [Value.ownBlock];exact b6),Z.cell j.2.1 (by simp [Value.ownBlock];exact bh),Z.cell j.2.2.1 (by simp [Value.ownBlock];exact bd),Z.cell j.2.2.2 (by simp [Value.ownBlock];exact cj)⟩
  refine wpAnyH_done (by kernel_rfl) ?_ _
  have T:Keep (fun i=>(Value.slice (some ⟨G,0,none⟩) c c).ownBlock=some i) W w4:=((Keep.refl _ W).drew.trans (Keep.below bN.out)).trans Z
  have cw:w.heap.size≤G:=by have:=HG.out;omega
  have bs:Below w.heap.size W w4:=T.toBelow a5.out.size (fun k hk=>by simp [Value.ownBlock] at hk;omega)
  have c8:¬G=A.heap.size:=by have:=bz.out;omega
  have aM:=(T.block _ (JC HM.out) (by simp [Value.ownBlock];exact c8)).trans HM.out
  refine ⟨(lh T fun k o hk ho=>?_).from _,⟨bs,fun _=>aM.trans HM.out.symm⟩,⟨⟨?_,?_,?_,?_,aM⟩,a5.out.trans bs⟩⟩
  ·simp only [Value.ownBlock,Option.some.injEq] at hk
   subst hk
   exact sN Q.out ho
  ·rw [List.foldl_append];exact ab
  ·exact (T.block _ (JC HO.out) (by simp [Value.ownBlock];exact b6)).trans HO.out
  ·exact (T.block _ (JC H4.out) (by simp [Value.ownBlock];exact bh)).trans H4.out
  ·exact (T.block _ (JC H5.out) (by simp [Value.ownBlock];exact bd)).trans H5.out
 case done=>
  rintro D zs W hD rfl ⟨⟨I,U,a1,a2,ad⟩,a3⟩ hK
  have hc:=U.cell
  gi_wp2
  refine ⟨by simp,.inl ⟨_,_,rfl,run_takeDeferred hK,?_⟩⟩
  rw [FD] at I
  refine ⟨.tuple #[.slice (some ⟨G,0,none⟩) c c,.bool true],by simp [results,Tryz.results179,go_sem],_,_,rfl,ownsRow_putObj I _ hK rfl,a3.trans (belowK_b (w:=w) (JD _) W D _ _ (by have:=J.out.size;simp at hD;omega) hK rfl rfl)⟩
 case stop=>
  rintro D c c6 W _ _ h _
  exact h.elim
end Go.Proofs.YtaccfnffmbndhaaGreat
namespace Go.Proofs.YtaccfnffmbndhaaGreat
open Go.RowKit
def Gq (c:Nat) (ys xs:List Int) (q:Int) (i:Nat):Int:=eL (nth ys (i/c)) (nth xs (i%c)) q
def kl (r c:Nat) (ys xs:List Int) (q:Int):List Int:=dh (r*c) (Gq c ys xs q)
def mq (r c:Nat) (ys xs:List Int) (q:Int) (o:List Nat) (x j:Nat):List Int:=dh (r*c) fun i=>if i/c∈o∨(i/c=x∧i%c<j) then Gq c ys xs q i else 0
theorem nH (r c:Nat) (ys xs:List Int) (q:Int) (i:List Nat) (x j:Nat):(mq r c ys xs q i x j).length=r*c:=bR _ _
theorem BC (r c:Nat) (ys xs:List Int) (q:Int) (x:Nat):List.replicate (r*c) 0=mq r c ys xs q [] x 0:=
 eQ (by simp) fun k i=>by
  rw [dI _ _ (by simpa using i)]
  simp
theorem D8 {r c:Nat} {ys xs:List Int} {q:Int} {o:List Nat} {x j:Nat} (hx:x<r) (H:j<c):(mq r c ys xs q o x j).set (x*c+j) (eL (nth ys x) (nth xs j) q)=mq r c ys xs q o x (j+1):=by
 have p:x*c+j<r*c:=by
  have:=KH c (show x+1≤r by omega)
  rw [Kx] at this
  omega
 have C:(x*c+j)/c=x:=by rw [Nat.add_comm,Nat.add_mul_div_right _ _ (by omega),Nat.div_eq_of_lt H,Kz]
 have y:(x*c+j)%c=j:=by rw [Nat.add_comm,Nat.add_mul_mod_self_right,Nat.mod_eq_of_lt H]
 refine iH (by rw [List.length_set,nH,nH]) fun i B=>?_
 rw [List.length_set,nH] at B
 rw [fZ,nH]
 unfold mq
 rw [bj _ B,bj _ B]
 by_cases h:i=x*c+j
 ·subst h
  rw [if_pos ⟨rfl,p⟩,if_pos (.inr ⟨C,by omega⟩)]
  unfold Gq
  rw [C,y]
 ·rw [if_neg (fun u=>h u.1)]
  have A:¬(i/c=x∧i%c=j):=fun u=>h (by rw [←u.1,←u.2,Nat.mul_comm];exact (Nat.div_add_mod i c).symm)
  by_cases h1:i/c∈o∨(i/c=x∧i%c<j)
  ·rw [if_pos h1,if_pos (h1.imp id fun u=>⟨u.1,by omega⟩)]
  ·rw [if_neg h1,if_neg]
   rintro (v | ⟨v,I⟩)
   ·exact h1 (.inl v)
   ·exact h1 (.inr ⟨v,by
     rcases JR (i%c) j with D | D
     ·exact D
     ·exact absurd ⟨v,by omega⟩ A⟩)
theorem D9 {r c:Nat} {ys xs:List Int} {q:Int} {j:List Nat} {x:Nat} (hc:1≤c) (y:Nat):mq r c ys xs q j x c=mq r c ys xs q (j++[x]) y 0:=by
 unfold mq
 refine fK fun i u=>?_
 have hm:i%c<c:=Nat.mod_lt _ (by omega)
 by_cases h1:i/c∈j∨(i/c=x∧i%c<c)
 ·rw [if_pos h1,if_pos]
  rcases h1 with h | ⟨h,_⟩
  ·exact .inl (Kv.2 (.inl h))
  ·exact .inl (Kv.2 (.inr (by simp [h])))
 ·rw [if_neg h1,if_neg]
  rintro (o | ⟨_,p⟩)
  ·rcases Kv.1 o with h | h
   ·exact h1 (.inl h)
   ·exact h1 (.inr ⟨by simpa using h,hm⟩)
  ·omega
theorem yv {r c:Nat} {ys xs:List Int} {q:Int} {j:List Nat} (x y:Nat):mq r c ys xs q j x 0=mq r c ys xs q j y 0:=by
 unfold mq
 exact fK fun i o=>by simp
theorem BD {r c:Nat} {ys xs:List Int} {q:Int} (hc:1≤c) (y:Nat):mq r c ys xs q (List.range r) y 0=kl r c ys xs q:=by
 unfold mq kl
 refine fK fun i j=>?_
 rw [if_pos]
 refine .inl (List.mem_range.2 ?_)
 exact (Nat.div_lt_iff_lt_mul (by omega)).2 j
def wA (v d:List Int):List Int:=dh d.length fun i=>if 0<nth v i then nth d i else 0
theorem Cx (v d:List Int):(wA v d).length=d.length:=bR _ _
theorem Cy {v d:List Int} (h:W64 d):W64 (wA v d):=fE fun k i=>by
 split
 ·exact h k i
 ·omega
theorem pq (ms:List Int) (r c:Nat) (ys:List Int) (q:Int):(mC ms r c ys q).length=c:=by
 unfold mC
 have:∀(l:List Nat) (i:List Int),i.length=c→(l.foldl (mD ms c ys q) i).length=c:=by
  intro l
  induction l with
  | nil=>intro i h;exact h
  | cons a l ih=>intro i h;exact ih _ (by rw [tB];exact h)
 exact this _ _ (by simp)
theorem CQ (ms:List Int) (r c:Nat) (ys:List Int) (q:Int):W64 (mC ms r c ys q):=by
 unfold mC
 have:∀(l:List Nat) (i:List Int),W64 i→W64 (l.foldl (mD ms c ys q) i):=by
  intro l
  induction l with
  | nil=>intro i h;exact h
  | cons a l ih=>intro i h;exact ih _ (rP _ _)
 exact this _ _ (fun k j=>by rw [dI _ _ j];simp)
def fC (sz ps:List Int) (q:Int) (x y:List Int):Nat→List Int
 | 0=>mx (cT sz ps q x (sz.length-1)) y
 | j+1=>wA (cT sz ps q x (sz.length-2-j)) (mC (wL sz ps (sz.length-2-j)) (szN sz (sz.length-1-j)) (szN sz (sz.length-2-j)) (fC sz ps q x y j) q)
def nN (sz ps:List Int) (q:Int) (x y:List Int):Nat→List Int
 | 0=>[]
 | j+1=>kl (szN sz (sz.length-1-j)) (szN sz (sz.length-2-j)) (fC sz ps q x y j) (cT sz ps q x (sz.length-2-j)) q++(fC sz ps q x y j++nN sz ps q x y j)
def gD (sz ps:List Int) (q:Int) (x y:List Int):List Int:=nN sz ps q x y (sz.length-1)
theorem yu (r c:Nat) (ys xs:List Int) (q:Int):(kl r c ys xs q).length=r*c:=bR _ _
theorem jX {sz ps:List Int} {q:Int} {x y:List Int} (hx:x.length=szN sz 0) (j:Nat):(fC sz ps q x y j).length=szN sz (sz.length-1-j):=by
 cases j with
 | zero=>show (mx _ _).length=_;rw [Ca,eC hx];rfl
 | succ j=>show (wA _ _).length=_;rw [Cx,pq,show sz.length-1-(j+1)=sz.length-2-j by omega]
theorem rC (sz ps:List Int) (q:Int) (x y:List Int) (j:Nat):W64 (fC sz ps q x y j):=by
 cases j with
 | zero=>exact Cb _ _
 | succ j=>exact Cy (CQ _ _ _ _ _)
theorem IG {sz ps:List Int} {k r:Nat} (h:r<szN sz (k+1)):nth (bL sz ps k) r=nth ps (cW sz k+r):=bj _ h
theorem Eg {sz ps:List Int} {k r c:Nat} (hr:r<szN sz (k+1)) (hc:c<szN sz k):nth (wL sz ps k) (r*szN sz k+c)=nth ps (aZ sz k+r*szN sz k+c):=by
 unfold wL
 rw [bj _ (by have:=KH (szN sz k) (show r+1≤szN sz (k+1) by omega);rw [Kx] at this;omega),Ky]
theorem FX {sz ps:List Int} {q:Int} {k r:Nat} {v:List Int} (wp:W64 ps) (hr:r<szN sz (k+1)):∀c,c≤szN sz k→pU sz ps q k r v c=wrap64 (yW (ll (wL sz ps k) (szN sz k) r) v q c+nth (bL sz ps k) r):=by
 intro c
 induction c with
 | zero=>
  intro _
  have h:=wp.nth (cW sz k+r)
  rw [pU,yW,IG hr,Int.zero_add,lI h.1 h.2]
 | succ c ih=>
  intro hc
  rw [pU,yW,ih (by omega),show nth (ll (wL sz ps k) (szN sz k) r) c=nth (wL sz ps k) (r*szN sz k+c) from bj _ (by omega),Eg hr (by omega),ql,ql]
  congr 1
  omega
theorem FW {sz ps:List Int} {q:Int} {k r:Nat} {v:List Int} (wp:W64 ps) (hr:r<szN sz (k+1)) (hv:v.length=szN sz k):pU sz ps q k r v v.length=nth (zL sz ps q k v) r:=by
 rw [hv,FX wp hr _ (JD _)]
 unfold zL eI
 rw [bj _ (by rw [vQ];exact hr)]
 unfold BQ
 rw [bj _ hr]
 unfold rX
 rw [ik]
theorem Db {sz ps:List Int} {q:Int} {x:List Int} {k r:Nat} (wp:W64 ps) (hx:x.length=szN sz 0) (hr:r<szN sz (k+1)):
  nth (cT sz ps q x (k+1)) r=if k+1<sz.length-1 then (if 0<pU sz ps q k r (cT sz ps q x k) (cT sz ps q x k).length then pU sz ps q k r (cT sz ps q x k) (cT sz ps q x k).length else 0) else pU sz ps q k r (cT sz ps q x k) (cT sz ps q x k).length:=by
 rw [FW wp hr (eC hx k)]
 rw [cT]
 split
 ·unfold sE
  rw [bj _ (by rw [tH];exact hr)]
  split
  ·omega
  ·omega
 ·rfl
def rz (sz ps:List Int) (q:Int) (k c:Nat) (e:List Int):Nat→Int
 | 0=>0
 | r+1=>wrap64 (rz sz ps q k c e r+eL (nth ps (aZ sz k+r*szN sz k+c)) (nth e r) q)
theorem jW {α:Type} (f:α→Nat→α) (a:α) (n:Nat):(List.range (n+1)).foldl f a=f ((List.range n).foldl f a) n:=by rw [Kw,List.foldl_append];rfl
theorem Jb {ms:List Int} {c:Nat} {ys:List Int} {q:Int} (r:Nat):((List.range r).foldl (mD ms c ys q) (List.replicate c 0)).length=c:=by
 induction r with
 | zero=>simp
 | succ r ih=>rw [jW,tB,ih]
theorem Fd {sz ps:List Int} {q:Int} {k c:Nat} {e:List Int} (hc:c<szN sz k):∀r,r≤szN sz (k+1)→rz sz ps q k c e r=nth ((List.range r).foldl (mD (wL sz ps k) (szN sz k) e q) (List.replicate (szN sz k) 0)) c:=by
 intro r
 induction r with
 | zero=>
  intro _
  rw [rz,List.range_zero,List.foldl_nil,dI _ _ (by simpa using hc)]
  simp
 | succ r ih=>
  intro hr
  rw [rz,ih (by omega),jW]
  unfold mD eI
  rw [bj _ (by have:=Jb (ms:=wL sz ps k) (c:=szN sz k) (ys:=e) (q:=q) r;unfold mD eI at this;omega)]
  congr 2
  unfold oC
  rw [bj _ (by rw [ik];exact hc),show nth (ll (wL sz ps k) (szN sz k) r) c=nth (wL sz ps k) (r*szN sz k+c) from bj _ hc,Eg (by omega) hc]
theorem Fe {sz ps:List Int} {q:Int} {x y:List Int} {j c:Nat} (hx:x.length=szN sz 0) (i:j+2≤sz.length) (hc:c<szN sz (sz.length-2-j)):
  nth (fC sz ps q x y (j+1)) c=if 0<nth (cT sz ps q x (sz.length-2-j)) c then rz sz ps q (sz.length-2-j) c (fC sz ps q x y j) (fC sz ps q x y j).length else 0:=by
 have hl:(fC sz ps q x y j).length=szN sz (sz.length-2-j+1):=by rw [jX hx,show sz.length-1-j=sz.length-2-j+1 by omega]
 rw [hl,Fd hc _ (JD _)]
 rw [fC]
 unfold wA
 rw [bj _ (by rw [pq];exact hc)]
 unfold mC
 rw [show sz.length-1-j=sz.length-2-j+1 by omega]
end Go.Proofs.YtaccfnffmbndhaaGreat
