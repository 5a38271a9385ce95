/- No condition. -/
import Derived.Test.YtindmkcnjlgomaaGreatQ04
import Derived.BigRegion
set_option linter.unusedSimpArgs false
set_option linter.unusedVariables false
set_option maxRecDepth 100000
set_option maxHeartbeats 4000000
namespace Go.Proofs.YtindmkcnjlgomaaGreat
open Go.RowKit
open Tryz
theorem L0:dN prog 25 145 (.agg #[RJ,RJ]) 2 48:=⟨underlying25,info_parts (by kernel_rfl),rfl,by decide⟩
abbrev Ex:=Q_×Q_
structure cU (w:R8) (A:N_) (l:Q_) (c:Nat):Prop where
 hc:l.length<=c
 hl:l.length<=17592186043904
 hr:Rd w A (aA .i64 l)
 hw:W64 l
theorem cU.below {w i:R8} {A:N_} {l:Q_} {c:Nat} (h:cU w A l c) (hb:aq w i):cU i A l c:=⟨h.hc,h.hl,h.hr.below hb,h.hw⟩
def rEx:fq Ex:=λw h e=>∃A c B d,h=[.slice A e.1.length c,.slice B e.2.length d]/\cU w A e.1 c/\cU w B e.2 d
theorem fH:Fj rEx:=λhb ⟨A,c,B,d,h1,h,i⟩=>⟨A,c,B,d,h1,h.below hb,i.below hb⟩
def eD (w:R8) (base:Nat) (h:R7) (e:Ex):Prop:=∃u v,h=[u,v]/\w.ownsRow base 2 1 u e.1.length (aA .i64 e.1)/\w.ownsRow base 2 1 v e.2.length (aA .i64 e.2)/\
 e.1.length<=17592186043904/\e.2.length<=17592186043904/\W64 e.1/\W64 e.2
theorem eD.rd {w:R8} {base:Nat} {o:R7} {e:Ex} (h:eD w base o e):rEx w o e:=by
 obtain ⟨u,v,rfl,h1,i,D,y,C,x⟩:=h;obtain ⟨A,c,rfl,hc⟩:=aD h1;obtain ⟨B,d,rfl,p⟩:=aD i;exact ⟨A,c,B,d,rfl,⟨hc,D,Rd.own h1,C⟩,⟨p,y,Rd.own i,x⟩⟩
theorem eD.below {w i:R8} {base:Nat} {o:R7} {e:Ex} (h:eD w base o e) (hb:aq w i):eD i base o e:=by
 obtain ⟨u,v,rfl,h1,p,x⟩:=h;exact ⟨u,v,rfl,az h1 hb,az p hb,x⟩
theorem eD.base {w:R8} {base base':Nat} {i:R7} {e:Ex} (h:eD w base i e) (hb:base'<=base):eD w base' i e:=by
 obtain ⟨u,v,rfl,h1,o,p⟩:=h;exact ⟨u,v,rfl,aF h1 hb,aF o hb,p⟩
theorem iS {W p:R8} {i e h size n m:Nat} {v u:Value} {xs ys:R7} {base base':Nat} (o:W.ownsRow base' i h u m ys) (x:W.ownsRow base e size v n xs) (hg:W.grownBy p v.ownBlock) (h1:e≠i):p.ownsRow base' i h u m ys:=by
 refine o.kept hg ?_
 cases hub:u.ownBlock with
 | none=>exact .inl rfl
 | some k=>exact .inr λy=>jP x o h1 k y.symm hub
theorem eD.pushed {W p:R8} {e size n:Nat} {v:Value} {xs:R7} {base base':Nat} {o:R7} {x:Ex} (h:eD W base' o x) (i:W.ownsRow base e size v n xs) (hg:W.grownBy p v.ownBlock) (h1:e≠2):eD p base' o x:=by
 obtain ⟨u,v',rfl,y,A,B⟩:=h;exact ⟨u,v',rfl,iS y i hg h1,iS A i hg h1,B⟩
theorem vd (A:N_) (zs:Q_) (c:Nat) (w:R8) (hA:Rd w A (aA .i64 zs)) (hl:zs.length<=17592186043904):Calls prog 117 #[.slice A zs.length c] w λe y=>∃v,e=.returned v/\y.ownsRow w.heap.size 2 1 v zs.length (aA .i64 zs)/\aq w y:=by
 have q:=λ(w:R8)=>Lib.run_eql_slice_nil (P:=prog) w 26 2 A zs.length c 0 0 underlying26
 cases A with
 | none=>
  have B:zs=[]:=by
   cases zs with
   | nil=>rfl
   | cons z l=>obtain ⟨b,o,h,_⟩:=hA 0 _ rfl;cases h
  subst B;clear q;have q:=λ(w:R8)=>Lib.run_eql_slice_nil (P:=prog) w 26 2 none 0 c 0 0 underlying26;simp only [Option.isNone_none] at q;rw [List.length_nil];go_enter func117,ntmps117;go_wp2;go_ret;exact ⟨_,rfl,QI _ _ _ _,QA _ _⟩
 | some a=>
  go_enter func117,ntmps117;go_wp2_with (at_builtin;refine dK lF _ rfl (.tmp 5) (.tmp 6) rfl w.heap.size _ 0 [] rfl (fh w 2 1) _ zs.length c (aA .i64 zs) rfl (hA.alloc _) (by rw [bU];omega) (cH _ _) ap (by unfold maxLen;omega) (by simp) ?_);intro H D C i hb _ _;have u:=((QA _ w).alloc (Qx _) (.cells #[] 2)).trans hb;obtain ⟨p,x⟩:=ae i u;clear i hb u;go_wp2;go_ret;exact ⟨_,rfl,p.o,x.o⟩
theorem DP (cs:R7) (x:Ex) (w:R8) (h:rEx w cs x):Calls prog 114 #[.agg cs.toArray] w λe C=>∃us:R7,e=.returned (.agg us.toArray)/\eD C w.heap.size us x/\aq w C:=by
 obtain ⟨A,c,B,d,rfl,h1,h2⟩:=h;obtain ⟨x,y⟩:=x;dsimp only at h1 h2 |-;have R:=λC (k:aq w C)=>vd A x c C (h1.hr.below k) h1.hl;have V:=λC (k:aq w C)=>vd B y d C (h2.hr.below k) h2.hl;obtain ⟨H1,H2⟩:=ae h1 h2;obtain ⟨n,hn⟩:∃n,x.length=n:=⟨_,rfl⟩;obtain ⟨m,hm⟩:∃m,y.length=m:=⟨_,rfl⟩;rw [hn] at R |-;rw [hm] at V |-;obtain ⟨aG,aR,Hn,Hm⟩:=ag R V hn hm;clear R V hn hm h1 h2;go_enter func114,ntmps114;go_wp2_with fail;have hz:=Qy (w.alloc (.cells #[.slice A n c,.slice B m d] 145)) (.cells #[RJ,RJ] 145);rw [show (w.alloc (.cells #[.slice A n c,.slice B m d] 145)).heap.size=w.heap.size+1 by simp] at hz;have hy:=(QL (w.alloc (.cells #[.slice A n c,.slice B m d] 145)) (.cells #[RJ,RJ] 145) w.heap.size (by simp)).trans (Qy w _);have Y:aq w ((w.alloc (.cells #[.slice A n c,.slice B m d] 145)).alloc (.cells #[RJ,RJ] 145)):=((QA _ w).alloc (Qx _) _).alloc (by simp) _;have T:((w.alloc (.cells #[.slice A n c,.slice B m d] 145)).alloc (.cells #[RJ,RJ] 145)).heap.size=w.heap.size+2:=by simp
 obtain ⟨W0,a2⟩:∃W0,W0=(w.alloc (.cells #[.slice A n c,.slice B m d] 145)).alloc (.cells #[RJ,RJ] 145):=⟨_,rfl⟩;rw [<-a2] at hz hy Y T |-;obtain ⟨⟨y0,y1⟩,yf⟩:=bx2 hy;obtain ⟨Hz,a0,J⟩:=af hz Y T;clear hz hy Y T a2;have i:(λC:R8=>C.cell? (ar w.heap.size 0)=some (.slice A n c)/\C.cell? (ar w.heap.size 1)=some (.slice B m d)) W0.drew:=⟨y0,y1⟩;refine XA.g 7 (λC:R8=>C.cell? (ar w.heap.size 0)=some (.slice A n c)/\C.cell? (ar w.heap.size 1)=some (.slice B m d)) ?_;refine XA.t ?_ [0,1,3,4] i ?_;refine XA.o 2 (λK hK=>?_);go_simp;refine (aG.o _ a0.o.drew).mono ?_;rintro e w1 ⟨u,rfl,H,D⟩;obtain ⟨A1,c1,rfl,_⟩:=aD H;have a4:=QF (aw D i.1) (aw D i.2);have a3:=(D.block (w.heap.size+1) (by simp [J.o])).trans Hz.o;have a1:=a0.o.drew.trans (D.mono (by simp [J.o]));have aP:=D.size;simp only [Ru,J.o] at aP;have H:=aF (base':=w.heap.size) H (by simp [J.o]);obtain ⟨aM,ao,N⟩:=af H a3 a1;clear H a3 a1 D i;dsimp only;refine hK.out _ _ a4 (λi=>?_);clear hK K a4;refine XA.o 5 (λK hK=>?_);go_simp;refine (aR.o _ N.o).mono ?_;rintro e w2 ⟨v,rfl,I,p⟩;obtain ⟨Z,c2,rfl,_⟩:=aD I;have a5:=QF (aw p i.1) (aw p i.2);have L:=(p.block (w.heap.size+1) ap).trans ao.o;have a6:=N.o.trans (p.mono N.o.size);have b2:=p.size;have I:=aF (base':=w.heap.size) I N.o.size;have Q:=az aM.o p;obtain ⟨⟨z0,z1⟩,zf⟩:=bx2 L;have l2:w.heap.size+1<w2.heap.size:=Qw L;obtain ⟨a8,O,U,b0⟩:=ag I Q L a6;clear I Q L a6 p i;dsimp only;refine hK.out _ _ a5 (λi=>?_);clear hK K a5;refine XA.t ?_ [6] i ?_;refine XA.e ?_;clear i;simp only [Re,Rf];go_wp2_with fail;have e1:=RG w2 (w.heap.size+1) 0 _ _ (.slice A1 n c1) U.o;have e2:=RG _ (w.heap.size+1) 1 _ _ (.slice Z m c2) e1;have e3:((w2.setCell (ar (w.heap.size+1) 0) (.slice A1 n c1)).setCell (ar (w.heap.size+1) 1) (.slice Z m c2)).heap[w.heap.size+1]?=some (.cells #[(.slice A1 n c1),(.slice Z m c2)] 145 (0,0)):=by simpa using e2
 have hk:Keep (λj=>j=w.heap.size+1) w2 ((w2.setCell (ar (w.heap.size+1) 0) (.slice A1 n c1)).setCell (ar (w.heap.size+1) 1) (.slice Z m c2)):=Keep.setCell (S:=λj=>j=w.heap.size+1) (Keep.setCell (S:=λj=>j=w.heap.size+1) (Keep.refl _ _) (ar (w.heap.size+1) 0) (.inr rfl) _) (ar (w.heap.size+1) 1) (.inr rfl) _;obtain ⟨W9,av⟩:∃W9,W9=(w2.setCell (ar (w.heap.size+1) 0) (.slice A1 n c1)).setCell (ar (w.heap.size+1) 1) (.slice Z m c2):=⟨_,rfl⟩;rw [<-av] at e3 hk |-;obtain ⟨⟨x0,x1⟩,xf⟩:=bx2 e3;have b1:=hk.own O.o (λj hj e=>ay U.o (by decide) O.o (by rw [hj,e]));have ad:=hk.own a8.o (λj hj e=>ay U.o (by decide) a8.o (by rw [hj,e]));have ab:aq w W9:=b0.o.trans (hk.toBelow ap (λj hj=>ap));have a7:=H1.o;have a9:=H2.o;exact QM (v:=.agg #[(.slice A1 n c1),(.slice Z m c2)]) (by simp [results,results114,go_sem,x0,x1]) rfl ⟨[(.slice A1 n c1),(.slice Z m c2)],rfl,⟨_,_,rfl,by rw [Hn.o];exact b1,by rw [Hm.o];exact ad,a7.hl,a9.hl,a7.hw,a9.hw⟩,ab⟩
theorem iG {w:R8} {A:N_} {l:R_} (h:dR rEx 2 w A l) {j:Nat} {x:Ex} (B:l[j]?=some x):
  ∃b o A1 c1 i c2,A=some (ar b o)/\b<w.heap.size/\w.cell? (ar b (o+j*2))=some (.slice A1 x.1.length c1)/\w.cell? (ar b (o+j*2+1))=some (.slice i x.2.length c2)/\cU w A1 x.1 c1/\cU w i x.2 c2:=by
 obtain ⟨b,o,C,rfl,hb,hl,⟨A1,c1,i,c2,rfl,p,u⟩,v,y⟩:=h.get (by decide) B;exact ⟨b,o,A1,c1,i,c2,rfl,hb,v,y 1 (by decide),p,u⟩
def jz (w wr:R8) (l:R_) (k:Nat) (v:Value):Prop:=∃rows,wr.ownsRow w.heap.size 145 2 v k (List.flatten rows)/\rows.length=k/\(∀r∈rows,r.length=2)/\ (∀j x,j<k->l[j]?=some x->eD wr w.heap.size (cF rows j) x)/\aq w wr
theorem jz.zero (w:R8) (l:R_):jz w w l 0 (RJ):=⟨[],QI _ _ _ _,rfl,by simp,λj x h=>ap,QA _ _⟩
theorem jz.form {w wr:R8} {l:R_} {k:Nat} {v:Value} (h:jz w wr l k v):∃A c,v=.slice A k c:=by
 obtain ⟨rows,h1,_⟩:=h;obtain ⟨A,c,e,_⟩:=aD h1;exact ⟨A,c,e⟩
theorem jz.b {w wr:R8} {l:R_} {k:Nat} {v:Value} (h:jz w wr l k v):aq w wr:=by
 obtain ⟨rows,_,_,_,_,h⟩:=h;exact h
theorem jz.below {w wr i:R8} {l:R_} {k:Nat} {v:Value} (h:jz w wr l k v) (hb:aq wr i):jz w i l k v:=by
 obtain ⟨rows,h1,p,A,y,o⟩:=h;exact ⟨rows,az h1 hb,p,A,λj x u B=>(y j x u B).below hb,o.trans (hb.mono o.size)⟩
theorem jz.done {w wr:R8} {l:R_} {A:N_} {n c:Nat} (h:jz w wr l n (.slice A n c)) (hn:l.length=n):dR rEx 2 wr A l:=by
 obtain ⟨rows,h1,u,p,o,v⟩:=h;exact ⟨rows,Rd.own h1,by omega,p,λj x i=>(o j x (by have:=(Ri.1 i).1;omega) i).rd⟩
theorem jz.doneT {w wr:R8} {l:R_} {A:N_} {n c:Nat} (h:jz w wr l n (.slice A n c)) (hn:l.length=n):dR rEx 2 (gE w.heap.size wr) A l:=by
 obtain ⟨rows,h1,D,C,B,H⟩:=h
 exact ⟨rows,Rd.own (fQ h1 (Qx _)),by omega,C,λj x i=>by
  obtain ⟨u,v,e,o,p,y⟩:=B j x (by have:=(Ri.1 i).1;omega) i
  exact eD.rd ⟨u,v,e,fQ o (Qx _),fQ p (Qx _),y⟩⟩
theorem jz.push {w i A:R8} {l:R_} {k:Nat} {v v':Value} {p o:Value} {x:Ex} {rows:List (R7)} (h1:i.ownsRow w.heap.size 145 2 v k (List.flatten rows)) (B:rows.length=k) (J:∀r∈rows,r.length=2) (D:∀j x,j<k->l[j]?=some x->eD i w.heap.size (cF rows j) x) (H:aq w i) (L:l[k]?=some x) (I:eD i w.heap.size [p,o] x) (C:A.ownsRow w.heap.size 145 2 v' (k+1) (List.flatten rows++[p,o])) (hb:Below w.heap.size i A) (hg:i.grownBy A v.ownBlock):jz w A l (k+1) v':=by
 refine ⟨rows++[[p,o]],by rw [Rs,List.flatten_cons,List.flatten_nil,List.append_nil];exact C,by simp [B],?_,?_,H.trans hb⟩
 .intro r hr;rcases Rw.1 hr with hr | hr
  .exact J r hr
  .rw [List.mem_singleton.1 hr];rfl
 .intro j y N u;rcases QO j k with h | h
  .have e:cF (rows++[[p,o]]) j=cF rows j:=by simp [cF,Rk (show j<rows.length by omega)]
   rw [e];exact (D j y h u).pushed h1 hg (by decide)
  .obtain rfl:j=k:=ap;rw [L] at u;injection u with u
   subst u;have e:cF (rows++[[p,o]]) j=[p,o]:=by rw [<-B];simp [cF]
   rw [e];exact I.pushed h1 hg (by decide)
def yk (w:R8) (x:Ex) (e:Ending) (i:R8):Prop:=∃A1 c1 h c2,e=.returned (.tuple #[.agg #[.slice A1 x.1.length c1,.slice h x.2.length c2],.bool true])/\eD i w.heap.size [.slice A1 x.1.length c1,.slice h x.2.length c2] x/\aq w i
theorem IH (A:N_) (c:Nat) (B:N_) (d:Nat) (x:Ex) (w:R8) (h1:cU w A x.1 c) (y:cU w B x.2 d):Calls prog 114 #[.agg #[.slice A x.1.length c,.slice B x.2.length d]] w λe i=>∃A1 c1 h c2,e=.returned (.agg #[.slice A1 x.1.length c1,.slice h x.2.length c2])/\eD i w.heap.size [.slice A1 x.1.length c1,.slice h x.2.length c2] x/\aq w i:=by
 refine (DP [.slice A x.1.length c,.slice B x.2.length d] x w ⟨A,c,B,d,rfl,h1,y⟩).mono ?_;rintro e i ⟨D,rfl,⟨u,v,rfl,p,o,C⟩,hb⟩;obtain ⟨A1,c1,rfl,_⟩:=aD p;obtain ⟨h,c2,rfl,_⟩:=aD o;exact ⟨A1,c1,h,c2,rfl,⟨_,_,rfl,p,o,C⟩,hb⟩
theorem x6 (n m:Nat) (A:N_) (c:Nat) (B:N_) (d:Nat) (x:Ex) (w:R8) (hn:x.1.length=n) (hm:x.2.length=m) (h1:cU w A x.1 c) (o:cU w B x.2 d):Calls prog 114 #[.agg #[.slice A n c,.slice B m d]] w λe i=>∃A1 c1 h c2,e=.returned (.agg #[.slice A1 n c1,.slice h m c2])/\eD i w.heap.size [.slice A1 n c1,.slice h m c2] x/\aq w i:=by
 subst hn;subst hm;exact IH A c B d x w h1 o
theorem DR (A:N_) (c:Nat) (B:N_) (d:Nat) (x:Ex) (w:R8) (h1:cU w A x.1 c) (Y:cU w B x.2 d):Calls prog 113 #[.agg #[.slice A x.1.length c,.slice B x.2.length d]] w (yk w x):=by
 have h:=λn m (hn:x.1.length=n) (hm:x.2.length=m) V (k:aq w V)=>x6 n m A c B d x V hn hm (h1.below k) (Y.below k);unfold yk;obtain ⟨n,hn⟩:∃n,x.1.length=n:=⟨_,rfl⟩;obtain ⟨m,hm⟩:∃m,x.2.length=m:=⟨_,rfl⟩;have h:=h n m hn hm;rw [hn,hm];have O:=aa h;clear h hn hm h1 Y;go_enter func113,ntmps113;go_wp2_with fail;refine (O.o _ ?_).mono ?_
 .exact am
 rintro e p ⟨A1,c1,i,c2,rfl,Z,y⟩;have I:p.heap[w.heap.size+1]?=some (.cells #[RJ,RJ] 145 (0,0)):=(y.block (w.heap.size+1) (by simp)).trans (by rw [<-show (w.alloc (.cells #[.slice A n c,.slice B m d] 145)).heap.size=w.heap.size+1 by simp];exact Qy (w.alloc (.cells #[.slice A n c,.slice B m d] 145)) (.cells #[RJ,RJ] 145));have C:aq w p:=(((QA _ w).alloc (Qx _) _).alloc (by simp) _).trans (y.mono (by first | omega | (simp;done) | (simp;omega)));have D:=Z.base (base':=w.heap.size) (by first | omega | (simp;done) | (simp;omega));have lz:=Qw I;obtain ⟨⟨z0,z1⟩,zf⟩:=bx2 I;obtain ⟨N,H,R⟩:=af I C D;clear I C D y Z;go_wp2_with fail;have e1:=RG p (w.heap.size+1) 0 _ _ (.slice A1 n c1) N.o;have e2:=RG _ (w.heap.size+1) 1 _ _ (.slice i m c2) e1;have e3:((p.setCell (ar (w.heap.size+1) 0) (.slice A1 n c1)).setCell (ar (w.heap.size+1) 1) (.slice i m c2)).heap[w.heap.size+1]?=some (.cells #[.slice A1 n c1,.slice i m c2] 145 (0,0)):=by simpa using e2
 have hk:Keep (λj=>j=w.heap.size+1) p ((p.setCell (ar (w.heap.size+1) 0) (.slice A1 n c1)).setCell (ar (w.heap.size+1) 1) (.slice i m c2)):=Keep.setCell (S:=λj=>j=w.heap.size+1) (Keep.setCell (S:=λj=>j=w.heap.size+1) (Keep.refl _ _) (ar (w.heap.size+1) 0) (.inr rfl) _) (ar (w.heap.size+1) 1) (.inr rfl) _;obtain ⟨T,Q⟩:∃T,T=(p.setCell (ar (w.heap.size+1) 0) (.slice A1 n c1)).setCell (ar (w.heap.size+1) 1) (.slice i m c2):=⟨_,rfl⟩;rw [<-Q] at e3 hk |-;obtain ⟨⟨x0,x1⟩,xf⟩:=bx2 e3
 have L:eD T w.heap.size [.slice A1 n c1,.slice i m c2] x:=by
  obtain ⟨u,v,e,U,k2,k3⟩:=R.o;exact ⟨u,v,e,hk.own U (λj J e=>ay N.o (by decide) U (by rw [J,e])),hk.own k2 (λj J e=>ay N.o (by decide) k2 (by rw [J,e])),k3⟩
 exact QM (v:=.tuple #[.agg #[.slice A1 n c1,.slice i m c2],.bool true]) (by simp [results,results113,go_sem,x0,x1]) rfl ⟨A1,c1,i,c2,rfl,L,H.o.trans (hk.toBelow H.o.size (λj J=>ap))⟩
theorem Ip (A:N_) (l:R_) (c:Nat) (w:R8) (h:dR rEx 2 w A l) (hl:l.length<=1048576):Calls prog 112 #[.slice A l.length c,.func (.func 113) #[] #[]] w λe Y=>∃v,e=.returned (.tuple #[v,.bool true])/\jz w Y l l.length v:=by
 obtain ⟨n,hn⟩:∃n,l.length=n:=⟨_,rfl⟩;rw [hn] at hl |-;obtain ⟨H,Hn⟩:=ae h hn;clear h hn;go_enter func112,ntmps112;go_wp2_with fail
 go_loopw [6,13] (λv i wr=>∃k:Nat,k<=n/\i=RI k/\jz w wr l k v) (λ_ i _=>n-(intOf i).toNat)
 .exact ⟨0,QB _,rfl,jz.zero w l⟩
 case round=>
  obtain ⟨k,hk,rfl,y⟩:=hrel;obtain ⟨Al,cl,rfl⟩:=y.form;by_cases a0:k<n
  .obtain ⟨x,hx⟩:∃x,l[k]?=some x:=⟨_,Rj (by rw [Hn.o];exact a0)⟩;have hb:=y.b;obtain ⟨b,o,A1,c1,A2,c2,rfl,a5,p1,p2,r1,r2⟩:=iG (H.o.below fH hb) hx;have p:=λY (q:aq wr Y)=>DR A1 c1 A2 c2 x Y (r1.below q) (r2.below q);unfold yk at p;obtain ⟨B,I⟩:∃B,x.1.length=B:=⟨_,rfl⟩;obtain ⟨C,R⟩:∃C,x.2.length=C:=⟨_,rfl⟩;rw [I] at p1 p;rw [R] at p2 p;obtain ⟨a1,Z,Hx⟩:=af p y hx;clear p y hx r1 r2 I R hb;go_wp2_with fail;refine (a1.o _ ?_).mono ?_
   .exact am
   rintro e w3 ⟨B1,d1,B2,V,rfl,ho,T⟩;have u:aq wr w3:=((QA _ wr).alloc (Qx _) _).trans (T.mono (by first | omega | (simp;done) | (simp;omega)));have L:=(Z.o.below u).below ((QA _ _).alloc (Qx _) (.cells #[.slice B1 B d1,.slice B2 C V] 145));have J:=(ho.base (base':=w.heap.size) (by have:=Z.o.b.size;first | omega | (simp;done) | (simp;omega))).below ((QA _ _).alloc (Qx _) (.cells #[.slice B1 B d1,.slice B2 C V] 145));obtain ⟨a3,a4⟩:=ae L J;clear L J ho T u p1 p2;obtain ⟨rows,h1,h2,h3,h4,h5⟩:=a3.o;obtain ⟨R1,R2,R3,R4,R5⟩:=ah h1 h2 h3 h4 h5;clear h1 h2 h3 h4 h5;have Q:=aa (show (w3.alloc (.cells #[.slice B1 B d1,.slice B2 C V] 145)).heap.size=w3.heap.size+1 by simp);go_wp2_with (at_builtin;refine aX L0 _ rfl (.tmp 25) (.tmp 27) rfl w.heap.size (.slice Al k cl) k _ rfl R1.o [.slice B1 B d1,.slice B2 C V] (congrArg (λb:Nat=>Value.slice (some (ar b 0)) 1 1) Q.o.symm) rfl (by simp [Value.oneCell']) ap (by unfold maxLen;omega) R5.o.size ?_);intro g6 c6 w6 D N O;have U:=jz.push R1.o R2.o R3.o R4.o R5.o Hx.o a4.o D N O;have a2:=aa U;clear D N O U;go_wp2_with fail;go_roundw
   .exact ⟨k+1,by omega,by go_num,a2.o⟩
   .simp [intOf];omega
  .obtain rfl:n=k:=ap;have Z:=aa y;clear y;go_wp2_with fail;go_ret2;exact ⟨_,rfl,Z.o⟩
theorem BN (A:N_) (l:R_) (c:Nat) (w:R8) (h:dR rEx 2 w A l) (hl:l.length<=1048576):Calls prog 71 #[.slice A l.length c] w λe u=>∃p x,e=.returned (.slice p l.length x)/\dR rEx 2 (gE w.heap.size u) p l/\aq w u:=by
 have hm:=Ip A l c w h hl;obtain ⟨n,hn⟩:∃n,l.length=n:=⟨_,rfl⟩;rw [hn] at hm |-;obtain ⟨B,C⟩:=ae hm hn;clear hm hn h;go_enter func71,ntmps71;go_wp2_with fail;refine B.o.mono ?_;rintro e D ⟨v,rfl,i⟩;obtain ⟨p,x,rfl⟩:=i.form;have y:=aa i;clear i;go_wp2;go_ret;exact ⟨_,_,rfl,y.o.doneT C.o,y.o.b⟩
def cN (l:R_) (h:Q_):R_:=h.map λi=>l.getD i.toNat ([],[])
theorem pq (l:R_) (h:Q_):(cN l h).length=h.length:=by simp [cN]
theorem AD (l:R_) (i:Q_) {k:Nat} (h:k<i.length):(cN l i)[k]?=some (l.getD (nth i k).toNat ([],[])):=by simp [cN,dB _ _ h,h]
theorem GE (P n c:Nat) (A:N_) (i:Int) (w:R8) (hP:w.heap[P]?=some (.cells #[.slice A n c] 25 (0,0))) (B:i<0\/(n:Int)<=i):Calls prog 233 #[RI i,(au P)] w λe C=>e=.returned (.tuple #[.agg #[RJ,RJ],.bool false])/\aq w C:=by
 obtain ⟨J,N⟩:=bx1 hP;have H:=Qw hP;clear hP;rcases Int.lt_or_le i 0 with y | y
 .have I:i<0:=y;clear B;go_enter func233,ntmps233;go_wp2_with fail;have p:=Qy w (.cells #[RJ,RJ] 145);obtain ⟨o,h⟩:∃o,o=w.alloc (.cells #[RJ,RJ] 145):=⟨_,rfl⟩;have hb:aq w o:=by rw [h];exact (QA _ _).alloc (Qx _) _
  rw [<-h] at p |-;obtain ⟨⟨u,x⟩,D⟩:=bx2 p;exact QM (v:=.tuple #[.agg #[RJ,RJ],.bool false]) (by simp [results,results233,go_sem,u,x]) rfl ⟨rfl,hb⟩
 .have h1:(n:Int)<=i:=ap;have L:¬i<0:=ap;clear B;go_enter func233,ntmps233;go_wp2_with fail;have p:=Qy w (.cells #[RJ,RJ] 145);obtain ⟨o,h⟩:∃o,o=w.alloc (.cells #[RJ,RJ] 145):=⟨_,rfl⟩;have hb:aq w o:=by rw [h];exact (QA _ _).alloc (Qx _) _
  rw [<-h] at p |-;obtain ⟨⟨u,x⟩,D⟩:=bx2 p;exact QM (v:=.tuple #[.agg #[RJ,RJ],.bool false]) (by simp [results,results233,go_sem,u,x]) rfl ⟨rfl,hb⟩
theorem De (P c j:Nat) (A:N_) (l:R_) (x:Ex) (w:R8) (hP:w.heap[P]?=some (.cells #[.slice A l.length c] 25 (0,0))) (h:dR rEx 2 w A l) (hx:l[j]?=some x):Calls prog 233 #[RI j,(au P)] w (yk w x):=by
 have I:=(Ri.1 hx).1;obtain ⟨b,o,A1,c1,A2,c2,rfl,a0,p1,p2,r1,r2⟩:=iG h hx;have i:=λn m (hn:x.1.length=n) (hm:x.2.length=m) w' (k:aq w w')=>x6 n m A1 c1 A2 c2 x w' hn hm (r1.below k) (r2.below k);unfold yk;obtain ⟨n,hn⟩:∃n,x.1.length=n:=⟨_,rfl⟩;obtain ⟨m,hm⟩:∃m,x.2.length=m:=⟨_,rfl⟩;have i:=i n m hn hm;rw [hn] at p1;rw [hm] at p2;rw [hn,hm];obtain ⟨N,hN⟩:∃N,l.length=N:=⟨_,rfl⟩;rw [hN] at hP I;obtain ⟨p0,pf⟩:=bx1 hP;have a3:=Qw hP;have a2:(j:Int)<N:=ap;have a4:¬((j:Int)<0):=ap;have a1:¬((N:Int)<=j):=ap;have U:=aa i;clear i hn hm r1 r2 hx h hN hP;go_enter func233,ntmps233;go_wp2_with fail;refine (U.o _ ?_).mono ?_
 .exact am
 rintro e D ⟨B,y,C,p,rfl,ho,H⟩;have Q:D.heap[w.heap.size]?=some (.cells #[RJ,RJ] 145 (0,0)):=(H.block w.heap.size (by simp)).trans (Qy w _);have J:aq w D:=((QA _ w).alloc (Qx _) _).trans (H.mono (by first | omega | (simp;done) | (simp;omega)));have L:=ho.base (base':=w.heap.size) (by first | omega | (simp;done) | (simp;omega));have lz:=Qw Q;obtain ⟨⟨z0,z1⟩,zf⟩:=bx2 Q;obtain ⟨T,O,Y⟩:=af Q J L;clear Q J L H ho p0 pf p1 p2;go_wp2_with fail;have e1:=RG D w.heap.size 0 _ _ (.slice B n y) T.o;have e2:=RG _ w.heap.size 1 _ _ (.slice C m p) e1;have e3:((D.setCell (ar w.heap.size 0) (.slice B n y)).setCell (ar w.heap.size 1) (.slice C m p)).heap[w.heap.size]?=some (.cells #[.slice B n y,.slice C m p] 145 (0,0)):=by simpa using e2
 have hk:Keep (λj=>j=w.heap.size) D ((D.setCell (ar w.heap.size 0) (.slice B n y)).setCell (ar w.heap.size 1) (.slice C m p)):=Keep.setCell (S:=λj=>j=w.heap.size) (Keep.setCell (S:=λj=>j=w.heap.size) (Keep.refl _ _) (ar w.heap.size 0) (.inr rfl) _) (ar w.heap.size 1) (.inr rfl) _;obtain ⟨Z,V⟩:∃Z,Z=(D.setCell (ar w.heap.size 0) (.slice B n y)).setCell (ar w.heap.size 1) (.slice C m p):=⟨_,rfl⟩;rw [<-V] at e3 hk |-;obtain ⟨⟨x0,x1⟩,xf⟩:=bx2 e3
 have R:eD Z w.heap.size [.slice B n y,.slice C m p] x:=by
  obtain ⟨u,v,e,k1,k2,k3⟩:=Y.o;exact ⟨u,v,e,hk.own k1 (λj I e=>ay T.o (by decide) k1 (by rw [I,e])),hk.own k2 (λj I e=>ay T.o (by decide) k2 (by rw [I,e])),k3⟩
 exact QM (v:=.tuple #[.agg #[.slice B n y,.slice C m p],.bool true]) (by simp [results,results233,go_sem,x0,x1]) rfl ⟨B,y,C,p,rfl,R,O.o.trans (hk.toBelow O.o.size (λj I=>ap))⟩
def ks (n:Nat) (i:Int):Prop:=0<=i/\i<n
instance (n:Nat) (i:Int):Decidable (ks n i):=by unfold ks;exact inferInstance
def D6 (l:R_) (h:Q_) (w:R8) (e:Ending) (i:R8):Prop:=aq w i/\ (((∀k,k<h.length->ks l.length (nth h k))/\∃v,e=.returned (.tuple #[v,.bool true])/\jz w i (cN l h) h.length v)\/((¬∀k,k<h.length->ks l.length (nth h k))/\e=.returned (.tuple #[RJ,.bool false])))
theorem Ds (P c d:Nat) (A B:N_) (l:R_) (u:Q_) (w:R8) (hP:w.heap[P]?=some (.cells #[.slice A l.length c] 25 (0,0))) (h:dR rEx 2 w A l) (hl:l.length<=1048576) (hB:Rd w B (aA .i64 u)) (hi:u.length<=1048576):Calls prog 232 #[.slice B u.length d,.func (.func 233) #[] #[(au P)]] w (D6 l u w):=by
 obtain ⟨n,hn⟩:∃n,u.length=n:=⟨_,rfl⟩;unfold D6;rw [hn] at hi |-;obtain ⟨N,hN⟩:∃N,l.length=N:=⟨_,rfl⟩;have T:=pq l u;have V:=λk (hk:k<u.length)=>AD l u hk;rw [hn] at T V;have ao:=hP;rw [hN] at hl hP |-;obtain ⟨H,Hn,HN,HB,HP,b1,b2,aG⟩:=ak h hn hN hB hP ao T V;clear h hn hN hB hP ao T V;go_enter func232,ntmps232;go_wp2_with fail
 go_loopw [6,13] (λv i wr=>∃k:Nat,k<=n/\i=RI k/\jz w wr (cN l u) k v/\an (∀j,j<k->ks N (nth u j))) (λ_ i _=>n-(intOf i).toNat)
 .exact ⟨0,QB _,rfl,jz.zero w _,aa λj hj=>ap⟩
 case round=>
  obtain ⟨k,hk,rfl,L,Q⟩:=hrel;obtain ⟨Al,cl,rfl⟩:=L.form;by_cases R:k<n
  .have hb:=L.b;obtain ⟨b,o,rfl,p⟩:=(HB.o.below hb).num (show k<u.length by rw [Hn.o];exact R);obtain ⟨i,C⟩:∃i,nth u k=i:=⟨_,rfl⟩;rw [C] at p;have I:=(hb.block P (Qw HP.o)).trans HP.o;by_cases hg:ks N i
   .obtain ⟨j,rfl⟩:∃j:Nat,i=(j:Int):=⟨i.toNat,by have:=hg.1;omega⟩;have aR:j<N:=by have:=hg.2;omega
    have J:=aG.o k R;rw [C,Int.toNat_natCast] at J;have a7:j<l.length:=by rw [HN.o];exact aR
    obtain ⟨x,hx⟩:∃x,l[j]?=some x:=⟨_,Rj a7⟩;have a1:l.getD j ([],[])=x:=by simp [hx]
    rw [a1] at J;have y:=De P c j A l x wr (by rw [HN.o];exact I) (H.o.below fH hb) hx;unfold yk at y;obtain ⟨Z,a2⟩:∃Z,x.1.length=Z:=⟨_,rfl⟩;obtain ⟨Y,ad⟩:∃Y,x.2.length=Y:=⟨_,rfl⟩;rw [a2,ad] at y;obtain ⟨U,O,Hx,Hg,Hi⟩:=ah y L J hg C;clear y L hx a2 ad hb hg C J a1 I a7;go_wp2_with fail;refine U.o.mono ?_;rintro e w3 ⟨B1,d1,B2,d2,rfl,ho,D⟩;have a4:=(O.o.below D).below ((QA _ _).alloc (Qx _) (.cells #[.slice B1 Z d1,.slice B2 Y d2] 145));have a3:=(ho.base (base':=w.heap.size) O.o.b.size).below ((QA _ _).alloc (Qx _) (.cells #[.slice B1 Z d1,.slice B2 Y d2] 145));obtain ⟨aP,b0⟩:=ae a4 a3;clear a4 a3 ho D p;obtain ⟨rows,h1,h2,h3,h4,h5⟩:=aP.o;obtain ⟨R1,R2,R3,R4,R5⟩:=ah h1 h2 h3 h4 h5;clear h1 h2 h3 h4 h5;have ab:=aa (show (w3.alloc (.cells #[.slice B1 Z d1,.slice B2 Y d2] 145)).heap.size=w3.heap.size+1 by simp);go_wp2_with (at_builtin;refine aX L0 _ rfl (.tmp 25) (.tmp 27) rfl w.heap.size (.slice Al k cl) k _ rfl R1.o [.slice B1 Z d1,.slice B2 Y d2] (congrArg (λb:Nat=>Value.slice (some (ar b 0)) 1 1) ab.o.symm) rfl (by simp [Value.oneCell']) ap (by unfold maxLen;omega) R5.o.size ?_);intro g6 c6 w6 a0 a8 a9;have av:=jz.push R1.o R2.o R3.o R4.o R5.o Hx.o b0.o a0 a8 a9;have aM:=aa av;clear a0 a8 a9 av;go_wp2_with fail;go_roundw
    case rel=>exact ⟨k+1,by omega,by go_num,aM.o,aa (p:=∀j,j<k+1->ks N (nth u j)) λt ht=>by
     rcases QO t k with h | h
     .exact Q.out t h
     .obtain rfl:t=k:=ap
      rw [Hi.o];exact Hg.o⟩
    case measure=>simp [intOf];omega
   .have a5:i<0\/(N:Int)<=i:=by unfold ks at hg;omega
    have y:=GE P N c A i wr I a5;obtain ⟨U,O,Hg,Hi⟩:=ag y L hg C;clear y L hb hg a5 C I;go_wp2_with fail;refine U.o.mono ?_;rintro e w3 ⟨rfl,D⟩;have a6:=aa (O.o.b.trans (D.mono O.o.b.size));clear D p;go_wp2_with fail;go_ret2;exact ⟨a6.o.alloc a6.o.size _,.inr ⟨λh=>Hg.o (by have:=h k R;rwa [Hi.o] at this),rfl⟩⟩
  .obtain rfl:n=k:=ap;have O:=aa L;clear L;go_wp2_with fail;go_ret2;exact ⟨O.o.b,.inl ⟨Q.out,_,rfl,O.o⟩⟩
def fJ (a b:Nat) (x:Ex):Prop:=x.1.length=a/\x.2.length=b
instance (a b:Nat) (x:Ex):Decidable (fJ a b x):=by unfold fJ;exact inferInstance
theorem DS (P1 P2 n m a b c d:Nat) (A B:N_) (w:R8) (h1:w.heap[P1]?=some (.cells #[RI a] 3 (0,0))) (u:w.heap[P2]?=some (.cells #[RI b] 3 (0,0))):Calls prog 104 #[.agg #[.slice A n c,.slice B m d],(au P1),(au P2)] w λe x=>e=.returned (.bool (!decide (n=a/\m=b)))/\aq w x:=by
 obtain ⟨D,I⟩:=bx1 h1;obtain ⟨C,y⟩:=bx1 u;have l1:=Qw h1;have H:=Qw u;clear h1 u;by_cases i:n=a
 .by_cases p:m=b
  .have o:((n:Int) != (a:Int))=false:=by rw [i];simp
   have v:((m:Int) != (b:Int))=false:=by rw [p];simp
   have h:(!decide (n=a/\m=b))=false:=by simp [i,p]
   rw [h];clear i p h;go_enter func104,ntmps104;go_wp2;go_ret;exact ⟨rfl,(QA _ w).alloc (Qx _) _⟩
  .have o:((n:Int) != (a:Int))=false:=by rw [i];simp
   have v:((m:Int) != (b:Int))=true:=by rw [bne_iff_ne];omega
   have h:(!decide (n=a/\m=b))=true:=by simp [p]
   rw [h];clear i p h;go_enter func104,ntmps104;go_wp2;go_ret;exact ⟨rfl,(QA _ w).alloc (Qx _) _⟩
 .have o:((n:Int) != (a:Int))=true:=by rw [bne_iff_ne];omega
  have h:(!decide (n=a/\m=b))=true:=by simp [i]
  rw [h];clear i h;go_enter func104,ntmps104;go_wp2;go_ret;exact ⟨rfl,(QA _ w).alloc (Qx _) _⟩
def zA (l:R_) (a b:Nat) (w:R8) (e:Ending) (h:R8):Prop:=∃d:Int,e=.returned (RI d)/\ -1<=d/\d<=1048576/\(d<0↔∀x∈l,fJ a b x)/\aq w h
theorem BF (P1 P2 a b c:Nat) (A:N_) (l:R_) (w:R8) (h1:w.heap[P1]?=some (.cells #[RI a] 3 (0,0))) (T:w.heap[P2]?=some (.cells #[RI b] 3 (0,0))) (h:dR rEx 2 w A l) (hl:l.length<=1048576):Calls prog 103 #[.slice A l.length c,.func (.func 104) #[] #[(au P1),(au P2)]] w (zA l a b w):=by
 unfold zA;have N:=λn m A c B d Z (k:aq w Z)=>DS P1 P2 n m a b c d A B Z ((k.block _ (Qw h1)).trans h1) ((k.block _ (Qw T)).trans T);obtain ⟨n,hn⟩:∃n,l.length=n:=⟨_,rfl⟩;rw [hn] at hl |-;obtain ⟨H,Hn,U⟩:=af h hn N;clear h hn N h1 T;go_enter func103,ntmps103;go_wp2_with fail
 go_loopw [5,8] (λ_ i wr=>∃k:Nat,k<=n/\i=RI k/\an (∀j x,j<k->l[j]?=some x->fJ a b x)/\aq w wr) (λ_ i _=>n-(intOf i).toNat)
 .exact ⟨0,QB _,rfl,aa λj x O=>ap,QA _ _⟩
 case round=>
  obtain ⟨k,hk,rfl,v,hb⟩:=hrel;by_cases Q:k<n
  .obtain ⟨x,I⟩:∃x,l[k]?=some x:=⟨_,Rj (by rw [Hn.o];exact Q)⟩;obtain ⟨b',o,A1,c1,A2,c2,rfl,a0,p1,p2,r1,r2⟩:=iG (H.o.below fH hb) I;have hc:=U.o x.1.length x.2.length A1 c1 A2 c2 wr hb;by_cases J:fJ a b x
   .have L:(!decide (x.1.length=a/\x.2.length=b))=false:=by
     have:=J;unfold fJ at this;simp [this.1,this.2]
    rw [L] at hc;obtain ⟨V,R,Y,C⟩:=ag hc I J hb;clear hc I J L r1 r2 hb;go_wp2_with fail;refine V.o.mono ?_;rintro e w1 ⟨rfl,u⟩;have D:=aa (C.o.trans (u.mono C.o.size));clear u p1 p2;go_wp2_with fail;go_roundw
    case rel=>exact ⟨k+1,by omega,by go_num,aa (p:=∀j x,j<k+1->l[j]?=some x->fJ a b x) λj y O hy=>by
     rcases QO j k with h | h
     .exact v.out j y h hy
     .obtain rfl:j=k:=ap
      have:=R.o;rw [hy] at this;injection this with this;rw [this];exact Y.o,D.o⟩
    case measure=>simp [intOf];omega
   .have L:(!decide (x.1.length=a/\x.2.length=b))=true:=by
     have:=J;unfold fJ at this;simp only [Bool.not_eq_true',RE];exact this
    rw [L] at hc;obtain ⟨V,R,Y,C⟩:=ag hc I J hb;clear hc I J L r1 r2 hb;go_wp2_with fail;refine V.o.mono ?_;rintro e w1 ⟨rfl,u⟩;have D:=aa (C.o.trans (u.mono C.o.size));clear u p1 p2;go_wp2_with fail;go_ret;exact ⟨k,rfl,by omega,by omega,⟨λh=>ap,λh=>absurd (h x (List.mem_of_getElem? R.o)) Y.o⟩,D.o⟩
  .obtain rfl:n=k:=ap;have C:=aa hb;clear hb;go_wp2_with fail;go_ret;refine ⟨-1,rfl,by omega,by omega,⟨λ_ x I=>?_,λ_=>ap⟩,C.o⟩;obtain ⟨j,O⟩:=List.getElem?_of_mem I;exact v.out j x (by have:=(Ri.1 O).1;have:=Hn.o;omega) O
def sH (l:R_) (a b:Nat) (w:R8) (e:Ending) (h:R8):Prop:=aq w h/\∃d:Int,((∀x∈l,fJ a b x)/\e=.returned (.tuple #[RI d,.bool true]))\/((¬∀x∈l,fJ a b x)/\e=.returned (.tuple #[RI d,.bool false]))
theorem DO (a b c:Nat) (A:N_) (l:R_) (w:R8) (h:dR rEx 2 w A l) (hl:l.length<=1048576):Calls prog 66 #[.slice A l.length c,RI a,RI b] w (sH l a b w):=by
 have v:∀(B y:Obj),aq w ((w.alloc B).alloc y):=λB y=>((QA _ w).alloc (Qx _) _).alloc (by simp) _
 have u:=BF w.heap.size (w.heap.size+1) a b c A l ((w.alloc (.cells #[RI a] 3)).alloc (.cells #[RI b] 3)) ((QL _ _ _ (by simp)).trans (Qy w _))
  (by have:=Qy (w.alloc (.cells #[RI a] 3)) (.cells #[RI b] 3);rwa [show (w.alloc (.cells #[RI a] 3)).heap.size=w.heap.size+1 by simp] at this) (h.below fH (v _ _)) hl
 obtain ⟨n,hn⟩:∃n,l.length=n:=⟨_,rfl⟩;unfold zA at u;unfold sH;rw [hn] at u |-;obtain ⟨J,L⟩:=ae u v;clear u v h hn;go_enter func66,ntmps66;go_wp2_with fail;refine J.o.mono ?_;rintro e N ⟨d,rfl,D,C,p,hb⟩;obtain ⟨x,i⟩:=ae ((L.o (.cells #[RI a] 3) (.cells #[RI b] 3)).trans (hb.mono (by simp;omega))) p;clear hb p;by_cases I:d<0
 .have H:decide (d<0)=true:=by simp;omega
  go_wp2_with fail
  all_goals
   go_ret2;exact ⟨x.o,_,.inl ⟨i.o.1 I,rfl⟩⟩
 .have H:decide (d<0)=false:=by simp;omega
  go_wp2_with fail
  all_goals
   go_ret2;exact ⟨x.o,_,.inr ⟨λh=>by have:=i.o.2 h;omega,rfl⟩⟩
def swp (p:Q_) (i j:Nat):Q_:=(p.set i (nth p j)).set j (nth p i)
theorem Eb (p:Q_) (i j:Nat):(swp p i j).length=p.length:=by simp [swp]
theorem yt {p:Q_} {i j:Nat} (o:i<p.length) (h:j<p.length) (k:Nat):nth (swp p i j) k=if k=j then nth p i else if k=i then nth p j else nth p k:=by
 unfold swp;rw [je,je,List.length_set];simp only [o,h,and_true]
theorem zH {p:Q_} {i j:Nat} (o:i<p.length) (h:j<p.length):(p.set j (nth p i)).set i (nth p j)=swp p i j:=by
 refine hZ (by simp [swp]) λk hk=>?_;rw [yt o h,je,je,List.length_set];simp only [o,h,and_true];by_cases h1:k=i
 .subst h1;by_cases u:k=j
  .subst u;simp
  .simp [u]
 .simp [h1]
def vk (n:Nat):Q_:=dU n λk=>(k:Int)
theorem LC (n:Nat):(vk n).length=n:=cC _ _
def ix (n:Nat) (d:Nat->Nat):Nat->Q_
 | 0=>vk n
 | k+1=>swp (ix n d k) (n-1-k) (d k)
theorem lW (n:Nat) (d:Nat->Nat) (k:Nat):(ix n d k).length=n:=by
 induction k with
 | zero=>exact LC n
 | succ k ih=>rw [ix,Eb,ih]
theorem JB {n:Nat} {d:Nat->Nat} (k:Nat) (p:∀j,j<k->d j<n-j) (hk:k<=n-1):∀i,i<n->0<=nth (ix n d k) i/\nth (ix n d k) i<n:=by
 induction k with
 | zero=>intro i o;unfold ix vk;rw [bJ _ o];omega
 | succ k h=>
  have h:=h (λj u=>p j ap) ap;have h1:=p k ap;intro i o;rw [ix,yt (by rw [lW];omega) (by rw [lW];omega)]
  split
  .exact h _ ap
  .split
   .exact h _ ap
   .exact h _ o
def iH (l:Q_) (n i k:Nat):Nat:=(nth l (i+k)%((n-k:Nat):Int)).toNat
theorem vD (l:Q_) {n i k:Nat} (h:k<n):iH l n i k<n-k:=by
 unfold iH;have h1:=Int.emod_nonneg (nth l (i+k)) (show ((n-k:Nat):Int)≠0 by omega);have o:=Int.emod_lt_of_pos (nth l (i+k)) (show (0:Int)<((n-k:Nat):Int) by omega);omega
theorem xZ (l:Q_) {n i k:Nat} (h:k<n):(iH l n i k:Int)=nth l (i+k)%((n-k:Nat):Int):=by
 unfold iH;have h1:=Int.emod_nonneg (nth l (i+k)) (show ((n-k:Nat):Int)≠0 by omega);omega
def gC (l:Q_) (n i:Nat):Q_:=ix n (iH l n i) (n-1)
theorem jO (l:Q_) (n i:Nat):(gC l n i).length=n:=lW _ _ _
theorem Ky (l:Q_) (n i:Nat):∀k,k<n->0<=nth (gC l n i) k/\nth (gC l n i) k<n:=JB _ (λj h=>vD l ap) (Qx _)
theorem Lq (n:Int) (w:R8) (h:1<=n):Calls prog 154 #[RI n] w λe i=>e=.returned (.bool false)/\w=i:=by
 have h1:¬n<1:=ap;go_enter func154,ntmps154;go_wp2;go_ret;exact ⟨cP (by first | rfl | (simp;omega) | (simp;done)),rfl⟩
theorem Dn (A:N_) (l:Q_) (c:Nat) (w:R8) (hA:Rd w A (aA .i64 l)) (hl:l.length<=17592186043904) (hb:∀k,k<l.length->1<=nth l k):Calls prog 133 #[.slice A l.length c,.func (.func 154) #[] #[]] w λe v=>e=.returned (RI (-1))/\w=v:=by
 obtain ⟨n,hn⟩:∃n,l.length=n:=⟨_,rfl⟩;have hw:=λk (hk:k<l.length)=>Lq (nth l k) w (hb k hk);rw [hn] at hl hw |-;obtain ⟨HA,y,x⟩:=af hA hn hw;clear hA hn hw hb;go_enter func133,ntmps133;go_wp2_with fail
 go_loop [5,8] (λ_ i=>∃k:Nat,k<=n/\i=RI k) (λ_ i=>n-(intOf i).toNat)
 .exact ⟨0,QB _,rfl⟩
 case round=>
  obtain ⟨k,hk,rfl⟩:=hrel;by_cases h:k<n
  .obtain ⟨b,o,rfl,p⟩:=HA.o.num (show k<l.length by rw [y.o];exact h);have hw:=x.o k h;have u:=aa hw;clear hw;go_wp2_with fail;refine u.o.mono ?_;rintro e v ⟨rfl,rfl⟩;go_wp2_with fail;go_round
   .exact ⟨k+1,by omega,by go_num⟩
   .simp [intOf];omega
  .obtain rfl:k=n:=ap;go_wp2_with fail;go_ret;exact ⟨rfl,rfl⟩
theorem yT (A:N_) (l:Q_) (c:Nat) (w:R8) (hA:Rd w A (aA .i64 l)) (hl:l.length<=17592186043904) (hb:∀k,k<l.length->1<=nth l k):Calls prog 100 #[.slice A l.length c,.func (.func 154) #[] #[]] w λe h=>e=.returned (.bool false)/\w=h:=by
 have i:=Dn A l c w hA hl hb;have p:=aa i;clear i hA hb;go_enter func100,ntmps100;go_wp2_with fail;refine p.o.mono ?_;rintro e h ⟨rfl,rfl⟩;go_wp2;go_ret;exact ⟨rfl,rfl⟩
theorem Iw (n:Nat) (w:R8) (hn:n<=1048576):Calls prog 136 #[RI n] w λe H=>∃v,e=.returned v/\H.ownsRow w.heap.size 3 1 v n (aA .i64 (vk n))/\aq w H:=by
 go_enter func136,ntmps136;go_wp2_with fail
 go_loopw [3,6] (λv i wr=>∃k:Nat,k<=n/\i=RI k/\wr.ownsRow w.heap.size 3 1 v k (aA .i64 (vk k))/\aq w wr) (λ_ i _=>n-(intOf i).toNat)
 .exact ⟨0,QB _,rfl,QI _ _ _ _,QA _ _⟩
 case round=>
  obtain ⟨k,hk,rfl,h,hb⟩:=hrel;by_cases I:k<n
  .obtain ⟨L,J,rfl,_⟩:=aD h;obtain ⟨p,A⟩:=ae h hb;clear h hb;go_wp2_with (at_builtin;refine aX gq _ rfl (.tmp 9) (.tmp 11) rfl w.heap.size (.slice L k J) k _ rfl p.o [RI (k:Int)] rfl rfl (cH .i64 [_]) ap (by unfold maxLen;omega) A.o.size ?_);intro N O Q x y D;have u:=A.o.trans y;obtain ⟨C,B⟩:=ae x u;clear x y D u;go_wp2_with fail;go_roundw
   case rel=>
    refine ⟨k+1,by omega,by go_num,?_,B.o⟩;have:vk (k+1)=vk k++[(k:Int)]:=iO _ _;rw [this,db];exact C.o
   case measure=>simp [intOf];omega
  .obtain rfl:k=n:=ap;obtain ⟨p,A⟩:=ae h hb;clear h hb;go_wp2_with fail;go_ret;exact ⟨_,rfl,p.o,A.o⟩
theorem Lp (b c i:Nat) (A:N_) (l:Q_) (B:N_) (bs:Q_) (d:Nat) (w:R8) (h:dq w b A c l i) (hi:i+bs.length<=l.length) (hl:l.length<=1048576) (hu:U64 l) (hB:Rd w B (aA .i64 bs)) (a0:∀a,B=some a->a.block≠b) (J:∀k,k<bs.length->1<=nth bs k/\nth bs k<=1048576):Calls prog 135 #[(au b),.slice B bs.length d] w λe O=>∃v,e=.returned (.tuple #[v,.bool true])/\O.ownsRow w.heap.size 3 1 v bs.length (aA .i64 (dU bs.length λk=>nth l (i+k)%nth bs k))/\dq O b A c l (i+bs.length)/\Keep (λj=>j=b) w O:=by
 have U:=sM b c i A l w h ap ap;have Q:=λn=>yT B bs d (w.drewN n) (hB.drewN n) ap (λk hk=>(J k hk).1);have C:=λj m O (h:dq O b A c l j) (hj:j<l.length)=>zI b c j m A l O h hj ap hu;obtain ⟨n,hn⟩:∃n,bs.length=n:=⟨_,rfl⟩;rw [hn] at hi Q J |-;obtain ⟨N,hN⟩:∃N,l.length=N:=⟨_,rfl⟩;rw [hN] at hi hl U C;have ad:=h.lt;obtain ⟨ab,a9,a8,H,HB,Hn,aR,aM⟩:=ak U Q C h hB hn J a0;clear U Q C h hB hn J hu a0 hN;have hq:decide (((N-i:Nat):Int)<(n:Int))=false:=by simp;omega
 have b2:decide (N-i<n)=false:=by simp;omega
 go_enter func135,ntmps135;go_wp2_with fail;refine ab.o.mono ?_;rintro e O ⟨rfl,a,rfl⟩;go_wp2_with fail;refine (a9.o a).mono ?_;rintro e O ⟨rfl,rfl⟩;clear hq b2;go_wp2_with fail
 go_loopw [6,26] (λv x wr=>∃k:Nat,k<=n/\x=RI k/\wr.ownsRow w.heap.size 3 1 v k (aA .i64 (dU k λk=>nth l (i+k)%nth bs k))/\dq wr b A c l (i+k)/\Keep (λj=>j=b) w wr) (λ_ x _=>n-(intOf x).toNat)
 .exact ⟨0,QB _,rfl,QI _ _ _ _,H.o.drewN a,(Keep.refl _ _).drewN a⟩
 case round=>
  obtain ⟨k,hk,rfl,u,hS,V⟩:=hrel;by_cases Z:k<n
  .obtain ⟨Al,cl,rfl,_⟩:=aD u;have a4:=V.rd HB.o (λa ha e=>aM.o a ha e);obtain ⟨bB,oB,rfl,p⟩:=a4.num (show k<bs.length by rw [Hn.o];exact Z);have b1:=aR.o k Z;obtain ⟨m,hm⟩:∃m:Nat,nth bs k=(m:Int):=⟨(nth bs k).toNat,by omega⟩;rw [hm] at p b1;have C:=a8.o (i+k) m wr hS ap ap ap;obtain ⟨y,hy⟩:∃y,nth l (i+k)%(m:Int)=y:=⟨_,rfl⟩;rw [hy] at C;have b4:=V.size;have a6:=u.lt;obtain ⟨D,HK,Hm,a5,Hy,av⟩:=ai u V hm C hy a6;clear u V hS a4 hm C hy a6;go_wp2_with fail;refine a5.o.mono ?_;rintro e w1 ⟨rfl,a3,L⟩;have I:=L.own D.o (λx hx e=>by have:=(av.o x hx).1;omega);have b3:=L.size;obtain ⟨ao,aG,T⟩:=af a3 L I;clear a3 L I;go_wp2_with (at_builtin;refine aX gq _ rfl (.tmp 36) (.tmp 38) rfl w.heap.size (.slice Al k cl) k _ rfl T.o [RI y] rfl rfl (cH .i64 [_]) ap (by unfold maxLen;omega) ap ?_);intro g6 c6 w6 Y R b0;obtain ⟨aP,a7⟩:=ae Y R;have a1:=(HK.o.trans aG.o).below2 R;have a2:=aa a1;clear Y R b0 a1;go_wp2_with fail;go_roundw
   case rel=>
    refine ⟨k+1,by omega,by go_num,?_,?_,a2.o⟩
    .rw [iO,db,Hm.o,Hy.o];exact aP.o
    .exact ⟨(a7.o.block b ad).trans ao.o.blk,a2.o.rd H.o.rd (λa ha e=>H.o.ne a ha e),H.o.ne⟩
   case measure=>simp [intOf];omega
  .obtain rfl:k=n:=ap;obtain ⟨D,HK,HS⟩:=af u V hS;clear u V hS;go_wp2_with fail;go_ret2;exact ⟨_,rfl,D.o,HS.o,HK.o⟩
theorem kv {w:R8} {p q:Addr} {x v:Value} (h:w.cell? q=some v):∃v',(w.setCell p x).cell? q=some v':=by
 by_cases e:p=q
 .subst e;exact ⟨x,World.cell?_setCell_same w p x h⟩
 .exact ⟨v,(World.cell?_setCell_other w p q x e).trans h⟩
theorem gP {w:R8} {base size n c m:Nat} {e:R9} {A:N_} {xs:R7} (h:w.ownsRow base e size (.slice A n c) m xs):∀a,A=some a->base<=a.block/\a.block<w.heap.size:=λa p=>by
 subst p;rcases h.2 with ⟨hn,_⟩ | ⟨g,cap,o,i,_⟩
 .cases hn
 .simp only [Rv,Option.some.injEq] at i;obtain ⟨rfl,_,_⟩:=i;exact h.lt g rfl
theorem Jl (P g n c base i j:Nat) (p:Q_) (w:R8) (hP:w.heap[P]?=some (.cells #[.slice (some (ar g 0)) n c] 22 (0,0))) (h:w.ownsRow base 3 1 (.slice (some (ar g 0)) n c) n (aA .i64 p)) (T:i<n) (V:j<n) (hn:n<=1048576):Calls prog 137 #[RI i,RI j,(au P)] w λe B=>e=.returned (.tuple #[])/\B.ownsRow base 3 1 (.slice (some (ar g 0)) n c) n (aA .i64 (swp p i j))/\Keep (λk=>k=g) w B:=by
 have y:=lw h;have O:=cG h T;have D:=cG h V;have Z:=h.frozenAt i;have f2:=h.frozenAt j;have v:=zH (p:=p) (i:=i) (j:=j) ap ap;obtain ⟨A,Y⟩:=bx1 hP;have R:(i:Int)<n:=ap;have N:(j:Int)<n:=ap;have u:g≠P:=λe=>ay hP (by decide) h (by rw [<-e];rfl);have L:=(World.cell?_setCell_other w (ar g i) (ar P 0) (RI (nth p j)) (by simp [u])).trans A;have C:=(World.cell?_setCell_other w (ar g j) (ar P 0) (RI (nth p i)) (by simp [u])).trans A;obtain ⟨v1,H⟩:=kv (w:=w) (p:=(ar g i)) (x:=RI (nth p j)) (q:=(ar g j)) D;obtain ⟨v2,I⟩:=kv (w:=w) (p:=(ar g j)) (x:=RI (nth p i)) (q:=(ar g i)) O;obtain ⟨Q,U,J⟩:=af h y v;clear h y hP v;go_enter func137,ntmps137;go_wp2_with fail
 go_region
 all_goals go_wp2_with fail
 all_goals
  go_end0
  refine ⟨rfl,?_,?_⟩
 .exact bZ (dF (dF Q.o i _) j _) 1
 .exact (Keep.setCell (S:=λk=>k=g) (Keep.setCell (S:=λk=>k=g) (Keep.refl _ w) (ar g i) (.inr rfl) _) (ar g j) (.inr rfl) _).drew
theorem zM (n b c i:Nat) (A:N_) (l:Q_) (w:R8) (h:dq w b A c l i) (hn:1<=n) (b3:n<=1048576) (hi:i+(n-1)<=l.length) (hl:l.length<=1048576) (hu:U64 l):Calls prog 110 #[RI n,(au b)] w λe O=>∃v,e=.returned (.tuple #[v,.bool true])/\O.ownsRow w.heap.size 3 1 v n (aA .i64 (gC l n i))/\dq O b A c l (i+(n-1))/\Keep (λj=>j=b) w O:=by
 obtain ⟨m,hm⟩:∃m,n-1=m:=⟨_,rfl⟩;rw [hm] at hi |-;have b4:gC l n i=ix n (iH l n i) m:=by unfold gC;rw [hm]
 rw [b4];have c9:m<n:=ap;have bX:n<=m+1:=ap;clear hm b4;have Q:=λB d O (h:dq O b A c l i) (hB:Rd O B (aA .i64 (dU m λk=>((n-k:Nat):Int)))) I=>Lp b c i A l B (dU m λk=>((n-k:Nat):Int)) d O h (by rw [cC];exact hi) hl hu hB I (λk hk=>by rw [cC] at hk;rw [bJ _ hk];omega)
 simp only [cC] at Q;have he:(dU m λk=>nth l (i+k)%nth (dU m λk=>((n-k:Nat):Int)) k)=dU m λk=>(iH l n i k:Int):=fB λk hk=>by rw [bJ _ hk,xZ l ap]
 rw [he] at Q;have aP:=λO=>Iw n O b3;have cb:=h.lt;obtain ⟨bN,a9,H⟩:=af Q aP h;clear Q he aP h hu;go_enter func110,ntmps110;go_wp2_with fail
 go_loopw [6,7] (λv x wr=>∃k:Nat,k<=m/\x=RI ((n:Int)-k)/\wr.ownsRow w.heap.size 3 1 v k (aA .i64 (dU k λk=>((n-k:Nat):Int)))/\aq w wr) (λ_ x _=>(intOf x).toNat)
 .exact ⟨0,QB _,by go_num,QI _ _ _ _,QA _ _⟩
 case round=>
  obtain ⟨k,hk,rfl,u,hb⟩:=hrel;by_cases Y:k<m
  .obtain ⟨Al,cl,rfl,_⟩:=aD u;obtain ⟨D,Hb⟩:=ae u hb;clear u hb;go_wp2_with (at_builtin;refine aX gq _ rfl (.tmp 29) (.tmp 31) rfl w.heap.size (.slice Al k cl) k _ rfl D.o [RI ((n:Int)-k)] rfl rfl (cH .i64 [_]) ap (by unfold maxLen;omega) Hb.o.size ?_);intro g6 c6 w6 ao aG bG;have T:=Hb.o.trans aG;obtain ⟨bz,be⟩:=ae ao T;clear ao aG bG T;go_wp2_with fail;go_roundw
   case rel=>
    refine ⟨k+1,by omega,by go_num,?_,be.o⟩;rw [iO,db,show ((n-k:Nat):Int)=(n:Int)-k by omega];exact bz.o
   case measure=>simp [intOf];omega
  .obtain rfl:m=k:=ap;obtain ⟨Al,cl,rfl,_⟩:=aD u
   have I:∀a,Al=some a->a.block≠b:=λa ha e=>by
    subst ha;have:=gP u a rfl;omega
   have b5:=bN.o Al cl wr (H.o.below hb) (Rd.own u) I;obtain ⟨bw,Hb⟩:=ae b5 hb;clear u hb b5 I;obtain ⟨wq,rfl⟩:∃wq:R8,wq=wr:=⟨_,rfl⟩;go_wp2_with fail;refine bw.o.mono ?_;rintro e w1 ⟨v1,rfl,N,b2,U⟩;obtain ⟨A1,c1,rfl,_⟩:=aD N;have a3:=gP N;have a7:=Rd.own N;have cc:=U.size;have Z:=(Keep.below (S:=λj=>j=b) Hb.o).trans U;have c8:=Z.size;obtain ⟨b6,b7,bb,b8⟩:=ag b2 Z a7 a3;clear b2 U a7 N a3 Z;go_wp2_with fail;refine (a9.o w1).mono ?_;rintro e w2 ⟨v2,rfl,L,a1⟩;obtain ⟨g,c2,rfl,_⟩:=L.form hn;have b9:=a1.size;have c7:=L.lt g rfl;have hP:=Qy w2 (.cells #[.slice (some (ar g 0)) n c2] 22);have V:=a1.alloc b9 (.cells #[.slice (some (ar g 0)) n c2] 22);have b0:=L.alloc (.cells #[.slice (some (ar g 0)) n c2] 22);have ad:=bb.o.below V;obtain ⟨HP,av,a8,aR⟩:=ag hP V b0 ad;clear hP V b0 ad L a1;go_wp2_with fail;obtain ⟨R,C⟩:∃R,R=w2.alloc (.cells #[.slice (some (ar g 0)) n c2] 22):=⟨_,rfl⟩;have bV:w2.heap.size<R.heap.size:=by rw [C];simp
   have bh:an (R.heap[w2.heap.size]?=some (.cells #[.slice (some (ar g 0)) n c2] 22 (0,0))):=aa (by rw [C];exact HP.o);have aM:an (aq w1 R):=aa (by rw [C];exact av.o);have bo:an (R.ownsRow w1.heap.size 3 1 (.slice (some (ar g 0)) n c2) n (aA .i64 (vk n))):=aa (by rw [C];exact a8.o);have bO:an (Rd R A1 (aA .i64 (dU m λk=>(iH l n i k:Int)))):=aa (by rw [C];exact aR.o);rw [<-C];clear HP av a8 aR C
   go_loopw [46] (λx wr=>∃k:Nat,k<=m/\x=RI k/\wr.heap[w2.heap.size]?=some (.cells #[.slice (some (ar g 0)) n c2] 22 (0,0))/\wr.ownsRow w1.heap.size 3 1 (.slice (some (ar g 0)) n c2) n (aA .i64 (ix n (iH l n i) k))/\Keep (λj=>j=g) R wr) (λx _=>m-(intOf x).toNat)
   .exact ⟨0,QB _,rfl,bh.out,bo.out,Keep.refl _ _⟩
   case round=>
    obtain ⟨k,hk,rfl,hP,u,hK⟩:=hrel;by_cases Y:k<m
    .have hr:=hK.rd bO.out (λa ha e=>by have:=(b8.o a ha).2;omega);obtain ⟨bA,oA,rfl,p⟩:=hr.num (show k<_ by rw [cC];exact Y);rw [bJ _ Y] at p;have bi:=vD l (n:=n) (i:=i) (k:=k) ap;have y:=Jl w2.heap.size g n c2 w1.heap.size (n-1-k) (iH l n i k) (ix n (iH l n i) k) wr hP u ap ap b3;rw [show ((n-1-k:Nat):Int)=(n:Int)-1-k by omega] at y;have bl:=Qw hP;obtain ⟨a4,HP,HK⟩:=af y hP hK;clear y hP u hK hr;obtain ⟨dk,J⟩:∃dk,iH l n i k=dk:=⟨_,rfl⟩;rw [J] at p;have y:=a4.o;rw [J] at y bi;obtain ⟨ab,bf⟩:=ae y J;clear a4 y J;go_wp2_with fail;refine ab.o.mono ?_;rintro e w5 ⟨rfl,a5,a0⟩;have a6:=(a0.block _ bl ap).trans HP.o;obtain ⟨bM,bv,bI⟩:=af a6 a5 (HK.o.trans a0);clear a6 a5 a0 p;go_wp2_with fail;go_roundw
     case rel=>
      refine ⟨k+1,by omega,by go_num,bM.o,?_,bI.o⟩;rw [ix,bf.o];exact bv.o
     case measure=>simp [intOf];omega
    .obtain rfl:m=k:=ap;obtain ⟨x0,xf⟩:=bx1 hP;have a2:Keep (λj=>j=b) w wr:=b7.o.below2 ((aM.out.mono ap).trans (hK.toBelow ap (λj hj=>ap)));have b1:dq wr b A c l (i+m):=⟨(hK.block b ap ap).trans ((aM.out.block b ap).trans b6.o.blk),a2.rd H.o.rd (λa ha e=>H.o.ne a ha e),H.o.ne⟩;obtain ⟨bn,bs,D⟩:=af a2 b1 (aF (base':=w.heap.size) u ap);clear a2 b1 u hK hP;go_wp2_with fail;go_ret2;exact ⟨_,rfl,D.o,bs.o,bn.o⟩
theorem BG:dN prog 203 22 (RJ) 1 24:=⟨underlying203,info_parts (by kernel_rfl),rfl,by decide⟩
def Ob (S n b c i k base:Nat) (A:N_) (l:Q_) (u x y:Value) (vs:R7) (w:R8) (e:Ending) (h:R8):Prop:=
 e=.returned (.bool true)/\∃A1 c1 p o,h.heap[S]?=some (.cells #[u,x,y,.slice p (k+1) o] 205 (0,0))/\
  h.ownsRow base 22 1 (.slice p (k+1) o) (k+1) (vs++[.slice A1 n c1])/\n<=c1/\h.ownsRow base 3 1 (.slice A1 n c1) n (aA .i64 (gC l n i))/\
  h.heap[b]?=some (.cells #[.slice A l.length c,RI ((i+(n-1):Nat):Int)] 239 (0,0))/\
  (∀base' m v xs,w.ownsRow base' 3 1 v m xs->h.ownsRow base' 3 1 v m xs)/\Keep (λj=>j=b\/j=S\/base<=j) w h
theorem IE (N P1 P2 S n b c i k base:Nat) (A:N_) (l:Q_) (Ao:N_) (co:Nat) (x0 x1 x2:Value) (vs:R7) (w:R8) (hN:w.heap[N]?=some (.cells #[RI n] 3 (0,0))) (aM:w.heap[P1]?=some (.cells #[(au b)] 206 (0,0))) (L:w.heap[P2]?=some (.cells #[(au S)] 154 (0,0))) (hS:w.heap[S]?=some (.cells #[x0,x1,x2,.slice Ao k co] 205 (0,0))) (h:dq w b A c l i) (a2:w.ownsRow base 22 1 (.slice Ao k co) k vs) (a0:base<=w.heap.size) (hk:k<=1048576) (hn:1<=n) (bw:n<=1048576) (hi:i+(n-1)<=l.length) (hl:l.length<=1048576) (hu:U64 l):Calls prog 109 #[(au N),(au P1),(au P2)] w (Ob S n b c i k base A l x0 x1 x2 vs w):=by
 have b2:=zM n b c i A l w h hn bw hi hl hu
 have aG:b≠S:=λe=>by
  have h1:=h.blk;rw [e,hS] at h1;simp at h1
 have aR:b≠P2:=λe=>by
  have h1:=h.blk;rw [e,L] at h1;simp at h1
 have a9:∀j,(Value.slice Ao k co).ownBlock=some j->j≠b:=λj I e=>ay h.blk (by decide) a2 (by rw [<-e,I]);have R:∀base' m v xs,w.ownsRow base' 3 1 v m xs->∀j,v.ownBlock=some j->j≠b:=λbase' m v xs hr j I e=>ay h.blk (by decide) hr (by rw [<-e,I]);obtain ⟨p0,pf⟩:=bx1 hN;obtain ⟨q0,qf⟩:=bx1 aM;have b6:=Qw L;have bb:=Qw hS;obtain ⟨bf,b8,HS,bn,bi,a7,ao,be⟩:=ak b2 L hS a2 a9 R aG aR;clear b2 L hS a2 a9 R aG aR hN aM h hu;go_enter func109,ntmps109;go_wp2_with fail;refine bf.o.mono ?_;rintro e w1 ⟨v1,rfl,a3,b0,y⟩;obtain ⟨A1,c1,rfl,b3⟩:=aD a3;have Z:=(y.block P2 b6 (λe=>be.o e.symm)).trans b8.o;have Y:=(y.block S bb (λe=>ao.o e.symm)).trans HS.o;have U:=y.own bn.o (λj I e=>bi.o j I e);have bM:=y.size;obtain ⟨t0,tf⟩:=bx1 Z;obtain ⟨⟨y0,y1,y2,y3⟩,yf⟩:=bx4 Y;obtain ⟨bs,b5,D,bv,b9,u,bA⟩:=aj a3 b0 y Z Y U b3;clear a3 b0 y Z Y U b3 p0 pf q0 qf;go_wp2_with fail;have B:(λw':R8=>w'.cell? (ar P2 0)=some ((au S))/\w'.cell? (ar S 3)=some (.slice Ao k co)) w1.drew:=⟨t0,y3⟩;refine XA.g 8 (λw':R8=>w'.cell? (ar P2 0)=some ((au S))/\w'.cell? (ar S 3)=some (.slice Ao k co)) ?_;refine XA.t ?_ [0,1,2,3,4,5] B ?_;refine XA.o 6 (λK hK=>?_);go_simp;refine hK.out _ _ ⟨aJ B.1 _,aJ B.2 _⟩ (λB=>?_);clear hK K;refine XA.o 7 (λK hK=>?_);refine bW BG (.tmp 16) (.tmp 18) rfl rfl base (.slice Ao k co) k vs rfl (bZ (u.o.alloc _) 1) (some (ar w1.heap.size 0)) 1 1 [.slice A1 n c1] rfl (dV w1 _ _ _ rfl) rfl (by simp [Value.oneCell']) ap (by unfold maxLen;omega) (by simp;omega) ?_;intro A7 c7 O ab b1 x _;have x:=rv x;have J:=eh (o:=.cells #[.slice A1 n c1] 22 (0,0)) b9.o (by decide) u.o x;have av:=eh (o:=.cells #[.slice A1 n c1] 22 (0,0)) bv.o (by decide) u.o x;have T:=eh (o:=.cells #[.slice A1 n c1] 22 (0,0)) b5.o.blk (by decide) u.o x;have i0:=Qz O _ 0 _ _ _ av;have i3:=Qz O _ 3 _ _ _ J;have bI:=QG O _ 3 _ _ J;obtain ⟨ad,a4,b4,C,aP⟩:=ah ab J x b1 T;clear ab J x b1 av T;dsimp only;refine hK.out _ _ ⟨i0,i3⟩ (λB=>?_);clear hK K B;refine XA.e ?_;simp only [Re,Rf];go_wp2_with fail;have a5:=RG O S 3 _ _ (.slice A7 (k+1) c7) a4.o;have p:Keep (λj=>j=S) O (O.setCell (ar S 3) (.slice A7 (k+1) c7)):=Keep.setCell (S:=λj=>j=S) (Keep.refl _ _) (ar S 3) (.inr rfl) _;have a6:=p.own ad.o (λj I e=>ay a4.o (by decide) ad.o (by rw [I,e]));have a8:=(p.block b (by have:=Qw aP.o;omega) (λe=>ao.o e)).trans aP.o;have V:∀base' m v xs,w1.ownsRow base' 3 1 v m xs->(O.setCell (ar S 3) (.slice A7 (k+1) c7)).ownsRow base' 3 1 v m xs:=λbase' m v xs h=>AG h u.o b4.o a4.o (by decide) (by decide)
 have H:Keep (λj=>j=b\/j=S\/base<=j) w (O.setCell (ar S 3) (.slice A7 (k+1) c7)):=by
  refine ⟨p.os.trans (C.o.os.trans D.o.os),p.tape.trans (C.o.tape.trans D.o.tape),p.output.trans (C.o.output.trans D.o.output),?_,λj I hn=>?_⟩
  .have:=C.o.size;have:=p.size;simp at *;omega
  .have bh:¬j=b:=λe=>hn (.inl e);have bo:¬j=S:=λe=>hn (.inr (.inl e));have bG:j<base:=by rcases QO j base with h | h;exact h;exact absurd (.inr (.inr h)) hn
   have h1:=D.o.block j I bh;have h2:=C.o.block j bG;have h3:=p.block j (by have:=C.o.size;simp at this;omega) bo;refine h3.trans (h2.trans (Eq.trans ?_ h1));exact QL w1 _ j ap
 obtain ⟨bl,bz,b7,Q,a1⟩:=ah a5 a6 a8 V H;clear a5 p a6 a8 V H;go_ret;refine ⟨rfl,A1,c1,A7,c7,bl.o,bz.o,bA.o,?_,b7.o,λbase' m v xs hr=>Q.o _ _ _ _ (D.o.own hr (λj I e=>a7.o _ _ _ _ hr j I e)),a1.o⟩;exact Q.o _ _ _ _ (aF bs.o a0)
def epN (n batch steps:Nat):Nat:=di steps (n/batch)
def gH (w:R8) (S n batch steps:Nat) (l:Q_):Prop:=
 ∃h u o v vs,w.heap[S]?=some (.cells #[RI batch,RI steps,.slice h (n/batch) u,.slice o (epN n batch steps) v] 205 (0,0))/\
  Rd w h (gu (n-n%batch) batch (n/batch))/\Rd w o vs/\vs.length=epN n batch steps/\
  ∀j,j<epN n batch steps->∃p i,vs[j]?=some (.slice p n i)/\n<=i/\Rd w p (aA .i64 (gC l n (j*(n-1))))
theorem Jd {B:Nat} {u v:R8} {S n batch steps:Nat} {l:Q_} (h:gH (gE B u) S n batch steps l) (i:Agr B u v):gH v S n batch steps l:=by
 obtain ⟨p,x,O,L,vs,h1,D,N,H,J⟩:=h
 exact ⟨p,x,O,L,vs,tZ h1 i,mH D i,mH N i,H,λj C=>by
  obtain ⟨Q,I,o,y,A⟩:=J j C
  exact ⟨Q,I,o,y,mH A i⟩⟩
theorem gH.below {w i:R8} {S n batch steps:Nat} {l:Q_} (h:gH w S n batch steps l) (hb:aq w i):gH i S n batch steps l:=by
 obtain ⟨p,u,J,H,vs,h1,A,I,B,D⟩:=h
 exact ⟨p,u,J,H,vs,(hb.block _ (Qw h1)).trans h1,A.below hb,I.below hb,B,λj y=>by
  obtain ⟨L,C,o,v,x⟩:=D j y
  exact ⟨L,C,o,v,x.below hb⟩⟩
def Om (h wr:R8) (S n b c k:Nat) (A:N_) (l:Q_) (v x y:Value):Prop:=
 ∃p o vs,wr.heap[S]?=some (.cells #[v,x,y,.slice p k o] 205 (0,0))/\wr.ownsRow h.heap.size 22 1 (.slice p k o) k vs/\
  (∀j,j<k->∃u i,vs[j]?=some (.slice u n i)/\n<=i/\wr.ownsRow h.heap.size 3 1 (.slice u n i) n (aA .i64 (gC l n (j*(n-1)))))/\
  wr.heap[b]?=some (.cells #[.slice A l.length c,RI ((k*(n-1):Nat):Int)] 239 (0,0))/\Keep (λj=>j=b\/j=S) h wr
theorem yz (A:N_) (l:Q_) (c n batch steps:Nat) (w:R8) (hA:Rd w A (aA .u64 l)) (hl:l.length<=1048576) (hu:U64 l) (hb:1<=batch) (cx:batch<=n) (hn:n<=1048576) (aG:steps<=1048576) (hd:epN n batch steps*(n-1)<=l.length):Calls prog 69 #[RI n,RI batch,RI steps,.slice A l.length c] w λe w'=>∃S,e=.returned (.tuple #[(au S),RI 0])/\gH (gE w.heap.size w') S n batch steps l/\w.heap.size<=S/\aq w w':=by
 have e9:¬((n:Int)<1):=ap;have e4:¬((1048576:Int)<n):=ap;have e0:¬((steps:Int)<0):=ap;have e1:¬((1048576:Int)<steps):=ap;have ea:¬((batch:Int)<1):=ap;have eb:¬((n:Int)<batch):=ap;obtain ⟨N,hN⟩:∃N,l.length=N:=⟨_,rfl⟩;have a6:=λw'=>ng (n-n%batch) batch w' ap hb ap;rw [DQ n batch hb cx] at a6;obtain ⟨nb,a4⟩:∃nb,n/batch=nb:=⟨_,rfl⟩;have cr:1<=nb:=by rw [<-a4];exact Nat.div_pos cx hb
 have ds:nb<=n:=by rw [<-a4];exact Nat.div_le_self _ _
 obtain ⟨r,hr⟩:∃r,n%batch=r:=⟨_,rfl⟩;have dv:r<=n:=by rw [<-hr];exact Nat.mod_le _ _
 rw [hr,a4] at a6;have e8:(n:Int).tmod (batch:Int)=(r:Int):=by rw [<-hr];rfl
 have dw:(n:Int)%(batch:Int)=(r:Int):=by rw [<-hr];rfl
 have e7:IntKind.i64.wrap (r:Int)=(r:Int):=QC _ ap;have dG:IntKind.i64.wrap ((n:Int)-(r:Int))=((n-r:Nat):Int):=by rw [QC _ ap];omega
 have e2:¬(batch=0):=ap;obtain ⟨HA,Hu,Hd,HN,cv,bA,Hr⟩:=aj hA hu hd hN a6 a4 hr;rw [hN] at hl |-;clear hA hu hd hN a6 a4 hr;go_enter func69,ntmps69;go_wp2_with fail
 go_cut [10] (λv wx=>∃P2 S I J,v=(au P2)/\wx.heap[P2]?=some (.cells #[(au S)] 154 (0,0))/\wx.heap[S]?=some (.cells #[RI batch,RI steps,.slice I nb J,RJ] 205 (0,0))/\
  wx.ownsRow (w.heap.size+1) 69 2 (.slice I nb J) nb (gu (n-r) batch nb)/\w.heap.size+1<=P2/\w.heap.size+1<=S/\Below (w.heap.size+1) (w.alloc (.cells #[RI n] 3)) wx)
 case first=>
  have da:=Qz (w.alloc (.cells #[RI n] 3)) w.heap.size 0 _ _ _ (Qy w _);have i:(λw':R8=>w'.cell? (ar w.heap.size 0)=some (RI n)) (w.alloc (.cells #[RI n] 3)).drew:=da;refine kK 12 (λw':R8=>w'.cell? (ar w.heap.size 0)=some (RI n)) (by kernel_rfl) ?_;refine wX 0 i ?_;refine wX 1 i ?_;refine wX 2 i ?_;refine wX 3 i ?_;refine wX 4 i ?_;refine wX 5 i ?_;refine wX 6 i ?_;refine wX 7 i ?_;simp only [QS,QT,QU,Act.put,QV,QX,QY];refine cJ (rs:=[8,11]) (by kernel_rfl) (by simp) ?_;refine aT.cons rfl (λK p=>?_) (aT.cons rfl (λK p=>?_) aT.nil)
  .simp only [QS,QT,QU];go_simp;refine (cv.o _).mono ?_;rintro e B ⟨v,rfl,ho,u⟩;obtain ⟨I,J,rfl,_⟩:=aD ho;have a9:=aw u i;have u:Below _ _ _:=u;simp only [Ru,QP] at ho u;obtain ⟨Ho,T⟩:=ae ho u;clear ho u i;dsimp only;refine p.out _ _ a9 (λi=>?_);clear p K a9;refine wX 9 i ?_;simp only [QS,QT,QU,Act.put,QV,QX,QY];refine cJ (rs:=[10,11]) (by kernel_rfl) (by simp) ?_;refine aT.cons rfl (λK p=>?_) (aT.cons rfl (λK p=>?_) aT.nil)
   .simp only [QS,QT,QU];go_simp;refine p.out _ _ (aJ i _) (λi=>?_);clear p K;refine cJ (rs:=[11]) (by kernel_rfl) (by simp) ?_;refine aT.cons rfl (λK p=>?_) aT.nil;simp only [QS,QT,QU];go_simp;refine p.out _ _ (aJ i _) (λi=>?_);clear p K i;refine fw (by rfl) (by kernel_rfl) ?_;simp only [Re,Rf];go_wp2_with fail;go_meet;have a7:=T.o.size;simp at a7;refine ⟨B.heap.size+1,B.heap.size,I,J,rfl,?_,?_,(Ho.o.alloc _).alloc _,by omega,by omega,?_⟩
    .have:=Qy (B.alloc (.cells #[RI batch,RI steps,.slice I nb J,RJ] 205)) (.cells #[(au B.heap.size)] 154);simpa using this
    .exact (QL _ _ _ (by simp)).trans (Qy B _)
    .exact ((((QA _ _).drew).trans T.o).alloc ap _).alloc (by simp;omega) _
   .simp only [QS,QT,QU];go_simp;refine p.out _ _ (aJ i _) (λi=>?_);clear p K;refine cJ (rs:=[10]) (by kernel_rfl) (by simp) ?_;refine aT.cons rfl (λK p=>?_) aT.nil;simp only [QS,QT,QU];go_simp;refine p.out _ _ (aJ i _) (λi=>?_);clear p K i;refine fw (by rfl) (by kernel_rfl) ?_;simp only [Re,Rf];go_wp2_with fail;go_meet;have a7:=T.o.size;simp at a7;refine ⟨B.heap.size,B.heap.size+1,I,J,rfl,?_,?_,(Ho.o.alloc _).alloc _,by omega,by omega,?_⟩
    .exact (QL _ _ _ (by simp)).trans (Qy B _)
    .have:=Qy (B.alloc (.cells #[(au (B.heap.size+1))] 154)) (.cells #[RI batch,RI steps,.slice I nb J,RJ] 205);simpa using this
    .exact ((((QA _ _).drew).trans T.o).alloc ap _).alloc (by simp;omega) _
  .simp only [QS,QT,QU];go_simp;refine p.out _ _ (aJ i _) (λi=>?_);clear p K;refine cJ (rs:=[8]) (by kernel_rfl) (by simp) ?_;refine aT.cons rfl (λK p=>?_) aT.nil;simp only [QS,QT,QU];go_simp;refine (cv.o _).mono ?_;rintro e B ⟨v,rfl,ho,u⟩;have C:B.heap[w.heap.size+1]?=some (.cells #[.pointer none] 154 (0,0)):=(u.block (w.heap.size+1) (by simp)).trans (by rw [<-show (w.alloc (.cells #[RI n] 3)).heap.size=w.heap.size+1 by simp];exact Qy _ _);obtain ⟨t0,tf⟩:=bx1 C;have cM:=Qw C;have a1:=aa C;clear C;obtain ⟨I,J,rfl,_⟩:=aD ho;have a9:=aw u i;have u:Below _ _ _:=u;simp only [Ru,QP] at ho u;obtain ⟨Ho,T⟩:=ae ho u;clear ho u i;dsimp only;refine p.out _ _ a9 (λi=>?_);clear p K a9;refine wX 9 i ?_;simp only [QS,QT,QU,Act.put,QV,QX,QY];refine cJ (rs:=[10]) (by kernel_rfl) (by simp) ?_;refine aT.cons rfl (λK p=>?_) aT.nil;simp only [QS,QT,QU];go_simp;refine p.out _ _ (aJ i _) (λi=>?_);clear p K i;refine fw (by rfl) (by kernel_rfl) ?_;simp only [Re,Rf];go_wp2_with fail;go_meet;have a7:=T.o.size;simp at a7;have hk:Keep (λj=>j=w.heap.size+1) B (B.setCell (ar (w.heap.size+1) 0) ((au B.heap.size))):=Keep.setCell (S:=λj=>j=w.heap.size+1) (Keep.refl _ _) (ar (w.heap.size+1) 0) (.inr rfl) _;have h0:Below (w.heap.size+1) (w.alloc (.cells #[RI n] 3)) B:=((QA _ _).alloc (by simp) _).drew.trans (T.o.mono ap);refine ⟨w.heap.size+1,B.heap.size,I,J,rfl,?_,?_,?_,by omega,by omega,?_⟩
   .exact (QL _ _ _ (by simpa using cM)).trans (RG B (w.heap.size+1) 0 _ _ _ a1.o)
   .have:=Qy (B.setCell (ar (w.heap.size+1) 0) ((au B.heap.size))) (.cells #[RI batch,RI steps,.slice I nb J,RJ] 205)
    rwa [show (B.setCell (ar (w.heap.size+1) 0) ((au B.heap.size))).heap.size=B.heap.size by simp] at this
   .exact aF ((hk.own Ho.o (λj L e=>ay a1.o (by decide) Ho.o (by rw [L,e]))).alloc _) ap
   .exact (h0.trans (hk.toBelow ap (λj L=>ap))).alloc (by simp;omega) _
 case rest=>
  obtain ⟨P2,S,I,J,rfl,C,hS,c9,e6,e5,bl⟩:=hcut;have bz:aq w wc:=((QA _ w).alloc (Qx _) _).trans (bl.mono ap);have c6:=(bl.block w.heap.size ap).trans (Qy w (.cells #[RI n] 3));have bs:=Mc A l c wc (HA.o.below bz) (by have:=HN.o;omega);rw [HN.o] at bs;obtain ⟨a1,HS,d3,bo,cl,cO⟩:=ai C hS c9 bz c6 bs;clear C hS c9 bz c6 bs bl;go_wp2_with fail;refine cO.o.mono ?_;rintro e w3 ⟨b,A3,c3,rfl,b4,cn,d7,O⟩;have aM:=(O.block _ (Qw a1.o)).trans a1.o;have ao:=(O.block _ (Qw HS.o)).trans HS.o;have bN:=(O.block _ (Qw cl.o)).trans cl.o;have b8:=az d3.o O;have b1:=bo.o.trans (O.mono bo.o.size);have dT:=O.size;obtain ⟨t0,tf⟩:=bx1 aM;obtain ⟨⟨y0,y1,y2,y3⟩,yf⟩:=bx4 ao;have l1:=Qw aM;have l2:=Qw ao;obtain ⟨c8,cc,bw,aR,bf,b5,d9⟩:=aj aM ao bN b8 b1 b4 cn;clear aM ao bN b8 b1 b4 cn O;go_wp2_with fail;have he:epN n batch steps=di steps nb:=by unfold epN;rw [bA.o]
  have d8:=fE steps nb;have hd:=Hd.o;rw [he] at hd;rw [HN.o] at hd;obtain ⟨E,hE⟩:∃E,di steps nb=E:=⟨_,rfl⟩;rw [hE] at he d8 hd;have bn:=sw steps nb (w3.alloc (.cells #[(au b)] 206)) aG cr ap;rw [hE] at bn;obtain ⟨He,dp,bI⟩:=af he hd bn;clear he hd bn hE;refine bI.o.mono ?_;rintro e w' ⟨rfl,rfl⟩;obtain ⟨Z,Q⟩:∃Z,Z=w3.alloc (.cells #[(au b)] 206):=⟨_,rfl⟩;have aP:Z.heap[w3.heap.size]?=some (.cells #[(au b)] 206 (0,0)):=by rw [Q];exact Qy w3 _
  have R:aq w3 Z:=by rw [Q];exact (QA _ _).alloc (Qx _) _
  have d2:w3.heap.size<Z.heap.size:=Qw aP;have a2:=(R.block _ l2).trans cc.o;have a8:=(R.block _ l1).trans c8.o;have av:=(R.block _ (Qw bw.o)).trans bw.o;have H:=az aR.o R;have y:=b5.o.below R;have b7:=bf.o.trans (R.mono bf.o.size);rw [<-Q];have dk:=Qw av;have a6:=y.lt
  have cj:b≠S:=λe=>by
   have h1:=y.blk;rw [e,a2] at h1;simp at h1
  have U:∀{x t},Z.heap[x]?=some (.cells #[t] 3 (0,0))\/Z.heap[x]?=some (.cells #[t] 206 (0,0))\/Z.heap[x]?=some (.cells #[t] 154 (0,0))->¬(x=b\/x=S):=λh=>by
   rintro (rfl | rfl)
   .have h1:=y.blk;rcases h with h | h | h<;>(rw [h1] at h;simp at h)
   .rcases h with h | h | h<;>(rw [a2] at h;simp at h)
  have cy:=U (.inl av);have bh:=U (.inr (.inl aP));have b3:=U (.inr (.inr a8));have bO:=H.lt
  have c7:∀a,A3=some a->¬(a.block=b\/a.block=S):=λa ha=>by
   rintro (h | h)
   .exact y.ne a ha h
   .have:=d9.o a ha;have:=Qw HS.o;omega
  have bi:∀j,(Value.slice I nb J).ownBlock=some j->¬(j=b\/j=S):=λj L=>by
   rintro (rfl | rfl)
   .exact ay y.blk (by decide) H L.symm
   .exact ay a2 (by decide) H L.symm
  obtain ⟨dn,cY,b2,cL,cf,a5,ab,dd⟩:=ak aP a2 a8 av H y b7 cy;obtain ⟨ci,be,dr,cd,e3⟩:=ah bh b3 c7 bi cj;clear aP a2 a8 av H y b7 cy bh b3 c7 bi cj U bO R Q bI c8 cc bw aR b5 t0 tf y0 y1 y2 y3 yf;go_wp2_with fail
  go_loopw [57] (λx wr=>∃k:Nat,k<=E/\x=RI k/\Om Z wr S n b c3 k A3 l (RI batch) (RI steps) (.slice I nb J)) (λx _=>E-(intOf x).toNat)
  case atStart=>
   refine ⟨0,QB _,rfl,none,0,[],cY.o,QI _ _ _ _,λj L=>ap,?_,Keep.refl _ _⟩;rw [Nat.zero_mul];exact a5.o.blk
  case round=>
   obtain ⟨k,hk,rfl,Ao,co,vs,hS,a3,D,bG,p⟩:=hrel;by_cases d0:k<E
   .have d1:k*(n-1)+(n-1)<=N:=by
     have h1:(k+1)*(n-1)<=E*(n-1):=RH _ d0;rw [Ry] at h1;have:=dp.o;omega
    have aG:dq wr b A3 c3 l (k*(n-1)):=⟨bG,p.rd a5.o.rd (λa ha e=>dr.o a ha e),a5.o.ne⟩
    have cs:=IE w.heap.size w3.heap.size P2 S n b c3 (k*(n-1)) k Z.heap.size A3 l Ao co (RI batch) (RI steps) (.slice I nb J) vs wr
     ((p.block _ dk dd.o).trans cL.o) ((p.block _ d2 ci.o).trans dn.o) ((p.block _ ap be.o).trans b2.o) hS aG a3 p.size ap ap hn (by rw [HN.o];exact d1) (by rw [HN.o];exact hl) Hu.o
    obtain ⟨d4,bv,HK⟩:=af cs D p;clear cs D p aG hS a3 bG;go_wp2_with fail;refine d4.o.mono ?_;rintro e w5 ⟨rfl,A1,c1,dc,cI,bV,ad,cA,bM,cw,a0,Y⟩
    have b0:Keep (λj=>j=b\/j=S) Z w5:=⟨Y.os.trans HK.o.os,Y.tape.trans HK.o.tape,Y.output.trans HK.o.output,QD HK.o.size Y.size,λj L hn=>(Y.block j (QE L HK.o.size) (λh=>by
     rcases h with h | h | h
     .exact hn (.inl h)
     .exact hn (.inr h)
     .omega)).trans (HK.o.block j L hn)⟩
    have V:∀j,j<k+1->∃A' c',(vs++[Value.slice A1 n c1])[j]?=some (.slice A' n c')/\n<=c'/\w5.ownsRow Z.heap.size 3 1 (.slice A' n c') n (aA .i64 (gC l n (j*(n-1)))):=λj L=>by
     have df:vs.length=k:=by have:=ad.1;simp at this;omega
     rcases QO j k with h | h
     .obtain ⟨A',c',k1,k2,k3⟩:=bv.o j h;exact ⟨A',c',by rw [Rk ap];exact k1,k2,a0 _ _ _ _ k3⟩
     .obtain rfl:j=k:=ap;exact ⟨A1,c1,by rw [Rl ap,df];simp,cA,bM⟩
    have b6:Om Z w5 S n b c3 (k+1) A3 l (RI batch) (RI steps) (.slice I nb J):=⟨dc,cI,_,bV,ad,V,by rw [Ry];exact cw,b0⟩;have d5:=aa b6;clear b6 bV ad cA bM cw a0 Y b0 V;go_wp2_with fail;go_roundw
    .exact ⟨k+1,by omega,by go_num,d5.o⟩
    .simp [intOf];omega
   .obtain rfl:E=k:=ap;have C:=(p.block _ ap be.o).trans b2.o;have Q:=ab.o.size
    have bb:gH (gE w.heap.size wr) S n batch steps l/\w.heap.size<=S:=by
     refine ⟨?_,by omega⟩;refine ⟨I,J,Ao,co,vs,?_,?_,Rd.own (fQ a3 Q),?_,?_⟩
     .rw [He.o,bA.o,ja ap];exact hS
     .rw [Hr.o,bA.o];exact Rd.own (fQ (p.own cf.o cd.o) ap)
     .have:=a3.1;rw [He.o];omega
     .intro j L;rw [He.o] at L;obtain ⟨A',c',k1,k2,k3⟩:=D j L;exact ⟨A',c',k1,k2,Rd.own (fQ k3 Q)⟩
    have bX:aq w wr:=ab.o.trans (p.toBelow ab.o.size (λj L=>by have:=d7;have:=bo.o.size;rcases L with h | h<;>omega));obtain ⟨t0,tf⟩:=bx1 C;obtain ⟨b9,d6⟩:=ae bb bX;clear bb bX hS a3 D bG p C;go_wp2_with fail;go_ret2;exact ⟨S,rfl,b9.o.1,b9.o.2,d6.o⟩
structure Inp where
 cfg:Cfg
 data:R_
 start:Q_
 draws:Q_
def nS (n b st:Nat):Nat:=epN n b st*(n-1)
theorem Pg (n b st:Nat):epN n b st<=st:=fE _ _
theorem AV {n b st:Nat} (hn:n<=1048576) (hs:st<=1048576):nS n b st<=1099511627776:=by
 have h1:=Pg n b st;have h:epN n b st*(n-1)<=1048576*1048576:=Nat.mul_le_mul ap ap;unfold nS;omega
def inN (i:Inp):Nat:=szN i.cfg.sizes 0
def yO (i:Inp):Nat:=szN i.cfg.sizes (i.cfg.sizes.length-1)
def cnt (i:Inp):Nat:=bS i.cfg.sizes (i.cfg.sizes.length-1)
def oq (i:Inp):Bool:=decide (i.cfg.batch<=i.data.length/\i.data.length<=1048576)
def OZ (i:Inp):Bool:=decide (∀x∈i.data,fJ (inN i) (yO i) x)
def mK (i:Inp):Bool:=OZ i&&decide (i.start.length=cnt i)
def su (i:Inp):Bool:=decide (nS i.data.length i.cfg.batch.toNat i.cfg.steps.toNat<=i.draws.length)
noncomputable def dQ (i:Inp):Int:=if cK i.cfg≠0 then cK i.cfg else if oq i=false then 7 else if mK i=false then 5 else if su i=false then 8 else 0
theorem OT {i:Inp} (h:cK i.cfg≠0):dQ i=cK i.cfg:=by unfold dQ;rw [if_pos h]
theorem OV {i:Inp} (o:cK i.cfg=0) (h:oq i=false):dQ i=7:=by unfold dQ;rw [if_neg (by simp [o]),if_pos h]
theorem OX {i:Inp} (o:cK i.cfg=0) (h1:oq i=true) (h:mK i=false):dQ i=5:=by unfold dQ;rw [if_neg (by simp [o]),if_neg (by simp [h1]),if_pos h]
theorem OU {i:Inp} (p:cK i.cfg=0) (h1:oq i=true) (o:mK i=true) (h:su i=false):dQ i=8:=by unfold dQ;rw [if_neg (by simp [p]),if_neg (by simp [h1]),if_neg (by simp [o]),if_pos h]
theorem OY {i:Inp} (p:cK i.cfg=0) (h1:oq i=true) (o:mK i=true) (h:su i=true):dQ i=0:=by unfold dQ;rw [if_neg (by simp [p]),if_neg (by simp [h1]),if_neg (by simp [o]),if_neg (by simp [h])]
structure nk (i:Inp):Prop where
 c:jK i.cfg
 b:i.cfg.batch<=i.data.length/\i.data.length<=1048576
 f:∀x∈i.data,fJ (inN i) (yO i) x
 s:i.start.length=cnt i
 d:nS i.data.length i.cfg.batch.toNat i.cfg.steps.toNat<=i.draws.length
theorem rt {i:Inp}:dQ i=0↔nk i:=by
 constructor
 .intro h;by_cases o:cK i.cfg=0
  .cases h1:oq i with
   | false=>rw [OV o h1] at h;omega
   | true=>
    cases h2:mK i with
    | false=>rw [OX o h1 h2] at h;omega
    | true=>
     cases h3:su i with
     | false=>rw [OU o h1 h2 h3] at h;omega
     | true=>
      simp only [mK,Bool.and_eq_true] at h2;exact ⟨fl.1 o,of_decide_eq_true h1,of_decide_eq_true h2.1,of_decide_eq_true h2.2,of_decide_eq_true h3⟩
  .rw [OT o] at h;exact absurd h o
 .intro h;refine OY (fl.2 h.c) (RC h.b) ?_ (RC h.d);simp only [mK,Bool.and_eq_true];exact ⟨RC h.f,RC h.s⟩
theorem Gz (n:Nat) (w:R8) (hn:1<=n) (i:n<=1048576):Calls prog 106 #[RI n] w λe h=>e=.returned (RI ((n-1:Nat):Int))/\w=h:=by
 have h1:(0:Int)<=(n:Int)-1:=ap;go_enter func106,ntmps106;go_wp2
 all_goals
  go_ret;exact ⟨bj ap,rfl⟩
theorem DM (A:N_) (c n:Nat) (k:Cfg) (w:R8) (h:kF w A c k) (hg:jK k) (hn:k.batch<=n/\(n:Int)<=1048576):Calls prog 105 #[.agg (dH A c k),RI n] w λe D=>e=.returned (RI (epN n k.batch.toNat k.steps.toNat:Int))/\aq w D:=by
 have x:=λD (q:aq w D)=>mx A c k D (h.below q);rw [fl.2 hg] at x;have g1:=hg.w;have g2:=hg.ba;have g3:=hg.st;clear h hg;obtain ⟨sz,sh,ra,O,R,ba,mi,st,bu,ch,wi,ca⟩:=k;dsimp only [dH] at *;obtain ⟨bt,rfl⟩:∃bt:Nat,ba=bt:=⟨ba.toNat,by omega⟩;obtain ⟨sn,rfl⟩:∃sn:Nat,st=sn:=⟨st.toNat,by omega⟩;rw [Int.toNat_natCast,Int.toNat_natCast];obtain ⟨L,T⟩:∃L,sz.length=L:=⟨_,rfl⟩;rw [T] at x |-;obtain ⟨i,p⟩:∃i,n/bt=i:=⟨_,rfl⟩;have y:1<=i:=by rw [<-p];exact Nat.div_pos ap ap
 have J:i<=n:=by rw [<-p];exact Nat.div_le_self _ _
 have U:epN n bt sn=(sn+i-1)/i:=by unfold epN;rw [p,tM _ _ y]
 rw [U];have I:(sn+i-1)/i<=sn+i-1:=Nat.div_le_self _ _;obtain ⟨E,v⟩:∃E,(sn+i-1)/i=E:=⟨_,rfl⟩;rw [v] at I |-;have Y:(n:Int).tdiv (bt:Int)=(i:Int):=by rw [<-p];rfl
 have V:(n:Int)/(bt:Int)=(i:Int):=by rw [<-p];rfl
 have u:(sn:Int)+i-1=((sn+i-1:Nat):Int):=ap;have a5:((sn:Int)+i-1).tdiv (i:Int)=(E:Int):=by rw [u,<-v];rfl
 have Q:((sn:Int)+i-1)/(i:Int)=(E:Int):=by rw [u,<-v];rfl
 have a2:¬(bt=0):=ap;have a4:¬(i=0):=ap;have a1:¬((n:Int)<bt):=ap;have a0:¬((1048576:Int)<n):=ap;have H:=aa x;clear x T p U v u;go_enter func105,ntmps105;go_wp2_with fail;have N:=Qy w (.cells #[.slice A L c,RI sh,RI ra,RI O,RI R,RI bt,RI mi,RI sn,RI bu,RI ch,RI wi,RI ca] 24);have hB:=(QA _ w).alloc (Qx _) (.cells #[.slice A L c,RI sh,RI ra,RI O,RI R,RI bt,RI mi,RI sn,RI bu,RI ch,RI wi,RI ca] 24);refine (H.o _ hB).mono ?_;rintro e w1 ⟨rfl,B⟩;have C:=(B.block _ (Qw N)).trans N;have HB:=aa (hB.trans (B.mono hB.size));obtain ⟨⟨z0,z1,z2,z3,z4,z5,z6,z7,z8,z9,Z,a3⟩,zf⟩:=kw C;clear N hB B C;go_wp2_with fail;go_ret;exact ⟨rfl,HB.o⟩
theorem KT (A:N_) (c n:Nat) (k:Cfg) (w:R8) (h:kF w A c k) (hg:jK k) (hn:k.batch<=n/\(n:Int)<=1048576):Calls prog 68 #[.agg (dH A c k),RI n] w λe v=>e=.returned (RI (nS n k.batch.toNat k.steps.toNat:Int))/\aq w v:=by
 have i:=λv (q:aq w v)=>DM A c n k v (h.below q) hg hn;have g1:=hg.w;have U:=hg.ba;have Y:=hg.st;have u:=λv=>Gz n v ap ap;have p:=AV (n:=n) (b:=k.batch.toNat) (st:=k.steps.toNat) ap ap;unfold nS at p |-;clear h hg;obtain ⟨sz,sh,ra,H,I,ba,mi,st,bu,ch,wi,ca⟩:=k;dsimp only [dH] at *;obtain ⟨L,J⟩:∃L,sz.length=L:=⟨_,rfl⟩;rw [J] at i |-;obtain ⟨E,N⟩:∃E,epN n ba.toNat st.toNat=E:=⟨_,rfl⟩;obtain ⟨m,hm⟩:∃m,n-1=m:=⟨_,rfl⟩;rw [N] at i p |-;rw [hm] at u p |-;obtain ⟨y,D⟩:∃y,E*m=y:=⟨_,rfl⟩;rw [D] at p |-;have O:(E:Int)*(m:Int)=(y:Int):=by rw [<-D];push_cast;rfl
 obtain ⟨B,C⟩:=ae i u;clear i u J N hm D;go_enter func68,ntmps68;go_wp2_with fail;have R:=Qy w (.cells #[.slice A L c,RI sh,RI ra,RI H,RI I,RI ba,RI mi,RI st,RI bu,RI ch,RI wi,RI ca] 24);have hB:=(QA _ w).alloc (Qx _) (.cells #[.slice A L c,RI sh,RI ra,RI H,RI I,RI ba,RI mi,RI st,RI bu,RI ch,RI wi,RI ca] 24);refine (B.o _ hB).mono ?_;rintro e T ⟨rfl,x⟩;have Q:=aa (hB.trans (x.mono hB.size));clear R hB x;go_wp2_with fail;refine (C.o _).mono ?_;rintro e V ⟨rfl,rfl⟩;go_wp2_with fail;go_ret;exact ⟨rfl,Q.o⟩
abbrev aL (A:N_) (c:Nat) (D:N_) (cd:Nat) (T:N_) (ct:Nat) (R:N_) (cr:Nat) (i:Inp):R6:=
 #[.slice A i.cfg.sizes.length c,RI i.cfg.shift,RI i.cfg.rate,RI i.cfg.mom,RI i.cfg.workers,RI i.cfg.batch,RI i.cfg.micros,RI i.cfg.steps,RI i.cfg.bucket,RI i.cfg.chunk,RI i.cfg.window,RI i.cfg.cap,
  .slice D i.data.length cd,.slice T i.start.length ct,.slice R i.draws.length cr]
structure gW (w:R8) (A:N_) (c:Nat) (D:N_) (T:N_) (ct:Nat) (R:N_) (i:Inp):Prop where
 c:kF w A c i.cfg
 d:dR rEx 2 w D i.data
 dl:i.data.length<=1048576
 t:cU w T i.start ct
 tl:i.start.length<=1048576
 r:Rd w R (aA .u64 i.draws)
 rl:i.draws.length<=1048576
 ru:U64 i.draws
 ra: -9223372036854775808<=i.cfg.rate/\i.cfg.rate<=9223372036854775807
 rm: -9223372036854775808<=i.cfg.mom/\i.cfg.mom<=9223372036854775807
theorem gW.below {w o:R8} {A:N_} {c:Nat} {D T R:N_} {ct:Nat} {i:Inp} (h:gW w A c D T ct R i) (hb:aq w o):gW o A c D T ct R i:=
 ⟨h.c.below hb,h.d.below fH hb,h.dl,h.t.below hb,h.tl,h.r.below hb,h.rl,h.ru,h.ra,h.rm⟩
theorem xT (A:N_) (c:Nat) (D:N_) (cd:Nat) (T:N_) (ct:Nat) (R:N_) (cr:Nat) (i:Inp) (w:R8) (h:gW w A c D T ct R i):Calls prog 40 #[.agg (aL A c D cd T ct R cr i)] w λe u=>e=.returned (RI (dQ i))/\aq w u:=by
 have ab:=λu (q:aq w u)=>mx A c i.cfg u (h.c.below q);have b8:=λu (q:aq w u)=>wS A i.cfg.sizes c u (h.c.hr.below q) h.c.hc h.c.hm;have aP:=λS u (hS:cS 199 u S i.cfg.sizes)=>lh S i.cfg.sizes u hS;have a9:=λa b u (q:aq w u)=>DO a b cd D i.data u (h.d.below fH q) h.dl;have Y:=λ(hg:jK i.cfg) (hb:i.cfg.batch<=i.data.length/\(i.data.length:Int)<=1048576) u (q:aq w u)=>KT A c i.data.length i.cfg u (h.c.below q) hg hb;have fc:=@OT i;have f7:=@OV i;have f5:=@OX i;have J:=@OU i;have O:=@OY i;have b5:=@fl i.cfg;have bi:=h.c.hr;have cj:=h.dl;have cs:=h.tl;have hrl:=h.rl;unfold sH at a9;unfold oq at f7 f5 J O;unfold mK OZ inN yO cnt at f5 J O;unfold su at J O;obtain ⟨b2,a7⟩:∃b2,dQ i=b2:=⟨_,rfl⟩;rw [a7] at fc f7 f5 J O |-;clear a7 h;obtain ⟨⟨sz,sh,ra,mo,wk,ba,mi,st,bu,ch,wi,ca⟩,data,start,draws⟩:=i;dsimp only [aL,dH] at *;obtain ⟨L,hL⟩:∃L,sz.length=L:=⟨_,rfl⟩;obtain ⟨N,hN⟩:∃N,data.length=N:=⟨_,rfl⟩;obtain ⟨M,hM⟩:∃M,start.length=M:=⟨_,rfl⟩;obtain ⟨Q,hQ⟩:∃Q,draws.length=Q:=⟨_,rfl⟩;obtain ⟨cc,bI⟩:∃cc,cK ⟨sz,sh,ra,mo,wk,ba,mi,st,bu,ch,wi,ca⟩=cc:=⟨_,rfl⟩;rw [hL] at ab b8 aP Y f5 J O |-;rw [hN] at a9 Y f7 f5 J O cj |-;rw [hM] at f5 J O cs |-;rw [hQ] at J O hrl |-;rw [bI] at ab fc f7 f5 J O b5;obtain ⟨CN,b7⟩:∃CN,bS sz (L-1)=CN:=⟨_,rfl⟩;rw [b7] at aP f5 J O;obtain ⟨ND,bl⟩:∃ND,nS N ba.toNat st.toNat=ND:=⟨_,rfl⟩;rw [bl] at Y J O;obtain ⟨co,c6,cn,cy,cw,Fc,F7,F5⟩:=ak ab b8 aP a9 Y fc f7 f5;obtain ⟨F8,F0,cb,bo,HL,cM⟩:=ai J O b5 bi hL b7;clear ab b8 aP a9 Y fc f7 f5 J O b5 bi hL hN hM hQ bI b7 bl;go_enter func40,ntmps40;go_wp2_with fail;have hz:=(QL (w.alloc (.cells #[.slice A L c,RI sh,RI ra,RI mo,RI wk,RI ba,RI mi,RI st,RI bu,RI ch,RI wi,RI ca,.slice D N cd,.slice T M ct,.slice R Q cr] 29)) (.cells #[.slice A L c,RI sh,RI ra,RI mo,RI wk,RI ba,RI mi,RI st,RI bu,RI ch,RI wi,RI ca] 24) w.heap.size (by simp)).trans (Qy w _);have hy:=Qy (w.alloc (.cells #[.slice A L c,RI sh,RI ra,RI mo,RI wk,RI ba,RI mi,RI st,RI bu,RI ch,RI wi,RI ca,.slice D N cd,.slice T M ct,.slice R Q cr] 29)) (.cells #[.slice A L c,RI sh,RI ra,RI mo,RI wk,RI ba,RI mi,RI st,RI bu,RI ch,RI wi,RI ca] 24);rw [show (w.alloc (.cells #[.slice A L c,RI sh,RI ra,RI mo,RI wk,RI ba,RI mi,RI st,RI bu,RI ch,RI wi,RI ca,.slice D N cd,.slice T M ct,.slice R Q cr] 29)).heap.size=w.heap.size+1 by simp] at hy;have hB:aq w ((w.alloc (.cells #[.slice A L c,RI sh,RI ra,RI mo,RI wk,RI ba,RI mi,RI st,RI bu,RI ch,RI wi,RI ca,.slice D N cd,.slice T M ct,.slice R Q cr] 29)).alloc (.cells #[.slice A L c,RI sh,RI ra,RI mo,RI wk,RI ba,RI mi,RI st,RI bu,RI ch,RI wi,RI ca] 24)):=((QA _ w).alloc (Qx _) _).alloc (by simp) _;obtain ⟨W0,bs⟩:∃W0,W0=(w.alloc (.cells #[.slice A L c,RI sh,RI ra,RI mo,RI wk,RI ba,RI mi,RI st,RI bu,RI ch,RI wi,RI ca,.slice D N cd,.slice T M ct,.slice R Q cr] 29)).alloc (.cells #[.slice A L c,RI sh,RI ra,RI mo,RI wk,RI ba,RI mi,RI st,RI bu,RI ch,RI wi,RI ca] 24):=⟨_,rfl⟩;rw [<-bs] at hz hy hB |-;clear bs;refine (co.o _ hB).mono ?_;rintro e w1 ⟨rfl,b0⟩;have aR:=(b0.block _ (Qw hz)).trans hz;have a8:=(b0.block _ (Qw hy)).trans hy;have HB:=aa (hB.trans (b0.mono hB.size));obtain ⟨⟨z0,z1,z2,z3,z4,z5,z6,z7,z8,z9,Z,a1,U,a0,I⟩,zf⟩:=kH aR;obtain ⟨⟨y0,y1,y2,y3,y4,y5,y6,y7,y8,y9,B,C⟩,yf⟩:=kw a8;have lz:=Qw aR;have ly:=Qw a8;obtain ⟨HZ,HY⟩:=ae aR a8;clear hz hy hB b0 aR a8;by_cases h3:cc≠0
 .have hq:(cc != 0)=true:=by rw [bne_iff_ne];exact h3
  have H3:=aa h3;clear h3;go_wp2_with fail;go_ret;exact ⟨bj (Fc.o H3.o).symm,HB.o⟩
 obtain rfl:cc=0:=ap;clear h3;have hg:=cb.o.1 rfl;have g1:=hg.w;have g2:=hg.ba;have g3:=hg.st;have gz:=hg.z;have HG:=aa hg;dsimp only at g1 g2 g3 gz;clear hg;have bw:=gz.1.1;rw [HL.o] at bw;have s0:=gz.1.at (k:=0) (by have:=HL.o;omega);have s1:=gz.1.at (k:=L-1) (by have:=HL.o;omega);obtain ⟨bz,oz,rfl,p0⟩:=bo.o.num (show 0<sz.length by have:=HL.o;omega);obtain ⟨_,_,e',p1⟩:=bo.o.num (show L-1<sz.length by have:=HL.o;omega);injection e' with e';injection e' with e1 e2 _;subst e1;subst e2
 rw [s0.2.2,Nat.add_zero] at p0;rw [s1.2.2] at p1;obtain ⟨n0,b9⟩:∃n0,szN sz 0=n0:=⟨_,rfl⟩;obtain ⟨n1,b6⟩:∃n1,szN sz (L-1)=n1:=⟨_,rfl⟩;have f5:=F5.o;have J:=F8.o;have O:=F0.o;rw [b9,b6] at f5 J O;rw [b9] at p0 s0;rw [b6] at p1 s1;obtain ⟨F5,F8,F0,cx⟩:=ag f5 J O gz;have bV:bz<w.heap.size:=aB p0;obtain ⟨P0,P1⟩:=ae p0 p1;clear f5 J O gz b9 b6 p0 p1 s0 s1;obtain ⟨bt,rfl⟩:∃bt:Nat,ba=bt:=⟨ba.toNat,by omega⟩;go_wp2_with fail;refine (c6.o _ HB.o).mono ?_;rintro e w2 ⟨av,hs⟩
 obtain ⟨S,rfl,hS⟩:∃S,e=.returned (.tuple #[(au S),RI 0])/\cS 199 w2 S sz:=by
  rcases hs with ⟨_,S,he,hS,_⟩ | ⟨bX,_⟩
  .exact ⟨S,he,hS⟩
  .exact absurd cx.o bX
 clear hs;have aM:=(av.block _ lz).trans HZ.o;have ao:=(av.block _ ly).trans HY.o;have a6:=aa (HB.o.trans (av.mono HB.o.size));clear z0 z1 z2 z3 z4 z5 z6 z7 z8 z9 Z a1 U a0 I zf y0 y1 y2 y3 y4 y5 y6 y7 y8 y9 B C yf lz ly;obtain ⟨⟨z0,z1,z2,z3,z4,z5,z6,z7,z8,z9,Z,a1,U,a0,I⟩,zf⟩:=kH aM;obtain ⟨⟨y0,y1,y2,y3,y4,y5,y6,y7,y8,y9,B,C⟩,yf⟩:=kw ao;have lz:=Qw aM;have ly:=Qw ao;obtain ⟨cf,cv,HS⟩:=af aM ao hS;clear av aM ao hS;have p0:=(a6.o.cell (p:=(ar bz oz)) bV).trans P0.o;have p1:=(a6.o.cell (p:=⟨bz,oz+(L-1),none⟩) bV).trans P1.o;have c7:IntKind.i64.wrap ((L:Int)-1)=((L-1:Nat):Int):=by rw [QC _ ap];omega
 have cY:((L-1:Nat):Int)<L:=ap;have cO:L-1<L:=ap;have cL:0<L:=ap;have cA:(0:Int)<L:=ap;go_wp2_with fail;have v:(λu:R8=>u.cell? (ar w.heap.size 12)=some (.slice D N cd)/\u.cell? (ar (w.heap.size+1) 0)=some (.slice (some (ar bz oz)) L c)/\u.cell? (ar bz oz)=some (RI n0)/\u.cell? ⟨bz,oz+(L-1),none⟩=some (RI n1)) w2.drew:=⟨U,y0,p0,p1⟩;refine HA.g (λu:R8=>u.cell? (ar w.heap.size 12)=some (.slice D N cd)/\u.cell? (ar (w.heap.size+1) 0)=some (.slice (some (ar bz oz)) L c)/\u.cell? (ar bz oz)=some (RI n0)/\u.cell? ⟨bz,oz+(L-1),none⟩=some (RI n1)) ?_;refine HA.t ?_ [0,1,2,3,4,5,6,7,8,9,10,11,12,13] v ?_;refine HA.o 14 (λK hK=>?_);go_simp;refine (cy.o n0 n1 _ a6.o.drew).mono ?_;rintro e w3 ⟨a3,d,hd⟩;have bh:=QF (aw a3 v.1) (QF (aw a3 v.2.1) (QF (aw a3 v.2.2.1) (aw a3 v.2.2.2)));have H:aq w2 w3:=(QA w2.heap.size w2).drew.trans a3;have a2:=(H.block _ lz).trans cf.o;have a4:=(H.block _ ly).trans cv.o;have be:=HS.o.below H;obtain ⟨aG,bM,bn,ci⟩:=ag (a6.o.trans (H.mono a6.o.size)) a2 a4 be
 obtain ⟨ad,rfl,b4⟩:∃ad,e=.returned (.tuple #[RI d,.bool ad])/\decide (∀x∈data,fJ n0 n1 x)=ad:=by
  rcases hd with ⟨ha,rfl⟩ | ⟨ha,rfl⟩
  .exact ⟨true,rfl,RC ha⟩
  .exact ⟨false,rfl,RD ha⟩
 have a5:=aa b4;clear a3 H a2 a4 be hd b4 v;dsimp only;refine hK.out _ _ bh (λv=>?_);clear hK K bh;refine HA.t ?_ [15,16,17,18,19] v ?_;refine HA.d ?_;clear v z0 z1 z2 z3 z4 z5 z6 z7 z8 z9 Z a1 U a0 I zf y0 y1 y2 y3 y4 y5 y6 y7 y8 y9 B C yf lz ly c7;have a2:=bM.o;have a4:=bn.o;obtain ⟨⟨z0,z1,z2,z3,z4,z5,z6,z7,z8,z9,Z,a1,U,a0,I⟩,zf⟩:=kH a2;obtain ⟨⟨y0,y1,y2,y3,y4,y5,y6,y7,y8,y9,B,C⟩,yf⟩:=kw a4;have lz:=Qw a2;have ly:=Qw a4;clear a2 a4;by_cases h7:N<bt
 .have hq:(N:Int)<bt:=ap;go_wp2_with fail;go_ret;exact ⟨bj (F7.o trivial (by rw [RE];omega)).symm,aG.o⟩
 have d0:¬((N:Int)<bt):=ap;have cI:¬((1048576:Int)<N):=ap;have G1:=aa (show decide ((bt:Int)<=N/\N<=1048576)=true by rw [RF];omega);rcases dW ad with rfl | rfl
 .go_wp2_with fail
  go_quiet (fail)
  go_wp2_with fail;go_ret;exact ⟨bj (F5.o trivial G1.o (by rw [a5.o];rfl)).symm,QH aG.o _⟩
 have b1:=λu (q:aq w3 u)=>cn.o S u (ci.o.below q);have b3:=aa b1;clear b1;by_cases h5:M≠CN
 .have hq:((M:Int) != (CN:Int))=true:=by rw [bne_iff_ne];omega
  have H5:=aa h5;clear h5;go_wp2_with fail
  go_quiet ((go_at_call 67;refine Calls.quiet_of ((b3.o _ ?_).mono λe u ⟨he,hw⟩=>⟨he,0,hw.symm⟩);exact am))
  go_wp2_with fail;go_ret;exact ⟨bj (F5.o trivial G1.o (by rw [a5.o,RD H5.o];rfl)).symm,QH aG.o _⟩
 have hq:((M:Int) != (CN:Int))=false:=by rw [bne_eq_false_iff_eq];omega
 have G2:=aa (show (decide (∀x∈data,fJ n0 n1 x)&&decide (M=CN))=true by rw [a5.o,RC (show M=CN by omega)];rfl);clear h5;go_wp2_with fail
 go_quiet ((go_at_call 67;refine Calls.quiet_of ((b3.o _ ?_).mono λe u ⟨he,hw⟩=>⟨he,0,hw.symm⟩);exact am))
 go_wp2_with fail;obtain ⟨V,hV⟩:∃V,V=w3.drewN nq:=⟨_,rfl⟩;have bO:aq w V:=by rw [hV];exact QH aG.o _
 have bf:V.heap[w.heap.size]?=some (.cells #[.slice (some (ar bz oz)) L c,RI sh,RI ra,RI mo,RI wk,RI bt,RI mi,RI st,RI bu,RI ch,RI wi,RI ca,.slice D N cd,.slice T M ct,.slice R Q cr] 29 (0,0)):=by rw [hV];exact bM.o
 have bN:V.heap[w.heap.size+1]?=some (.cells #[.slice (some (ar bz oz)) L c,RI sh,RI ra,RI mo,RI wk,RI bt,RI mi,RI st,RI bu,RI ch,RI wi,RI ca] 24 (0,0)):=by rw [hV];exact bn.o
 clear z0 z1 z2 z3 z4 z5 z6 z7 z8 z9 Z a1 U a0 I zf y0 y1 y2 y3 y4 y5 y6 y7 y8 y9 B C yf;rw [<-hV];clear hV;obtain ⟨⟨z0,z1,z2,z3,z4,z5,z6,z7,z8,z9,Z,a1,U,a0,I⟩,zf⟩:=kH bf;obtain ⟨⟨y0,y1,y2,y3,y4,y5,y6,y7,y8,y9,B,C⟩,yf⟩:=kw bN;have bb:=aa bO;clear bO bf bN;have Y:=cw.o HG.o ap V.drew bb.o.drew;have bv:=aa Y;clear Y;have v:(λu:R8=>u.cell? (ar w.heap.size 14)=some (.slice R Q cr)/\u.cell? (ar (w.heap.size+1) 0)=some (.slice (some (ar bz oz)) L c)/\u.cell? (ar (w.heap.size+1) 1)=some (RI sh)/\u.cell? (ar (w.heap.size+1) 2)=some (RI ra)/\u.cell? (ar (w.heap.size+1) 3)=some (RI mo)/\u.cell? (ar (w.heap.size+1) 4)=some (RI wk)/\u.cell? (ar (w.heap.size+1) 5)=some (RI bt)/\u.cell? (ar (w.heap.size+1) 6)=some (RI mi)/\u.cell? (ar (w.heap.size+1) 7)=some (RI st)/\u.cell? (ar (w.heap.size+1) 8)=some (RI bu)/\u.cell? (ar (w.heap.size+1) 9)=some (RI ch)/\u.cell? (ar (w.heap.size+1) 10)=some (RI wi)/\u.cell? (ar (w.heap.size+1) 11)=some (RI ca)) V.drew:=⟨I,y0,y1,y2,y3,y4,y5,y6,y7,y8,y9,B,C⟩;refine HA.g (λu:R8=>u.cell? (ar w.heap.size 14)=some (.slice R Q cr)/\u.cell? (ar (w.heap.size+1) 0)=some (.slice (some (ar bz oz)) L c)/\u.cell? (ar (w.heap.size+1) 1)=some (RI sh)/\u.cell? (ar (w.heap.size+1) 2)=some (RI ra)/\u.cell? (ar (w.heap.size+1) 3)=some (RI mo)/\u.cell? (ar (w.heap.size+1) 4)=some (RI wk)/\u.cell? (ar (w.heap.size+1) 5)=some (RI bt)/\u.cell? (ar (w.heap.size+1) 6)=some (RI mi)/\u.cell? (ar (w.heap.size+1) 7)=some (RI st)/\u.cell? (ar (w.heap.size+1) 8)=some (RI bu)/\u.cell? (ar (w.heap.size+1) 9)=some (RI ch)/\u.cell? (ar (w.heap.size+1) 10)=some (RI wi)/\u.cell? (ar (w.heap.size+1) 11)=some (RI ca)) ?_;refine HA.t ?_ [0,1,2,3,4] v ?_;refine HA.o 5 (λK hK=>?_);go_simp;refine bv.o.mono ?_;rintro e w4 ⟨rfl,y⟩;have bA:=aa (bb.o.trans ((QA V.heap.size V).drew.trans y |>.mono bb.o.size));have bG:=QF (aw y v.1) (QF (aw y v.2.1) (QF (aw y v.2.2.1) (QF (aw y v.2.2.2.1) (QF (aw y v.2.2.2.2.1) (QF (aw y v.2.2.2.2.2.1) (QF (aw y v.2.2.2.2.2.2.1) (QF (aw y v.2.2.2.2.2.2.2.1) (QF (aw y v.2.2.2.2.2.2.2.2.1) (QF (aw y v.2.2.2.2.2.2.2.2.2.1) (QF (aw y v.2.2.2.2.2.2.2.2.2.2.1) (QF (aw y v.2.2.2.2.2.2.2.2.2.2.2.1) (aw y v.2.2.2.2.2.2.2.2.2.2.2.2))))))))))));clear y v;dsimp only;refine hK.out _ _ bG (λv=>?_);clear hK K bG;refine HA.t ?_ [6,7] v ?_;refine HA.d ?_;clear v z0 z1 z2 z3 z4 z5 z6 z7 z8 z9 Z a1 U a0 I zf y0 y1 y2 y3 y4 y5 y6 y7 y8 y9 B C yf;by_cases h8:ND<=Q
 .have c8:¬((Q:Int)<ND):=ap;have cl:decide ((Q:Int)<ND)=false:=by simp;omega
  have c9:decide (Q<ND)=false:=by simp;omega
  have G8:=aa (RC h8);go_wp2_with fail;go_ret;exact ⟨bj (F0.o trivial G1.o G2.o G8.o).symm,bA.o⟩
 .have c8:(Q:Int)<ND:=ap;have cl:decide ((Q:Int)<ND)=true:=by simp;omega
  have c9:decide (Q<ND)=true:=by simp;omega
  have G8:=aa (RD h8);go_wp2_with fail;go_ret;exact ⟨bj (F8.o trivial G1.o G2.o G8.o).symm,bA.o⟩
end Go.Proofs.YtindmkcnjlgomaaGreat
namespace Go.Proofs.YtindmkcnjlgomaaGreat
open Go.RowKit Go.Shelf
open Tryz
attribute [local go_sem] Oper.semAt_some
def ue (l:Q_):Int:=l.foldl (λa x=>wrap64 (a+x)) 0
theorem Fz (l:Q_) (x:Int):ue (l++[x])=wrap64 (ue l+x):=by simp [ue]
def yq (zs:Q_) {m:Nat} (k:Fin m):R6:=#[RI (nth zs k.1)]
theorem MV {zs:Q_} {m:Nat} (h:zs.length=m):((List.finRange m).map λk=>nth zs k.1)=zs:=by
 refine hZ (by simp [h]) λk hk=>?_;rw [dB _ _ hk];simp
theorem AI {β:Type} (B b:Nat) (o:List β->Obj) (i:∀p,(o p).isCells=true):OwnFrom B (λ(p:List β) W=>W.heap[b]?=some (o p)):=λp W h row hs hg hr=>eQ (β:=List β) B b (o p) (i p) p W h row hs hg hr
theorem Ja (n l Y n₀ m d:Nat) (A:N_) (zs:Q_) (T:zs.length=m) (hm:m<=1048576) (a7:Y<n₀) (R:∀a,A=some a->a.block<n₀) (J Jx:List (Fin m)->R8->Prop) (hY:∀u x W,J u W->u.length<m->YieldAt Fence.wide (n-1) prog l (yq zs x) W λe I=> (e=.returned (.bool true)/\J (u++[x]) I/\jr n₀ Y W I)\/(e=.returned (.bool false)/\Jx (u++[x]) I)) (W:R8) (H:W.heap[Y]?=some (.cells #[.slice A m d] 26 (0,0))) (hA:Rd W A (aA .i64 zs)) (h0:J [] W):
  CallsIn Fence.wide n prog 263 #[.func (.yield l) #[] #[],(au Y)] W λe I=>(∃v,e=.returned v)/\
   ((∃ys,ys=List.finRange m/\J ys I)\/(∃u,True/\Jx u I)):=by
 obtain ⟨e0,ef⟩:=bx1 H;obtain ⟨a6,HA,Z,a3⟩:=ag H hA T R;clear H hA T R;refine callsIn_of_wp func263 rfl trivial ?_ rfl;simp only [ntmps263,List.size_toArray,List.length_cons,List.length_nil,Nat.reduceAdd,Nat.reduceSub,Array.replicate_succ,Array.replicate_zero,List.push_toArray,List.append_toArray,List.nil_append,List.cons_append]
 gi_wp2
 gi_loopw [7] (λi wr=>∃k:Nat,k<=m/\i=RI k/\J ((List.finRange m).take k) wr/\Rd wr A (aA .i64 zs))
  (λi _=>m-(intOf i).toNat)
 .exact ⟨0,QB _,rfl,h0,HA.o⟩
 case round=>
  obtain ⟨k,hk,rfl,y,B⟩:=hrel;clear e0 ef;by_cases D:k<m
  .have U:((List.finRange m).take k).length<m:=by simp;omega
   have a2:=aa B;obtain ⟨b,o,rfl,p⟩:=B.num (show k<zs.length by rw [Z.o];exact D);obtain ⟨fn,tmps,V,a5,hy,hR⟩:=hY _ ⟨k,D⟩ wr y U;unfold yq at hy;dsimp only at hy;clear B y
   gi_wp2
   refine ⟨(λh=>by cases h),?_⟩;refine hR.mono ?_;rintro e w5 (⟨rfl,L,Q⟩ | ⟨rfl,O⟩)
   .have N:=a2.o.belowB Q.1 a3.o;obtain ⟨a0,a4⟩:=ae N L;clear N L Q p
    gi_wp2
    go_roundw
    .exact ⟨k+1,by omega,by go_num,by rw [ES D];exact a4.o,a0.o⟩
    .simp [intOf];omega
   .gi_wp2
    refine QM (results_none rfl _ _ _) rfl ?_;exact ⟨⟨_,rfl⟩,.inr ⟨_,trivial,O⟩⟩
  .obtain rfl:k=m:=ap;have C:(List.finRange k).take k=List.finRange k:=List.take_of_length_le (by simp);rw [C] at y;have a1:=aa y;clear y C B
   gi_wp2
   go_end0
   exact ⟨⟨_,rfl⟩,.inl ⟨_,rfl,a1.o⟩⟩
theorem Ch (n i n₀ m d:Nat) (A:N_) (zs:Q_) (u:zs.length=m) (hm:m<=1048576) (p:i<n₀) (o:∀a,A=some a->a.block<n₀) (w:R8) (h:w.heap[i]?=some (.cells #[.slice A m d] 26 (0,0))) (hA:Rd w A (aA .i64 zs)):
  SeqStopsK Fence.wide n prog 263 #[(au i)] (yq zs (m:=m)) (jr n₀ i) (λys=>ys=List.finRange m) (λ_=>True) m w:=λl J y W v _ _ B x=>
 Ja n l i n₀ m d A zs u hm p o J y B W ((v.block _ (Qw h)).trans h) (hA.below v) x
theorem Fv (L m d:Nat) (A:N_) (zs:Q_) (w:R8) (C:w.heap[L]?=some (.cells #[.slice A m d] 26 (0,0))) (hA:Rd w A (aA .i64 zs)) (y:zs.length=m) (hm:m<=1048576) (J:∀a,A=some a->a.block<w.heap.size):Calls prog 259 #[.func (.func 263) #[] #[(au L)]] w λe w'=>e=.returned (RI (ue zs))/\aq w w':=by
 have N:=Qw C;have H:=Ch 2 L w.heap.size m d A zs y hm N J (w.alloc (.cells #[RI 0] 2)) ((QL w _ _ N).trans C) (hA.alloc _);obtain ⟨V,T⟩:=ae H y;clear H C hA y J;refine (callsIn_wide (n:=3)).1 ?_;refine callsIn_of_wp_marks func259 rfl trivial ?_ rfl;simp only [ntmps259,List.size_toArray,List.length_cons,List.length_nil,Nat.reduceAdd,Nat.reduceSub,Array.replicate_succ,Array.replicate_zero,List.push_toArray,List.append_toArray,List.nil_append,List.cons_append]
 gi_wp2_with fail
 refine' wpIn_rangeFunc_ownG (F:=Fence.wide) (n:=3) rfl ap (gf:=263) (lb:=#[(au L)]) rfl trivial (enters_of func263 (by kernel_rfl) rfl)
  V.o mO (mQ (by simp) (by simp;omega)) (QA _ _) (λ_=>rfl)
  (λ(p:List (Fin m)) W=>(W.heap[w.heap.size]?=some (.cells #[RI (ue (p.map λk=>nth zs k.1))] 2 (0,0)))/\aq w W)
  (λ_ _ _=>False)
  (OwnFrom.and (AI _ _ (λp:List (Fin m)=>.cells #[RI (ue (p.map λk=>nth zs k.1))] 2 (0,0)) (λ_=>rfl)) (ownFrom_below (Qx _) (by simp)))
  (λ_ _ _ _ _ hs _ _=>hs)
  ⟨Qy w _,(QA _ w).alloc (Qx _) _⟩
  _ ?assign ?body ?done ?stop
 case assign=>
  intro l x W K Q;unfold yq
  gi_wp2
  exact Q
 case body=>
  rintro l p x W ⟨u,i⟩ U;obtain ⟨R,v⟩:∃R,ue (p.map λk=>nth zs k.1)=R:=⟨_,rfl⟩;obtain ⟨O,B⟩:∃O,nth zs x.1=O:=⟨_,rfl⟩;rw [v] at u;obtain ⟨p0,pf⟩:=bx1 u;have a0:=Qw u;obtain ⟨HS,HB,Z,Y⟩:=ag u i v B;clear u i U v;simp only [B];clear B
  gi_wp2_with fail
  have hk:Keep (λj=>j=w.heap.size) W (W.setCell (ar w.heap.size 0) (RI (wrap64 (R+O)))):=Keep.setCell (S:=λj=>j=w.heap.size) (Keep.refl _ _) (ar w.heap.size 0) (.inr rfl) _;have hb:Below w.heap.size W (W.setCell (ar w.heap.size 0) (RI (wrap64 (R+O)))):=hk.toBelow HB.o.size (λj hj=>ap);refine ⟨(lA hk (λk o hs I=>by rw [hs,HS.o] at I;injection I with e;subst e;rfl)).from _,⟨hb,λh=>hk.block L h ap⟩,?_,HB.o.trans hb⟩;rw [List.map_append,List.map_cons,List.map_nil,Fz,Z.o,Y.o];exact RG W w.heap.size 0 _ _ _ HS.o
 case done=>
  rintro D ys W hD rfl ⟨u,i⟩ Q;rw [MV T.o] at u;obtain ⟨p0,pf⟩:=bx1 u
  gi_wp2
  refine ⟨by simp,.inl ⟨_,_,rfl,run_takeDeferred Q,?_⟩⟩;exact ⟨RI (ue zs),by simp [results,results259,go_sem],rfl,i.trans (belowK_b (w:=w) (Qx _) W D _ _ (by simp at hD;omega) Q rfl rfl)⟩
 case stop=>
  rintro D c p W _ _ h _;exact h.elim
theorem I9 (A:N_) (m d:Nat) (w:R8):Calls prog 260 #[.slice A m d] w λe h=>e=.returned (.func (.func 263) #[] #[(au w.heap.size)])/\h=w.alloc (.cells #[.slice A m d] 26):=by
 go_enter func260,ntmps260;go_wp2;go_ret;exact ⟨rfl,rfl⟩
theorem LK (A:N_) (m d:Nat) (zs:Q_) (w:R8) (hA:Rd w A (aA .i64 zs)) (i:zs.length=m) (hm:m<=1048576) (h:∀a,A=some a->a.block<w.heap.size):Calls prog 249 #[.slice A m d] w λe u=>e=.returned (RI (ue zs))/\aq w u:=by
 have p:=Fv w.heap.size m d A zs (w.alloc (.cells #[.slice A m d] 26)) (Qy w _) (hA.alloc _) i hm (λa v=>by have:=h a v;simp;omega);have x:=aa p;clear p hA i h;go_enter func249,ntmps249;go_wp2_with fail;refine (I9 A m d w).mono ?_;rintro e B ⟨rfl,rfl⟩;go_wp2_with fail;refine x.o.mono ?_;rintro e C ⟨rfl,hb⟩;have y:=aa (((QA _ w).alloc (Qx _) _).trans (hb.mono (by simp)));clear hb;go_wp2;go_ret;exact ⟨rfl,y.o⟩
end Go.Proofs.YtindmkcnjlgomaaGreat
namespace Go.Proofs.YtindmkcnjlgomaaGreat
open Go.RowKit
open Tryz
theorem Jo (a b:Int):ue [a,b]=wrap64 (a+b):=by
 show wrap64 (wrap64 (0+a)+b)=wrap64 (a+b)
 unfold wrap64;omega
def eI (h q m g:Int):Int:=wrap64 (fO h m q+g)
def kU (ra q p m:Int):Int:=wrap64 (p-fO ra m q)
def apM (h q:Int) (ms g:Q_) (lo k:Nat):Q_:=dU ms.length λj=>if lo<=j/\j<lo+k then eI h q (nth ms j) (nth g (j-lo)) else nth ms j
def apP (ra h q:Int) (ps ms g:Q_) (lo k:Nat):Q_:=dU ps.length λj=>if lo<=j/\j<lo+k then kU ra q (nth ps j) (eI h q (nth ms j) (nth g (j-lo))) else nth ps j
theorem B7 (h q:Int) (ms g:Q_) (lo:Nat):apM h q ms g lo 0=ms:=(fS rfl λk _=>by rw [if_neg ap]).symm
theorem BZ (ra h q:Int) (ps ms g:Q_) (lo:Nat):apP ra h q ps ms g lo 0=ps:=(fS rfl λk _=>by rw [if_neg ap]).symm
theorem pI (h q:Int) (ms g:Q_) (lo k:Nat):(apM h q ms g lo k).length=ms.length:=cC _ _
theorem pH (ra h q:Int) (ps ms g:Q_) (lo k:Nat):(apP ra h q ps ms g lo k).length=ps.length:=cC _ _
theorem Pp (i q:Int) (ms g:Q_) (lo k:Nat) (h:lo+k<ms.length):nth (apM i q ms g lo k) (lo+k)=nth ms (lo+k):=by
 unfold apM;rw [bJ _ h,if_neg ap]
theorem Po (ra i q:Int) (ps ms g:Q_) (lo k:Nat) (h:lo+k<ps.length):nth (apP ra i q ps ms g lo k) (lo+k)=nth ps (lo+k):=by
 unfold apP;rw [bJ _ h,if_neg ap]
theorem Fg (i q:Int) (ms g:Q_) (lo k:Nat) (h:lo+k<ms.length):(apM i q ms g lo k).set (lo+k) (eI i q (nth ms (lo+k)) (nth g k))=apM i q ms g lo (k+1):=by
 refine hZ (by simp [pI]) λj o=>?_;rw [List.length_set,pI] at o;rw [je,pI];unfold apM;rw [bJ _ o,bJ _ o];by_cases h1:j=lo+k
 .subst h1;rw [if_pos ⟨rfl,h⟩,if_pos ap,show lo+k-lo=k by omega]
 .rw [if_neg ap];by_cases p:lo<=j/\j<lo+k
  .rw [if_pos p,if_pos ap]
  .rw [if_neg p,if_neg ap]
theorem Fe (ra i q:Int) (ps ms g:Q_) (lo k:Nat) (h:lo+k<ps.length):(apP ra i q ps ms g lo k).set (lo+k) (kU ra q (nth ps (lo+k)) (eI i q (nth ms (lo+k)) (nth g k)))=apP ra i q ps ms g lo (k+1):=by
 refine hZ (by simp [pH]) λj o=>?_;rw [List.length_set,pH] at o;rw [je,pH];unfold apP;rw [bJ _ o,bJ _ o];by_cases h1:j=lo+k
 .subst h1;rw [if_pos ⟨rfl,h⟩,if_pos ap,show lo+k-lo=k by omega]
 .rw [if_neg ap];by_cases p:lo<=j/\j<lo+k
  .rw [if_pos p,if_pos ap]
  .rw [if_neg p,if_neg ap]
theorem zn {i q:Int} {ms g:Q_} {lo k:Nat} (h:W64 ms):W64 (apM i q ms g lo k):=fU λj o=>by
 split
 .exact ig _
 .exact h j o
def ro (h q:Int) (ms g:Q_):Q_:=dU ms.length λj=>eI h q (nth ms j) (nth g j)
def rk (ra h q:Int) (ps ms g:Q_):Q_:=dU ps.length λj=>kU ra q (nth ps j) (eI h q (nth ms j) (nth g j))
theorem NZ (h q:Int) (ms g:Q_):apM h q ms g 0 ms.length=ro h q ms g:=fB λk hk=>by rw [if_pos ap,Nat.sub_zero]
theorem NY (ra h q:Int) (ps ms g:Q_):apP ra h q ps ms g 0 ps.length=rk ra h q ps ms g:=fB λk hk=>by rw [if_pos ap,Nat.sub_zero]
theorem HU (h q:Int) (ms g:Q_):(ro h q ms g).length=ms.length:=cC _ _
theorem HE (ra h q:Int) (ps ms g:Q_):(rk ra h q ps ms g).length=ps.length:=cC _ _
end Go.Proofs.YtindmkcnjlgomaaGreat
