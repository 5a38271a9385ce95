/- No condition. -/
import Derived.Test.YtindmkcnjlgomaaGreatR08
set_option linter.unusedSimpArgs false
set_option linter.unusedVariables false
set_option maxRecDepth 100000
set_option maxHeartbeats 4000000
namespace Go.Proofs.YtindmkcnjlgomaaGreat
open Go.RowKit
open Tryz
def upd {α:Type} (f:Nat->α) (x:Nat) (a:α) (y:Nat):α:=if y=x then a else f y
theorem fG {α:Type} (f:Nat->α) (x:Nat) (a:α):upd f x a x=a:=if_pos rfl
theorem dy {α:Type} {f:Nat->α} {x y:Nat} {a:α} (h:y≠x):upd f x a y=f y:=if_neg h
theorem Be {w:N5} {p base:Nat} {e:N6} {size n:Nat} {v:Value} {xs:N4} (h:w.ownsRow p e size v n xs) (hb:∀k,v.ownBlock=some k->base<=k):w.ownsRow base e size v n xs:=by
 refine ⟨h.1,?_⟩;rcases h.2 with u | ⟨g,cap,i,o,y,x⟩
 ·exact .inl u
 ·exact .inr ⟨g,cap,i,o,hb g (by rw [o];rfl),x⟩
def jk (W n:Nat) (g c:Nat->Nat):N4:=(List.range W).map λx=>.slice (some ⟨g x,0,none⟩) n (c x)
theorem pM {W n x:Nat} {g c:Nat->Nat} (h:x<W):(jk W n g c)[x]?=some (.slice (some ⟨g x,0,none⟩) n (c x)):=by simp [jk,h]
structure dK (base:Nat) (w:N5) (A:N0) (cv W n:Nat) (g c:Nat->Nat) (G:Nat->N1):Prop where
 row:w.ownsRow base 73 1 (.slice A W cv) W (jk W n g c)
 own:∀x,x<W->w.ownsRow base 2 1 (.slice (some ⟨g x,0,none⟩) n (c x)) n (az .i64 (G x))
 ne:∀x y,x<W->y<W->g x=g y->x=y
section
variable {base:Nat} {w w':N5} {A:N0} {cv W n:Nat} {g c:Nat->Nat} {G:Nat->N1}
theorem dK.nil (base:Nat) (w:N5) (n:Nat) (g c:Nat->Nat) (G:Nat->N1):dK base w none 0 0 n g c G:=⟨Gj _ _ _ _,λx h=>absurd h (Nat.not_lt_zero x),λx y h=>absurd h (Nat.not_lt_zero x)⟩
theorem dK.len (h:dK base w A cv W n g c G) {x:Nat} (i:x<W):(G x).length=n:=fT (h.own x i)
theorem dK.gb (h:dK base w A cv W n g c G) {x:Nat} (i:x<W):base<=g x/\g x<w.heap.size:=(h.own x i).lt (g x) rfl
theorem dK.nr (h:dK base w A cv W n g c G) {x:Nat} (J:x<W):(Value.slice A W cv).ownBlock≠some (g x):=by
 intro e;rcases h.row.2 with ⟨D,_⟩ | ⟨g1,cap,u,C,_,o,_⟩
 ·rw [D] at e;cases e
 ·rw [C] at e;have B:g1=g x:=by injection e
  rcases (h.own x J).2 with ⟨H,_⟩ | ⟨v,cap2,p,i,_,y,_⟩
  ·cases H
  ·have I:g x=v:=by injection i with i;injection i with i;injection i
   rw [B,I,y] at o;injection o with o
   injection o with _ o _
   exact absurd o (by decide)
theorem dK.below (h:dK base w A cv W n g c G) (q:ap w w'):dK base w' A cv W n g c G:=⟨aA h.row q,λx i=>aA (h.own x i) q,h.ne⟩
theorem dK.keep {S:Nat->Prop} (h:dK base w A cv W n g c G) (k:Keep S w w') (p:∀j,S j->j<base):dK base w' A cv W n g c G:=
 ⟨k.own h.row λj i e=>by have:=(h.row.lt j i).1;have:=p j e;omega,λx o=>k.own (h.own x o) λj i e=>by have:=((h.own x o).lt j i).1;have:=p j e;omega,h.ne⟩
theorem dK.congr {G':Nat->N1} (h:dK base w A cv W n g c G) (e:∀x,x<W->G' x=G x):dK base w A cv W n g c G':=⟨h.row,λx i=>by rw [e x i];exact h.own x i,h.ne⟩
theorem dK.set (h:dK base w A cv W n g c G) {x:Nat} (p:x<W) {X:N1} (k:Keep (λj=>j=g x) w w') (u:w'.ownsRow 0 2 1 (.slice (some ⟨g x,0,none⟩) n (c x)) n (az .i64 X)):dK base w' A cv W n g c (upd G x X):=by
 refine ⟨k.own h.row λj i e=>h.nr p (by rw [i,e]),λy o=>?_,h.ne⟩;by_cases e:y=x
 ·subst e;rw [fG];exact Be u λj i=>by injection i with i;rw [<-i];exact (h.gb o).1
 ·rw [dy e];exact k.own (h.own y o) λj i v=>e (h.ne y x o p (by injection i with i;exact i.trans v))
theorem dK.push (h:dK base w A cv W n g c G) {u B:N5} {o p b C:Nat} {X:N1} (hB:base<=w.heap.size) (q:ap w u) (D:u.ownsRow w.heap.size 2 1 (.slice (some (aq o 0)) n p) n (az .i64 X)) (hr:B.ownsRow base 73 1 (.slice (some (aq b 0)) (W+1) C) (W+1) (jk W n g c++[.slice (some (aq o 0)) n p])) (H:u.grownBy B (Value.slice A W cv).ownBlock):dK base B (some (aq b 0)) C (W+1) n (upd g W o) (upd c W p) (upd G W X):=by
 have I:jk (W+1) n (upd g W o) (upd c W p)=jk W n g c++[.slice (some (aq o 0)) n p]:=by
  unfold jk;rw [GV,List.map_append]
  congr 1
  ·refine List.map_congr_left λk hk=>?_;have:k≠W:=by have:=List.mem_range.1 hk;omega
   rw [dy this,dy this]
  ·simp [fG]
 have i:=aA h.row q;have J:=(D.lt o rfl).1;refine ⟨by rw [I];exact hr,λx L=>?_,λx y L N e=>?_⟩
 ·by_cases ex:x=W
  ·subst ex;rw [fG,fG,fG];exact ft (aG D hB) i H (by decide)
  ·rw [dy ex,dy ex,dy ex];exact ft (aA (h.own x ao) q) i H (by decide)
 ·by_cases ex:x=W<;>by_cases v:y=W
  ·omega
  ·rw [ex,fG,dy v] at e;have:=(h.gb (x:=y) ao).2;omega
  ·rw [v,fG,dy ex] at e;have:=(h.gb (x:=x) ao).2;omega
  ·rw [dy ex,dy v] at e;exact h.ne x y ao ao e
theorem dK.cell (h:dK base w A cv W n g c G) {x:Nat} (p:x<W):∃b,A=some (aq b 0)/\w.cell? (aq b x)=some (.slice (some ⟨g x,0,none⟩) n (c x)):=by
 obtain ⟨b,e,o,_⟩:=h.row.form ao;simp only [GT] at o;obtain ⟨v,u,i,hc⟩:=Rd.own h.row x _ (pM p);rw [o.1] at i;injection i with i
 injection i with e3 e4 _
 subst e3 e4;rw [GY] at hc;exact ⟨b,o.1,hc⟩
theorem dK.slrd (h:dK base w A cv W n g c G) (hn:n<=17592186043904):cO gO 1 w A ((List.range W).map G):=by
 refine rV (Rd.own h.row) (by simp [jk]) λj x o=>?_;have i:j<W:=by have:=(GF.1 o).1;simpa using this
 have ex:x=G j:=by
  rw [List.getElem?_map,List.getElem?_range i] at o;simpa using o.symm
 refine ⟨_,pM i,some ⟨g j,0,none⟩,c j,?_,?_,?_⟩
 ·rw [ex,h.len i]
 ·rw [ex,h.len i];exact hn
 ·rw [ex];exact Rd.own (h.own j i)
end
def cX (h:List (N1)) (x:Nat):N1:=h.getD x []
theorem fK {i:List (N1)} {x:Nat} (h:x<i.length):i[x]?=some (cX i x):=by simp [cX,List.getD,h]
theorem BS {W x:Nat} {G:Nat->N1} (h:x<W):cX ((List.range W).map G) x=G x:=by simp [cX,List.getD,h]
theorem BT (i:List (N1)):(List.range i.length).map (cX i)=i:=by
 refine List.ext_getElem? λk=>?_;by_cases h:k<i.length
 ·rw [List.getElem?_map,List.getElem?_range h,fK h];rfl
 ·rw [List.getElem?_eq_none (by simpa using h),List.getElem?_eq_none ao]
theorem ED (z:Int):wrap64 (wrap64 z)=wrap64 z:=by unfold wrap64;omega
theorem tp {n q:Nat} (o:q<n):∀(i:List (N1)) (a:N1),a.length=n->nth a q=wrap64 (nth a q)->nth (i.foldl ij a) q=wrap64 (nth a q+(i.map λx=>nth x q).sum)
 | [],a,_,h=>by simp only [List.foldl_nil,List.map_nil,List.sum_nil,Int.add_zero];exact h
 | x::i,a,ha,h=>by
  have e:nth (ij a x) q=wrap64 (nth a q+nth x q):=bP _ (by rw [ha];exact o);rw [List.foldl_cons,tp o i (ij a x) (by rw [iE];exact ha) (by rw [e,ED]),e,qL,List.map_cons,List.sum_cons,Int.add_assoc]
theorem rR {n q:Nat} (o:q<n) (h:List (N1)):nth (ie n h) q=wrap64 ((List.range h.length).map λx=>nth (cX h x) q).sum:=by
 have i:nth (List.replicate n (0:Int)) q=0:=by simp [nth,o]
 unfold ie;rw [tp o h _ (by simp) (by rw [i];unfold wrap64;omega),i,Int.zero_add];have:=congrArg (λl=>(l.map λx=>nth x q).sum) (BT h);simp only [List.map_map] at this;rw [<-this];rfl
theorem yg {b:Rg} {W c st bk n:Nat} {l:Nat->N1} (hb:b.2<=n) (o:b.1<=b.2) (hc:1<=c) (hl:∀x,x<W->(l x).length=n/\W64 (l x)) {q:Nat} (B:q<n) (i:Cov b q) {x:Nat} (C:x<W):
  nth (jj b W c st bk l (2*(W-1)) x) q=wrap64 ((List.range W).map λz=>nth (l z) q).sum:=by
 obtain ⟨s,v,p⟩:=At (W:=W) ao i;have h:=AP (st:=st) (bk:=bk) hb o hc hl B v p (2*(W-1)) (F3 _) x C;have he:eN W x s<W:=by unfold eN;split<;>omega
 have y:psR W l s (W-1) q=wrap64 ((List.range W).map λz=>nth (l z) q).sum:=by
  unfold psR;rw [show W-1+1=W by omega,vX (λz=>nth (l z) q) v]
 rw [h,<-y];by_cases u:2*(W-1)<=W-1
 ·have A:eN W x s=0:=ao;rw [if_pos u,if_pos ao,A,show W-1=0 by omega]
 ·rw [if_neg u,if_pos ao]
def trL (n s W ck:Nat) (vs:List (N1)):Nat->List (N1)
 | 0=>vs
 | j+1=>(List.range W).map (jj (j*s,min (j*s+s) n) W ck 0 j (cX (trL n s W ck vs j)) (2*(W-1)))
theorem qP {n s W ck:Nat} {vs:List (N1)} (A:vs.length=W) (H:1<=W) (L:1<=s) (v:1<=ck) (hl:∀x,x<W->(cX vs x).length=n/\W64 (cX vs x)):
  ∀j,j*s<n+s->(trL n s W ck vs j).length=W/\∀x,x<W->(cX (trL n s W ck vs j) x).length=n/\∀q,q<n->nth (cX (trL n s W ck vs j) x) q=if q<j*s then nth (ie n vs) q else nth (cX vs x) q:=by
 intro j
 induction j with
 | zero=>exact λ_=>⟨A,λx h=>⟨(hl x h).1,λq i=>by rw [if_neg ao];rfl⟩⟩
 | succ j ih=>
  intro C;rw [Nat.add_mul,Nat.one_mul] at C;obtain ⟨J,u⟩:=ih ao
  have o:∀x,x<W->(cX (trL n s W ck vs j) x).length=n/\W64 (cX (trL n s W ck vs j) x):=λx h=>by
   refine ⟨(u x h).1,λq i=>?_⟩;rw [(u x h).1] at i;rw [(u x h).2 q i]
   split
   ·rw [rR i];exact fj _
   ·exact (hl x h).2 q (by rw [(hl x h).1];exact i)
  refine ⟨by simp [trL],λx h=>?_⟩
  have e:cX (trL n s W ck vs (j+1)) x=jj (j*s,min (j*s+s) n) W ck 0 j (cX (trL n s W ck vs j)) (2*(W-1)) x:=by
   show cX ((List.range W).map _) x=_
   exact BS h
  rw [e];refine ⟨kD H (λx h=>(o x h).1) _ x h,λq i=>?_⟩;have y:((j*s,min (j*s+s) n):Rg).2<=n:=by show min (j*s+s) n<=n;omega
  have p:((j*s,min (j*s+s) n):Rg).1<=((j*s,min (j*s+s) n):Rg).2:=by show j*s<=min (j*s+s) n;omega
  rw [Nat.add_mul,Nat.one_mul];by_cases hc:Cov (j*s,min (j*s+s) n) q
  ·obtain ⟨c1,c2⟩:=id hc;simp only at c1 c2;rw [yg y p v o i hc h,if_pos ao,rR i,A]
   congr 2
   refine eF λz I=>?_;rw [(u z I).2 q i,if_neg ao]
  ·rw [AO y p v (λx h=>(o x h).1) i hc _ (F3 _) x h,(u x h).2 q i];have D:¬(j*s<=q/\q<min (j*s+s) n):=hc;by_cases B:q<j*s
   ·rw [if_pos B,if_pos ao]
   ·rw [if_neg B,if_neg ao]
theorem Dh {n s W ck:Nat} {vs:List (N1)} (v:vs.length=W) (y:1<=W) (A:1<=s) (i:1<=ck) (hl:∀x,x<W->(cX vs x).length=n/\W64 (cX vs x)) {x:Nat} (o:x<W):cX (trL n s W ck vs (be n s)) x=ie n vs:=by
 have u:be n s*s<n+s/\n<=be n s*s:=by
  unfold be
  split
  ·omega
  ·have C:=Nat.div_add_mod (n-1) s;have D:=Nat.mod_lt (n-1) (show 0<s by omega);rw [Nat.add_mul,Nat.one_mul,Nat.mul_comm ((n-1)/s) s];omega
 obtain ⟨B,h⟩:=qP v y A i hl (be n s) u.1;refine eG (by rw [(h x o).1,im]) λq p=>?_;rw [(h x o).1] at p;rw [(h x o).2 q p,if_pos ao]
theorem qZ:eC prog 71 6:=⟨⟨_,underlying71,rfl⟩,by kernel_rfl⟩
theorem wu:eC prog 129 9:=⟨⟨_,underlying129,rfl⟩,by kernel_rfl⟩
theorem ta (st bk lo p W ck:Nat) (w:N5) (C:1<=W) (B:W<=1048576):Calls prog 49 #[.agg #[H8 (st:Nat),H8 (bk:Nat),H8 (lo:Nat),H8 (p:Nat),H8 (W:Nat),H8 (ck:Nat)]] w λe v=>e=.returned (H8 ((2*(W-1):Nat):Int))/\ap w v:=by
 have A:IntKind.i64.wrap ((W:Int)-1)=((W-1:Nat):Int):=by rw [Gd _ ao];omega
 have D:IntKind.i64.wrap (2*((W-1:Nat):Int))=((2*(W-1):Nat):Int):=by rw [Gd _ ao];omega
 obtain ⟨W1,h⟩:∃W1,w.alloc (.cells #[H8 (st:Nat),H8 (bk:Nat),H8 (lo:Nat),H8 (p:Nat),H8 (W:Nat),H8 (ck:Nat)] 71)=W1:=⟨_,rfl⟩;have u:W1.heap[w.heap.size]?=some (.cells #[H8 (st:Nat),H8 (bk:Nat),H8 (lo:Nat),H8 (p:Nat),H8 (W:Nat),H8 (ck:Nat)] 71 (0,0)):=by rw [<-h];exact F4 w _
 have hB:ap w W1:=by rw [<-h];exact (br w).alloc (F3 _) _
 obtain ⟨i,x,y⟩:=ae h hB u;clear h hB u;go_enter func49,ntmps49;go_upto_region 1 with (fail);rw [i.o];have c4:=Ga W1 w.heap.size 4 _ _ _ y.o;go_wp2_with fail;go_ret;exact ⟨rfl,x.o⟩
theorem vO:∀(l:List Acn) {t j:Nat} {a:Acn},l[t]?=some a->j<9->(dm l)[t*9+j]?=(bD a)[j]?
 | [],_,_,_,h,_=>by simp at h
 | x::l,0,j,a,h,hj=>by
  simp only [Gz,Option.some.injEq] at h;subst h
  show (bD x++dm l)[0*9+j]?=_
  rw [GH (by simp [bD];omega),Nat.zero_mul,GY]
 | x::l,t+1,j,a,h,hj=>by
  simp only [Gy] at h
  show (bD x++dm l)[(t+1)*9+j]?=_
  rw [GK (by simp [bD];omega),<-vO l h hj]
  congr 1
  simp [bD];omega
theorem zA {w:N5} {A:N0} {l:List Acn} (hr:Rd w A (dm l)) {t:Nat} {a:Acn} (h:l[t]?=some a):∃b o,A=some (aq b o)/\w.rangeAt b (o+t*9) (bD a):=by
 obtain ⟨b,o,e, -⟩:=hr (t*9+0) (.bool a.send) (by rw [vO l h (by decide)];rfl);subst e;refine ⟨b,o,rfl,λj v i=>?_⟩;have p:j<9:=(GF.1 i).1;obtain ⟨u,x,e,hc⟩:=hr (t*9+j) v (by rw [vO l h p];exact i);injection e with e
 injection e with e1 e2 _
 subst e1 e2;rw [GX];exact hc
theorem sj {old G:N1} {l:List Acn} {t:Nat} {a:Acn} (h:l[t]?=some a):rvL old G (l.take (t+1))=rvA old (rvL old G (l.take t)) a:=by
 rw [List.take_add_one,h,Option.toList_some];unfold rvL;rw [List.foldl_append];rfl
def FT (st bk lo v W ck n:Nat) (p:List (N1)) (w:N5) (e:Ending) (h:N5):Prop:=(∃o i g u,e=.returned (.tuple #[.slice o W i,.bool true])/\dK w.heap.size h o i W n g u (jj (lo,v) W ck st bk (cX p) (2*(W-1))))/\ap w h
theorem uF (st bk lo C W ck n:Nat) (A:N0) (T:List (N1)) (cl:Nat) (w:N5) (hW:T.length=W) (h1:1<=W) (h2:W<=8) (hn:1<=n) (hF:n<=60) (e9:lo<=C) (gc:C<=n) (b8:1<=ck/\ck<=1048576) (hl:∀x,x<W->(cX T x).length=n) (hr:cO gO 1 w A T):Calls prog 23 #[.agg #[H8 (st:Nat),H8 (bk:Nat),H8 (lo:Nat),H8 (C:Nat),H8 (W:Nat),H8 (ck:Nat)],.slice A W cl] w (FT st bk lo C W ck n T w):=by
 obtain ⟨W1,aP⟩:∃W1,w.alloc (.cells #[H8 (st:Nat),H8 (bk:Nat),H8 (lo:Nat),H8 (C:Nat),H8 (W:Nat),H8 (ck:Nat)] 71)=W1:=⟨_,rfl⟩;have hx:W1.heap[w.heap.size]?=some (.cells #[H8 (st:Nat),H8 (bk:Nat),H8 (lo:Nat),H8 (C:Nat),H8 (W:Nat),H8 (ck:Nat)] 71 (0,0)):=by rw [<-aP];exact F4 w _
 have hB:ap w W1:=by rw [<-aP];exact (br w).alloc (F3 _) _
 have e8:cO gO 1 W1 A T:=hr.below fl hB;have ei:w.heap.size+1=W1.heap.size:=by rw [<-aP];simp
 have tj:∀i,ap W1 i->i.heap[w.heap.size]?=some (.cells #[H8 (st:Nat),H8 (bk:Nat),H8 (lo:Nat),H8 (C:Nat),H8 (W:Nat),H8 (ck:Nat)] 71 (0,0)):=λi q=>sb hx i q;obtain ⟨gz,HB,HR,bw,eo,TJ,HX,b7⟩:=aj aP hB e8 hl hW tj hx ei;clear aP hB hx hr e8 hl hW tj ei;go_enter func23,ntmps23;go_upto_region 1 with (fail);rw [gz.o];have c4:=Ga W1 w.heap.size 4 _ _ _ HX.o;have fn:((W:Int) != (W:Int))=false:=by simp
 go_wp2_with fail;clear c4 fn
 go_loopw [6,25] (λv u wr=>∃k:Nat,k<=W/\u=H8 (k:Nat)/\∃A' c' g L,v=.slice A' k c'/\dK W1.heap.size wr A' c' k n g L (cX T)/\ap W1 wr) (λ_ u _=>W-(intOf u).toNat)
 ·exact ⟨0,Gc _,rfl,none,0,λ_=>0,λ_=>0,rfl,dK.nil _ _ _ _ _ _,br W1⟩
 case round=>
  obtain ⟨k,hk,rfl,A',c',g,L,rfl,O,q⟩:=hrel;obtain ⟨Z,HQ⟩:=ab O q;by_cases bb:k<W
  ·have hC:(k:Int)<W:=ao;have g1:cO gO 1 wr A T:=HR.o.below fl q;obtain ⟨b,o,Ak,ak,rfl,hb,p,ec,d1⟩:=fp g1 (fK (show k<T.length by rw [eo.o];exact bb));obtain ⟨b0,o0,A0,a0,e0,hu,p0, -, -⟩:=fp g1 (fK (show 0<T.length by rw [eo.o];omega));injection e0 with e0
   injection e0 with e1 e2 _
   subst e1 e2;rw [Nat.add_zero,bw.o 0 ao] at p0;rw [bw.o k bb] at p d1;have c3:=Ga wr w.heap.size 3 _ _ _ (TJ.o wr q);have h0:((n:Int) != (n:Int))=false:=by simp
   have gA:¬((n:Int)<(C:Int)):=ao;have hh:(0:Int)<W:=ao;have a2:=cT Ak (cX T k) ak wr ec (by rw [bw.o k bb];exact d1);rw [bw.o k bb] at a2;have b2:=aa a2;clear O q g1 ec d1 a2;go_wp2_with fail;refine b2.o.mono ?_;rintro e w2 ⟨A2,c2,rfl,gf,Y,k2⟩
   obtain ⟨g2,rfl⟩:∃g2,A2=some (aq g2 0):=by
    obtain ⟨g2,e,hv,_⟩:=Y.form ao;simp only [GT] at hv;exact ⟨g2,hv.1⟩
   obtain ⟨d5,K2⟩:=ab Y k2;have cd:=aA Z.o.row k2;have cx:=Ge HQ.o.size k2.size;have a8:=aa cd;clear Y k2 p p0 c3 h0 gA b2 cd;go_wp2_with (at_builtin;refine bJ m6 _ rfl (.tmp 44) (.tmp 47) rfl W1.heap.size (.slice A' k c') k _ rfl a8.o [.slice (some (aq g2 0)) n c2] rfl rfl (by simp [Value.oneCell']) ao (by unfold maxLen;omega) cx ?_);intro b6 c6 w6 o6 q6 h6;obtain ⟨a1,d6⟩:=ab ((Z.o.push HQ.o.size K2.o d5.o o6 h6).congr λx hx=>show cX T x=upd (cX T) k (cX T k) x by unfold upd;split<;>simp_all) ((HQ.o.trans (K2.o.mono HQ.o.size)).trans q6);clear o6 q6 h6;go_wp2_with fail;go_roundw
   ·exact ⟨k+1,by omega,by go_num,some (aq b6 0),c6,_,_,rfl,a1.o,d6.o⟩
   ·simp [intOf];omega
  ·obtain rfl:W=k:=ao;have hf:¬((W:Int)<W):=ao;clear O q;go_wp2_with (refine eg #[H8 (st:Nat),H8 (bk:Nat),H8 (lo:Nat),H8 (C:Nat),H8 (W:Nat),H8 (ck:Nat)] (b:=w.heap.size) (TJ.o _ HQ.o) qZ rfl rfl rfl rfl ?_);refine (ta st bk lo C W ck wr h1 ao).mono ?_;rintro e w2 ⟨rfl,k2⟩;obtain ⟨ee,f9⟩:=ab (Z.o.below k2) (bt HQ.o k2);obtain ⟨R,hR⟩:∃R,2*(W-1)=R:=⟨_,rfl⟩;rw [hR];have cS:=aa hR;have h8:R<=14:=ao;clear k2 Z HQ hR;go_wp2_with fail
   go_loopw [52] (λu wk=>∃r:Nat,r<=R/\u=H8 (r:Nat)/\dK W1.heap.size wk A' c' W n g L (jj (lo,C) W ck st bk (cX T) r)/\ap W1 wk) (λu _=>R-(intOf u).toNat)
   ·exact ⟨0,Gc _,rfl,ee.o,f9.o⟩
   case round=>
    clear ee f9;obtain ⟨r,hr,rfl,O,q⟩:=hrel;obtain ⟨Wk,rfl⟩:∃Wk:N5,Wk=wr:=⟨_,rfl⟩;obtain ⟨G,hG⟩:∃G,jj (lo,C) W ck st bk (cX T) r=G:=⟨_,rfl⟩;rw [hG] at O;obtain ⟨Z,HQ,HG⟩:=ae O q hG;clear O q hG;by_cases he:r<R
    ·have hrl:(r:Int)<R:=ao;go_wp2_with fail
     go_loopw [10,57] (λv u wo=>∃m:Nat,m<=W/\u=H8 (m:Nat)/\∃Ao co go J,v=.slice Ao m co/\dK Wk.heap.size wo Ao co m n go J G/\ap Wk wo) (λ_ u _=>W-(intOf u).toNat)
     ·exact ⟨0,Gc _,rfl,none,0,λ_=>0,λ_=>0,rfl,dK.nil _ _ _ _ _ _,br _⟩
     case round=>
      obtain ⟨m,hm,rfl,Ao,co,go,J,rfl,ho,q⟩:=hrel;obtain ⟨HO,U⟩:=ab ho q;by_cases a4:m<W
      ·have h9:(m:Int)<W:=ao;have d8:=Z.o.below q;obtain ⟨b,rfl,p⟩:=d8.cell a4;have a2:=cT (some ⟨g m,0,none⟩) (G m) (L m) wr (Rd.own (d8.own m a4)) (by rw [Z.o.len a4];omega);rw [Z.o.len a4] at a2;have b2:=aa a2;clear ho q d8 a2;go_wp2_with fail;refine b2.o.mono ?_;rintro e w2 ⟨A2,c2,rfl,gf,Y,k2⟩
       obtain ⟨g2,rfl⟩:∃g2,A2=some (aq g2 0):=by
        obtain ⟨g2,e,hv,_⟩:=Y.form ao;simp only [GT] at hv;exact ⟨g2,hv.1⟩
       obtain ⟨d5,K2,a8⟩:=ae Y k2 (aA HO.o.row k2);have cx:=Ge U.o.size k2.size;clear Y k2 p b2;go_wp2_with (at_builtin;refine bJ m6 _ rfl (.tmp 61) (.tmp 64) rfl Wk.heap.size (.slice Ao m co) m _ rfl a8.o [.slice (some (aq g2 0)) n c2] rfl rfl (by simp [Value.oneCell']) ao (by unfold maxLen;omega) cx ?_);intro b6 c6 w6 o6 q6 h6;obtain ⟨a1,d6⟩:=ab ((HO.o.push U.o.size K2.o d5.o o6 h6).congr λx hx=>show G x=upd G m (G m) x by unfold upd;split<;>simp_all) ((U.o.trans (K2.o.mono U.o.size)).trans q6);clear o6 q6 h6;go_wp2_with fail;go_roundw
       ·exact ⟨m+1,by omega,by go_num,some (aq b6 0),c6,_,_,rfl,a1.o,d6.o⟩
       ·simp [intOf];omega
      ·obtain rfl:W=m:=ao;have h7:¬((W:Int)<W):=ao;obtain ⟨gk,bd⟩:=ab (Z.o.below U.o) (bt HQ.o U.o);have fc:=λy (hy:y<W)=>(Z.o.gb hy).2;have fi:=λy (hy:y<W)=>(Z.o.gb hy).1;have es:=HQ.o.size;obtain ⟨W5,rfl⟩:∃W5:N5,W5=wr:=⟨_,rfl⟩;obtain ⟨dT,dG,hE,g0⟩:=af fc fi es U.o.size;obtain ⟨V,hV⟩:∃V,W-1=V:=⟨_,rfl⟩;have eY:1<=V:=by have:=cS.o;omega
       have dn:r<2*V:=by have:=cS.o;omega
       obtain ⟨ph,dc⟩:∃ph,r/V=ph:=⟨_,rfl⟩;obtain ⟨rd,d9⟩:∃rd,r%V=rd:=⟨_,rfl⟩;have bz:ph<2:=by rw [<-dc];exact (Nat.div_lt_iff_lt_mul ao).2 dn
       have bI:rd<V:=by rw [<-d9];exact Nat.mod_lt _ ao
       obtain ⟨f0,e7,HV,cb,bM,gR⟩:=ah dc d9 hV bI bz eY;clear ho q Z HQ fc fi es dc d9 hV dn bz bI eY;go_wp2_with fail
       go_loopw [69] (λu wx=>∃x:Nat,x<=W/\u=H8 (x:Nat)/\dK W1.heap.size wx A' c' W n g L (λy=>if y<x then ye (lo,C) W ck st bk r G y else G y)/\Keep (λj=>∃y,y<W/\j=g y) W5 wx) (λu _=>W-(intOf u).toNat)
       ·exact ⟨0,Gc _,rfl,gk.o.congr λy _=>if_neg (Nat.not_lt_zero y),Keep.refl _ _⟩
       case round=>
        obtain ⟨x,hx,rfl,O,hk⟩:=hrel;obtain ⟨Wx,rfl⟩:∃Wx:N5,Wx=wr:=⟨_,rfl⟩;by_cases H:x<W
        ·have hs:(x:Int)<W:=ao;have a3:∀j,(∃y,y<W/\j=g y)->j<Wk.heap.size/\W1.heap.size<=j:=λj ⟨y,hy,e⟩=>by rw [e];exact ⟨dT.o y hy,dG.o y hy⟩
         have ho:=HO.o.keep hk λj e=>(a3 j e).1;have bi:Wx.heap[w.heap.size]?=some (.cells #[H8 (st:Nat),H8 (bk:Nat),H8 (lo:Nat),H8 (C:Nat),H8 (W:Nat),H8 (ck:Nat)] 71 (0,0)):=(hk.block _ (by have:=F1 (TJ.o _ bd.o);exact this) (λe=>by have:=(a3 _ e).2;have:=b7.o;omega)).trans (TJ.o _ bd.o);obtain ⟨gX,dv,ga,d7,a7⟩:=ag O hk ho bi a3;have cj:∀i,ap Wx i->i.cell? (aq w.heap.size 4)=some (H8 (W:Nat)):=λi q=>Ga i _ 4 _ _ _ (sb bi i q);have lj:=F1 bi;have e1:IntKind.i64.wrap ((W:Int)-1)=(V:Int):=by rw [Gd _ ao];have:=HV.o;omega
         have e2:((r:Int)).tdiv (V:Int)=(ph:Int):=by rw [<-f0.o];exact (Int.ofNat_tdiv r V).symm
         have e3:((r:Int)).tmod (V:Int)=(rd:Int):=by rw [<-e7.o];exact (Int.ofNat_tmod r V).symm
         have e4:IntKind.i64.wrap (ph:Int)=(ph:Int):=Gd _ (by have:=bM.o;omega);have e5:IntKind.i64.wrap (rd:Int)=(rd:Int):=Gd _ (by have:=cb.o;have:=HV.o;omega);have e6:¬(V=0):=by have:=gR.o;omega
         clear O hk ho bi a3;go_upto_region 23 with (fail);have s0:=(br Wx).drew;refine HA.g (λi:N5=>ap Wx i) ?_;refine HA.ld 0 (#[H8 (st:Nat),H8 (bk:Nat),H8 (lo:Nat),H8 (C:Nat),H8 (W:Nat),H8 (ck:Nat)]) (λi q=>sb d7.o i q) qZ s0 ?_;refine HA.t ?_ [1,2,3,4,5,6,7,8,9,10,11,14] s0 ?_;refine HA.c 12 (pY st bk lo C W ck x ph rd _ h1 ao H bM.o (by have:=cb.o;have:=HV.o;omega) ao ao b8.1 b8.2) ?_;rintro _ w6 ⟨v6,rfl,Q,k6⟩;obtain ⟨A6,c6,rfl, -⟩:=aE Q;have s1:=bt s0 k6;refine ⟨_,rfl,s1,λ_=>?_⟩;obtain ⟨AL,b5⟩:∃AL,bf st bk (lo,C) W ck x ph rd=AL:=⟨_,rfl⟩;rw [b5] at Q ⊢;obtain ⟨N,hN⟩:∃N,AL.length=N:=⟨_,rfl⟩;rw [hN] at Q ⊢;refine HA.t ?_ [13] s1 ?_;refine HA.d ?_;obtain ⟨ev,S1,eX,HN⟩:=af Q s1 b5 hN
         have hq:N<=1000000:=by
          rw [<-hN,<-b5];exact Ge (uC ao e9 b8.1) (by show 2*C<=1000000;omega)
         clear s0 s1 k6 Q e1 e2 e3 e4 e5 e6 cj b5 hN;obtain ⟨Gx,d2⟩:∃Gx:Nat->N1,Gx=λy=>if y<x then ye (lo,C) W ck st bk r G y else G y:=⟨_,rfl⟩
         have a1:=aa ((gX.o.below S1.o).congr (G':=upd Gx x (rvL (G (pvN W x)) (G x) (AL.take 0))) λy _=>by
          unfold upd;by_cases e:y=x
          ·subst e;rw [if_pos rfl,if_neg (Nat.lt_irrefl _)];rfl
          ·rw [if_neg e,d2])
         have dk:pvN W x<W:=by unfold pvN;split<;>omega
         have cA:((x:Int)-1)%(W:Int)=((pvN W x:Nat):Int):=by
          unfold pvN
          split
          ·next h=>rw [h,show ((0:Nat):Int)-1=((W-1:Nat):Int)-(W:Int) by omega,Int.sub_emod_right,<-Int.natCast_emod,Nat.mod_eq_of_lt ao]
          ·rw [show ((x:Nat):Int)-1=((x-1:Nat):Int) by omega,<-Int.natCast_emod,Nat.mod_eq_of_lt ao]
         obtain ⟨D,aM⟩:∃D,pvN W x=D:=⟨_,rfl⟩;rw [aM] at dk cA a1;obtain ⟨g5,bs,gV,ey⟩:=af d2 dk cA aM;clear d2 dk cA aM;go_wp2_with fail
         go_loopw [86] (λu wt=>∃t:Nat,t<=N/\u=H8 (t:Nat)/\dK W1.heap.size wt A' c' W n g L (upd Gx x (rvL (G D) (G x) (AL.take t)))/\Keep (λj=>∃y,y<W/\j=g y) w6 wt) (λu _=>N-(intOf u).toNat)
         ·exact ⟨0,Gc _,rfl,a1.o,Keep.refl _ _⟩
         case round=>
          clear a1;obtain ⟨t,hp,rfl,O,hk⟩:=hrel;obtain ⟨Wt,rfl⟩:∃Wt:N5,Wt=wr:=⟨_,rfl⟩;by_cases eM:t<N
          ·have hD:(t:Int)<N:=ao;obtain ⟨a,I⟩:∃a,AL[t]?=some a:=⟨_,GG (by rw [HN.o];exact eM)⟩;have bX:a∈bf st bk (lo,C) W ck x ph rd:=by rw [eX.o];exact List.mem_of_getElem? I
           have en:Wk.heap.size<=Wx.heap.size:=Ge g0.o dv.o.size
           have Q:=hk.own ev.o λj hj e=>by
            have q1:=(ev.o.lt j hj).1;have q2:=(a7.o j e).1;have q3:Wx.drew.heap.size=Wx.heap.size:=rfl;omega
           obtain ⟨b6,o6,rfl,f6⟩:=zA (Rd.own Q) I;have f1:Wt.heap[w.heap.size]?=some (.cells #[H8 (st:Nat),H8 (bk:Nat),H8 (lo:Nat),H8 (C:Nat),H8 (W:Nat),H8 (ck:Nat)] 71 (0,0)):=(hk.block _ (F1 (sb d7.o _ S1.o)) (λe=>by have:=(a7.o _ e).2;have:=b7.o;omega)).trans (sb d7.o _ S1.o);have f5:=(ga.o.below S1.o).keep hk λj e=>(a7.o j e).1;obtain ⟨gG,g4,gd,f7,eb,Ha,ds,hg⟩:=aj f6 f1 f5 O hk I bX en;clear f6 f1 f5 O hk I bX Q en;go_upto_region 26 with (first | (refine vV gG.o wu rfl rfl rfl ?_) | (refine dx (F4 _ _) wu rfl rfl rfl rfl rfl rfl rfl ?_;intro Wa ea ka;obtain ⟨EA,KA⟩:=ab ea (di ka);clear ea ka));obtain ⟨sd,a6⟩:∃sd,a.send=sd:=⟨_,rfl⟩;have c0:Wa.cell? (aq Wt.heap.size 0)=some (.bool sd):=by rw [<-a6];exact Ga Wa _ 0 _ _ _ EA.o
           have lA:=F1 EA.o
           cases sd with
           | true=>
            have d3:=aa ((f7.o.below KA.o).congr (G':=upd Gx x (rvL (G D) (G x) (AL.take (t+1)))) λy _=>by rw [sj Ha.o];unfold rvA;rw [if_pos a6]);clear a6;go_wp2_with fail;go_roundw
            ·exact ⟨t+1,by omega,by go_num,d3.o,eb.o.trans (Keep.below KA.o)⟩
            ·simp [intOf];omega
           | false=>
            obtain ⟨g7,gp, -⟩:=AH (Nat.mod_lt _ ao) e9 b8.1 ds.o a6;have gg:a.at'.2<=n:=Ge gp gc;obtain ⟨B,bo⟩:∃B,a.at'.1=B:=⟨_,rfl⟩;obtain ⟨I,b4⟩:∃I,a.at'.2=I:=⟨_,rfl⟩;obtain ⟨ad,d4⟩:∃ad,a.add=ad:=⟨_,rfl⟩;rw [bo,b4] at g7;rw [b4] at gg;have c1:∀i,ap Wa i->i.cell? (aq Wt.heap.size 1)=some (.bool ad):=λi q=>by rw [<-d4];exact Ga i _ 1 _ _ _ (sb EA.o i q)
            have c7:∀i,ap Wa i->i.cell? (aq Wt.heap.size 7)=some (H8 (B:Nat)):=λi q=>by rw [<-bo];exact Ga i _ 7 _ _ _ (sb EA.o i q)
            have c8:∀i,ap Wa i->i.cell? (aq Wt.heap.size 8)=some (H8 (I:Nat)):=λi q=>by rw [<-b4];exact Ga i _ 8 _ _ _ (sb EA.o i q)
            have bh:=f7.o.below KA.o;have bn:=gd.o.below KA.o;obtain ⟨bA,rfl,pA⟩:=bh.cell H;obtain ⟨bO,rfl,pO⟩:=bn.cell bs.o;have el:=aC pA;have dp:=aC pO;have dA:∀i,ap Wa i->i.cell? (aq bA x)=some (.slice (some ⟨g x,0,none⟩) n (L x)):=λi q=>(q.cell (p:=(aq bA x)) el).trans pA;have dO:∀i,ap Wa i->i.cell? (aq bO D)=some (.slice (some ⟨go D,0,none⟩) n (J D)):=λi q=>(q.cell (p:=(aq bO D)) dp).trans pO;have fs:n<=L x:=by obtain ⟨_,_,e,h⟩:=aE (bh.own x H);simp only [GT] at e;omega
            have g3:n<=J D:=by obtain ⟨_,_,e,h⟩:=aE (bn.own D bs.o);simp only [GT] at e;omega
            obtain ⟨fr,dw,gU,gJ,fw,gm⟩:=ah bh bn a6 bo b4 d4;have n1:(B:Int)<=I:=ao;have n2:(I:Int)<=L x:=ao;have n3:(I:Int)<=J D:=ao;have n4:¬L x=B:=ao;have n5:¬J D=B:=ao;have n6:B<=I:=ao;have n7:I<=L x:=ao;have n8:I<=J D:=ao;have hz:(x:Int)<W:=ao;have hA:(D:Int)<W:=by have:=bs.o;omega
            have d0:=bs.o;have w1:IntKind.i64.wrap ((x:Int)-1)=(x:Int)-1:=Gd _ ao;have cv:=λi=>jb st bk lo C W ck ((x:Int)-1) i h1 ao ao ao;simp only [gV.o] at cv;have g6:=aa cv;clear pA pO bh bn a6 bo b4 d4 cv el dp fs g3;go_upto_region 27 with (fail);have s0:=(br Wa).drew;refine HA.g (λi:N5=>ap Wa i) ?_;refine HA.t ?_ [0,1,2,3,4,5,6,7,8,9,10,11,13,14,18,19,20,21,22,23] s0 ?_;refine HA.ld 12 (#[H8 (st:Nat),H8 (bk:Nat),H8 (lo:Nat),H8 (C:Nat),H8 (W:Nat),H8 (ck:Nat)]) (λi q=>sb (sb g4.o _ KA.o) i q) qZ s0 ?_;refine HA.c 15 (g6.o _) ?_;rintro _ w7 ⟨rfl,k7⟩;have s1:=bt s0 k7;refine ⟨_,rfl,s1,λ_=>?_⟩;refine HA.t ?_ [16,17,24,25,26] s1 ?_;refine HA.d ?_;have S7:=aa s1;have f3:=c1 w7 s1;obtain ⟨ew,em⟩:=ab (fr.o.below s1) (dw.o.below s1);clear s0 s1 k7 c1 c7 c8 dA dO c0;obtain ⟨ys,bl⟩:∃ys,((G D).drop B).take (I-B)=ys:=⟨_,rfl⟩;have f4:ys.length=I-B:=by rw [<-bl,GL,GO,dw.o.len d0];omega
            have cr:Rd w7 (some ⟨go D,B,none⟩) (az .i64 ys):=by
             have h5:=((Rd.own (em.o.own D d0)).drop B).take (I-B);rw [GY] at h5;have e5:((az .i64 (G D)).drop B).take (I-B)=az .i64 ys:=by rw [<-bl];simp [az,List.map_take,List.map_drop]
             rwa [e5] at h5
            have bN:go D≠g x:=by
             have q1:=(em.o.gb d0).1;have q2:=dT.o x H;omega
            have a5:=aG (ew.o.own x H) (Gc _);rw [fG] at a5;obtain ⟨X,hX⟩:∃X,rvL (G D) (G x) (AL.take t)=X:=⟨_,rfl⟩;rw [hX] at a5
            have cf:∀w8,w8.ownsRow 0 2 1 (.slice (some ⟨g x,0,none⟩) n (L x)) n (az .i64 (fO X B ys ad))->Keep (λj=>j=g x) w7 w8->dK W1.heap.size w8 (some (aq bA 0)) c' W n g L (upd Gx x (rvL (G D) (G x) (AL.take (t+1))))/\Keep (λj=>∃y,y<W/\j=g y) w6 w8:=λw8 o8 k8=>by
             refine ⟨(ew.o.set H k8 o8).congr λy _=>?_,eb.o.trans ((Keep.below (KA.o.trans (S7.o.mono KA.o.size))).trans (k8.mono λk _ e=>⟨x,H,e⟩))⟩;rw [sj Ha.o,hX];unfold upd;by_cases e:y=x
             ·rw [if_pos e,if_pos e];unfold rvA;rw [if_neg (by rw [gU.o];decide),gJ.o,fw.o,gm.o,bl]
             ·rw [if_neg e,if_neg e,if_neg e]
            obtain ⟨cs,cn,fb,b3,bV⟩:=ag f4 cr bN a5 cf;clear bl f4 cr bN a5 hX cf w1
            cases ad with
            | true=>
             have bG:=aa (pn (g x) (L x) B n (some ⟨go D,B,none⟩) X ys (I-B) (L x-B) (J D-B) w7 b3.o cn.o cs.o ao ao (λb e=>by injection e with e;rw [<-e];exact fb.o));go_wp2_with fail;refine bG.o.mono ?_;rintro e w8 ⟨rfl,o8,k8⟩;have ax:=aa (bV.o w8 o8 k8);clear o8 k8 f3 bG;go_wp2_with fail;go_roundw
             ·exact ⟨t+1,by omega,by go_num,ax.o.1,ax.o.2⟩
             ·simp [intOf];omega
            | false=>
             obtain ⟨cw,ci,f2,f8,ek⟩:=wC b3.o;have ef:X.length=n:=fT b3.o;have bv:(az .i64 ys).length=I-B:=by rw [aS,cs.o]
             have b1:B+(az .i64 ys).length<=cw.length:=by rw [bv];omega
             have c9:∀i:N5,i.heap[g x]?=some (.cells (splice cw B (az .i64 ys)).toArray 2 (0,0))->i.ownsRow 0 2 1 (.slice (some ⟨g x,0,none⟩) n (L x)) n (az .i64 (fO X B ys false)):=λi hw=>by
              have:=ek i _ hw (nv b1)
              rwa [mj (by rw [bv];omega) f8,f2,gP,qA (by rw [cs.o,ef];omega)] at this
             obtain ⟨er,g9,ej,eu⟩:=af ci bv b1 c9;clear ci f2 f8 ek bv b1 c9 ef;go_wp2_with (refine iI rfl (.tmp 122) (.tmp 123) 73 73 rfl 2 underlying73 (by kernel_rfl) (some ⟨g x,B,none⟩) (some ⟨go D,B,none⟩) (I-B) (L x-B) (J D-B) rfl rfl (g x) B cw 2 er.o (az .i64 ys) g9.o (λ_=>rfl) cn.o ej.o (bS _ _) ?_;intro w8 g8 k8;have ax:=aa (bV.o w8 (eu.o w8 g8) k8);clear g8 k8 f3);go_roundw
             ·exact ⟨t+1,by omega,by go_num,ax.o.1,ax.o.2⟩
             ·simp [intOf];omega
          ·obtain rfl:N=t:=ao;have h3:¬((N:Int)<N):=ao
           have d3:=aa (O.congr (G':=λy=>if y<x+1 then ye (lo,C) W ck st bk r G y else G y) λy hy=>by
            unfold upd;by_cases e:y=x
            ·subst e;rw [if_pos rfl,if_pos ao,List.take_of_length_le (by rw [HN.o];omega),<-eX.o,<-f0.o,<-e7.o,<-HV.o,<-ey.o];rfl
            ·rw [if_neg e,g5.o]
             show (if y<x+1 then ye (lo,C) W ck st bk r G y else G y)=if y<x then ye (lo,C) W ck st bk r G y else G y
             by_cases e2:y<x
             ·rw [if_pos e2,if_pos ao]
             ·rw [if_neg e2,if_neg ao])
           have gv:=aa (dv.o.trans ((Keep.below S1.o).trans hk));clear O hk;go_wp2_with fail;go_roundw
           ·exact ⟨x+1,by omega,by go_num,d3.o,gv.o⟩
           ·simp [intOf];omega
        ·obtain rfl:W=x:=ao;have h4:¬((W:Int)<W):=ao;have gB:=aa (O.congr (G':=jj (lo,C) W ck st bk (cX T) (r+1)) λy hy=>by rw [if_pos hy,<-HG.o];rfl);have gs:W1.heap.size<=W5.heap.size:=bd.o.size;have gl:=aa (bd.o.trans (hk.toBelow gs (λj ⟨y,hy,e⟩=>by rw [e];exact dG.o y hy)));clear O hk;go_wp2_with fail;go_roundw
         ·exact ⟨r+1,by omega,by go_num,gB.o,gl.o⟩
         ·simp [intOf];omega
    ·obtain rfl:r=R:=ao;have hd:¬((r:Int)<r):=ao;go_wp2_with fail;go_ret2;exact ⟨⟨A',c',g,L,rfl,by rw [cS.o,HG.o];exact ⟨aG Z.o.row (by have:=b7.o;omega),λx hx=>aG (Z.o.own x hx) (by have:=b7.o;omega),Z.o.ne⟩⟩,HB.o.trans (HQ.o.mono HB.o.size)⟩
def zK (l:List (N1)) (k:Nat):N1:=l.getD k []
def FF (w:N5) (A:N0) (vs:List (N1)):Prop:=
 ∀k,k<vs.length->∃b o,A=some (aq b o)/\∃B c,w.cell? (aq b (o+k))=some (.slice B (zK vs k).length c)/\Rd w B (az .i64 (zK vs k))
def rz (vs:List (N1)):Nat->Nat
 | 0=>0
 | k+1=>rz vs k+min (zK vs k).length 2000
theorem DZ (vs:List (N1)):∀k,rz vs k<=2000*k:=by
 intro k
 induction k with
 | zero=>simp [rz]
 | succ k ih=>simp only [rz];omega
def zh (vs:List (N1)):Bool:=decide (vs.length<=60)&&decide (rz vs (min vs.length 100)<=1500)
theorem Cj (A:N0) (vs:List (N1)) (c:Nat) (w:N5) (C:FF w A vs) (hl:vs.length<=9223372036854775807):Calls prog 20 #[.slice A vs.length c] w λe y=>e=.returned (.bool (zh vs))/\w=y:=by
 go_enter func20,ntmps20;go_wp2
 go_loop [3,4] (λn i=>∃k:Nat,k<=vs.length/\k<=100/\i=H8 k/\n=H8 (rz vs k)) (λ_ i=>100-(intOf i).toNat)
 ·exact ⟨0,Gc _,by omega,rfl,rfl⟩
 case round=>
  obtain ⟨k,hk,x,rfl,rfl⟩:=hrel;have D:=DZ vs k;by_cases p:k<vs.length
  ·by_cases v:k<100
   ·obtain ⟨b,o,rfl,B,d,hc,_⟩:=C k p;go_wp2
    all_goals
     go_round
     ·exact ⟨k+1,by omega,by omega,by go_num,by simp only [rz];go_num⟩
     ·simp [intOf];omega
   ·obtain rfl:k=100:=ao;have h:zh vs=false:=by unfold zh;rw [G3 ao];rfl
    have H:=aa h;clear h;go_wp2
    all_goals
     go_ret;exact ⟨cB H.o.symm,rfl⟩
  ·obtain rfl:k=vs.length:=ao;have hm:min vs.length 100=vs.length:=ao;have h:zh vs=(decide (vs.length<=60)&&decide (rz vs vs.length<=1500)):=by unfold zh;rw [hm]
   have H:=aa h;clear h hm;by_cases u:vs.length<=60
   ·by_cases I:rz vs vs.length<=1500
    ·go_wp2;go_ret;exact ⟨cB (by rw [H.o];simp [u];omega),rfl⟩
    ·go_wp2;go_ret;exact ⟨cB (by rw [H.o];simp [u];omega),rfl⟩
   ·go_wp2;go_ret;exact ⟨cB (by rw [H.o];simp [u]),rfl⟩
end Go.Proofs.YtindmkcnjlgomaaGreat
namespace Go.Proofs.YtindmkcnjlgomaaGreat
open Go.RowKit Go.ChangeShapes Go.WideShapes Go.ChangeAt
open Tryz
theorem vF:prog.cellsOf 59=2:=by kernel_rfl
theorem zr:prog.cellsOf 5=1:=by kernel_rfl
theorem EE {z:Int} (h:(Lit.int .u8 z).wf=true):0<=z/\z<=255:=by
 simpa [Lit.wf,IntKind.min,IntKind.max,IntKind.signed,IntKind.bits] using h
theorem yz {H:Type} {x:N6×Value->H} {W:N5} {base:Nat} {v:Value} {d:DataW H} {p:List MemPlace} (o:Value.okWide prog W .any base 59 v) (h:DataW.Trod x prog W 0 (λ_=>true) true 59 v d p):
  ∃u a1:Int,v=.agg #[.int .u8 u,.int .u8 a1]/\(0<=u/\u<=255)/\(0<=a1/\a1<=255):=by
 simp only [Value.okWide,underlying59] at o;obtain ⟨Q,rfl,U,_⟩:=o;obtain ⟨I,R⟩:=h;obtain ⟨xs,m,_,_,hl,L,A⟩:=DataW.trod_array underlying59 R;rw [vF] at hl U;simp only [zr,Nat.mul_one] at A;obtain ⟨l⟩:=Q;have e:(Value.agg ⟨l⟩).cells.toList=l:=rfl;rw [e] at hl A
 have C:∀i,i<2->∃a:Int,(l.drop i).take 1=[.int .u8 a]/\(0<=a/\a<=255):=λi V=>by
  have D:=A i V;obtain ⟨y,T⟩:∃y,xs[i]?=some y:=⟨_,GG ao⟩;rw [T] at D;obtain ⟨a,Y,_,Z⟩:=DataW.trod_int underlying5 D;exact ⟨a,Y,EE Z⟩
 match l,hl with
 | [c0,c1],_=>
  obtain ⟨u,B,O⟩:=C 0 ao;obtain ⟨a1,J,N⟩:=C 1 ao;simp at B J;exact ⟨u,a1,by rw [B,J],O,N⟩
theorem yy:qI prog 58 1 (rSl (AT .i64) 1):=sH underlying58 uP (by kernel_rfl) (of_decide_eq_true (by kernel_rfl))
def tU (w:N5) (A:N0) (vs:List (N1)) (xs:N4):Prop:=Rd w A xs/\xs.length=vs.length/\∀k,k<vs.length->∃B ck,xs[k]?=some (.slice B (cX vs k).length ck)/\(cX vs k).length<=17592186043904/\Rd w B (az .i64 (cX vs k))/\W64 (cX vs k)
theorem DI {H:Type} {C:N6×Value->H} {W:N5} {base:Nat} {v:Value} {d:DataW H} {p:List MemPlace} (o:Value.okWide prog W .any base 58 v) (h:DataW.Trod C prog W 0 (λ_=>true) true 58 v d p) (z:jI prog 58 d):
  ∃(A:N0) (vs:List (N1)) (c:Nat) (xs:N4),v=.slice A vs.length c/\vs.length<=17592186043904/\tU W A vs xs:=by
 obtain ⟨a,T,cap,rfl⟩:=okWide_slice underlying58 o;obtain ⟨l,⟨A,c,e,N,V,J,rows,D,L,u,I⟩,_⟩:=sI yy h z;simp [Value.cells] at e;obtain ⟨rfl,rfl,rfl⟩:=e
 have i:(List.flatten rows).length=l.length:=by
  rw [<-L];clear D L I N J
  induction rows with
  | nil=>rfl
  | cons r rows ih=>rw [List.flatten_cons,GE,u r (by simp),ih (λr hr=>u r (by simp [hr]))];simp;omega
 have y:∀(rows:List (N4)),(∀r∈rows,r.length=1)->∀(k:Nat) (r:Value),bH rows k=[r]->k<rows.length->(List.flatten rows)[k]?=some r:=by
  intro rows
  induction rows with
  | nil=>intro _ k r _ hk;simp at hk
  | cons s rows ih=>
   intro hr k r hk hl;have Q:=hr s (by simp);rw [List.flatten_cons]
   cases k with
   | zero=>
    have:s=[r]:=by simpa [bH] using hk
    rw [this];rfl
   | succ k=>
    rw [GK ao,Q,Nat.add_sub_cancel];exact ih (λr x=>hr r (by simp [x])) k r (by simpa [bH] using hk) (by simp at hl;omega)
 refine ⟨_,l,_,List.flatten rows,rfl,J,D,i,λk hk=>?_⟩;obtain ⟨B,ck,e,g1,Y,U,O,R⟩:=I k (cX l k) (fK hk);exact ⟨B,ck,y rows u k _ e ao,U,O,EF R⟩
section
variable {w w':N5} {A:N0} {vs:List (N1)} {xs:N4}
theorem tU.below (h:tU w A vs xs) (q:ap w w'):tU w' A vs xs:=⟨h.1.below q,h.2.1,λk hk=>by
 obtain ⟨B,ck,p,i,u,o⟩:=h.2.2 k hk
 exact ⟨B,ck,p,i,u.below q,o⟩⟩
theorem tU.vecs (h:tU w A vs xs):FF w A vs:=λk hk=>by
 obtain ⟨B,ck,i,u,p,v⟩:=h.2.2 k hk;obtain ⟨b,o,e,hc⟩:=h.1 k _ i;exact ⟨b,o,e,B,ck,hc,p⟩
theorem tU.slrd (h:tU w A vs xs) {p:N0} (hr:Rd w p xs):cO gO 1 w p vs:=rV hr h.2.1 λj x i=>by
 have o:j<vs.length:=(GF.1 i).1;obtain ⟨B,ck,v,u,y,C⟩:=h.2.2 j o;rw [fK o] at i;injection i with i
 subst i;exact ⟨_,v,B,ck,rfl,u,y⟩
end
end Go.Proofs.YtindmkcnjlgomaaGreat
namespace Go.Proofs.YtindmkcnjlgomaaGreat
open Go.RowKit
open Tryz
def smK:Inp:=⟨⟨[1,1],1,1,1,2,2,1,1,2,1,1,1⟩,[([2],[6]),([4],[2])],[4,2],[1,0]⟩
theorem Ae:me smK:=by
 refine ⟨⟨by decide,by decide,⟨⟨by decide,λk hk=>?_⟩,by decide⟩,by decide,by decide,by decide,by decide,by decide,by decide,by decide⟩,by decide,λx h=>?_,by decide,by decide⟩
 ·have:k=0\/k=1:=by have:k<2:=hk;omega
  rcases this with rfl | rfl<;>decide
 ·have:x=([2],[6])\/x=([4],[2]):=by simpa [smK] using h
  rcases this with rfl | rfl<;>decide
theorem gj:bj smK:=⟨Ae,by decide,by decide,by decide,by decide,by decide⟩
theorem EI {w:N5} {b:Nat} (O:w.heap[b]?=some (.cells #[H8 1,H8 1] 3 (0,0))) {p u o i B y A:Nat} (H:w.heap[p]?=some (.cells #[H8 2] 2 (0,0))) (Q:w.heap[u]?=some (.cells #[H8 6] 2 (0,0))) (I:w.heap[o]?=some (.cells #[H8 4] 2 (0,0))) (N:w.heap[i]?=some (.cells #[H8 2] 2 (0,0))) (C:w.heap[B]?=some (.cells #[.slice (some (aq p 0)) 1 1,.slice (some (aq u 0)) 1 1,.slice (some (aq o 0)) 1 1,.slice (some (aq i 0)) 1 1] 145 (0,0))) (L:w.heap[y]?=some (.cells #[H8 4,H8 2] 2 (0,0))) (D:w.heap[A]?=some (.cells #[.int .u64 1,.int .u64 0] 33 (0,0))):
  mM w (some (aq b 0)) 2 (some (aq B 0)) (some (aq y 0)) 2 (some (aq A 0)) smK:=by
 refine ⟨⟨by decide,by decide,by decide,mz O⟩,?_,by decide,⟨by decide,by decide,mz L,ku (by simp [smK])⟩,by decide,mz D,by decide,λk hk=>?_,by decide,by decide⟩
 ·refine ⟨[[.slice (some (aq p 0)) 1 1,.slice (some (aq u 0)) 1 1],[.slice (some (aq o 0)) 1 1,.slice (some (aq i 0)) 1 1]],mz C,rfl,by simp,λj x v=>?_⟩;have J:j=0\/j=1:=by have:=(GF.1 v).1;simp [smK] at this;omega
  rcases J with rfl | rfl
  ·have h:x=([2],[6]):=by simpa [smK] using v.symm
   subst h;exact ⟨_,_,_,_,rfl,⟨by decide,by decide,mz H,ku (by simp)⟩,⟨by decide,by decide,mz Q,ku (by simp)⟩⟩
  ·have h:x=([4],[2]):=by simpa [smK] using v.symm
   subst h;exact ⟨_,_,_,_,rfl,⟨by decide,by decide,mz I,ku (by simp)⟩,⟨by decide,by decide,mz N,ku (by simp)⟩⟩
 ·have:k=0\/k=1:=by have:k<2:=hk;omega
  rcases this with rfl | rfl<;>decide
theorem xI (w:N5):Calls prog 33 #[] w λe h=>∃b v y u o p i x:Nat,e=.returned (.agg #[.slice (some (aq b 0)) 2 2,H8 1,H8 1,H8 1,H8 2,H8 2,H8 1,H8 1,H8 2,H8 1,H8 1,H8 1,.slice (some (aq p 0)) 2 2,.slice (some (aq i 0)) 2 2,.slice (some (aq x 0)) 2 2])/\h.heap[b]?=some (.cells #[H8 1,H8 1] 3 (0,0))/\h.heap[v]?=some (.cells #[H8 2] 2 (0,0))/\h.heap[y]?=some (.cells #[H8 6] 2 (0,0))/\h.heap[u]?=some (.cells #[H8 4] 2 (0,0))/\h.heap[o]?=some (.cells #[H8 2] 2 (0,0))/\
  h.heap[p]?=some (.cells #[.slice (some (aq v 0)) 1 1,.slice (some (aq y 0)) 1 1,.slice (some (aq u 0)) 1 1,.slice (some (aq o 0)) 1 1] 145 (0,0))/\h.heap[i]?=some (.cells #[H8 4,H8 2] 2 (0,0))/\h.heap[x]?=some (.cells #[.int .u64 1,.int .u64 0] 33 (0,0))/\ap w h:=by
 go_enter func33,ntmps33;go_wp2_with fail;refine Gm (sy rfl rfl (dC [.cells #[.slice (some (aq (w.heap.size+1) 0)) 2 2,H8 1,H8 1,H8 1,H8 2,H8 2,H8 1,H8 1,H8 2,H8 1,H8 1,H8 1,.slice (some (aq (w.heap.size+1+1+1+1+1+1+1) 0)) 2 2,.slice (some (aq (w.heap.size+1+1+1+1+1+1+1+1) 0)) 2 2,.slice (some (aq (w.heap.size+1+1+1+1+1+1+1+1+1) 0)) 2 2] 29,.cells #[H8 1,H8 1] 3,.cells #[.slice (some (aq (w.heap.size+1) 0)) 2 2,H8 1,H8 1,H8 1,H8 2,H8 2,H8 1,H8 1,H8 2,H8 1,H8 1,H8 1] 24,.cells #[H8 2] 2,.cells #[H8 6] 2,.cells #[H8 4] 2,.cells #[H8 2] 2,.cells #[.slice (some (aq (w.heap.size+1+1+1) 0)) 1 1,.slice (some (aq (w.heap.size+1+1+1+1) 0)) 1 1,.slice (some (aq (w.heap.size+1+1+1+1+1) 0)) 1 1,.slice (some (aq (w.heap.size+1+1+1+1+1+1) 0)) 1 1] 145,.cells #[H8 4,H8 2] 2,.cells #[.int .u64 1,.int .u64 0] 33] w 0 rfl) EN) rfl ⟨_,_,_,_,_,_,_,_,rfl,dC [.cells #[.slice (some (aq (w.heap.size+1) 0)) 2 2,H8 1,H8 1,H8 1,H8 2,H8 2,H8 1,H8 1,H8 2,H8 1,H8 1,H8 1,.slice (some (aq (w.heap.size+1+1+1+1+1+1+1) 0)) 2 2,.slice (some (aq (w.heap.size+1+1+1+1+1+1+1+1) 0)) 2 2,.slice (some (aq (w.heap.size+1+1+1+1+1+1+1+1+1) 0)) 2 2] 29,.cells #[H8 1,H8 1] 3,.cells #[.slice (some (aq (w.heap.size+1) 0)) 2 2,H8 1,H8 1,H8 1,H8 2,H8 2,H8 1,H8 1,H8 2,H8 1,H8 1,H8 1] 24,.cells #[H8 2] 2,.cells #[H8 6] 2,.cells #[H8 4] 2,.cells #[H8 2] 2,.cells #[.slice (some (aq (w.heap.size+1+1+1) 0)) 1 1,.slice (some (aq (w.heap.size+1+1+1+1) 0)) 1 1,.slice (some (aq (w.heap.size+1+1+1+1+1) 0)) 1 1,.slice (some (aq (w.heap.size+1+1+1+1+1+1) 0)) 1 1] 145,.cells #[H8 4,H8 2] 2,.cells #[.int .u64 1,.int .u64 0] 33] w 1 rfl,dC [.cells #[.slice (some (aq (w.heap.size+1) 0)) 2 2,H8 1,H8 1,H8 1,H8 2,H8 2,H8 1,H8 1,H8 2,H8 1,H8 1,H8 1,.slice (some (aq (w.heap.size+1+1+1+1+1+1+1) 0)) 2 2,.slice (some (aq (w.heap.size+1+1+1+1+1+1+1+1) 0)) 2 2,.slice (some (aq (w.heap.size+1+1+1+1+1+1+1+1+1) 0)) 2 2] 29,.cells #[H8 1,H8 1] 3,.cells #[.slice (some (aq (w.heap.size+1) 0)) 2 2,H8 1,H8 1,H8 1,H8 2,H8 2,H8 1,H8 1,H8 2,H8 1,H8 1,H8 1] 24,.cells #[H8 2] 2,.cells #[H8 6] 2,.cells #[H8 4] 2,.cells #[H8 2] 2,.cells #[.slice (some (aq (w.heap.size+1+1+1) 0)) 1 1,.slice (some (aq (w.heap.size+1+1+1+1) 0)) 1 1,.slice (some (aq (w.heap.size+1+1+1+1+1) 0)) 1 1,.slice (some (aq (w.heap.size+1+1+1+1+1+1) 0)) 1 1] 145,.cells #[H8 4,H8 2] 2,.cells #[.int .u64 1,.int .u64 0] 33] w 3 rfl,dC [.cells #[.slice (some (aq (w.heap.size+1) 0)) 2 2,H8 1,H8 1,H8 1,H8 2,H8 2,H8 1,H8 1,H8 2,H8 1,H8 1,H8 1,.slice (some (aq (w.heap.size+1+1+1+1+1+1+1) 0)) 2 2,.slice (some (aq (w.heap.size+1+1+1+1+1+1+1+1) 0)) 2 2,.slice (some (aq (w.heap.size+1+1+1+1+1+1+1+1+1) 0)) 2 2] 29,.cells #[H8 1,H8 1] 3,.cells #[.slice (some (aq (w.heap.size+1) 0)) 2 2,H8 1,H8 1,H8 1,H8 2,H8 2,H8 1,H8 1,H8 2,H8 1,H8 1,H8 1] 24,.cells #[H8 2] 2,.cells #[H8 6] 2,.cells #[H8 4] 2,.cells #[H8 2] 2,.cells #[.slice (some (aq (w.heap.size+1+1+1) 0)) 1 1,.slice (some (aq (w.heap.size+1+1+1+1) 0)) 1 1,.slice (some (aq (w.heap.size+1+1+1+1+1) 0)) 1 1,.slice (some (aq (w.heap.size+1+1+1+1+1+1) 0)) 1 1] 145,.cells #[H8 4,H8 2] 2,.cells #[.int .u64 1,.int .u64 0] 33] w 4 rfl,dC [.cells #[.slice (some (aq (w.heap.size+1) 0)) 2 2,H8 1,H8 1,H8 1,H8 2,H8 2,H8 1,H8 1,H8 2,H8 1,H8 1,H8 1,.slice (some (aq (w.heap.size+1+1+1+1+1+1+1) 0)) 2 2,.slice (some (aq (w.heap.size+1+1+1+1+1+1+1+1) 0)) 2 2,.slice (some (aq (w.heap.size+1+1+1+1+1+1+1+1+1) 0)) 2 2] 29,.cells #[H8 1,H8 1] 3,.cells #[.slice (some (aq (w.heap.size+1) 0)) 2 2,H8 1,H8 1,H8 1,H8 2,H8 2,H8 1,H8 1,H8 2,H8 1,H8 1,H8 1] 24,.cells #[H8 2] 2,.cells #[H8 6] 2,.cells #[H8 4] 2,.cells #[H8 2] 2,.cells #[.slice (some (aq (w.heap.size+1+1+1) 0)) 1 1,.slice (some (aq (w.heap.size+1+1+1+1) 0)) 1 1,.slice (some (aq (w.heap.size+1+1+1+1+1) 0)) 1 1,.slice (some (aq (w.heap.size+1+1+1+1+1+1) 0)) 1 1] 145,.cells #[H8 4,H8 2] 2,.cells #[.int .u64 1,.int .u64 0] 33] w 5 rfl,dC [.cells #[.slice (some (aq (w.heap.size+1) 0)) 2 2,H8 1,H8 1,H8 1,H8 2,H8 2,H8 1,H8 1,H8 2,H8 1,H8 1,H8 1,.slice (some (aq (w.heap.size+1+1+1+1+1+1+1) 0)) 2 2,.slice (some (aq (w.heap.size+1+1+1+1+1+1+1+1) 0)) 2 2,.slice (some (aq (w.heap.size+1+1+1+1+1+1+1+1+1) 0)) 2 2] 29,.cells #[H8 1,H8 1] 3,.cells #[.slice (some (aq (w.heap.size+1) 0)) 2 2,H8 1,H8 1,H8 1,H8 2,H8 2,H8 1,H8 1,H8 2,H8 1,H8 1,H8 1] 24,.cells #[H8 2] 2,.cells #[H8 6] 2,.cells #[H8 4] 2,.cells #[H8 2] 2,.cells #[.slice (some (aq (w.heap.size+1+1+1) 0)) 1 1,.slice (some (aq (w.heap.size+1+1+1+1) 0)) 1 1,.slice (some (aq (w.heap.size+1+1+1+1+1) 0)) 1 1,.slice (some (aq (w.heap.size+1+1+1+1+1+1) 0)) 1 1] 145,.cells #[H8 4,H8 2] 2,.cells #[.int .u64 1,.int .u64 0] 33] w 6 rfl,dC [.cells #[.slice (some (aq (w.heap.size+1) 0)) 2 2,H8 1,H8 1,H8 1,H8 2,H8 2,H8 1,H8 1,H8 2,H8 1,H8 1,H8 1,.slice (some (aq (w.heap.size+1+1+1+1+1+1+1) 0)) 2 2,.slice (some (aq (w.heap.size+1+1+1+1+1+1+1+1) 0)) 2 2,.slice (some (aq (w.heap.size+1+1+1+1+1+1+1+1+1) 0)) 2 2] 29,.cells #[H8 1,H8 1] 3,.cells #[.slice (some (aq (w.heap.size+1) 0)) 2 2,H8 1,H8 1,H8 1,H8 2,H8 2,H8 1,H8 1,H8 2,H8 1,H8 1,H8 1] 24,.cells #[H8 2] 2,.cells #[H8 6] 2,.cells #[H8 4] 2,.cells #[H8 2] 2,.cells #[.slice (some (aq (w.heap.size+1+1+1) 0)) 1 1,.slice (some (aq (w.heap.size+1+1+1+1) 0)) 1 1,.slice (some (aq (w.heap.size+1+1+1+1+1) 0)) 1 1,.slice (some (aq (w.heap.size+1+1+1+1+1+1) 0)) 1 1] 145,.cells #[H8 4,H8 2] 2,.cells #[.int .u64 1,.int .u64 0] 33] w 7 rfl,dC [.cells #[.slice (some (aq (w.heap.size+1) 0)) 2 2,H8 1,H8 1,H8 1,H8 2,H8 2,H8 1,H8 1,H8 2,H8 1,H8 1,H8 1,.slice (some (aq (w.heap.size+1+1+1+1+1+1+1) 0)) 2 2,.slice (some (aq (w.heap.size+1+1+1+1+1+1+1+1) 0)) 2 2,.slice (some (aq (w.heap.size+1+1+1+1+1+1+1+1+1) 0)) 2 2] 29,.cells #[H8 1,H8 1] 3,.cells #[.slice (some (aq (w.heap.size+1) 0)) 2 2,H8 1,H8 1,H8 1,H8 2,H8 2,H8 1,H8 1,H8 2,H8 1,H8 1,H8 1] 24,.cells #[H8 2] 2,.cells #[H8 6] 2,.cells #[H8 4] 2,.cells #[H8 2] 2,.cells #[.slice (some (aq (w.heap.size+1+1+1) 0)) 1 1,.slice (some (aq (w.heap.size+1+1+1+1) 0)) 1 1,.slice (some (aq (w.heap.size+1+1+1+1+1) 0)) 1 1,.slice (some (aq (w.heap.size+1+1+1+1+1+1) 0)) 1 1] 145,.cells #[H8 4,H8 2] 2,.cells #[.int .u64 1,.int .u64 0] 33] w 8 rfl,dC [.cells #[.slice (some (aq (w.heap.size+1) 0)) 2 2,H8 1,H8 1,H8 1,H8 2,H8 2,H8 1,H8 1,H8 2,H8 1,H8 1,H8 1,.slice (some (aq (w.heap.size+1+1+1+1+1+1+1) 0)) 2 2,.slice (some (aq (w.heap.size+1+1+1+1+1+1+1+1) 0)) 2 2,.slice (some (aq (w.heap.size+1+1+1+1+1+1+1+1+1) 0)) 2 2] 29,.cells #[H8 1,H8 1] 3,.cells #[.slice (some (aq (w.heap.size+1) 0)) 2 2,H8 1,H8 1,H8 1,H8 2,H8 2,H8 1,H8 1,H8 2,H8 1,H8 1,H8 1] 24,.cells #[H8 2] 2,.cells #[H8 6] 2,.cells #[H8 4] 2,.cells #[H8 2] 2,.cells #[.slice (some (aq (w.heap.size+1+1+1) 0)) 1 1,.slice (some (aq (w.heap.size+1+1+1+1) 0)) 1 1,.slice (some (aq (w.heap.size+1+1+1+1+1) 0)) 1 1,.slice (some (aq (w.heap.size+1+1+1+1+1+1) 0)) 1 1] 145,.cells #[H8 4,H8 2] 2,.cells #[.int .u64 1,.int .u64 0] 33] w 9 rfl,jc [.cells #[.slice (some (aq (w.heap.size+1) 0)) 2 2,H8 1,H8 1,H8 1,H8 2,H8 2,H8 1,H8 1,H8 2,H8 1,H8 1,H8 1,.slice (some (aq (w.heap.size+1+1+1+1+1+1+1) 0)) 2 2,.slice (some (aq (w.heap.size+1+1+1+1+1+1+1+1) 0)) 2 2,.slice (some (aq (w.heap.size+1+1+1+1+1+1+1+1+1) 0)) 2 2] 29,.cells #[H8 1,H8 1] 3,.cells #[.slice (some (aq (w.heap.size+1) 0)) 2 2,H8 1,H8 1,H8 1,H8 2,H8 2,H8 1,H8 1,H8 2,H8 1,H8 1,H8 1] 24,.cells #[H8 2] 2,.cells #[H8 6] 2,.cells #[H8 4] 2,.cells #[H8 2] 2,.cells #[.slice (some (aq (w.heap.size+1+1+1) 0)) 1 1,.slice (some (aq (w.heap.size+1+1+1+1) 0)) 1 1,.slice (some (aq (w.heap.size+1+1+1+1+1) 0)) 1 1,.slice (some (aq (w.heap.size+1+1+1+1+1+1) 0)) 1 1] 145,.cells #[H8 4,H8 2] 2,.cells #[.int .u64 1,.int .u64 0] 33] w⟩
theorem iN {i:Func} {t u v x:Tmp} (h:i.results=#[.tmp t,.tmp u,.tmp v,.tmp x]) (tmps:N2) (P:Program) (w:N5): (results i tmps).run P w=.ok (.tuple #[tmps.getD t undef,tmps.getD u undef,tmps.getD v undef,tmps.getD x undef]) w:=by
 simp [results,h]
theorem Du {X:Nat} {v o:N0} {x u n:Nat} {p:Value} {z:Int} {w:N5} (hb:w.heap[X]?=some (.cells #[.slice v n x,.slice o n u,p] 99 (0,0))) (B:z<0\/(n:Int)<=z):Calls prog 43 #[(ar X),H8 z] w λe i=>e=.returned (.tuple #[.nilIface,.pointer none,.pointer none,.bool false])/\ap w i:=by
 have t:=λi q=>bx3 (sb hb i q);have y:=br w;clear hb;by_cases h:z<0
 ·go_enter func43,ntmps43;go_wp2_with fail
  (try simp only [Exit.inBlock,Exit.then]);refine Gm (iN rfl _ _ _) rfl ?_
  exact ⟨rfl,br w⟩
 ·have A:(n:Int)<=z:=ao;go_enter func43,ntmps43;go_wp2_with fail
  (try simp only [Exit.inBlock,Exit.then]);refine Gm (iN rfl _ _ _) rfl ?_
  exact ⟨rfl,br w⟩
theorem EM {X:Nat} {L C:N0} {R U n z p:Nat} {Q v l O:Value} {J x:N4} {w:N5} (hb:w.heap[X]?=some (.cells #[.slice L n R,.slice C n U,Q] 99 (0,0))) (I:Rd w L J) (y:Rd w C x) (hz:z<n) (hn:n<=1000) (A:(z+n-1)%n=p) (N:J[z]?=some v) (hl:x[p]?=some l) (u:x[z]?=some O):Calls prog 43 #[(ar X),H8 (z:Nat)] w λe h=>e=.returned (.tuple #[v,l,O,.bool true])/\ap w h:=by
 have T:p<n:=by rw [<-A];exact Nat.mod_lt _ ao
 obtain ⟨b1,o1,rfl,c1⟩:=I _ _ N;obtain ⟨b2,o2,rfl,c2⟩:=y _ _ hl;obtain ⟨b3,o3,V,c3⟩:=y _ _ u
 cases V
 have t:=λh q=>bx3 (sb hb h q);have t1:=λh (q:ap w h)=>(World.cell?_of_block (q.block _ (aC c1))).trans c1;have t2:=λh (q:ap w h)=>(World.cell?_of_block (q.block _ (aC c2))).trans c2;have t3:=λh (q:ap w h)=>(World.cell?_of_block (q.block _ (aC c3))).trans c3
 have i:((z:Int)+(n:Int)-1).tmod (n:Int)=(p:Int):=by
  rw [<-A,Int.tmod_eq_emod_of_nonneg ao,Int.natCast_emod,show ((z+n-1:Nat):Int)=(z:Int)+n-1 by omega]
 have B:((z:Int)+(n:Int)-1)%(n:Int)=(p:Int):=by rw [<-Int.tmod_eq_emod_of_nonneg ao];exact i
 have Y:¬(n=0):=ao;have h1:0<=(z:Int):=ao;have h2:(z:Int)<(n:Int):=ao;have h3:0<=(p:Int):=ao;have h4:(p:Int)<(n:Int):=ao;have Z:IntKind.i64.wrap ((z:Int)+n)=(z:Int)+n:=Gd _ ao;have w2:IntKind.i64.wrap ((z:Int)+n-1)=(z:Int)+n-1:=Gd _ ao;have H:IntKind.i64.wrap (p:Int)=(p:Int):=Gd _ ao;have w5:IntKind.i64.wrap (((z:Int)+n-1).tmod n)=(p:Int):=by rw [i];exact H
 have w6:IntKind.i64.wrap (((z:Int)+n-1)%n)=(p:Int):=by rw [B];exact H
 have D:=br w;clear hb I y A N hl u c1 c2 c3;go_enter func43,ntmps43;go_wp2_with fail;refine HA.g (λh:N5=>ap w h) ?_;refine HA.t ?_ [0,1,2,3,4,5,6,7,8,9,10,11,12,13,14,15,16,17,18,19,20,21,22,23,24,25,26,27,28,29] D.drew ?_;refine HA.d ?_;have K:=aa D.drew;go_wp2_with fail
 (try simp only [Exit.inBlock,Exit.then]);refine Gm (iN rfl _ _ _) rfl ?_
 exact ⟨rfl,K.o⟩
theorem sm:eC prog 135 12:=⟨⟨_,underlying135,rfl⟩,by kernel_rfl⟩
theorem xV (w:N5):Calls prog 26 #[.pointer none] w λe h=>e=.returned (.bool true)/\ap w h:=by
 go_enter func26,ntmps26;have i:=br w;go_wp2_with fail;go_ret;exact ⟨rfl,i⟩
theorem xU {X n cw:Nat} {AW:N0} {bs:List Nat} {v1 v2:Value} {w:N5} {ok:Nat->Bool} {B:Bool} (hb:w.heap[X]?=some (.cells #[.slice AW n cw,v1,v2] 99 (0,0))) (U:Rd w AW (bs.map λb=>.iface 100 ((ar b)))) (hn:bs.length=n) (a1:n<=1000) (hB:B=true↔∀k,k<n->ok k=false) (hx:∀k b u,bs[k]?=some b->ap w u->Calls prog 206 #[(ar b)] u λe Q=>∃H:N2,e=.returned (.tuple #[.agg H,.bool (ok k)])/\(H.size=12/\H.toList.all (·.oneCell')=true)/\ap u Q):Calls prog 26 #[(ar X)] w λe u=>e=.returned (.bool B)/\ap w u:=by
 have t:=λu q=>bx3 (sb hb u q);have hm:∀(b:Nat) (w:N5),(method 483 100 ((ar b)) "Next").run prog w=.ok (206,(ar b)) w:=λ_ _=>by kernel_rfl
 obtain ⟨HW,HX,V,Hn,HM⟩:=ag U hx hB hn hm;have q0:=br w;clear hb U hx hB hn hm;go_enter func26,ntmps26;go_wp2_with fail
 go_loopw [14] (λv wr=>∃k:Nat,k<=n/\v=H8 k/\(∀j,j<k->ok j=false)/\ap w wr) (λv _=>n-(intOf v).toNat)
 ·exact ⟨0,Gc _,rfl,λj hj=>absurd hj (Nat.not_lt_zero j),q0⟩
 case round=>
  obtain ⟨k,hk,rfl,p,q⟩:=hrel;have HA:=aa p;clear p;by_cases y:k<n
  ·have a0:(k:Int)<n:=ao;obtain ⟨b,x⟩:∃b,bs[k]?=some b:=⟨_,GG (by rw [Hn.o];exact y)⟩;have hr:=HW.o k (.iface 100 ((ar b))) (by rw [List.getElem?_map,x];rfl);obtain ⟨b1,o1,rfl,c1⟩:=hr;have c2:=(World.cell?_of_block (q.block b1 (aC c1))).trans c1;have Y:=HX.o k b wr x q;obtain ⟨CX,D⟩:=ab Y q;have L:=HM.o b;clear Y x c1;have tq:=t wr q;clear t;go_wp2_with fail;refine CX.o.mono ?_;rintro e w1 ⟨H,rfl,⟨C,i⟩,T⟩;obtain ⟨I,HO,h⟩:=ae C i (D.o.trans (T.mono D.o.size));clear C i T q tq c2 L
   cases hok:ok k with
   | true=>
    have O:=aa hok;clear hok;go_wp2_with (refine dx (F4 _ _) sm rfl rfl rfl rfl I.o (by rw [I.o];rfl) HO.o ?_;intro w3 R A;have J:=aa A;clear R A);go_ret
    have N:B=false:=by
     cases hBB:B with
     | false=>rfl
     | true=>have:=V.o.1 hBB k y;rw [O.o] at this;cases this
    refine ⟨by rw [N];rfl,?_⟩;exact (h.o.alloc h.o.size _).trans (J.o.toBelow (by rw [Gp];have:=h.o.size;omega) (λj e=>by have:=h.o.size;omega))
   | false=>
    have O:=aa hok;clear hok;go_wp2_with (refine dx (F4 _ _) sm rfl rfl rfl rfl I.o (by rw [I.o];rfl) HO.o ?_;intro w3 R A;have J:=aa ((h.o.alloc h.o.size _).trans (A.toBelow (by rw [Gp];have:=h.o.size;omega) (λj e=>by have:=h.o.size;omega)));clear R A);go_roundw
    case rel=>
     refine ⟨k+1,by omega,by go_num,λj hj=>?_,J.o⟩;rcases Gn j k with Z | Z
     ·exact HA.o j Z
     ·obtain rfl:j=k:=ao;exact O.o
    case measure=>simp [intOf];omega
  ·obtain rfl:k=n:=ao;have D:=aa q;clear t q;go_wp2_with fail;go_ret;exact ⟨by rw [V.o.2 HA.o];rfl,D.o⟩
def jB {σ:Type} (fin:σ->Bool) (st:σ->Int->σ×Bool) (n:Nat):Nat->Nat->σ->σ×Nat
 | 0,p,s=>(s,p)
 | f+1,p,s=>if fin s then (s,p) else jB fin st n f (p+1) (st s ((p%n:Nat):Int)).1
theorem Ft (z:Int) (w:N5):Calls prog 34 #[.pointer none,H8 z] w λe h=>e=.returned (.tuple #[H8 0,.bool true])/\ap w h:=by
 have H:=aa (λh=>xV h);go_enter func34,ntmps34;go_wp2_with fail;go_step3;go_wp2_with fail;go_step3;go_wp2_with fail;refine (H.o _).mono ?_;rintro e x ⟨rfl,i⟩;have u:=aa i;clear i;go_wp2_with fail;refine (H.o _).mono ?_;rintro e y ⟨rfl,p⟩;have v:=aa (bt u.o p);clear p;go_wp2_with fail;simp only [Exit.noGoto];go_ret2;exact ⟨rfl,v.o⟩
theorem Ai {σ:Type} {st:σ->Int->σ×Bool} {fin:σ->Bool} {I:N5->σ->Prop} {X n:Nat} {s:σ} {most:Int} {w:N5} (hn:1<=n) (b1:n<=1000) (hm:most<=1000000) (hb:∀w s,I w s->∃AW cw v1 v2,w.heap[X]?=some (.cells #[.slice AW n cw,v1,v2] 99 (0,0))) (hd:∀w s,I w s->Calls prog 26 #[(ar X)] w λe O=>e=.returned (.bool (fin s))/\I O s) (hp:∀w s (z:Nat),I w s->z<n->Calls prog 14 #[(ar X),H8 (z:Nat)] w λe O=>e=.returned (.bool (st s z).2)/\I O (st s z).1) (h0:I w s):Calls prog 34 #[(ar X),H8 most] w λe O=>e=.returned (.tuple #[H8 ((jB fin st n most.toNat 0 s).2:Nat),.bool (fin (jB fin st n most.toNat 0 s).1)])/\I O (jB fin st n most.toNat 0 s).1:=by
 obtain ⟨Hb,Hd,Hp,H0⟩:=af hb hd hp h0;clear hb hd hp h0;go_enter func34,ntmps34;go_wp2_with fail;refine wp_scope_jumps 0 (λa' O=>∃(p:Nat) (s':σ) (u6 u7 u8 u9 V U a3 ad a8 aP a4 a1 a5 ak Y a2 a7 a6 ax a0 aM:Value),a'={tmps:=#[(ar X),H8 most,undef,undef,H8 (p:Nat),.bool false,u6,u7,u8,u9,V,U,a3,ad,a8,aP,a4,a1,a5,ak,Y,a2,a7,a6,ax,a0,aM],defers:=[]}/\(p:Int)<=1000000/\I O s'/\jB fin st n (most-p).toNat p s'=jB fin st n most.toNat 0 s) (λa' _=>(most-intOf (a'.tmps.getD 4 undef)).toNat) rfl ?_ ?_
 ·go_wp2_with fail;go_step3;go_wp2_with fail;refine (Hd.o _ _ H0.o).mono ?_;rintro e w1 ⟨rfl,H⟩;have A:=aa H;clear H;obtain ⟨B,u⟩:∃B,fin s=B:=⟨_,rfl⟩;rw [u];have y:=aa (u▸Hd.o _ _ A.o);by_cases v:B=true\/most<=0
  ·have hS:jB fin st n most.toNat 0 s=(s,0):=by
    have h0:most.toNat=(most-0).toNat:=by rw [Int.sub_zero]
    rw [h0];rcases v with h | h
    ·rw [h] at u
     cases (most-0).toNat with
     | zero=>rfl
     | succ f=>simp [jB,u]
    ·rw [show (most-0).toNat=0 by omega];rfl
   obtain ⟨HS,C⟩:=ab hS u;have Q:B=false->most<=0:=λh=>v.resolve_left (by rw [h];simp);clear v hS u
   cases B with
   | true=>
    go_wp2_with fail;refine y.o.mono ?_;rintro e w2 ⟨rfl,i⟩;have x:=aa i;clear i;go_wp2_with fail;simp only [Exit.jump];go_ret2;rw [HS.o];exact ⟨by rw [C.o];rfl,x.o⟩
   | false=>
    have R:most<=0:=Q rfl;go_wp2_with fail;refine y.o.mono ?_;rintro e w2 ⟨rfl,i⟩;have x:=aa i;clear i;go_wp2_with fail;simp only [Exit.jump];go_ret2;rw [HS.o];exact ⟨by rw [C.o];rfl,x.o⟩
  ·obtain rfl:B=false:=by cases B with | true=>exact absurd (.inl rfl) v | false=>rfl
   have R:¬most<=0:=λh=>v (.inr h);obtain ⟨r,hr⟩:∃r,0%n=r:=⟨_,rfl⟩;have hz:r<n:=by rw [<-hr];exact Nat.mod_lt _ ao
   have J:=Hp.o _ _ r A.o hz;obtain ⟨AW,cw,v1,v2,D⟩:=Hb.o _ _ A.o;have tb:=bx3 D;have L:((0:Nat):Int)%(n:Int)=(r:Int):=by rw [<-hr];omega
   have T:(((0:Nat):Int)).tmod (n:Int)=(r:Int):=by rw [Int.tmod_eq_emod_of_nonneg ao];exact L
   have b0:¬(n=0):=ao;have Z:IntKind.i64.wrap (r:Int)=(r:Int):=Gd _ ao;have w4:IntKind.i64.wrap (((0:Nat):Int).tmod (n:Int))=(r:Int):=by rw [T];exact Z
   have w5:IntKind.i64.wrap (((0:Nat):Int)%(n:Int))=(r:Int):=by rw [L];exact Z
   have w6:IntKind.i64.wrap (((0:Nat):Int)+1)=((0:Nat):Int)+1:=Gd _ ao;obtain ⟨N,Hr⟩:=ab J hr;clear J D y v hz hr;go_wp2_with fail;rw [show r=0 by rw [<-Hr.o];exact Nat.zero_mod n] at N;refine N.o.mono ?_;rintro e w2 ⟨rfl,i⟩;have x:=aa i;clear i tb;go_wp2_with fail;go_step3;refine ⟨rfl,1,(st s 0).1,_,_,_,_,_,_,_,_,_,_,_,_,_,_,_,_,_,_,_,_,_,rfl,by omega,x.o,?_⟩;rw [show most.toNat=(most-1).toNat+1 by omega,jB,if_neg (by rw [u];simp)];rfl
 ·rintro a' O ⟨p,s',u6,u7,u8,u9,V,U,a3,ad,a8,aP,a4,a1,a5,ak,Y,a2,a7,a6,ax,a0,aM,rfl,hp,hI,hs⟩;go_wp2_with fail;refine (Hd.o _ _ hI).mono ?_;rintro e w1 ⟨rfl,H⟩;have A:=aa H;clear H;obtain ⟨B,u⟩:∃B,fin s'=B:=⟨_,rfl⟩;rw [u];have y:=aa (u▸Hd.o _ _ A.o);by_cases v:B=true\/most<=(p:Int)
  ·have hS:jB fin st n most.toNat 0 s=(s',p):=by
    rw [<-hs];rcases v with h | h
    ·rw [h] at u
     cases (most-(p:Int)).toNat with
     | zero=>rfl
     | succ f=>simp [jB,u]
    ·rw [show (most-(p:Int)).toNat=0 by omega];rfl
   obtain ⟨HS,C⟩:=ab hS u;have Q:B=false->most<=(p:Int):=λh=>v.resolve_left (by rw [h];simp);clear v hS u
   cases B with
   | true=>
    go_wp2_with fail;refine y.o.mono ?_;rintro e w2 ⟨rfl,i⟩;have x:=aa i;clear i;go_wp2_with fail;simp only [Exit.jump];go_ret2;rw [HS.o];exact ⟨by rw [C.o];rfl,x.o⟩
   | false=>
    have R:most<=(p:Int):=Q rfl;go_wp2_with fail;refine y.o.mono ?_;rintro e w2 ⟨rfl,i⟩;have x:=aa i;clear i;go_wp2_with fail;simp only [Exit.jump];go_ret2;rw [HS.o];exact ⟨by rw [C.o];rfl,x.o⟩
  ·obtain rfl:B=false:=by cases B with | true=>exact absurd (.inl rfl) v | false=>rfl
   have R:¬most<=(p:Int):=λh=>v (.inr h);obtain ⟨r,hr⟩:∃r,p%n=r:=⟨_,rfl⟩;have hz:r<n:=by rw [<-hr];exact Nat.mod_lt _ ao
   have J:=Hp.o _ _ r A.o hz;obtain ⟨AW,cw,v1,v2,D⟩:=Hb.o _ _ A.o;have tb:=bx3 D;have L:((p:Nat):Int)%(n:Int)=(r:Int):=by rw [<-hr];omega
   have T:(((p:Nat):Int)).tmod (n:Int)=(r:Int):=by rw [Int.tmod_eq_emod_of_nonneg ao];exact L
   have b0:¬(n=0):=ao;have Z:IntKind.i64.wrap (r:Int)=(r:Int):=Gd _ ao;have w4:IntKind.i64.wrap (((p:Nat):Int).tmod (n:Int))=(r:Int):=by rw [T];exact Z
   have w5:IntKind.i64.wrap (((p:Nat):Int)%(n:Int))=(r:Int):=by rw [L];exact Z
   have w6:IntKind.i64.wrap (((p:Nat):Int)+1)=((p:Nat):Int)+1:=Gd _ ao;obtain ⟨N,Hr⟩:=ab J hr;clear J D y v hz hr;go_wp2_with fail;refine N.o.mono ?_;rintro e w2 ⟨rfl,i⟩;have x:=aa i;clear i tb;go_wp2_with fail;go_step3;refine ⟨rfl,⟨p+1,(st s' ((r:Nat):Int)).1,_,_,_,_,_,_,_,_,_,_,_,_,_,_,_,_,_,_,_,_,_,rfl,by omega,x.o,?_⟩,?_⟩
   ·rw [<-hs,show (most-(p:Int)).toNat=(most-((p+1:Nat):Int)).toNat+1 by omega]
    show _=(if fin s'=true then _ else _)
    rw [if_neg (by rw [u];simp),Hr.o]
   ·simp [intOf];omega
inductive gZ (i:Inp) (x:Nat) (m:Mst) (s t:LSt):Mst->LSt->LSt->Nat->Prop
 | fin:(bq i x m.st).length<=m.nx->gZ i x m s t m s t 13
 | own (y:Itm):(bq i x m.st)[m.nx]?=some y->y.a=none->gZ i x m s t (adv i x (fN i x m y)) s t 0
 | send (y:Itm) (a:Acn):(bq i x m.st)[m.nx]?=some y->y.a=some a->y.kind=3->t.msgs.length<t.recv+t.cap->gZ i x m s t (adv i x m) s (t.send ⟨a.tg,(m.G.drop a.at'.1).take (a.at'.2-a.at'.1)⟩) 0
 | full (y:Itm) (a:Acn):(bq i x m.st)[m.nx]?=some y->y.a=some a->y.kind=3->t.msgs.length=t.recv+t.cap->gZ i x m s t m s t 11
 | recv (y:Itm) (a:Acn):(bq i x m.st)[m.nx]?=some y->y.a=some a->y.kind=4->s.recv<s.msgs.length->(aN s.msgs s.recv).tag=a.tg->gZ i x m s t (adv i x {m with G:=fO m.G a.at'.1 (aN s.msgs s.recv).vals a.add}) {s with recv:=s.recv+1} t 0
 | none (y:Itm) (a:Acn):(bq i x m.st)[m.nx]?=some y->y.a=some a->y.kind=4->s.recv=s.msgs.length->gZ i x m s t m s t 12
 | other (y:Itm) (a:Acn):(bq i x m.st)[m.nx]?=some y->y.a=some a->y.kind=4->s.recv<s.msgs.length->(aN s.msgs s.recv).tag≠a.tg->gZ i x m s t m s t 10
theorem xu (i:Inp) (x:Nat) (m:Mst) (s t:LSt) (v:s.recv<=s.msgs.length) (u:t.msgs.length<=t.recv+t.cap):∃m1 s1 t1 C,gZ i x m s t m1 s1 t1 C:=by
 cases hy:(bq i x m.st)[m.nx]? with
 | none=>exact ⟨_,_,_,_,.fin (by rw [List.getElem?_eq_none_iff] at hy;exact hy)⟩
 | some y=>
  cases ha:y.a with
  | none=>exact ⟨_,_,_,_,.own y hy ha⟩
  | some a=>
   have hk:=(fv (cF hy).2 ha).1;by_cases h:a.send=true
   ·rw [if_pos h] at hk;by_cases o:t.msgs.length<t.recv+t.cap
    ·exact ⟨_,_,_,_,.send y a hy ha hk o⟩
    ·exact ⟨_,_,_,_,.full y a hy ha hk ao⟩
   ·rw [if_neg h] at hk;by_cases p:s.recv=s.msgs.length
    ·exact ⟨_,_,_,_,.none y a hy ha hk p⟩
    ·by_cases he:(aN s.msgs s.recv).tag=a.tg
     ·exact ⟨_,_,_,_,.recv y a hy ha hk ao he⟩
     ·exact ⟨_,_,_,_,.other y a hy ha hk ao he⟩
theorem lT {p:Pln} {x st:Nat} {y:Itm} (h:y∈aB p x st) {a:Acn} (i:y.a=some a) (hk:y.kind=4):a.send=false:=by
 have:=(fv h i).1
 cases hse:a.send with
 | true=>rw [hse,hk] at this;cases this
 | false=>rfl
theorem nW (l:List Msg) (y:Msg) (j:Nat):aN (l++[y]) j=if j<l.length then aN l j else if j=l.length then y else Msg.zero:=by
 unfold aN;simp only [List.getD_eq_getElem?_getD];by_cases h:j<l.length
 ·rw [if_pos h,GH h]
 ·rw [if_neg h,GK ao];by_cases i:j=l.length
  ·rw [if_pos i];subst i;simp
  ·rw [if_neg i,List.getElem?_eq_none (by simp;omega)];rfl
theorem gZ.ok {i:Inp} (o:bj i) {x:Nat} {m m1:Mst} {s t s1 t1:LSt} {C:Nat} (h:gZ i x m s t m1 s1 t1 C) (hm:MOk i x m):MOk i x m1:=by
 cases h with
 | fin=>exact hm
 | own y hy ha=>
  have p:=hm.okAt o hy ha;have lG:(cy i m.P m.G (cz i.data (n9 i x y.st y.n))).length=i.start.length:=oE _ _ hm.lG;refine hm.next o hy ?_ ?_ ?_ ?_ ?_ ?_ ?_<;>unfold fN<;>rcases p.1 with k | k | k | k<;>simp only [k]<;>first | rfl | simp [hm.lP,hm.lM,hm.lG,lG,lh,lk]
 | send y a hy ha hk=>exact hm.next o hy rfl rfl hm.lP hm.lM hm.lG (by rw [if_neg ao,if_neg ao]) (by rw [if_neg ao])
 | full=>exact hm
 | recv y a hy ha hk=>exact hm.next o hy rfl rfl hm.lP hm.lM (by show (fO _ _ _ _).length=_;rw [oZ];exact hm.lG) (by rw [if_neg ao,if_neg ao]) (by rw [if_neg ao])
 | none=>exact hm
 | other=>exact hm
def Da (w:N5) (A:N0) (h:List Msg):Prop:=
 ∃rows,Rd w A (List.flatten rows)/\rows.length=h.length/\(∀r∈rows,r.length=6)/\∀j,j<h.length->FK w (eO rows j) (aN h j)
section
variable {u v:N5}
end
structure RdF (S:Nat->Prop) (w W0:N5) (i:Inp) (x:Nat) (m:Mst) (s t:LSt) (y:Itm) (A:N0) (c:Nat) (D:N0) (cd:Nat) (T:N0) (ct:Nat) (R:N0) (cr:Nat) (PA:N0) (pc:Nat) (MA:N0) (mc:Nat) (GA:N0) (gc:Nat) (SA:N0) (sc bI oI ic:Nat) (B1:N0) (c1:Nat) (B2:N0) (c2 dn il:Nat):Prop where
 eW:(((((w.alloc (.cells #[.slice A i.cfg.sizes.length c,H8 i.cfg.shift,H8 i.cfg.rate,H8 i.cfg.mom,H8 i.cfg.workers,H8 i.cfg.batch,H8 i.cfg.micros,H8 i.cfg.steps,H8 i.cfg.bucket,H8 i.cfg.chunk,H8 i.cfg.window,H8 i.cfg.cap,.slice D i.data.length cd,.slice T i.start.length ct,.slice R i.draws.length cr,H8 (x:Nat),.slice PA i.start.length pc,.slice MA i.start.length mc,.slice GA i.start.length gc,.slice SA m.rc.length sc,.slice (some (aq bI oI)) il ic,H8 (dn:Nat)] 116)).alloc (.cells #[H8 (s.cap:Nat),.slice B1 s.msgs.length c1,H8 (s.recv:Nat),H8 (s.peak:Nat)] 120)).alloc (.cells #[H8 (t.cap:Nat),.slice B2 t.msgs.length c2,H8 (t.recv:Nat),H8 (t.peak:Nat)] 120)).alloc (.cells #[H9,H8 0,H8 0,H8 0,H8 0,H8 0,H8 0,H8 0,H8 0,H8 0,H8 0,H8 0,H9,H9,H9,H8 0,H9,H9,H9,H9,H9,H8 0] 116)).alloc (.cells #[H8 0,H9,H8 0,H8 0] 120)).alloc (.cells #[H8 0,H9,H8 0,H8 0] 120)=W0
 bx:∀w',ap W0 w'->w'.heap[w.heap.size]?=some (.cells #[.slice A i.cfg.sizes.length c,H8 i.cfg.shift,H8 i.cfg.rate,H8 i.cfg.mom,H8 i.cfg.workers,H8 i.cfg.batch,H8 i.cfg.micros,H8 i.cfg.steps,H8 i.cfg.bucket,H8 i.cfg.chunk,H8 i.cfg.window,H8 i.cfg.cap,.slice D i.data.length cd,.slice T i.start.length ct,.slice R i.draws.length cr,H8 (x:Nat),.slice PA i.start.length pc,.slice MA i.start.length mc,.slice GA i.start.length gc,.slice SA m.rc.length sc,.slice (some (aq bI oI)) il ic,H8 (dn:Nat)] 116 (0,0))/\w'.heap[w.heap.size+1]?=some (.cells #[H8 (s.cap:Nat),.slice B1 s.msgs.length c1,H8 (s.recv:Nat),H8 (s.peak:Nat)] 120 (0,0))/\w'.heap[w.heap.size+1+1]?=some (.cells #[H8 (t.cap:Nat),.slice B2 t.msgs.length c2,H8 (t.recv:Nat),H8 (t.peak:Nat)] 120 (0,0))/\w'.heap[w.heap.size+1+1+1]?=some (.cells #[H9,H8 0,H8 0,H8 0,H8 0,H8 0,H8 0,H8 0,H8 0,H8 0,H8 0,H8 0,H9,H9,H9,H8 0,H9,H9,H9,H9,H9,H8 0] 116 (0,0))/\w'.heap[w.heap.size+1+1+1+1]?=some (.cells #[H8 0,H9,H8 0,H8 0] 120 (0,0))/\w'.heap[w.heap.size+1+1+1+1+1]?=some (.cells #[H8 0,H9,H8 0,H8 0] 120 (0,0))
 K:ap w W0
 I0:mM (aW S w) A c D T ct R i
 P0:dr (aW S w) PA m.P pc
 M0:dr (aW S w) MA m.M mc
 G0:dr (aW S w) GA m.G gc
 R0:cO rEx 2 (aW S w) SA m.rc
 It0:Rd (aW S w) (some (aq bI oI)) (dF (cN i x))
 Pl:m.P.length=i.start.length
 Ml:m.M.length=i.start.length
 Gl:m.G.length=i.start.length
 s0:Da (aW S w) B1 s.msgs
 t0:Da (aW S w) B2 t.msgs
 s2:s.msgs.length<=c1
 t2:t.msgs.length<=c2
 il':(cN i x).length=il
 dn':bR i x m=dn
 s':bj i
 rw':W0.rangeAt bI (oI+dn*12) (aX y)
 S':∀k,S k->k<w.heap.size
 wd:IntKind.i64.wrap ((dn:Int)+1)=((dn:Int)+1)
 loc:(∀w',ap W0 w'->w'.cell? (aq w.heap.size 20)=some (.slice (some (aq bI oI)) il ic))/\(∀w',ap W0 w'->w'.cell? (aq w.heap.size 21)=some (H8 (dn:Nat)))/\(∀w',ap W0 w'->w.heap.size<w'.heap.size)/\(dn:Int)<il/\¬(il:Int)<=dn/\¬(dn:Int)<0/\¬il<=dn
section
variable {S:Nat->Prop} {w W0:N5} {i:Inp} {x:Nat} {m:Mst} {s t:LSt} {y:Itm} {A:N0} {c:Nat} {D:N0} {cd:Nat} {T:N0} {ct:Nat} {R:N0} {cr:Nat} {PA:N0} {pc:Nat} {MA:N0} {mc:Nat} {GA:N0} {gc:Nat} {SA:N0} {sc bI oI ic:Nat} {B1:N0} {c1:Nat} {B2:N0} {c2 dn il:Nat}
variable (h:RdF S w W0 i x m s t y A c D cd T ct R cr PA pc MA mc GA gc SA sc bI oI ic B1 c1 B2 c2 dn il)
include h
end
section
variable {P:Program} {ops:N9} {Q:Exit->Na->N5->Prop} {X:Nat} {V:N5}
end
theorem od (i:Inp) (x:Nat) (m:Mst) (y:Itm):(fN i x m y).st=m.st/\(fN i x m y).nx=m.nx:=by
 unfold fN
 split
 ·exact ⟨rfl,rfl⟩
 ·split
  ·exact ⟨rfl,rfl⟩
  ·split<;>exact ⟨rfl,rfl⟩
theorem pe {i:Inp} (u:bj i) {x:Nat} {m m1:Mst} {y:Itm} (p:(bq i x m.st)[m.nx]?=some y) (h:m1.st=m.st) (o:m1.nx=m.nx):bR i x (adv i x m1)=bR i x m+1:=by
 have hl:=(GF.1 p).1;have e:bR i x m1=bR i x m:=by unfold bR;rw [h,o]
 unfold adv;by_cases hc:m1.nx+1<(bq i x m1.st).length
 ·rw [if_pos hc,<-e];exact oU i x m1
 ·rw [if_neg hc,<-e];exact oT u (by rw [h,o] at *;omega)
def Cor.tg (c:Cor):Tg:=⟨c.st,c.bk,c.ph,c.rd,c.ch⟩
theorem CD (a:Acn):a.cor.tg=a.tg:=rfl
structure WSt where
 m:Nat->Mst
 s:Nat->LSt
def aL {α:Type} (f:Nat->α) (k:Nat) (v:α) (y:Nat):α:=if y=k then v else f y
theorem aV {α:Type} (f:Nat->α) (k:Nat) (v:α):aL f k v k=v:=if_pos rfl
theorem aR {α:Type} (f:Nat->α) {k y:Nat} (v:α) (h:y≠k):aL f k v y=f y:=if_neg h
theorem dP {α:Type} (f:Nat->α) (k:Nat):aL f k (f k)=f:=by
 funext y
 unfold aL
 split
 ·next h=>rw [h]
 ·rfl
def WSt.pos (i:Inp) (M:WSt) (x:Nat):Nat:=bR i x (M.m x)
structure WOk (i:Inp) (M:WSt):Prop where
 mok:∀x,x<(au i).W->MOk i x (M.m x)
 lok:∀x,x<(au i).W->(M.s x).cap=i.cfg.cap.toNat/\(M.s x).recv<=(M.s x).msgs.length/\(M.s x).msgs.length<=(M.s x).recv+i.cfg.cap.toNat/\(M.s x).peak<=i.cfg.cap.toNat
 sn:∀x,x<(au i).W->(M.s x).msgs.length=sN i x (M.pos i x)
 rn:∀x,x<(au i).W->(M.s x).recv=rN i (nxW (au i).W x) (M.pos i (nxW (au i).W x))
 tg:∀x,x<(au i).W->∀j,j<(M.s x).msgs.length->∃c,(dH (cN i x))[j]?=some c/\(aN (M.s x).msgs j).tag=c.tg/\(aN (M.s x).msgs j).vals.length=c.at'.2-c.at'.1/\W64 (aN (M.s x).msgs j).vals
def Pk (i:Inp) (M:WSt) (x:Nat) (M1:WSt) (C:Nat):Prop:=
 ∃m1 s1 t1,gZ i x (M.m x) (M.s (pvW (au i).W x)) (M.s x) m1 s1 t1 C/\M1=⟨aL M.m x m1,aL (aL M.s (pvW (au i).W x) s1) x t1⟩
theorem pN {l:List Itm} {p:Nat} {y:Itm} (h:l[p]?=some y):l.take (p+1)=l.take p++[y]:=by
 rw [List.take_add_one,h];rfl
theorem qV {i:Inp} {x p:Nat} {y:Itm} (h:(cN i x)[p]?=some y):sN i x (p+1)=sN i x p+(if y.kind=3 then 1 else 0):=by
 unfold sN;rw [pN h,jL,GE]
 congr 1
 rcases jF (List.mem_of_getElem? h) with ⟨u,v,_⟩ | ⟨a,o,hk⟩
 ·rw [if_neg v];unfold dH aY;simp [u]
 ·cases hs:a.send<;>rw [hs] at hk<;>rw [hk]<;>unfold dH aY<;>simp [o,hs]
theorem rj {i:Inp} {x p:Nat} {y:Itm} (h:(cN i x)[p]?=some y):rN i x (p+1)=rN i x p+(if y.kind=4 then 1 else 0):=by
 unfold rN;rw [pN h,lD,GE]
 congr 1
 rcases jF (List.mem_of_getElem? h) with ⟨u,_,v⟩ | ⟨a,o,hk⟩
 ·rw [if_neg v];unfold dW aY;simp [u]
 ·cases hs:a.send<;>rw [hs] at hk<;>rw [hk]<;>unfold dW aY<;>simp [o,hs]
theorem Fw {W x:Nat} (h:x<W):pvW W (nxW W x)=x:=by
 unfold nxW pvW;rcases Gn (x+1) W with i | i
 ·rw [Nat.mod_eq_of_lt i,show x+1+W-1=x+W by omega,Nat.add_mod_right,Nat.mod_eq_of_lt h]
 ·have e:x+1=W:=ao;rw [e,Nat.mod_self,show 0+W-1=x by omega,Nat.mod_eq_of_lt h]
theorem AU {W x:Nat} (h:x<W) (i:2<=W):pvW W x≠x:=by
 unfold pvW;rcases Nat.eq_zero_or_pos x with e | e
 ·subst e;rw [show 0+W-1=W-1 by omega,Nat.mod_eq_of_lt ao];omega
 ·rw [show x+W-1=(x-1)+W by omega,Nat.add_mod_right,Nat.mod_eq_of_lt ao];omega
theorem rI {p:Pln} {x st:Nat} {a:Acn} (h:a∈aY (aB p x st)):2<=p.W:=by
 rw [gh] at h;simp only [jG,jH,List.mem_flatMap,List.mem_range] at h;obtain ⟨_,_,_,_,r,hr,_⟩:=h;omega
theorem gC {l:List Itm} {y:Itm} {a:Acn} (h:y∈l) (i:y.a=some a):a∈aY l:=by
 unfold aY;exact List.mem_filterMap.2 ⟨y,h,i⟩
theorem Eg {i:Inp} {x:Nat} {a:Acn} (h:a∈aY (cN i x)):∃st,st<i.cfg.steps.toNat/\a∈aY (aB (au i) x st):=by
 unfold aY at h;obtain ⟨y,p,u⟩:=List.mem_filterMap.1 h;obtain ⟨st,o,p⟩:=List.mem_flatMap.1 p;exact ⟨st,List.mem_range.1 o,gC p u⟩
section
variable {i:Inp} {M M1:WSt} {x C:Nat}
theorem WOk.msgI (h:WOk i M) (J:x<(au i).W):El i x (M.s (pvW (au i).W x)):=λj A=>by
 have v:pvW (au i).W x<(au i).W:=iO ao;obtain ⟨c,u,B,H,C⟩:=h.tg _ v j A;refine ⟨C,.inr ?_⟩;have e:=jx i (pvW (au i).W x) i.cfg.steps.toNat;rw [show (pvW (au i).W x+1)%(au i).W=x from mA J] at e;rw [show dH (cN i (pvW (au i).W x))=dW (cN i x) from e] at u;obtain ⟨a,o,I,hc⟩:=p6 u;obtain ⟨st,_,o⟩:=Eg o;unfold aY at o;obtain ⟨y,D,p⟩:=List.mem_filterMap.1 o;rw [H,B,<-hc,CD,<-C3 D p I];rfl
theorem WOk.cur (h:WOk i M) (o:bj i) (p:x<(au i).W):(bq i x (M.m x).st)[(M.m x).nx]?=(cN i x)[M.pos i x]?:=(h.mok x p).cur o
theorem WOk.pick (h:WOk i M) (v:bj i) (o:x<(au i).W):∃M1 C,Pk i M x M1 C:=by
 have p:pvW (au i).W x<(au i).W:=iO ao;obtain ⟨m1,s1,t1,C,u⟩:=xu i x (M.m x) (M.s (pvW (au i).W x)) (M.s x) (h.lok _ p).2.1 (by rw [(h.lok x o).1];exact (h.lok x o).2.2.1);exact ⟨_,C,m1,s1,t1,u,rfl⟩
theorem kE (i:Inp) (M:WSt) (x:Nat) (m1:Mst) (S:Nat->LSt) (z:Nat):(⟨aL M.m x m1,S⟩:WSt).pos i z=if z=x then bR i x m1 else M.pos i z:=by
 unfold WSt.pos
 show bR i z (aL M.m x m1 z)=_
 by_cases e:z=x
 ·subst e;rw [if_pos rfl,aV]
 ·rw [if_neg e,aR _ _ e]
theorem rX (M:WSt) (x p:Nat):(⟨aL M.m x (M.m x),aL (aL M.s p (M.s p)) x (M.s x)⟩:WSt)=M:=by
 rw [dP,dP,dP]
theorem WOk.own (h:WOk i M) (C:x<(au i).W) {m1:Mst} {y:Itm} (u:(cN i x)[M.pos i x]?=some y) (hm:MOk i x m1) (v:bR i x m1=M.pos i x+1) (B:y.kind≠3) (A:y.kind≠4):WOk i ⟨aL M.m x m1,M.s⟩:=by
 have o:∀z,(⟨aL M.m x m1,M.s⟩:WSt).pos i z=if z=x then M.pos i x+1 else M.pos i z:=λz=>by rw [kE,v]
 refine ⟨λz p=>?_,h.lok,λz p=>?_,λz p=>?_,h.tg⟩
 ·by_cases e:z=x
  ·subst e;show MOk i z (aL M.m z m1 z);rw [aV];exact hm
  ·show MOk i z (aL M.m x m1 z);rw [aR _ _ e];exact h.mok z p
 ·rw [o z];by_cases e:z=x
  ·subst e;rw [if_pos rfl,qV u,if_neg B];exact h.sn z p
  ·rw [if_neg e];exact h.sn z p
 ·rw [o];by_cases e:nxW (au i).W z=x
  ·rw [if_pos e,e,rj u,if_neg A];have:=h.rn z p;rw [e] at this;exact this
  ·rw [if_neg e];exact h.rn z p
theorem Pk.ok (hp:Pk i M x M1 C) (h:WOk i M) (Y:bj i) (L:x<(au i).W) (hw:W64 (M.m x).G):
  WOk i M1/\(C=0->M1.pos i x=M.pos i x+1/\(∀z,z≠x->M1.m z=M.m z)/\M.pos i x<(cN i x).length)/\(C≠0->M1=M)/\(C=0↔can i i.cfg.cap.toNat (M.pos i) x):=by
 obtain ⟨m1,s1,t1,ht,rfl⟩:=hp;have N:pvW (au i).W x<(au i).W:=iO ao;have ak:nxW (au i).W x<(au i).W:=Bq ao;have u:=h.cur Y L;have B:=ht.ok Y (h.mok x L);have O:=h.sn x L;have I:=h.rn _ N;rw [mA L] at I;have a2:=h.rn x L;have a1:=h.sn _ N;have a8:=(h.lok x L).1
 have A:∀{C:Nat},C≠0->¬can i i.cfg.cap.toNat (M.pos i) x->WOk i ⟨aL M.m x (M.m x),aL (aL M.s (pvW (au i).W x) (M.s (pvW (au i).W x))) x (M.s x)⟩/\(C=0->(⟨aL M.m x (M.m x),aL (aL M.s (pvW (au i).W x) (M.s (pvW (au i).W x))) x (M.s x)⟩:WSt).pos i x=M.pos i x+1/\(∀z,z≠x->(⟨aL M.m x (M.m x),aL (aL M.s (pvW (au i).W x) (M.s (pvW (au i).W x))) x (M.s x)⟩:WSt).m z=M.m z)/\M.pos i x<(cN i x).length)/\(C≠0->(⟨aL M.m x (M.m x),aL (aL M.s (pvW (au i).W x) (M.s (pvW (au i).W x))) x (M.s x)⟩:WSt)=M)/\(C=0↔can i i.cfg.cap.toNat (M.pos i) x):=λhC hn=>by
  rw [rX];exact ⟨h,λe=>absurd e hC,λ_=>rfl,⟨λe=>absurd e hC,λe=>absurd e hn⟩⟩
 have go:∀{y:Itm} {M1:WSt},(cN i x)[M.pos i x]?=some y->WOk i M1->M1.m=aL M.m x m1->bR i x m1=M.pos i x+1->can i i.cfg.cap.toNat (M.pos i) x->WOk i M1/\((0:Nat)=0->M1.pos i x=M.pos i x+1/\(∀z,z≠x->M1.m z=M.m z)/\M.pos i x<(cN i x).length)/\((0:Nat)≠0->M1=M)/\((0:Nat)=0↔can i i.cfg.cap.toNat (M.pos i) x):=λo a7 hm H hc=>
  ⟨a7,λ_=>⟨by unfold WSt.pos;rw [hm,aV];exact H,λz p=>by rw [hm,aR _ _ p],(GF.1 o).1⟩,λe=>absurd rfl e,⟨λ_=>hc,λ_=>rfl⟩⟩
 cases ht with
 | fin hf=>
  refine A (by decide) ?_;rintro ⟨y,o,_⟩;rw [<-u,List.getElem?_eq_none hf] at o
  cases o
 | own y o ha=>
  have hk:=jz (cF o).2 ha;have H:bR i x (adv i x (fN i x (M.m x) y))=M.pos i x+1:=pe Y o (od i x (M.m x) y).1 (od i x (M.m x) y).2;rw [u] at o;rw [dP,dP];exact go o (h.own L o B H ao ao) rfl H ⟨y,o,λe=>absurd e ao,λe=>absurd e ao⟩
 | send y a o ha hk hroom=>
  have D:=cF o;have H:bR i x (adv i x (M.m x))=M.pos i x+1:=pe Y o rfl rfl;have ad:=vN Y.ok D.2 ha;rw [u] at o
  have a4:a.send=true:=by
   have:=(fv D.2 ha).1
   cases e:a.send with
   | true=>rfl
   | false=>rw [e,hk] at this;cases this
  rw [dP];obtain ⟨l1,l2,l3,l4⟩:=h.lok x L;have J:(⟨aL M.m x (adv i x (M.m x)),M.s⟩:WSt).pos i x=M.pos i x+1:=by rw [kE,if_pos rfl];exact H
  have v:∀z (S:Nat->LSt),z≠x->(⟨aL M.m x (adv i x (M.m x)),S⟩:WSt).pos i z=M.pos i z:=λz S e=>by rw [kE,if_neg e]
  refine go o ⟨λz p=>?_,λz p=>?_,λz p=>?_,λz p=>?_,λz p j U=>?_⟩ rfl H ⟨y,o,λ_=>by rw [<-O,<-a2];omega,λe=>ao⟩
  ·by_cases e:z=x
   ·subst e;show MOk i z (aL M.m z _ z);rw [aV];exact B
   ·show MOk i z (aL M.m x _ z);rw [aR _ _ e];exact h.mok z p
  ·by_cases e:z=x
   ·subst e;rw [show (⟨aL M.m z (adv i z (M.m z)),aL M.s z ((M.s z).send ⟨a.tg,((M.m z).G.drop a.at'.1).take (a.at'.2-a.at'.1)⟩)⟩:WSt).s z=(M.s z).send ⟨a.tg,((M.m z).G.drop a.at'.1).take (a.at'.2-a.at'.1)⟩ from aV _ _ _];refine ⟨l1,?_,?_,?_⟩
    ·show (M.s z).recv<=((M.s z).msgs++[_]).length;rw [GE];omega
    ·show ((M.s z).msgs++[_]).length<=(M.s z).recv+_;rw [GE];simp only [GP];omega
    ·show max (M.s z).peak ((M.s z).msgs.length+1-(M.s z).recv)<=_;omega
   ·rw [show (⟨aL M.m x (adv i x (M.m x)),aL M.s x ((M.s x).send ⟨a.tg,((M.m x).G.drop a.at'.1).take (a.at'.2-a.at'.1)⟩)⟩:WSt).s z=M.s z from aR _ _ e];exact h.lok z p
  ·by_cases e:z=x
   ·subst e;rw [show (⟨aL M.m z (adv i z (M.m z)),aL M.s z ((M.s z).send ⟨a.tg,((M.m z).G.drop a.at'.1).take (a.at'.2-a.at'.1)⟩)⟩:WSt).s z=(M.s z).send ⟨a.tg,((M.m z).G.drop a.at'.1).take (a.at'.2-a.at'.1)⟩ from aV _ _ _];rw [show (⟨aL M.m z (adv i z (M.m z)),aL M.s z ((M.s z).send ⟨a.tg,((M.m z).G.drop a.at'.1).take (a.at'.2-a.at'.1)⟩)⟩:WSt).pos i z=M.pos i z+1 from J,qV o,if_pos hk,<-O];simp [LSt.send]
   ·rw [show (⟨aL M.m x (adv i x (M.m x)),aL M.s x ((M.s x).send ⟨a.tg,((M.m x).G.drop a.at'.1).take (a.at'.2-a.at'.1)⟩)⟩:WSt).s z=M.s z from aR _ _ e,v z _ e];exact h.sn z p
  ·have hr:((⟨aL M.m x (adv i x (M.m x)),aL M.s x ((M.s x).send ⟨a.tg,((M.m x).G.drop a.at'.1).take (a.at'.2-a.at'.1)⟩)⟩:WSt).s z).recv=(M.s z).recv:=by
    by_cases e:z=x
    ·subst e;show (aL M.s z _ z).recv=_;rw [aV];rfl
    ·show (aL M.s x _ z).recv=_;rw [aR _ _ e]
   rw [hr,h.rn z p];by_cases e:nxW (au i).W z=x
   ·rw [e,show (⟨aL M.m x (adv i x (M.m x)),aL M.s x ((M.s x).send ⟨a.tg,((M.m x).G.drop a.at'.1).take (a.at'.2-a.at'.1)⟩)⟩:WSt).pos i x=M.pos i x+1 from J,rj o,if_neg ao];rfl
   ·rw [v _ _ e]
  ·by_cases e:z=x
   ·subst e
    have e1:((⟨aL M.m z (adv i z (M.m z)),aL M.s z ((M.s z).send ⟨a.tg,((M.m z).G.drop a.at'.1).take (a.at'.2-a.at'.1)⟩)⟩:WSt).s z).msgs=(M.s z).msgs++[⟨a.tg,((M.m z).G.drop a.at'.1).take (a.at'.2-a.at'.1)⟩]:=by
     show (aL M.s z _ z).msgs=_;rw [aV];rfl
    rw [e1] at U ⊢;rw [nW];by_cases hl:j<(M.s z).msgs.length
    ·rw [if_pos hl];exact h.tg z p j hl
    ·rw [GE,GP] at U;have a0:j=(M.s z).msgs.length:=ao;rw [if_neg hl,if_pos a0];refine ⟨a.cor,?_,rfl,?_,λk hk=>?_⟩
     ·rw [a0,O];exact rY o ha a4
     ·show (((M.m z).G.drop a.at'.1).take (a.at'.2-a.at'.1)).length=a.at'.2-a.at'.1
      rw [GL,GO,(h.mok z p).lG];have:(au i).n=i.start.length:=rfl;omega
     ·have a5:k<a.at'.2-a.at'.1:=Gf hk (by show (((M.m z).G.drop a.at'.1).take (a.at'.2-a.at'.1)).length<=_;rw [GL];omega)
      show _<=nth (((M.m z).G.drop a.at'.1).take (a.at'.2-a.at'.1)) k/\nth (((M.m z).G.drop a.at'.1).take (a.at'.2-a.at'.1)) k<=_
      rw [eA a5,eB];exact hw.nth _
   ·rw [show (⟨aL M.m x (adv i x (M.m x)),aL M.s x ((M.s x).send ⟨a.tg,((M.m x).G.drop a.at'.1).take (a.at'.2-a.at'.1)⟩)⟩:WSt).s z=M.s z from aR _ _ e] at U ⊢;exact h.tg z p j U
 | full y a o ha hk hf=>
  refine A (by decide) ?_;rintro ⟨y',T,V,_⟩;rw [u,T] at o;injection o with o;subst o
  have:=V hk;rw [<-O,<-a2] at this;omega
 | recv y a o ha hk hlt heq=>
  have D:=cF o;have H:bR i x (adv i x {M.m x with G:=fO (M.m x).G a.at'.1 (aN (M.s (pvW (au i).W x)).msgs (M.s (pvW (au i).W x)).recv).vals a.add})=M.pos i x+1:=pe Y o rfl rfl;have h2:2<=(au i).W:=rI (gC D.2 ha);have a3:=AU L h2;rw [u] at o;obtain ⟨m1,a6⟩:∃m1,adv i x {M.m x with G:=fO (M.m x).G a.at'.1 (aN (M.s (pvW (au i).W x)).msgs (M.s (pvW (au i).W x)).recv).vals a.add}=m1:=⟨_,rfl⟩;rw [a6] at H B go ⊢;obtain ⟨S,hS⟩:∃S,aL (aL M.s (pvW (au i).W x) {M.s (pvW (au i).W x) with recv:=(M.s (pvW (au i).W x)).recv+1}) x (M.s x)=S:=⟨_,rfl⟩;have R:S (pvW (au i).W x)={M.s (pvW (au i).W x) with recv:=(M.s (pvW (au i).W x)).recv+1}:=by rw [<-hS,aR _ _ a3,aV]
  have Q:∀z,z≠pvW (au i).W x->S z=M.s z:=λz e=>by
   rw [<-hS];by_cases e2:z=x
   ·subst e2;rw [aV]
   ·rw [aR _ _ e2,aR _ _ e]
  have Z:∀z,(S z).msgs=(M.s z).msgs:=λz=>by
   by_cases e:z=pvW (au i).W x
   ·rw [e,R]
   ·rw [Q z e]
  rw [hS];have J:(⟨aL M.m x m1,S⟩:WSt).pos i x=M.pos i x+1:=by rw [kE,if_pos rfl];exact H
  have v:∀z,z≠x->(⟨aL M.m x m1,S⟩:WSt).pos i z=M.pos i z:=λz e=>by rw [kE,if_neg e]
  refine go o ⟨λz p=>?_,λz p=>?_,λz p=>?_,λz p=>?_,λz p j U=>?_⟩ rfl H ⟨y,o,λe=>ao,λ_=>by rw [<-I,<-a1];exact hlt⟩
  ·by_cases e:z=x
   ·subst e;show MOk i z (aL M.m z _ z);rw [aV];exact B
   ·show MOk i z (aL M.m x _ z);rw [aR _ _ e];exact h.mok z p
  ·by_cases e:z=pvW (au i).W x
   ·obtain ⟨l1,l2,l3,l4⟩:=h.lok _ N;rw [show (⟨aL M.m x m1,S⟩:WSt).s z=S z from rfl,e,R];exact ⟨l1,hlt,by show (M.s (pvW (au i).W x)).msgs.length<=(M.s (pvW (au i).W x)).recv+1+_;omega,l4⟩
   ·rw [show (⟨aL M.m x m1,S⟩:WSt).s z=S z from rfl,Q z e];exact h.lok z p
  ·show (S z).msgs.length=_
   rw [Z,h.sn z p];by_cases e:z=x
   ·subst e;rw [J,qV o,if_neg ao];rfl
   ·rw [v z e]
  ·show (S z).recv=_
   by_cases e:z=pvW (au i).W x
   ·rw [e,R,mA L,J,rj o,if_pos hk]
    show _+1=_
    rw [I]
   ·have e2:nxW (au i).W z≠x:=λe3=>e (by rw [<-e3,Fw p]);rw [Q z e,v _ e2];exact h.rn z p
  ·have e:(⟨aL M.m x m1,S⟩:WSt).s z=S z:=rfl;rw [e,Z] at U ⊢;exact h.tg z p j U
 | none y a o ha hk h0=>
  refine A (by decide) ?_;rintro ⟨y',T,_,h4⟩;rw [u,T] at o;injection o with o;subst o
  have:=h4 hk;rw [<-a1,<-I] at this;omega
 | other y a o ha hk hlt hne=>
  exfalso;have D:=cF o;rw [u] at o;obtain ⟨c,h1,h2,_⟩:=h.tg _ N _ hlt;have e:=jx i (pvW (au i).W x) i.cfg.steps.toNat;rw [show (pvW (au i).W x+1)%(au i).W=x from mA L] at e;rw [show dH (cN i (pvW (au i).W x))=dW (cN i x) from e,I] at h1;have V:=nM o ha (lT D.2 ha hk);rw [show (dW (List.take (M.pos i x) (cN i x))).length=rN i x (M.pos i x) from rfl,h1] at V;injection V with V
  rw [h2,V,CD] at hne;exact hne rfl
theorem WOk.live (h:WOk i M) (o:bj i) (u:1<=i.cfg.cap.toNat) (hl:∃x,x<(au i).W/\M.pos i x<(cN i x).length):∃z,z<(au i).W/\can i i.cfg.cap.toNat (M.pos i) z:=by
 obtain ⟨x,p,hl⟩:=hl;exact FZ o.ok u (M.pos i) p hl
end
def j3 (i:Inp):WSt:=⟨λ_=>eK i,λ_=>LSt.new i.cfg.cap.toNat⟩
theorem WOk.zero (i:Inp):WOk i (j3 i):=by
 refine ⟨λx _=>MOk.zero x,λx _=>⟨rfl,F3 _,Gc _,Gc _⟩,λx _=>?_,λx _=>?_,λx _ j h=>by simp [j3,LSt.new] at h⟩
 ·show 0=sN i x (bR i x (eK i))
  rw [show bR i x (eK i)=0 by simp [bR,eK]];rfl
 ·show 0=rN i _ (bR i _ (eK i))
  rw [show bR i (nxW (au i).W x) (eK i)=0 by simp [bR,eK]];rfl
structure dV (i:Inp) (M:WSt):Prop where
 ok:WOk i M
 wG:∀x,x<(au i).W->W64 (M.m x).G
theorem vk (i:Inp) (P:N1):∀(l:N8) (G:N1),W64 G->W64 (cy i P G l):=by
 intro l
 induction l with
 | nil=>intro G h;exact h
 | cons x l ih=>intro G h;exact ih _ (eh λ_ _=>fj _)
theorem pI (n:Nat):W64 (List.replicate n 0):=λk hk=>by
 rw [GN] at hk;simp [nth,hk]
theorem BR {i:Inp} {x:Nat} {m:Mst} {y:Itm} (h:W64 m.G):W64 (fN i x m y).G:=by
 unfold fN
 split
 ·exact vk i _ _ _ h
 ·split
  ·exact h
  ·split
   ·exact h
   ·exact pI _
theorem CY {i:Inp} {x:Nat} {m:Mst}:(adv i x m).G=m.G:=by unfold adv;split<;>rfl
theorem gZ.w64 {i:Inp} {x:Nat} {m m1:Mst} {s t s1 t1:LSt} {C:Nat} (h:gZ i x m s t m1 s1 t1 C) (hw:W64 m.G) (o:∀j,j<s.msgs.length->W64 (aN s.msgs j).vals):W64 m1.G:=by
 cases h with
 | fin=>exact hw
 | full=>exact hw
 | none=>exact hw
 | other=>exact hw
 | own=>rw [CY];exact BR hw
 | send=>rw [CY];exact hw
 | recv y a _ _ _ hlt=>rw [CY];exact tM hw (o _ hlt)
theorem dV.zero {i:Inp} (h:bj i):dV i (j3 i):=⟨WOk.zero i,λx _=>pI _⟩
theorem dV.pick {i:Inp} {M v:WSt} {x C:Nat} (h:dV i M) (D:bj i) (u:x<(au i).W) (p:Pk i M x v C):dV i v:=by
 have o:pvW (au i).W x<(au i).W:=iO ao;refine ⟨(p.ok h.ok D u (h.wG x u)).1,λz y=>?_⟩;obtain ⟨m1,s1,t1,B,rfl⟩:=p
 show W64 (aL M.m x m1 z).G
 by_cases e:z=x
 ·subst e;rw [aV];exact B.w64 (h.wG z y) λj A=>(h.ok.tg _ o j A).choose_spec.2.2.2
 ·rw [aR _ _ e];exact h.wG z y
noncomputable def pkF (i:Inp) (M:WSt) (x:Nat):WSt×Bool:=open Classical in
 if h:∃p:WSt×Nat,Pk i M x p.1 p.2 then ((Classical.choose h).1,decide ((Classical.choose h).2=0)) else (M,false)
theorem uI {i:Inp} {M:WSt} {x:Nat} (h:dV i M) (v:bj i) (y:x<(au i).W):∃C,Pk i M x (pkF i M x).1 C/\(pkF i M x).2=decide (C=0):=by
 obtain ⟨A,C,u⟩:=h.ok.pick v y;have o:∃p:WSt×Nat,Pk i M x p.1 p.2:=⟨(A,C),u⟩;unfold pkF;rw [dif_pos o];exact ⟨_,Classical.choose_spec o,rfl⟩
noncomputable def pkZ (i:Inp) (M:WSt) (z:Int):WSt×Bool:=if 0<=z/\z<((au i).W:Int) then pkF i M z.toNat else (M,false)
noncomputable def eq (i:Inp) (M:WSt) (l:N1):WSt×Nat:=l.foldl (λp z=>((pkZ i p.1 z).1,p.2+if (pkZ i p.1 z).2 then 1 else 0)) (M,0)
def WSt.sum (i:Inp) (M:WSt):Nat:=((List.range (au i).W).map λx=>M.pos i x).sum
def mN (i:Inp):Nat:=((List.range (au i).W).map λx=>(cN i x).length).sum
def WSt.fin (i:Inp) (M:WSt):Prop:=∀x,x<(au i).W->M.pos i x=(cN i x).length
theorem Dn {f g:Nat->Nat} {W x:Nat} (u:x<W) (i:g x=f x+1) (h:∀z,z≠x->g z=f z):((List.range W).map g).sum=((List.range W).map f).sum+1:=by
 induction W with
 | zero=>omega
 | succ W ih=>
  rw [GV,List.map_append,List.map_append,List.sum_append,List.sum_append];simp only [List.map_cons,List.map_nil,List.sum_cons,List.sum_nil,Nat.add_zero];by_cases e:x=W
  ·subst e;rw [i,List.map_congr_left (g:=f) (λz p=>h z (by have:=List.mem_range.1 p;omega))];omega
  ·rw [ih ao,h W (λo=>e o.symm)];omega
theorem zV {f g:Nat->Nat}:∀{W:Nat},(∀x,x<W->f x<=g x)->((List.range W).map f).sum<=((List.range W).map g).sum
 | 0,_=>F3 _
 | W+1,h=>by
  rw [GV,List.map_append,List.map_append,List.sum_append,List.sum_append];simp only [List.map_cons,List.map_nil,List.sum_cons,List.sum_nil,Nat.add_zero];have:=zV (W:=W) λx i=>h x ao;have:=h W ao;omega
theorem zW {f g:Nat->Nat}:∀{W:Nat},(∀x,x<W->f x<=g x)->((List.range W).map f).sum=((List.range W).map g).sum->∀x,x<W->f x=g x
 | 0,_,_,x,o=>ao
 | W+1,h,e,x,o=>by
  rw [GV,List.map_append,List.map_append,List.sum_append,List.sum_append] at e;simp only [List.map_cons,List.map_nil,List.sum_cons,List.sum_nil,Nat.add_zero] at e;have p:=zV (W:=W) λx o=>h x ao;have u:=h W ao;rcases Gn x W with hl | hl
  ·exact zW (W:=W) (λx o=>h x ao) ao x hl
  ·obtain rfl:x=W:=ao;omega
section
variable {i:Inp} {M:WSt}
theorem dV.pos_le (h:dV i M) (o:bj i) {x:Nat} (p:x<(au i).W):M.pos i x<=(cN i x).length:=(h.ok.mok x p).done o
theorem dV.sum_le (h:dV i M) (o:bj i):M.sum i<=mN i:=zV λ_ p=>h.pos_le o p
theorem dV.fin_iff (h:dV i M) (u:bj i):M.fin i↔M.sum i=mN i:=by
 constructor
 ·intro p;unfold WSt.sum mN
  congr 1
  exact List.map_congr_left λx o=>p x (List.mem_range.1 o)
 ·intro he;exact zW (λ_ o=>h.pos_le u o) he
theorem uJ (h:dV i M) (p:bj i) {x:Nat} (o:x<(au i).W):dV i (pkF i M x).1/\((pkF i M x).2=true↔can i i.cfg.cap.toNat (M.pos i) x)/\((pkF i M x).2=true->(pkF i M x).1.pos i x=M.pos i x+1/\(∀z,z≠x->(pkF i M x).1.pos i z=M.pos i z)/\(pkF i M x).1.sum i=M.sum i+1)/\((pkF i M x).2=false->(pkF i M x).1=M):=by
 obtain ⟨C,u,hb⟩:=uI h p o;obtain ⟨_,D,I,H⟩:=u.ok h.ok p o (h.wG x o);refine ⟨h.pick p o u,by rw [hb,<-H];simp,λB=>?_,λv=>I (by rw [hb] at v;simpa using v)⟩;obtain ⟨y,J,_⟩:=D (by rw [hb] at B;simpa using B);have A:∀z,z≠x->(pkF i M x).1.pos i z=M.pos i z:=λz L=>by unfold WSt.pos;rw [J z L]
 exact ⟨y,A,Dn o y A⟩
theorem uH (h:dV i M) (v:bj i) (z:Int):dV i (pkZ i M z).1/\(pkZ i M z).1.sum i=M.sum i+(if (pkZ i M z).2 then 1 else 0)/\((pkZ i M z).2=false->(pkZ i M z).1=M):=by
 unfold pkZ
 split
 ·next hz=>
  obtain ⟨p,_,u,o⟩:=uJ h v (x:=z.toNat) ao;refine ⟨p,?_,o⟩
  cases hb:(pkF i M z.toNat).2 with
  | true=>rw [if_pos rfl];exact (u hb).2.2
  | false=>rw [o hb];simp
 ·exact ⟨h,by simp,λ_=>rfl⟩
theorem xX (l:N1) (z:Int):eq i M (l++[z])=((pkZ i (eq i M l).1 z).1,(eq i M l).2+if (pkZ i (eq i M l).1 z).2 then 1 else 0):=by
 unfold eq;rw [List.foldl_append];rfl
theorem qY (h:dV i M) (v:bj i):∀l:N1,dV i (eq i M l).1/\(eq i M l).1.sum i=M.sum i+(eq i M l).2:=by
 have o:∀l:N1,dV i (eq i M l.reverse).1/\(eq i M l.reverse).1.sum i=M.sum i+(eq i M l.reverse).2:=by
  intro l
  induction l with
  | nil=>exact ⟨h,rfl⟩
  | cons z l ih=>
   rw [List.reverse_cons,xX];obtain ⟨u,p,_⟩:=uH ih.1 v z;refine ⟨u,?_⟩
   show (pkZ i (eq i M l.reverse).1 z).1.sum i=_
   rw [p,ih.2];omega
 intro l;have:=o l.reverse
 rwa [List.reverse_reverse] at this
end
section
variable {i:Inp} {M:WSt}
theorem sk (l:N1):∀(M:WSt) (n:Nat),l.foldl (λp z=>((pkZ i p.1 z).1,p.2+if (pkZ i p.1 z).2 then 1 else 0)) (M,n)=((eq i M l).1,n+(eq i M l).2):=by
 unfold eq
 induction l with
 | nil=>intro M n;rfl
 | cons z l ih=>
  intro M n;rw [List.foldl_cons,List.foldl_cons,ih,ih _ (0+_)];simp only [GY,GX]
theorem mx (a l:N1):eq i M (a++l)=((eq i (eq i M a).1 l).1,(eq i M a).2+(eq i (eq i M a).1 l).2):=by
 rw [show eq i M (a++l)=l.foldl (λp z=>((pkZ i p.1 z).1,p.2+if (pkZ i p.1 z).2 then 1 else 0)) ((eq i M a).1,(eq i M a).2) from List.foldl_append,sk]
theorem pW (z:Int) (l:N1):eq i M (z::l)=((eq i (pkZ i M z).1 l).1,(if (pkZ i M z).2 then 1 else 0)+(eq i (pkZ i M z).1 l).2):=by
 rw [show eq i M (z::l)=l.foldl (λp z=>((pkZ i p.1 z).1,p.2+if (pkZ i p.1 z).2 then 1 else 0)) ((pkZ i M z).1,0+if (pkZ i M z).2 then 1 else 0) from rfl,sk,GY]
theorem E6 (h:dV i M) (o:bj i) {x:Nat} (p:x<(au i).W) (hc:can i i.cfg.cap.toNat (M.pos i) x):∀l:N1,(x:Int)∈l->1<=(eq i M l).2:=by
 intro l
 induction l with
 | nil=>intro h;cases h
 | cons z l ih=>
  intro hm;rw [pW]
  cases hb:(pkZ i M z).2 with
  | true=>simp only [if_true];omega
  | false=>
   rw [(uH h o z).2.2 hb];rcases List.mem_cons.1 hm with e | e
   ·exfalso;subst e;unfold pkZ at hb;rw [if_pos ⟨by omega,by omega⟩] at hb;have:=(uJ h o p).2.1.2 hc;rw [Int.toNat_natCast] at hb;rw [hb] at this
    cases this
   ·have:=ih e;simpa using this
theorem dV.some (h:dV i M) (o:bj i) (u:1<=i.cfg.cap.toNat) (hn:¬M.fin i):∃z,z<(au i).W/\can i i.cfg.cap.toNat (M.pos i) z:=by
 refine h.ok.live o u ?_;refine Classical.byContradiction λhc=>hn λx p=>?_;have:=h.pos_le o p;refine Classical.byContradiction λhe=>hc ⟨x,p,by omega⟩
theorem dV.fin_run (h:dV i M) (o:bj i) (u:M.fin i) (l:N1):(eq i M l).1.fin i:=by
 obtain ⟨p,v⟩:=qY h o l;rw [p.fin_iff o];have y:=(h.fin_iff o).1 u;have x:=p.sum_le o;omega
theorem tx (o:bj i) (u:1<=i.cfg.cap.toNat):∀(bs:List (N1)) {M:WSt},dV i M->(∀b∈bs,∀x,x<(au i).W->(x:Int)∈b)->mN i<=M.sum i+bs.length->(eq i M bs.flatten).1.fin i
 | [],M,h,_,hl=>by
  show M.fin i
  rw [h.fin_iff o];have:=h.sum_le o;simp only [List.length_nil] at hl;omega
 | b::bs,M,h,hb,hl=>by
  by_cases p:M.fin i
  ·exact h.fin_run o p _
  ·obtain ⟨z,v,hc⟩:=h.some o u p;have A:=E6 h o v hc b (hb b (List.mem_cons_self ..) z v);obtain ⟨y,B⟩:=qY h o b;rw [List.flatten_cons,mx];refine tx o u bs y (λc hm=>hb c (List.mem_cons_of_mem _ hm)) ?_;rw [List.length_cons] at hl;omega
end
def ib (W s n:Nat):N1:=(List.range n).map λk=>(((k+s)%W:Nat):Int)
theorem kv {W s:Nat} (i:0<W):∀T:Nat,∃bs:List (N1),ib W s (T*W)=bs.flatten/\bs.length=T/\∀b∈bs,∀x,x<W->(x:Int)∈b
 | 0=>⟨[],by simp [ib],rfl,λ_ h=>by cases h⟩
 | T+1=>by
  obtain ⟨bs,u,p,v⟩:=kv (s:=s) i T;refine ⟨bs++[(List.range W).map λk=>(((T*W+k+s)%W:Nat):Int)],?_,by simp [p],λb hb x o=>?_⟩
  ·rw [GQ,<-u,GW];unfold ib;rw [List.range_add,List.map_append];simp [List.map_map,Function.comp_def]
  ·rcases GU.1 hb with hb | hb
   ·exact v b hb x o
   ·rw [List.mem_singleton.1 hb];refine List.mem_map.2 ⟨(x+(W-s%W))%W,List.mem_range.2 (Nat.mod_lt _ i),?_⟩;have hm:=Nat.mod_lt s i
    congr 1
    rw [GX,Nat.mul_comm T W,Nat.mul_add_mod,Nat.mod_add_mod,<-Nat.add_mod_mod,show x+(W-s%W)+s%W=x+W by omega,Nat.add_mod_right,Nat.mod_eq_of_lt o]
theorem Di {p:Pln} (h:aT p):xy p<=810000:=by
 have u:=vY h (F3 p.buks.length);have i:=h.W8;have x:=h.mi;have o:=h.buks;have v:p.W*(p.mi+2*p.buks.length+1)<=8*141:=Nat.mul_le_mul i ao;unfold xy;omega
theorem Dk {i:Inp} (o:aT (au i)):mN i=xy (au i)*i.cfg.steps.toNat:=by
 have h:mN i=aQ (au i).W λx=>aQ i.cfg.steps.toNat λst=>(aB (au i) x st).length:=by
  unfold mN aQ cN
  congr 1
  refine List.map_congr_left λx _=>?_
  show (jd i x i.cfg.steps.toNat).length=_
  unfold jd;rw [List.length_flatMap]
 rw [h,fk,cH λst _=>Dj o st,df,Nat.mul_comm]
noncomputable def vq (i:Inp) (M:WSt):Bool:=open Classical in decide (M.fin i)
theorem tw {i:Inp} {M:WSt}:vq i M=true↔M.fin i:=by unfold vq;exact @decide_eq_true_iff _ (Classical.propDecidable _)
noncomputable def pG (i:Inp) (M:WSt) (most:Int):WSt×Nat:=jB (vq i) (pkZ i) (au i).W most.toNat 0 M
theorem tv {σ:Type} {fin:σ->Bool} {st:σ->Int->σ×Bool} {n:Nat} {Q:σ->Prop} (i:∀s z,Q s->Q (st s z).1):∀f p s,Q s->Q (jB fin st n f p s).1
 | 0,_,_,h=>h
 | f+1,p,s,h=>by
  unfold jB
  split
  ·exact h
  ·exact tv i f _ _ (i _ _ h)
theorem jm (W s n:Nat):ib W s (n+1)=((s%W:Nat):Int)::ib W (s+1) n:=by
 unfold ib;rw [List.range_succ_eq_map,List.map_cons,List.map_map,GY]
 congr 1
 refine List.map_congr_left λk _=>?_
 show (((k+1+s)%W:Nat):Int)=(((k+(s+1))%W:Nat):Int)
 rw [show k+1+s=k+(s+1) by omega]
theorem wZ {i:Inp}:∀(f p:Nat) (M:WSt),(jB (vq i) (pkZ i) (au i).W f p M).1.fin i\/(jB (vq i) (pkZ i) (au i).W f p M).1=(eq i M (ib (au i).W p f)).1
 | 0,_,_=>.inr rfl
 | f+1,p,M=>by
  unfold jB
  split
  ·next h=>exact .inl (tw.1 h)
  ·rw [jm,pW];exact wZ f (p+1) _
theorem ud (W s a b:Nat):ib W s (a+b)=ib W s a++ib W (s+a) b:=by
 induction a generalizing s with
 | zero=>rw [GY,Nat.add_zero];rfl
 | succ a ih=>rw [show a+1+b=(a+b)+1 by omega,jm,jm,ih,show s+1+a=s+(a+1) by omega];rfl
theorem Ci {i:Inp} {M:WSt} {most:Int} (h:dV i M) (o:bj i) (hm:((mN i*(au i).W:Nat):Int)<=most):(pG i M most).1.fin i:=by
 have p:1<=(au i).W:=by have:=o.g.c.w;simp only [au];omega
 rcases wZ (i:=i) most.toNat 0 M with u | u
 ·exact u
 ·unfold pG;rw [u];obtain ⟨r,hr⟩:∃r,most.toNat=mN i*(au i).W+r:=⟨most.toNat-mN i*(au i).W,by omega⟩;rw [hr,ud,mx];obtain ⟨bs,x,A,y⟩:=kv (s:=0) p (mN i);have v:=tx o (by have:=o.g.c.ca;omega) bs h y ao;rw [<-x] at v;exact dV.fin_run (qY h o _).1 o v _
theorem eE {W a b:Nat} (hb:b<W) (h:∃k,a=b+k*W):a%W=b:=by
 obtain ⟨k,rfl⟩:=h;rw [Nat.add_mul_mod_self_right,Nat.mod_eq_of_lt hb]
theorem nC {W x r:Nat} (i:x<W) (hr:r<W-1):aO W x 0 r<W/\(aO W x 0 r+(r+1))%W=x/\aO W x 0 r≠x:=by
 unfold aO;rcases Gn x (r+1) with h | h
 ·have e:(x+(2*W+0-r-1))%W=x+W-r-1:=eE ao ⟨1,by omega⟩;rw [e];exact ⟨by omega,eE i ⟨1,by omega⟩,by omega⟩
 ·have e:(x+(2*W+0-r-1))%W=x-r-1:=eE ao ⟨2,by omega⟩;rw [e];exact ⟨by omega,eE i ⟨0,by omega⟩,by omega⟩
theorem xT {W x ph r o:Nat} (v:x<W) (u:ph<2) (hr:r<W-1) (p:o<W-1) (h:aO W x ph r=aO W x ph o):r=o:=by
 unfold aO at h
 have i:∀r,r<W-1->(x+(2*W+ph-r-1))%W=if x+ph<r+1 then x+ph+W-r-1 else if x+ph-r-1<W then x+ph-r-1 else x+ph-r-1-W:=λr hr=>by
  split
  ·exact eE ao ⟨1,by omega⟩
  ·split
   ·exact eE ao ⟨2,by omega⟩
   ·exact eE ao ⟨3,by omega⟩
 rw [i r hr,i o p] at h
 split at h<;>(try split at h)<;>(try split at h)<;>(try split at h)<;>omega
theorem se {W x:Nat} (h:x<W):bU W x 0 0=x:=by
 unfold bU;exact eE h ⟨2,by omega⟩
theorem mt {W x ph r:Nat} (hr:r+1<=W):bU W x ph (r+1)=aO W x ph r:=by
 unfold bU aO;rw [show 2*W+ph-(r+1)=2*W+ph-r-1 by omega]
theorem Aw {W x:Nat} (h:2<=W):bU W x 1 0=aO W x 0 (W-2):=by
 unfold bU aO;rw [show x+(2*W+1-0)=x+(2*W+0-(W-2)-1)+W by omega,Nat.add_mod_right]
theorem xQ {W x ph r:Nat} (i:x<W) (hr:r<W-1):bU W (pvW W x) ph r=aO W x ph r:=by
 have h:=rZ (W:=W) (x:=pvW W x) (ph:=ph) (r:=r) hr;rw [show (pvW W x+1)%W=x from mA i] at h;exact h
theorem Ar {W x s:Nat} (u:x<W) (i:s<W) (p:2<=W):s=aO W x 0 (W-2)\/∃r,r<W-1/\aO W x 1 r=s:=by
 by_cases h:s=aO W x 0 (W-2)
 ·exact .inl h
 ·right
  have e:aO W x 0 (W-2)=if x+1<W then x+1 else 0:=by
   unfold aO
   split
   ·exact eE ao ⟨1,by omega⟩
   ·exact eE ao ⟨2,by omega⟩
  rw [e] at h;rcases Gn x s with o | o
  ·refine ⟨x+W-s,by split at h<;>omega,?_⟩;unfold aO;exact eE i ⟨1,by omega⟩
  ·refine ⟨x-s,by split at h<;>omega,?_⟩;unfold aO;exact eE i ⟨2,by omega⟩
theorem lY {l:List Itm} {k:Nat} {y:Itm} (h:l[k]?=some y):aY (l.take (k+1))=aY (l.take k)++y.a.toList:=by
 have e:aY [y]=y.a.toList:=by
  unfold aY
  cases e:y.a<;>simp [e]
 rw [List.take_add_one,h,dd,<-e];rfl
theorem dD {l:List Itm} {k:Nat} {a:Acn} (h:a∈aY (l.take k)):a∈aY l:=by
 rw [ep l k,dd];exact List.mem_append_left _ h
theorem rv {wi:Nat} {l:List Itm} {k:Nat} {y:Itm} {a b:Acn} (p:(aY l).Pairwise λa b=>a.key wi<b.key wi) (v:l[k]?=some y) (hb:y.a=some b) (i:a∈aY l) (u:a.key wi<b.key wi):a∈aY (l.take k):=by
 rw [ep l k,dd,GU] at i;rcases i with i | i
 ·exact i
 ·obtain ⟨x,o,h⟩:=ry p i;rw [v] at o
  cases o
  have:=h b hb;omega
theorem B6 {p:Pln} {st:Nat} {a b:Acn} (h:InS p st a) (hb:InS p st b) (i:a.bk=b.bk) (y:a.ph<b.ph):a.key p.wi<b.key p.wi:=by
 refine ki ?_;unfold Cor.q Acn.cor;simp only;rw [h.st,hb.st,i];have v:=h.rd;have o:=h.bk;have x:=h.ch;have u:=hb.bk;omega
theorem BZ {p:Pln} {st:Nat} {a b:Acn} (i:InS p st a) (hb:InS p st b) (o:a.bk=b.bk) (h:a.ph=b.ph) (y:a.rd<b.rd):a.key p.wi<b.key p.wi:=by
 refine ki ?_;unfold Cor.q Acn.cor;simp only;rw [i.st,hb.st,o,h];have u:=i.bk;have x:=i.ch;have v:=hb.bk;omega
theorem mV {b:Rg} {W s q:Nat} (p:s<W) (h:Cov (aD (bY b W) s) q):Cov b q:=by
 rw [js p] at h;obtain ⟨i,o⟩:=h;simp only at i o;have:=fz (b.2-b.1) W (s+1) ao ao;exact ⟨by omega,by omega⟩
theorem DA {p:Pln} (J:aT p) {x st q:Nat} (Y:x<p.W) {a b:Acn} (L:a∈aY (aB p x st)) (hb:b∈aY (aB p x st)) (sa:a.send=false) (sb:b.send=false) (i:a.ph=b.ph) (ca:Cov a.at' q) (C:Cov b.at' q):a.key p.wi=b.key p.wi/\a.bk=b.bk/\a.rd=b.rd:=by
 obtain ⟨a1,a2,Q,T,_⟩:=ff L;obtain ⟨N,V,O,U,_⟩:=ff hb;obtain ⟨_,H,Z⟩:=rh L sa;obtain ⟨_,lb,R⟩:=rh hb sb;rw [Z] at ca;rw [R] at C;have o:=pa H ca;have y:=pa lb C;have A:0<p.W:=J.W1;have D:=mV (by unfold aO;exact Nat.mod_lt _ A) o;have B:=mV (by unfold aO;exact Nat.mod_lt _ A) y;have h:=m8 J T U D B;rw [h] at o;have v:=mU (by unfold aO;exact Nat.mod_lt _ A) (by unfold aO;exact Nat.mod_lt _ A) o y;rw [i] at v;have u:=xT Y V Q O v
 have I:a.ch=b.ch:=by
  rw [i,u,h] at H ca;exact CF H lb ca C
 refine ⟨?_,h,u⟩;unfold Acn.key Cor.q Acn.cor;simp only;rw [a1,N,h,i,u,I,sa,sb]
theorem kM {p:Pln} {x st nx:Nat} (h:nx<p.mi):(aB p x st)[nx]?=some ⟨1,st,nx,none⟩:=by
 unfold aB;rw [GM,GH (by simpa using h)];simp [h]
theorem yb {p:Pln} {x st nx:Nat} {y:Itm} (i:(aB p x st)[nx]?=some y) (h:p.mi<=nx):y.kind≠1:=by
 unfold aB at i;rw [GM,GK (by simpa using h)] at i;have:=List.mem_of_getElem? i;rw [GU,List.mem_singleton] at this;rcases this with h | rfl
 ·obtain ⟨g,_,h⟩:=List.mem_flatMap.1 h;unfold b9 at h;simp only [GU,List.mem_map,List.mem_flatMap] at h;rcases h with (⟨_,_,rfl⟩ | ⟨_,_,_,_,_,_,h⟩) | ⟨_,_,rfl⟩
  ·exact λe=>by cases e
  ·unfold aU at h;obtain ⟨c,_,rfl⟩:=List.mem_map.1 h;unfold eZ
   split<;>exact λe=>by cases e
  ·exact λe=>by cases e
 ·exact λe=>by cases e
theorem kg {p:Pln} {x st:Nat}:∀{nx:Nat},nx<=p.mi->aY ((aB p x st).take nx)=[]/\opP p x st nx=(0,0)
 | 0,_=>⟨rfl,rfl⟩
 | nx+1,h=>by
  obtain ⟨o,u⟩:=kg (p:=p) (x:=x) (st:=st) (nx:=nx) ao;have i:=kM (p:=p) (x:=x) (st:=st) (show nx<p.mi by omega);refine ⟨?_,?_⟩
  ·rw [lY i,o];rfl
  ·rw [fJ i,u];rfl
theorem C4 {p:Pln} {x st nx:Nat} {y:Itm} {a:Acn} (i:(aB p x st)[nx]?=some y) (o:y.a=some a):p.mi<=nx:=by
 rcases Gn nx p.mi with h | h
 ·rw [kM h] at i
  cases i
  cases o
 ·exact h
def opA:Nat×Nat->List Itm->Prop
 | _,[]=>True
 | s,y::r=>(∀a,y.a=some a->s.1<=a.bk)/\opA (opF s y) r
theorem jQ:∀(l r:List Itm) (s:Nat×Nat),opA s (l++r)↔opA s l/\opA (l.foldl opF s) r
 | [],r,s=>by simp [opA]
 | y::l,r,s=>by
  have:=jQ l r (opF s y);simp only [List.cons_append,opA,List.foldl_cons,this,and_assoc]
theorem Bp:∀{l:List Itm} {s:Nat×Nat} {k:Nat} {y:Itm} {a:Acn},opA s l->l[k]?=some y->y.a=some a->((l.take k).foldl opF s).1<=a.bk
 | [],_,_,_,_,_,h,_=>by simp at h
 | z::l,s,0,y,a,hr,h,ha=>by
  simp only [Gz,Option.some.injEq] at h;subst h;exact hr.1 a ha
 | z::l,s,k+1,y,a,hr,h,ha=>by
  rw [Gy] at h;rw [List.take_succ_cons,List.foldl_cons];exact Bp hr.2 h ha
theorem jw:∀{l:List Itm} (s:Nat×Nat),(∀y∈l,y.a=none)->opA s l
 | [],_,_=>trivial
 | y::l,s,h=>⟨λa i=>(by rw [h y (List.mem_cons_self ..)] at i;cases i),jw _ λz o=>h z (List.mem_cons_of_mem _ o)⟩
theorem wE:∀{l:List Itm} (s:Nat×Nat),(∀y∈l,(y.kind≠2/\y.kind≠5)/\∀a,y.a=some a->s.1<=a.bk)->opA s l
 | [],_,_=>trivial
 | y::l,s,h=>by
  obtain ⟨⟨i,o⟩,p⟩:=h y (List.mem_cons_self ..);refine ⟨p,?_⟩;have e:opF s y=s:=by unfold opF;rw [if_neg i,if_neg o]
  rw [e];exact wE s λz u=>h z (List.mem_cons_of_mem _ u)
theorem yB {p:Pln} (x st:Nat) (g:Rg) (v:g.1<=g.2) (u:g.2<=p.buks.length) (A:g.2<=g.1+p.wi):opA (g.1,g.1) (b9 p x st g):=by
 have a1:=lI (wi:=p.wi) (nb:=p.buks.length) st g.1 (g.2-g.1) g.1 ao ao
 have hr:∀y∈((List.range 2).flatMap λph=>(List.range (p.W-1)).flatMap λr=>(List.range' g.1 (g.2-g.1)).flatMap λj=>aU p x st ph r j),(y.kind≠2/\y.kind≠5)/\∀a,y.a=some a->g.1<=a.bk:=λy h=>by
  simp only [List.mem_flatMap] at h;obtain ⟨_,_,_,_,j,o,h⟩:=h;unfold aU at h;obtain ⟨c,hc,rfl⟩:=List.mem_map.1 h
  have hk:(eZ st c).kind≠2/\(eZ st c).kind≠5:=by
   unfold eZ
   split<;>exact ⟨λe=>(by cases e),λe=>(by cases e)⟩
  refine ⟨hk,λa i=>?_⟩;simp only [eZ,Option.some.injEq] at i;subst i;rw [(ir hc).2.1];exact (List.mem_range'_1.1 o).1
 unfold b9;rw [jQ,jQ,a1.2];exact ⟨⟨jw _ λy h=>by obtain ⟨_,_,rfl⟩:=List.mem_map.1 h;rfl,wE _ hr⟩,jw _ λy h=>by obtain ⟨_,_,rfl⟩:=List.mem_map.1 h;rfl⟩
theorem nT {p:Pln} (h:aT p) (x st:Nat):∀k,k<=be p.buks.length p.wi->opA (0,0) (((List.range k).map λj=>((j*p.wi,min (j*p.wi+p.wi) p.buks.length):Rg)).flatMap (b9 p x st))
 | 0,_=>trivial
 | k+1,hk=>by
  have v:=nT h x st k ao;have o:=(lK h x st k ao).2;have u:=fe (n:=p.buks.length) (size:=p.wi) (k:=k) ao;have i:min (k*p.wi) p.buks.length=k*p.wi:=ao;have y:=yB (p:=p) x st (k*p.wi,min (k*p.wi+p.wi) p.buks.length) (by show k*p.wi<=_;omega) (by show min _ _<=_;omega) (by show min _ _<=_;omega);rw [GV,List.map_append,List.flatMap_append,jQ,o,i];simp only [List.map_cons,List.map_nil,List.flatMap_cons,List.flatMap_nil,List.append_nil];exact ⟨v,y⟩
theorem yA {p:Pln} (o:aT p) (x st:Nat):opA (0,0) (aB p x st):=by
 have a1:=kH (wi:=p.wi) (nb:=p.buks.length) (l:=(List.range p.mi).map λa=>(⟨1,st,a,none⟩:Itm)) (0,0) (λy h=>by obtain ⟨_,_,rfl⟩:=List.mem_map.1 h;exact ⟨λe=>(by cases e),λe=>(by cases e)⟩);have i:p.grps=(List.range (be p.buks.length p.wi)).map λj=>((j*p.wi,min (j*p.wi+p.wi) p.buks.length):Rg):=rfl;unfold aB;rw [i,jQ,jQ,a1.2];exact ⟨⟨jw _ λy h=>by obtain ⟨_,_,rfl⟩:=List.mem_map.1 h;rfl,nT o x st _ (F3 _)⟩,jw _ λy h=>by rw [List.mem_singleton.1 h]⟩
theorem sK:∀(l:List Itm) (s:Nat×Nat),s.1<=(l.foldl opF s).1
 | [],_=>F3 _
 | y::l,s=>by
  have:=sK l (opF s y);have h:s.1<=(opF s y).1:=by unfold opF;split<;>(try split)<;>simp
  exact Ge h this
theorem Bn {p:Pln} {x st k i:Nat} (h:k<=i):(opP p x st k).1<=(opP p x st i).1:=by
 unfold opP;obtain ⟨d,rfl⟩:∃d,i=k+d:=⟨i-k,by omega⟩;rw [List.take_add,List.foldl_append];exact sK _ _
theorem rP {p:Pln} (A:aT p) {x st nx:Nat} {y:Itm} (u:(aB p x st)[nx]?=some y) (hk:y.kind=5) {a:Acn} (h:a∈aY (aB p x st)) (hb:a.bk=y.n):a∈aY ((aB p x st).take nx):=by
 have D:=(kI (ix A x st).1 u).2 hk;have v:=fJ u;unfold opF at v;rw [if_neg ao,if_pos hk] at v;rw [ep (aB p x st) nx,dd,GU] at h;rcases h with h | h
 ·exact h
 ·exfalso;unfold aY at h;obtain ⟨z,H,i⟩:=List.mem_filterMap.1 h;obtain ⟨j,o⟩:=List.getElem?_of_mem H;rw [List.getElem?_drop] at o
  have J:j≠0:=by
   rintro rfl;rw [Nat.add_zero,u] at o
   cases o
   rcases ot (List.mem_of_getElem? u) with ⟨e,_⟩ | ⟨b,_,e⟩
   ·rw [e] at i;cases i
   ·rw [hk] at e;split at e<;>cases e
  have C:=Bp (yA A x st) o i;have B:=Bn (p:=p) (x:=x) (st:=st) (show nx+1<=nx+j by omega);rw [v] at B;have L:y.n=(opP p x st nx).1:=D.1;have I:(opP p x st (nx+j)).1<=a.bk:=C;simp only at B;omega
end Go.Proofs.YtindmkcnjlgomaaGreat
