/- No condition. -/
import Derived.Test.YthamijnggdjaoaaGreatQ04
set_option linter.unusedSimpArgs false
set_option linter.unusedVariables false
set_option maxRecDepth 100000
set_option maxHeartbeats 4000000
namespace Go.Proofs.YthamijnggdjaoaaGreat
open Go.RowKit
open Tryz
theorem sX (A:N0) (c:Nat) (k:Cfg) (w:N6):Calls prog 70 #[.agg (bE A c k)] w fun e w'=>e=.returned (.agg #[yY k.rate,yY k.mom,yY k.shift])/\an w w':=by
 obtain ⟨sz,g,ra,a,i,ba,mi,st,bu,ch,wi,ca⟩:=k;dsimp only [bE];obtain ⟨L,m⟩:∃L,sz.length=L:=⟨_,rfl⟩;rw [m];clear m;go_enter func70,ntmps70;go_wp2_with fail;have j:=x6 (w.alloc (.cells #[.slice A L c,yY g,yY ra,yY a,yY i,yY ba,yY mi,yY st,yY bu,yY ch,yY wi,yY ca] 24)) (.cells #[yY ra,yY a,yY g] 146);rw [show (w.alloc (.cells #[.slice A L c,yY g,yY ra,yY a,yY i,yY ba,yY mi,yY st,yY bu,yY ch,yY wi,yY ca] 24)).heap.size=w.heap.size+1 by simp] at j;have l:an w ((w.alloc (.cells #[.slice A L c,yY g,yY ra,yY a,yY i,yY ba,yY mi,yY st,yY bu,yY ch,yY wi,yY ca] 24)).alloc (.cells #[yY ra,yY a,yY g] 146)):=((ya _ w).alloc (x4 _) _).alloc (by simp) _;obtain ⟨n,h⟩:∃n,n=(w.alloc (.cells #[.slice A L c,yY g,yY ra,yY a,yY i,yY ba,yY mi,yY st,yY bu,yY ch,yY wi,yY ca] 24)).alloc (.cells #[yY ra,yY a,yY g] 146):=⟨_,rfl⟩;rw [<-h] at j l ⊢;clear h;obtain ⟨⟨q,p,o⟩,u⟩:=bx3 j;exact yk (v:=.agg #[yY ra,yY a,yY g]) (by simp [results,results70,go_sem,q,p,o]) rfl ⟨rfl,l⟩
theorem jP (A:N0) (c:Nat) (D:N0) (l:Nat) (T:N0) (m:Nat) (R:N0) (j:Nat) (i:Inp) (P:N0) (g h:Nat) (w:N6):Calls prog 72 #[.agg (ax A c D l T m R j i),.slice P g h] w fun e w'=>e=.returned (.agg #[.slice A i.cfg.sizes.length c,.slice P g h,yY i.cfg.shift])/\an w w':=by
 obtain ⟨⟨sz,a,ra,n,o,ba,mi,st,bu,ch,wi,ca⟩,data,start,draws⟩:=i;dsimp only [ax];obtain ⟨L,x⟩:∃L,sz.length=L:=⟨_,rfl⟩;obtain ⟨N,B⟩:∃N,data.length=N:=⟨_,rfl⟩;obtain ⟨M,q⟩:∃M,start.length=M:=⟨_,rfl⟩;obtain ⟨Q,u⟩:∃Q,draws.length=Q:=⟨_,rfl⟩;rw [x,B,q,u];clear x B q u;go_enter func72,ntmps72;go_wp2_with fail;have p:=x6 (w.alloc (.cells #[.slice A L c,yY a,yY ra,yY n,yY o,yY ba,yY mi,yY st,yY bu,yY ch,yY wi,yY ca,.slice D N l,.slice T M m,.slice R Q j] 29)) (.cells #[.slice A L c,.slice P g h,yY a] 150);rw [show (w.alloc (.cells #[.slice A L c,yY a,yY ra,yY n,yY o,yY ba,yY mi,yY st,yY bu,yY ch,yY wi,yY ca,.slice D N l,.slice T M m,.slice R Q j] 29)).heap.size=w.heap.size+1 by simp] at p;have C:an w ((w.alloc (.cells #[.slice A L c,yY a,yY ra,yY n,yY o,yY ba,yY mi,yY st,yY bu,yY ch,yY wi,yY ca,.slice D N l,.slice T M m,.slice R Q j] 29)).alloc (.cells #[.slice A L c,.slice P g h,yY a] 150)):=((ya _ w).alloc (x4 _) _).alloc (by simp) _;obtain ⟨y,k⟩:∃y,y=(w.alloc (.cells #[.slice A L c,yY a,yY ra,yY n,yY o,yY ba,yY mi,yY st,yY bu,yY ch,yY wi,yY ca,.slice D N l,.slice T M m,.slice R Q j] 29)).alloc (.cells #[.slice A L c,.slice P g h,yY a] 150):=⟨_,rfl⟩;rw [<-k] at p C ⊢;clear k;obtain ⟨⟨F,E,G⟩,H⟩:=bx3 p;exact yk (v:=.agg #[.slice A L c,.slice P g h,yY a]) (by simp [results,results72,go_sem,F,E,G]) rfl ⟨rfl,C⟩
theorem uK (A B:N0) (n c m d:Nat) (w:N6):Calls prog 77 #[.agg #[.slice A n c,.slice B m d]] w fun e w'=>e=.returned (.agg #[.slice A n c,.slice B m d])/\an w w':=by
 go_enter func77,ntmps77;go_wp2_with fail;have g:=x6 (w.alloc (.cells #[.slice A n c,.slice B m d] 62)) (.cells #[.slice A n c,.slice B m d] 79);rw [show (w.alloc (.cells #[.slice A n c,.slice B m d] 62)).heap.size=w.heap.size+1 by simp] at g;have h:an w ((w.alloc (.cells #[.slice A n c,.slice B m d] 62)).alloc (.cells #[.slice A n c,.slice B m d] 79)):=((ya _ w).alloc (x4 _) _).alloc (by simp) _;obtain ⟨i,a⟩:∃i,i=(w.alloc (.cells #[.slice A n c,.slice B m d] 62)).alloc (.cells #[.slice A n c,.slice B m d] 79):=⟨_,rfl⟩;rw [<-a] at g h ⊢;clear a;obtain ⟨⟨k,j⟩,l⟩:=bx2 g;exact yk (v:=.agg #[.slice A n c,.slice B m d]) (by simp [results,results77,go_sem,k,j]) rfl ⟨rfl,h⟩
end Go.Proofs.YthamijnggdjaoaaGreat
namespace Go.Proofs.YthamijnggdjaoaaGreat
open Go.RowKit Go.Shelf
open Tryz
attribute [local go_sem] Oper.semAt_some
def iR (l:N3):Int:=l.foldl (fun a x=>wrap64 (a+x)) 0
theorem qG (l:N3) (x:Int):iR (l++[x])=wrap64 (iR l+x):=by simp [iR]
def lL (zs:N3) {m:Nat} (k:Fin m):N4:=#[yY (nth zs k.1)]
theorem uX {zs:N3} {m:Nat} (h:zs.length=m):((List.finRange m).map fun k=>nth zs k.1)=zs:=by
 refine fd (by simp [h]) fun k a=>?_;rw [cJ _ _ a];simp
theorem nk {β:Type} (B b:Nat) (o:List β->Obj) (g:∀p,(o p).isCells=true):OwnFrom B (fun (p:List β) W=>W.heap[b]?=some (o p)):=fun p W e row a hg hr=>dP (β:=List β) B b (o p) (g p) p W e row a hg hr
theorem sw (n l M n₀ m d:Nat) (A:N0) (zs:N3) (I:zs.length=m) (hm:m<=1048576) (a1:M<n₀) (H:∀a,A=some a->a.block<n₀) (J U:List (Fin m)->N6->Prop) (hY:∀g x W,J g W->g.length<m->YieldAt Fence.wide (n-1) prog l (lL zs x) W fun e C=> (e=.returned (.bool true)/\J (g++[x]) C/\dV n₀ M W C)\/(e=.returned (.bool false)/\U (g++[x]) C)) (W:N6) (B:W.heap[M]?=some (.cells #[.slice A m d] 26 (0,0))) (hA:Rd W A (au .i64 zs)) (h0:J [] W):
  CallsIn Fence.wide n prog 100 #[.func (.yield l) #[] #[],(ap M)] W fun e C=>(∃v,e=.returned v)/\
   ((∃ys,ys=List.finRange m/\J ys C)\/(∃g,True/\U g C)):=by
 obtain ⟨Y,Z⟩:=bx1 B;obtain ⟨a0,HA,N,R⟩:=af B hA I H;clear B hA I H;refine callsIn_of_wp func100 rfl trivial ?_ rfl;simp only [ntmps100,List.size_toArray,List.length_cons,List.length_nil,Nat.reduceAdd,Nat.reduceSub,Array.replicate_succ,Array.replicate_zero,List.push_toArray,List.append_toArray,List.nil_append,List.cons_append]
 gi_wp2
 gi_loopw [7] (fun i wr=>∃k:Nat,k<=m/\i=yY k/\J ((List.finRange m).take k) wr/\Rd wr A (au .i64 zs))
  (fun i _=>m-(intOf i).toNat)
 ·exact ⟨0,yb _,rfl,h0,HA.o⟩
 case round=>
  obtain ⟨k,hk,rfl,j,q⟩:=hrel;clear Y Z;by_cases y:k<m
  ·have K:((List.finRange m).take k).length<m:=by simp;omega
   have Q:=aa q;obtain ⟨b,o,rfl,p⟩:=q.num (show k<zs.length by rw [N.o];exact y);obtain ⟨fn,V,L,T,X,hR⟩:=hY _ ⟨k,y⟩ wr j K;unfold lL at X;dsimp only at X;clear q j
   gi_wp2
   refine ⟨(fun h=>by cases h),?_⟩;refine hR.mono ?_;rintro e w5 (⟨rfl,D,G⟩ | ⟨rfl,F⟩)
   ·have E:=Q.o.belowB G.1 R.o;obtain ⟨O,S⟩:=ab E D;clear E D G p
    gi_wp2
    go_roundw
    ·exact ⟨k+1,by omega,by go_num,by rw [qj y];exact S.o,O.o⟩
    ·simp [intOf];omega
   ·gi_wp2
    refine yk (results_none rfl _ _ _) rfl ?_;exact ⟨⟨_,rfl⟩,.inr ⟨_,trivial,F⟩⟩
  ·obtain rfl:k=m:=am;have u:(List.finRange k).take k=List.finRange k:=List.take_of_length_le (by simp);rw [u] at j;have P:=aa j;clear j u q
   gi_wp2
   go_end0
   exact ⟨⟨_,rfl⟩,.inl ⟨_,rfl,P.o⟩⟩
theorem nU (n g n₀ m d:Nat) (A:N0) (zs:N3) (j:zs.length=m) (hm:m<=1048576) (i:g<n₀) (h:∀a,A=some a->a.block<n₀) (w:N6) (e:w.heap[g]?=some (.cells #[.slice A m d] 26 (0,0))) (hA:Rd w A (au .i64 zs)):
  SeqStopsK Fence.wide n prog 100 #[(ap g)] (lL zs (m:=m)) (dV n₀ g) (fun ys=>ys=List.finRange m) (fun _=>True) m w:=fun l J p W k _ _ q o=>
 sw n l g n₀ m d A zs j hm i h J p q W ((k.block _ (xZ e)).trans e) (hA.below k) o
theorem qB (G m d:Nat) (A:N0) (zs:N3) (w:N6) (y:w.heap[G]?=some (.cells #[.slice A m d] 26 (0,0))) (hA:Rd w A (au .i64 zs)) (u:zs.length=m) (hm:m<=1048576) (E:∀a,A=some a->a.block<w.heap.size):Calls prog 60 #[.func (.func 100) #[] #[(ap G)]] w fun e w'=>e=.returned (yY (iR zs))/\an w w':=by
 have H:=xZ y;have B:=nU 2 G w.heap.size m d A zs u hm H E (w.alloc (.cells #[yY 0] 2)) ((yj w _ _ H).trans y) (hA.alloc _);obtain ⟨O,M⟩:=ab B u;clear B y hA u E;refine (callsIn_wide (n:=3)).1 ?_;refine callsIn_of_wp_marks func60 rfl trivial ?_ rfl;simp only [ntmps60,List.size_toArray,List.length_cons,List.length_nil,Nat.reduceAdd,Nat.reduceSub,Array.replicate_succ,Array.replicate_zero,List.push_toArray,List.append_toArray,List.nil_append,List.cons_append]
 gi_wp2_with fail
 refine' wpIn_rangeFunc_ownG (F:=Fence.wide) (n:=3) rfl am (gf:=100) (lb:=#[(ap G)]) rfl trivial (enters_of func100 (by kernel_rfl) rfl)
  O.o fC (fD (by simp) (by simp;omega)) (ya _ _) (fun _=>rfl)
  (fun (i:List (Fin m)) W=>(W.heap[w.heap.size]?=some (.cells #[yY (iR (i.map fun k=>nth zs k.1))] 2 (0,0)))/\an w W)
  (fun _ _ _=>False)
  (OwnFrom.and (nk _ _ (fun i:List (Fin m)=>.cells #[yY (iR (i.map fun k=>nth zs k.1))] 2 (0,0)) (fun _=>rfl)) (ownFrom_below (x4 _) (by simp)))
  (fun _ _ _ _ _ R _ _=>R)
  ⟨x6 w _,(ya _ w).alloc (x4 _) _⟩
  _ ?assign ?body ?done ?stop
 case assign=>
  intro l x W K J;unfold lL
  gi_wp2
  exact J
 case body=>
  rintro l i x W ⟨p,g⟩ N;obtain ⟨L,q⟩:∃L,iR (i.map fun k=>nth zs k.1)=L:=⟨_,rfl⟩;obtain ⟨I,v⟩:∃I,nth zs x.1=I:=⟨_,rfl⟩;rw [q] at p;obtain ⟨p0,Z⟩:=bx1 p;have Y:=xZ p;obtain ⟨X,V,T,Q⟩:=af p g q v;clear p g N q;simp only [v];clear v
  gi_wp2_with fail
  have P:Keep (fun j=>j=w.heap.size) W (W.setCell (ao w.heap.size 0) (yY (wrap64 (L+I)))):=Keep.setCell (S:=fun j=>j=w.heap.size) (Keep.refl _ _) (ao w.heap.size 0) (.inr rfl) _;have U:Below w.heap.size W (W.setCell (ao w.heap.size 0) (yY (wrap64 (L+I)))):=P.toBelow V.o.size (fun j hj=>am);refine ⟨(fT P (fun k o R C=>by rw [R,X.o] at C;injection C with e;subst e;rfl)).from _,⟨U,fun h=>P.block G h am⟩,?_,V.o.trans U⟩;rw [List.map_append,List.map_cons,List.map_nil,qG,T.o,Q.o];exact yW W w.heap.size 0 _ _ _ X.o
 case done=>
  rintro D ys W hD rfl ⟨p,g⟩ J;rw [uX M.o] at p;obtain ⟨p0,Z⟩:=bx1 p
  gi_wp2
  refine ⟨by simp,.inl ⟨_,_,rfl,run_takeDeferred J,?_⟩⟩;exact ⟨yY (iR zs),by simp [results,results60,go_sem],rfl,g.trans (belowK_b (w:=w) (x4 _) W D _ _ (by simp at hD;omega) J rfl rfl)⟩
 case stop=>
  rintro D c i W _ _ h _;exact h.elim
theorem su (A:N0) (m d:Nat) (w:N6):Calls prog 61 #[.slice A m d] w fun e w'=>e=.returned (.func (.func 100) #[] #[(ap w.heap.size)])/\w'=w.alloc (.cells #[.slice A m d] 26):=by
 go_enter func61,ntmps61;go_wp2;go_ret;exact ⟨rfl,rfl⟩
theorem nI (A:N0) (m d:Nat) (zs:N3) (w:N6) (hA:Rd w A (au .i64 zs)) (h:zs.length=m) (hm:m<=1048576) (g:∀a,A=some a->a.block<w.heap.size):Calls prog 19 #[.slice A m d] w fun e w'=>e=.returned (yY (iR zs))/\an w w':=by
 have i:=qB w.heap.size m d A zs (w.alloc (.cells #[.slice A m d] 26)) (x6 w _) (hA.alloc _) h hm (fun a k=>by have:=g a k;simp;omega);have l:=aa i;clear i hA h g;go_enter func19,ntmps19;go_wp2_with fail;refine (su A m d w).mono ?_;rintro e p ⟨rfl,rfl⟩;go_wp2_with fail;refine l.o.mono ?_;rintro e q ⟨rfl,j⟩;have n:=aa (((ya _ w).alloc (x4 _) _).trans (j.mono (by simp)));clear j;go_wp2;go_ret;exact ⟨rfl,n.o⟩
end Go.Proofs.YthamijnggdjaoaaGreat
namespace Go.Proofs.YthamijnggdjaoaaGreat
open Go.RowKit
open Tryz
theorem sJ (a b:Int):iR [a,b]=wrap64 (a+b):=by
 show wrap64 (wrap64 (0+a)+b)=wrap64 (a+b)
 unfold wrap64;omega
def db (a q m g:Int):Int:=wrap64 (cP a m q+g)
def gM (ra q p m:Int):Int:=wrap64 (p-cP ra m q)
def apM (a q:Int) (ms g:N3) (lo k:Nat):N3:=bH ms.length fun j=>if lo<=j/\j<lo+k then db a q (nth ms j) (nth g (j-lo)) else nth ms j
def apP (ra a q:Int) (ps ms g:N3) (lo k:Nat):N3:=bH ps.length fun j=>if lo<=j/\j<lo+k then gM ra q (nth ps j) (db a q (nth ms j) (nth g (j-lo))) else nth ps j
theorem uO (a q:Int) (ms g:N3) (lo:Nat):apM a q ms g lo 0=ms:=(dB rfl fun k _=>by rw [if_neg am]).symm
theorem uN (ra a q:Int) (ps ms g:N3) (lo:Nat):apP ra a q ps ms g lo 0=ps:=(dB rfl fun k _=>by rw [if_neg am]).symm
theorem mp (a q:Int) (ms g:N3) (lo k:Nat):(apM a q ms g lo k).length=ms.length:=aG _ _
theorem mn (ra a q:Int) (ps ms g:N3) (lo k:Nat):(apP ra a q ps ms g lo k).length=ps.length:=aG _ _
theorem xm (a q:Int) (ms g:N3) (lo k:Nat) (h:lo+k<ms.length):nth (apM a q ms g lo k) (lo+k)=nth ms (lo+k):=by
 unfold apM;rw [aI _ h,if_neg am]
theorem xl (ra a q:Int) (ps ms g:N3) (lo k:Nat) (h:lo+k<ps.length):nth (apP ra a q ps ms g lo k) (lo+k)=nth ps (lo+k):=by
 unfold apP;rw [aI _ h,if_neg am]
theorem vQ (a q:Int) (ms g:N3) (lo k:Nat) (h:lo+k<ms.length):(apM a q ms g lo k).set (lo+k) (db a q (nth ms (lo+k)) (nth g k))=apM a q ms g lo (k+1):=by
 refine fd (by simp [mp]) fun j e=>?_;rw [List.length_set,mp] at e;rw [eh,mp];unfold apM;rw [aI _ e,aI _ e];by_cases l:j=lo+k
 ·subst l;rw [if_pos ⟨rfl,h⟩,if_pos am,show lo+k-lo=k by omega]
 ·rw [if_neg am];by_cases i:lo<=j/\j<lo+k
  ·rw [if_pos i,if_pos am]
  ·rw [if_neg i,if_neg am]
theorem vO (ra a q:Int) (ps ms g:N3) (lo k:Nat) (h:lo+k<ps.length):(apP ra a q ps ms g lo k).set (lo+k) (gM ra q (nth ps (lo+k)) (db a q (nth ms (lo+k)) (nth g k)))=apP ra a q ps ms g lo (k+1):=by
 refine fd (by simp [mn]) fun j e=>?_;rw [List.length_set,mn] at e;rw [eh,mn];unfold apP;rw [aI _ e,aI _ e];by_cases l:j=lo+k
 ·subst l;rw [if_pos ⟨rfl,h⟩,if_pos am,show lo+k-lo=k by omega]
 ·rw [if_neg am];by_cases i:lo<=j/\j<lo+k
  ·rw [if_pos i,if_pos am]
  ·rw [if_neg i,if_neg am]
theorem vS {a q:Int} {ms g:N3} {lo k:Nat} (h:W64 ms):W64 (apM a q ms g lo k):=cY fun j e=>by
 split
 ·exact dg _
 ·exact h j e
def eT (a q:Int) (ms g:N3):N3:=bH ms.length fun j=>db a q (nth ms j) (nth g j)
def eS (ra a q:Int) (ps ms g:N3):N3:=bH ps.length fun j=>gM ra q (nth ps j) (db a q (nth ms j) (nth g j))
theorem vR (a q:Int) (ms g:N3):apM a q ms g 0 ms.length=eT a q ms g:=df fun k e=>by rw [if_pos am,Nat.sub_zero]
theorem vP (ra a q:Int) (ps ms g:N3):apP ra a q ps ms g 0 ps.length=eS ra a q ps ms g:=df fun k e=>by rw [if_pos am,Nat.sub_zero]
theorem kY (a q:Int) (ms g:N3):(eT a q ms g).length=ms.length:=aG _ _
theorem kW (ra a q:Int) (ps ms g:N3):(eS ra a q ps ms g).length=ps.length:=aG _ _
theorem le (a q:Int) (ms g:N3):W64 (eT a q ms g):=cY fun _ _=>dg _
theorem kX (ra a q:Int) (ps ms g:N3):W64 (eS ra a q ps ms g):=cY fun _ _=>dg _
theorem qQ (lo a:Nat) (w:N6) (h:lo<=a) (j:a<=17592186043904):Calls prog 232 #[.agg #[yY lo,yY a]] w fun e w'=>e=.returned (yY ((a-lo:Nat):Int))/\an w w':=by
 have k:(0:Int)<=(a:Int)-lo:=am;have g:max ((a:Int)-lo) 0=((a-lo:Nat):Int):=am;have i:=aa g;clear g;go_enter func232,ntmps232;go_wp2
 all_goals
  go_ret;exact ⟨aD (by have:=i.o;omega),(ya _ w).alloc (x4 _) _⟩
theorem nV (ra B q g:Int) (base n i p cp m cm:Nat) (ps ms:N3) (w:N6) (hp:w.ownsRow base 2 1 (.slice (some (ao p 0)) n cp) n (au .i64 ps)) (hm:w.ownsRow base 2 1 (.slice (some (ao m 0)) n cm) n (au .i64 ms)) (b5:p≠m) (hi:i<n) (wr: -9223372036854775808<=ra/\ra<=9223372036854775807) (wo: -9223372036854775808<=B/\B<=9223372036854775807) (wm:W64 ms):Calls prog 233 #[.agg #[yY ra,yY B,yY q],.pointer (some (ao p i)),.pointer (some (ao m i)),yY g] w fun e w'=>e=.returned (.tuple #[])/\
   w'.ownsRow base 2 1 (.slice (some (ao p 0)) n cp) n (au .i64 (ps.set i (gM ra q (nth ps i) (db B q (nth ms i) g))))/\w'.ownsRow base 2 1 (.slice (some (ao m 0)) n cm) n (au .i64 (ms.set i (db B q (nth ms i) g)))/\Keep (fun j=>j=p\/j=m) w w':=by
 have Z:=fF hm;have p1:=bq hp hi;have p2:=bq hm hi;have f1:=hp.frozenAt i;have f2:=hm.frozenAt i;have l1:=(hp.lt p rfl).2;have l2:=(hm.lt m rfl).2;have N:=fun w'=>j8 B (nth ms i) q w' wo (wm i am);have I:=fun m' w' (h: -9223372036854775808<=m'/\m'<=9223372036854775807)=>j8 ra m' q w' wr h;obtain ⟨m0,ad⟩:∃m0,nth ms i=m0:=⟨_,rfl⟩;obtain ⟨p0,a5⟩:∃p0,nth ps i=p0:=⟨_,rfl⟩;rw [ad] at p2 N ⊢;rw [a5] at p1 ⊢;obtain ⟨D,u⟩:∃D,db B q m0 g=D:=⟨_,rfl⟩;have b2: -9223372036854775808<=D/\D<=9223372036854775807:=by rw [<-u];exact dg _
 obtain ⟨mu,F⟩:∃mu,cP B m0 q=mu:=⟨_,rfl⟩;have a8:iR [mu,g]=D:=by rw [sJ,<-u,<-F];rfl
 rw [u];rw [F] at N;have I:=fun w'=>I D w' b2;obtain ⟨pu,E⟩:∃pu,cP ra D q=pu:=⟨_,rfl⟩;rw [E] at I;obtain ⟨p9,a0⟩:∃p9,gM ra q p0 D=p9:=⟨_,rfl⟩;have Q:wrap64 (p0-pu)=p9:=by rw [<-a0,<-E];rfl
 rw [a0];have a1:=fun w'=>pM p0 pu w';rw [Q] at a1;have Y:=fun A w' (hA:Rd w' A (au .i64 [mu,g])) ha=>nI A 2 2 [mu,g] w' hA rfl am ha;rw [a8] at Y;obtain ⟨bc,be,bh,bd,HP,HM,b7,av⟩:=aj N I a1 Y hp hm a5 b5;clear N I a1 Y hp hm ad a5 u F a8 E a0 Q wr wo wm Z b2;go_enter func233,ntmps233;go_wp2_with fail;have hz:=x6 w (.cells #[yY ra,yY B,yY q] 256);have x:an w (w.alloc (.cells #[yY ra,yY B,yY q] 256)):=(ya _ w).alloc (x4 _) _;obtain ⟨O,b0⟩:∃O,O=w.alloc (.cells #[yY ra,yY B,yY q] 256):=⟨_,rfl⟩;rw [<-b0] at hz x ⊢;clear b0;have q1:=aq x p1;have q2:=aq x p2;obtain ⟨⟨y0,y1,y2⟩,yf⟩:=bx3 hz;have P:=az HP.o x;have U:=az HM.o x;have b6:=xZ hz;obtain ⟨HZ,bk,b8,bo⟩:=af hz x P U;clear hz x P U p1 p2 f1 f2;have k:(fun w':N6=>w'.cell? (ao w.heap.size 1)=some (yY B)/\w'.cell? (ao w.heap.size 2)=some (yY q)/\w'.cell? (ao m i)=some (yY m0)) O.drew:=⟨y1,y2,q2⟩;refine XA.g 12 (fun w':N6=>w'.cell? (ao w.heap.size 1)=some (yY B)/\w'.cell? (ao w.heap.size 2)=some (yY q)/\w'.cell? (ao m i)=some (yY m0)) ?_;refine XA.t ?_ [0,1,2,3,4,5,6,7,9] k ?_;refine XA.o 8 (fun K y=>?_);go_simp;refine (bc.o _).mono ?_;rintro e w1 ⟨rfl,l⟩;have a9:=yg (aq l k.1) (yg (aq l k.2.1) (aq l k.2.2));have a2:=aa ((ya O.heap.size O).drew.trans l);clear l k;dsimp only;refine y.out _ _ a9 (fun k=>?_);clear y K a9;refine XA.o 10 (fun K y=>?_);go_simp;refine y.out _ _ ⟨ay k.1 _,ay k.2.1 _,ay k.2.2 _⟩ (fun k=>?_);clear y K;refine XA.o 11 (fun K y=>?_);go_simp;refine (bd.o _ _ ?_ ?_).mono ?_
 ·exact dO _ [yY mu,yY g] 2 _ (by simp)
 ·intro a ha;injection ha with ha;subst ha;simp
 rintro e w2 ⟨rfl,l⟩;have a4:=yg (aq l k.1) (yg (aq l k.2.1) (aq l k.2.2));have v:an O w2:=(a2.o.alloc a2.o.size _).trans (l.mono (by have:=a2.o.size;simp;omega));have a3:=az b8.o v;have u:=az bo.o v;have bb:=aq v q1;have g1:=u.frozenAt i;have g2:=a3.frozenAt i;have b3:=(v.block _ b6).trans HZ.o;have bC:=v.size;obtain ⟨bv,bz,b1,bw⟩:=af a3 u v b3;clear a3 u v l b3 k y0 y1 y2 yf q1 q2;dsimp only;refine y.out _ _ a4 (fun k=>?_);clear y K;have q3:=a4.2.2;refine XA.e ?_;clear k a4;simp only [yy,yz];go_wp2_with fail;have H:Keep (fun j=>j=m) w2 (w2.setCell (ao m i) (yY D)):=Keep.setCell (S:=fun j=>j=m) (Keep.refl _ _) (ao m i) (.inr rfl) _;have L:=cU bz.o i D
 have R:∀j,(Value.slice (some (ao p 0)) n cp).ownBlock=some j->¬j=m:=fun j hj e=>by
  have h1:p=j:=by simpa [Value.ownBlock] using hj
  exact av.o am
 have T:∀j,(Value.slice (some (ao m 0)) n cm).ownBlock=some j->¬j=p:=fun j hj e=>by
  have h1:m=j:=by simpa [Value.ownBlock] using hj
  exact av.o am
 have M:=H.own bv.o R;have a6:=aa T;clear R T;have G:=(H.block _ (by have:=b1.o.size;omega) am).trans bw.o;obtain ⟨V,hV⟩:∃V,V=w2.setCell (ao m i) (yY D):=⟨_,rfl⟩;rw [<-hV] at H L M G ⊢;clear hV bb q3 g1 g2;have r1:=bq M hi;have r2:=bq L hi;have Z:=fF HM.o;rw [eh,if_pos ⟨rfl,by omega⟩] at r2;rw [b7.o] at r1;obtain ⟨⟨y0,y1,y2⟩,yf⟩:=bx3 G;have bA:=xZ G;obtain ⟨bm,bp,b9,bB⟩:=af H L M G;clear H L M G Z;have k:(fun w':N6=>w'.cell? (ao w.heap.size 0)=some (yY ra)/\w'.cell? (ao w.heap.size 2)=some (yY q)/\w'.cell? (ao p i)=some (yY p0)/\w'.cell? (ao m i)=some (yY D)) V.drew:=⟨y0,y2,r1,r2⟩;refine XA.g 13 (fun w':N6=>w'.cell? (ao w.heap.size 0)=some (yY ra)/\w'.cell? (ao w.heap.size 2)=some (yY q)/\w'.cell? (ao p i)=some (yY p0)/\w'.cell? (ao m i)=some (yY D)) ?_;refine XA.t ?_ [0,1,2,3,4,5,6,7,8,9,10] k ?_;refine XA.o 11 (fun K y=>?_);go_simp;refine (be.o _).mono ?_;rintro e w3 ⟨rfl,C⟩;have X:=yg (aq C k.1) (yg (aq C k.2.1) (yg (aq C k.2.2.1) (aq C k.2.2.2)));have J:an V w3:=(ya V.heap.size V).drew.trans C;have W:=az b9.o J;have b4:=az bp.o J;have g2:=W.frozenAt i;have q3:=X.2.2.1;obtain ⟨bl,bg,bs⟩:=ae J W b4;clear C J W b4 k;dsimp only;refine y.out _ _ X (fun k=>?_);clear y K X;refine XA.o 12 (fun K y=>?_);go_simp;refine (bh.o _).mono ?_;rintro e w4 ⟨rfl,rfl⟩;dsimp only;refine y.out _ _ k (fun k=>?_);clear y K;refine XA.e ?_;clear k y0 y1 y2 yf r1 r2;simp only [yy,yz];go_wp2_with fail
 go_end0
 have a7:Keep (fun j=>j=p) w3 (w3.setCell (ao p i) (yY p9)):=Keep.setCell (S:=fun j=>j=p) (Keep.refl _ _) (ao p i) (.inr rfl) _;refine ⟨rfl,cU bg.o i p9,a7.own bs.o a6.o,?_⟩;have k1:Keep (fun j=>j=p\/j=m) w O:=Keep.below bk.o;have k2:Keep (fun j=>j=p\/j=m) O w2:=Keep.below b1.o;have k3:Keep (fun j=>j=p\/j=m) w2 V:=bm.o.mono (fun _ _ h=>.inr h);have k4:Keep (fun j=>j=p\/j=m) V w3:=Keep.below bl.o;exact (((k1.trans k2).trans k3).trans k4).trans (a7.mono (fun _ _ h=>.inl h))
theorem rY (ra l q:Int) (base n lo m v p cg:Nat) (A B G:N0) (ps ms g:N3) (w:N6) (hp:w.ownsRow base 2 1 (.slice A n v) n (au .i64 ps)) (hm:w.ownsRow base 2 1 (.slice B n p) n (au .i64 ms)) (a5:∀i,(Value.slice A n v).ownBlock=some i->(Value.slice B n p).ownBlock≠some i) (hG:Rd w G (au .i64 g)) (b1:g.length=m) (cc:lo+m<=n) (hn:n<=1048576) (a4:∀a,G=some a->(Value.slice A n v).ownBlock≠some a.block) (b3:∀a,G=some a->(Value.slice B n p).ownBlock≠some a.block) (wr: -9223372036854775808<=ra/\ra<=9223372036854775807) (wo: -9223372036854775808<=l/\l<=9223372036854775807) (wm:W64 ms):Calls prog 199 #[.agg #[yY ra,yY l,yY q],.agg #[.slice A n v,.slice B n p],.agg #[yY lo,yY ((lo+m:Nat):Int)],.slice G m cg] w fun e w'=>e=.returned (.bool true)/\
   w'.ownsRow base 2 1 (.slice A n v) n (au .i64 (apP ra l q ps ms g lo m))/\w'.ownsRow base 2 1 (.slice B n p) n (au .i64 (apM l q ms g lo m))/\Keep (fun j=>(Value.slice A n v).ownBlock=some j\/(Value.slice B n p).ownBlock=some j) w w':=by
 have bc:=fF hp;have b9:=fF hm;have S:=fun w'=>qQ lo (lo+m) w' am am;rw [Nat.add_sub_cancel_left] at S;obtain ⟨E,b5⟩:∃E,lo+m=E:=⟨_,rfl⟩;rw [b5] at S ⊢;have c9:lo<=E:=am;have co:E<=n:=am;have cp:((n:Int) != (n:Int))=false:=by simp
 have cl:((m:Int) != (m:Int))=false:=by simp
 have cd:¬((n:Int)<(E:Int)):=am;have ce:¬((E:Int)<lo):=am;have W:=hp.lt;have Z:=hm.lt;obtain ⟨a7,HP,HM,bD,HG,bz,be,a6⟩:=aj S hp hm a5 hG b1 a4 b3;obtain ⟨av,b6,Wr,Wo,Wm,T,U⟩:=ai bc b9 wr wo wm W Z;clear S hp hm a5 hG b1 a4 b3 bc b9 wr wo wm W Z b5;go_enter func199,ntmps199;go_wp2_with fail;have a0:(((w.alloc (.cells #[yY ra,yY l,yY q] 256)).alloc (.cells #[.slice A n v,.slice B n p] 62)).alloc (.cells #[yY lo,yY E] 111)).heap.size=w.heap.size+3:=by simp
 have a2:an w (((w.alloc (.cells #[yY ra,yY l,yY q] 256)).alloc (.cells #[.slice A n v,.slice B n p] 62)).alloc (.cells #[yY lo,yY E] 111)):=(((ya _ w).alloc (x4 _) _).alloc (by simp) _).alloc (by simp;omega) _;have a1:=(yj ((w.alloc (.cells #[yY ra,yY l,yY q] 256)).alloc (.cells #[.slice A n v,.slice B n p] 62)) (.cells #[yY lo,yY E] 111) w.heap.size (by simp;omega)).trans ((yj (w.alloc (.cells #[yY ra,yY l,yY q] 256)) (.cells #[.slice A n v,.slice B n p] 62) w.heap.size (by simp)).trans (x6 w _));have D:=x6 (w.alloc (.cells #[yY ra,yY l,yY q] 256)) (.cells #[.slice A n v,.slice B n p] 62);rw [show (w.alloc (.cells #[yY ra,yY l,yY q] 256)).heap.size=w.heap.size+1 by simp] at D;have D:=(yj ((w.alloc (.cells #[yY ra,yY l,yY q] 256)).alloc (.cells #[.slice A n v,.slice B n p] 62)) (.cells #[yY lo,yY E] 111) (w.heap.size+1) (by simp)).trans D;have O:=x6 ((w.alloc (.cells #[yY ra,yY l,yY q] 256)).alloc (.cells #[.slice A n v,.slice B n p] 62)) (.cells #[yY lo,yY E] 111);rw [show ((w.alloc (.cells #[yY ra,yY l,yY q] 256)).alloc (.cells #[.slice A n v,.slice B n p] 62)).heap.size=w.heap.size+1+1 by simp] at O;obtain ⟨W0,bh⟩:∃W0,W0=((w.alloc (.cells #[yY ra,yY l,yY q] 256)).alloc (.cells #[.slice A n v,.slice B n p] 62)).alloc (.cells #[yY lo,yY E] 111):=⟨_,rfl⟩;rw [<-bh] at a0 a2 a1 D O ⊢;obtain ⟨cb,I,a8,b0,Q⟩:=ag a0 a2 a1 D O;clear a0 a2 a1 D O bh;refine (a7.o _).mono ?_;rintro e w1 ⟨rfl,k1⟩;have y:=(k1.block _ (xZ Q.o)).trans Q.o;have bN:=xZ y;obtain ⟨⟨x0,x1⟩,xf⟩:=bx2 y;have K1:=aa k1;clear k1 y;go_wp2_with fail;refine (a7.o _).mono ?_;rintro e w2 ⟨rfl,k2⟩;have K2:=aa (K1.o.trans (k2.mono K1.o.size));clear k2 x0 x1 xf bN;have b8:=I.o.trans (K2.o.mono I.o.size);have bk:=az (az HP.o I.o) K2.o;have b4:=az (az HM.o I.o) K2.o;have bp:=(HG.o.below I.o).below K2.o;have F:=(K2.o.block _ (xZ a8.o)).trans a8.o;have M:=(K2.o.block _ (xZ b0.o)).trans b0.o;have y:=(K2.o.block _ (xZ Q.o)).trans Q.o;obtain ⟨bF,bB,c3,bO,bg,bb,bo⟩:=ai b8 bk b4 bp F M y;clear b8 bk b4 bp F M y;go_wp2_with fail
 go_loopw [46] (fun x wr=>∃k:Nat,k<=m/\x=yY k/\wr.ownsRow base 2 1 (.slice A n v) n (au .i64 (apP ra l q ps ms g lo k))/\wr.ownsRow base 2 1 (.slice B n p) n (au .i64 (apM l q ms g lo k))/\Keep (fun j=>(Value.slice A n v).ownBlock=some j\/(Value.slice B n p).ownBlock=some j) w2 wr) (fun x _=>m-(intOf x).toNat)
 ·exact ⟨0,yb _,rfl,by rw [uN];exact bB.o,by rw [uO];exact c3.o,Keep.refl _ _⟩
 case round=>
  obtain ⟨k,hk,rfl,N,H,J⟩:=hrel;by_cases bC:k<m
  ·have hG:=J.rd bO.o (fun a ha=>by
    rintro (h | h)
    ·exact be.o a ha h
    ·exact a6.o a ha h)
   obtain ⟨bG,oG,rfl,pg⟩:=hG.num (show k<g.length by rw [bz.o];exact bC);obtain ⟨gk,L⟩:∃gk,nth g k=gk:=⟨_,rfl⟩;rw [L] at pg
   have P:∀j,w.heap.size<=j->¬((Value.slice A n v).ownBlock=some j\/(Value.slice B n p).ownBlock=some j):=fun j hj=>by
    rintro (h | h)
    ·have:=(T.o j h).2;omega
    ·have:=(U.o j h).2;omega
   have F:=(J.block _ (xZ bg.o) (P _ (x4 _))).trans bg.o;have M:=(J.block _ (xZ bb.o) (P _ am)).trans bb.o;have y:=(J.block _ (xZ bo.o) (P _ am)).trans bo.o;obtain ⟨R,e1,b2,_,_⟩:=N.form am;obtain ⟨Y,e2,bd,_,_⟩:=H.form am;simp only [yM] at b2 bd;obtain ⟨rfl,_,rfl⟩:=b2;obtain ⟨rfl,_,rfl⟩:=bd;have X:R≠Y:=fun e=>bD.o R rfl (by rw [e];rfl);have a3:=nV ra l q gk base n (lo+k) R v Y p (apP ra l q ps ms g lo k) (apM l q ms g lo k) wr.drew (aZ N 1) (aZ H 1) X am Wr.o Wo.o (vS Wm.o);rw [xl ra l q ps ms g lo k (by have:=av.o;omega),xm l q ms g lo k (by have:=b6.o;omega),<-L,vO ra l q ps ms g lo k (by have:=av.o;omega),vQ l q ms g lo k (by have:=b6.o;omega),L] at a3;obtain ⟨⟨y0,y1,y2⟩,yf⟩:=bx3 F;obtain ⟨⟨z0,z1⟩,zf⟩:=bx2 M;obtain ⟨⟨t0,t1⟩,tf⟩:=bx2 y;have cj:(k:Int)<m:=am;have bA:IntKind.i64.wrap ((lo:Int)+(k:Int))=(lo:Int)+k:=yc _ am;have c8:(0:Int)<=(lo:Int)+k:=am;have cm:(lo:Int)+k<n:=am;have bv:((lo:Int)+k).toNat=lo+k:=am;obtain ⟨HK,bV,ck⟩:=ae J a3 L;clear J a3 N H hG F M y P L X;go_wp2_with fail;have u:(fun w':N6=>w'.cell? (ao w.heap.size 0)=some (yY ra)/\w'.cell? (ao w.heap.size 1)=some (yY l)/\w'.cell? (ao w.heap.size 2)=some (yY q)/\w'.cell? (ao (w.heap.size+1) 0)=some (.slice (some (ao R 0)) n v)/\w'.cell? (ao (w.heap.size+1) 1)=some (.slice (some (ao Y 0)) n p)/\w'.cell? (ao (w.heap.size+1+1) 0)=some (yY lo)/\w'.cell? (ao bG (oG+k))=some (yY gk)) wr.drew:=⟨y0,y1,y2,z0,z1,t0,pg⟩;have c6:R<w.heap.size:=(T.o R rfl).2;have c7:Y<w.heap.size:=(U.o Y rfl).2
   have V:¬(bG=R\/bG=Y):=by
    rintro (h | h)
    ·exact be.o _ rfl (by rw [h];rfl)
    ·exact a6.o _ rfl (by rw [h];rfl)
   refine HA.g (fun w':N6=>w'.cell? (ao w.heap.size 0)=some (yY ra)/\w'.cell? (ao w.heap.size 1)=some (yY l)/\w'.cell? (ao w.heap.size 2)=some (yY q)/\w'.cell? (ao (w.heap.size+1) 0)=some (.slice (some (ao R 0)) n v)/\w'.cell? (ao (w.heap.size+1) 1)=some (.slice (some (ao Y 0)) n p)/\w'.cell? (ao (w.heap.size+1+1) 0)=some (yY lo)/\w'.cell? (ao bG (oG+k))=some (yY gk)) ?_;refine HA.t ?_ [0,1,2,3,4,5,6,7,8,9,10,11,12,13,14,15,16,17,18] u ?_;clear bA bv;refine HA.o 19 (fun K J=>?_);go_simp;refine bV.o.mono ?_;rintro e w5 ⟨rfl,bm,a9,C⟩;have ad:=yg (C.cell u.1 (by simp;omega)) (yg (C.cell u.2.1 (by simp;omega)) (yg (C.cell u.2.2.1 (by simp;omega)) (yg (C.cell u.2.2.2.1 (by simp;omega)) (yg (C.cell u.2.2.2.2.1 (by simp;omega)) (yg (C.cell u.2.2.2.2.2.1 (by simp;omega)) (C.cell u.2.2.2.2.2.2 V))))))
   have b7:Keep (fun j=>(Value.slice (some (ao R 0)) n v).ownBlock=some j\/(Value.slice (some (ao Y 0)) n p).ownBlock=some j) w2 w5:=HK.o.trans ((Keep.refl _ wr).drew.trans (C.mono (fun j _ h=>by
    rcases h with rfl | rfl
    ·exact .inl rfl
    ·exact .inr rfl)))
   obtain ⟨c0,bw,c4⟩:=ae bm a9 b7;clear bm a9 C b7 u V;dsimp only;refine J.out _ _ ad (fun u=>?_);clear J K ad u y0 y1 y2 yf z0 z1 zf t0 t1 tf pg;refine HA.d ?_;go_wp2_with fail;go_roundw
   ·exact ⟨k+1,by omega,by go_num,c0.o,bw.o,c4.o⟩
   ·simp [intOf];omega
  ·obtain rfl:m=k:=am;have bl:Keep (fun j=>(Value.slice A n v).ownBlock=some j\/(Value.slice B n p).ownBlock=some j) w wr:=(Keep.below bF.o).trans J;obtain ⟨bs,c5,bM⟩:=ae N H bl;clear N H bl J;go_wp2_with fail;go_ret;exact ⟨rfl,bs.o,c5.o,bM.o⟩
theorem jh (A B:N0) (n c d:Nat) (ps ms:N3) (w:N6) (hA:Rd w A (au .i64 ps)) (hB:Rd w B (au .i64 ms)) (Q:ps.length=n) (Z:ms.length=n) (hn:n<=1048576):Calls prog 149 #[.agg #[.slice A n c,.slice B n d]] w fun e w'=>∃p i q l,e=.returned (.agg #[.slice p n i,.slice q n l])/\n<=i/\n<=l/\w'.ownsRow w.heap.size 2 1 (.slice p n i) n (au .i64 ps)/\w'.ownsRow w.heap.size 2 1 (.slice q n l) n (au .i64 ms)/\
   (∀j,(Value.slice p n i).ownBlock=some j->(Value.slice q n l).ownBlock≠some j)/\an w w':=by
 have H:=fun w' (k:an w w')=>cS A ps c w' (hA.below k) am;have L:=fun w' (k:an w w')=>cS B ms d w' (hB.below k) am;rw [Q] at H;rw [Z] at L;obtain ⟨ad,b0⟩:=ab H L;clear H L Q Z hA hB;go_enter func149,ntmps149;go_wp2_with fail;have hz:=x6 (w.alloc (.cells #[.slice A n c,.slice B n d] 62)) (.cells #[yZ,yZ] 62);rw [show (w.alloc (.cells #[.slice A n c,.slice B n d] 62)).heap.size=w.heap.size+1 by simp] at hz;have hy:=(yj (w.alloc (.cells #[.slice A n c,.slice B n d] 62)) (.cells #[yZ,yZ] 62) w.heap.size (by simp)).trans (x6 w _);have M:an w ((w.alloc (.cells #[.slice A n c,.slice B n d] 62)).alloc (.cells #[yZ,yZ] 62)):=((ya _ w).alloc (x4 _) _).alloc (by simp) _;have I:((w.alloc (.cells #[.slice A n c,.slice B n d] 62)).alloc (.cells #[yZ,yZ] 62)).heap.size=w.heap.size+2:=by simp
 obtain ⟨W0,R⟩:∃W0,W0=(w.alloc (.cells #[.slice A n c,.slice B n d] 62)).alloc (.cells #[yZ,yZ] 62):=⟨_,rfl⟩;rw [<-R] at hz hy M I ⊢;obtain ⟨⟨y0,y1⟩,yf⟩:=bx2 hy;obtain ⟨Hz,O,y⟩:=ae hz M I;clear hz hy M I R;have a:(fun w':N6=>w'.cell? (ao w.heap.size 0)=some (.slice A n c)/\w'.cell? (ao w.heap.size 1)=some (.slice B n d)) W0.drew:=⟨y0,y1⟩;refine XA.g 7 (fun w':N6=>w'.cell? (ao w.heap.size 0)=some (.slice A n c)/\w'.cell? (ao w.heap.size 1)=some (.slice B n d)) ?_;refine XA.t ?_ [0,1,3,4] a ?_;refine XA.o 2 (fun K T=>?_);go_simp;refine (ad.o _ O.o.drew).mono ?_;rintro e w1 ⟨p,i,rfl,a2,x,m⟩;have a9:=aa a2;clear a2;have V:=yg (aq m a.1) (aq m a.2);have U:=(m.block (w.heap.size+1) (by simp [y.o])).trans Hz.o;have P:=O.o.drew.trans (m.mono (by simp [y.o]));have av:=m.size;simp only [yL,y.o] at av;have x:=aA (base':=w.heap.size) x (by simp [y.o]);obtain ⟨W,a7,D⟩:=ae x U P;clear x U P m a;dsimp only;refine T.out _ _ V (fun a=>?_);clear T K V;refine XA.o 5 (fun K T=>?_);go_simp;refine (b0.o _ D.o).mono ?_;rintro e N ⟨q,l,rfl,a3,u,h⟩;have F:∀j,(Value.slice p n i).ownBlock=some j->(Value.slice q n l).ownBlock≠some j:=fun j h1 h2=>by have:=(W.o.lt j h1).2;have:=(u.lt j h2).1;omega
 obtain ⟨a4,a1⟩:=ab a3 F;clear a3 F;have X:=yg (aq h a.1) (aq h a.2);have C:=(h.block (w.heap.size+1) am).trans a7.o;have Y:=D.o.trans (h.mono D.o.size);have b3:=h.size;have u:=aA (base':=w.heap.size) u D.o.size;have G:=az W.o h;obtain ⟨⟨z0,z1⟩,zf⟩:=bx2 C;have l2:w.heap.size+1<N.heap.size:=xZ C;obtain ⟨a0,E,J,b1⟩:=af u G C Y;clear u G C Y h a;dsimp only;refine T.out _ _ X (fun a=>?_);clear T K X;refine XA.t ?_ [6] a ?_;refine XA.e ?_;clear a;simp only [yy,yz];go_wp2_with fail;have e1:=yW N (w.heap.size+1) 0 _ _ (.slice p n i) J.o;have e2:=yW _ (w.heap.size+1) 1 _ _ (.slice q n l) e1;have e3:((N.setCell (ao (w.heap.size+1) 0) (.slice p n i)).setCell (ao (w.heap.size+1) 1) (.slice q n l)).heap[w.heap.size+1]?=some (.cells #[(.slice p n i),(.slice q n l)] 62 (0,0)):=by simpa using e2
 have hk:Keep (fun j=>j=w.heap.size+1) N ((N.setCell (ao (w.heap.size+1) 0) (.slice p n i)).setCell (ao (w.heap.size+1) 1) (.slice q n l)):=Keep.setCell (S:=fun j=>j=w.heap.size+1) (Keep.setCell (S:=fun j=>j=w.heap.size+1) (Keep.refl _ _) (ao (w.heap.size+1) 0) (.inr rfl) _) (ao (w.heap.size+1) 1) (.inr rfl) _;obtain ⟨W9,a8⟩:∃W9,W9=(N.setCell (ao (w.heap.size+1) 0) (.slice p n i)).setCell (ao (w.heap.size+1) 1) (.slice q n l):=⟨_,rfl⟩;rw [<-a8] at e3 hk ⊢;obtain ⟨⟨x0,x1⟩,xf⟩:=bx2 e3;have b2:=hk.own E.o (fun j hj e=>ar J.o (by decide) E.o (by rw [hj,e]));have a6:=hk.own a0.o (fun j hj e=>ar J.o (by decide) a0.o (by rw [hj,e]));have a5:an w W9:=b1.o.trans (hk.toBelow am (fun j hj=>am));exact yk (v:=.agg #[.slice p n i,.slice q n l]) (by simp [results,results149,go_sem,x0,x1]) rfl ⟨p,i,q,l,rfl,a9.o,a4.o,b2,a6,a1.o,a5⟩
theorem vw (ra u q:Int) (A B G:N0) (n c d cg:Nat) (ps ms g:N3) (w:N6) (hA:Rd w A (au .i64 ps)) (hB:Rd w B (au .i64 ms)) (hG:Rd w G (au .i64 g)) (X:ps.length=n) (W:ms.length=n) (a8:g.length=n) (hn:n<=1048576) (wr: -9223372036854775808<=ra/\ra<=9223372036854775807) (wo: -9223372036854775808<=u/\u<=9223372036854775807) (wm:W64 ms) (a2:∀a,G=some a->a.block<w.heap.size):Calls prog 153 #[.agg #[yY ra,yY u,yY q],.agg #[.slice A n c,.slice B n d],.slice G n cg] w fun e w'=>∃m l p i,e=.returned (.tuple #[.agg #[.slice m n l,.slice p n i],.bool true])/\n<=l/\n<=i/\
   w'.ownsRow w.heap.size 2 1 (.slice m n l) n (au .i64 (eS ra u q ps ms g))/\w'.ownsRow w.heap.size 2 1 (.slice p n i) n (au .i64 (eT u q ms g))/\an w w':=by
 have bb:=fun w' (k:an w w')=>jh A B n c d ps ms w' (hA.below k) (hB.below k) X W hn
 have Y:=fun (m p:N0) l i base w' (k:an w w') (hb:w.heap.size<=base) (h1:w'.ownsRow base 2 1 (.slice m n l) n (au .i64 ps)) (h2:w'.ownsRow base 2 1 (.slice p n i) n (au .i64 ms)) bd=>rY ra u q base n 0 n l i cg m p G ps ms g w' h1 h2 bd (hG.below k) a8 am hn
  (fun a ha e=>by have:=(h1.lt _ e).1;have:=a2 a ha;omega) (fun a ha e=>by have:=(h2.lt _ e).1;have:=a2 a ha;omega) wr wo wm
 have e1:=vP ra u q ps ms g;have e2:=vR u q ms g;rw [X] at e1;rw [W] at e2;rw [e1,e2,yR] at Y;have hq:((n:Int) != (n:Int))=false:=by simp
 obtain ⟨bm,bk⟩:=ab bb Y;clear bb Y e1 e2 hA hB hG X W a8 wr wo wm a2;go_enter func153,ntmps153;go_wp2_with fail;have R:(((w.alloc (.cells #[yY ra,yY u,yY q] 256)).alloc (.cells #[.slice A n c,.slice B n d] 62)).alloc (.cells #[yZ,yZ] 62)).heap.size=w.heap.size+3:=by simp
 have Z:an w (((w.alloc (.cells #[yY ra,yY u,yY q] 256)).alloc (.cells #[.slice A n c,.slice B n d] 62)).alloc (.cells #[yZ,yZ] 62)):=(((ya _ w).alloc (x4 _) _).alloc (by simp) _).alloc (by simp;omega) _;have U:=(yj ((w.alloc (.cells #[yY ra,yY u,yY q] 256)).alloc (.cells #[.slice A n c,.slice B n d] 62)) (.cells #[yZ,yZ] 62) w.heap.size (by simp;omega)).trans ((yj (w.alloc (.cells #[yY ra,yY u,yY q] 256)) (.cells #[.slice A n c,.slice B n d] 62) w.heap.size (by simp)).trans (x6 w _));have F:=x6 (w.alloc (.cells #[yY ra,yY u,yY q] 256)) (.cells #[.slice A n c,.slice B n d] 62);rw [show (w.alloc (.cells #[yY ra,yY u,yY q] 256)).heap.size=w.heap.size+1 by simp] at F;have F:=(yj ((w.alloc (.cells #[yY ra,yY u,yY q] 256)).alloc (.cells #[.slice A n c,.slice B n d] 62)) (.cells #[yZ,yZ] 62) (w.heap.size+1) (by simp)).trans F;have L:=x6 ((w.alloc (.cells #[yY ra,yY u,yY q] 256)).alloc (.cells #[.slice A n c,.slice B n d] 62)) (.cells #[yZ,yZ] 62);rw [show ((w.alloc (.cells #[yY ra,yY u,yY q] 256)).alloc (.cells #[.slice A n c,.slice B n d] 62)).heap.size=w.heap.size+1+1 by simp] at L;obtain ⟨W0,b1⟩:∃W0,W0=((w.alloc (.cells #[yY ra,yY u,yY q] 256)).alloc (.cells #[.slice A n c,.slice B n d] 62)).alloc (.cells #[yZ,yZ] 62):=⟨_,rfl⟩;rw [<-b1] at R Z U F L ⊢;obtain ⟨y,a6,a7,a0,bs⟩:=ag Z U F L R;clear R Z U F L b1;refine (bm.o _ y.o).mono ?_;rintro e w1 ⟨m,l,p,i,rfl,bc,av,D,C,O,k1⟩;have Q:=(k1.block _ (xZ a6.o)).trans a6.o;have a1:=(k1.block _ (xZ a7.o)).trans a7.o;have x:=(k1.block _ (xZ a0.o)).trans a0.o;have bp:=xZ Q;have bv:=xZ a1;have bz:=xZ x;have a4:=y.o.trans (k1.mono y.o.size);obtain ⟨⟨x0,x1,x2⟩,xf⟩:=bx3 Q;obtain ⟨⟨y0,y1⟩,yf⟩:=bx2 a1;obtain ⟨b4,b2,bo,bg,b8,a3,b3⟩:=ai x a4 bc av D C O;clear k1 Q a1 x a4 bc av D C O;go_wp2_with fail;have I:=b2.o.alloc b2.o.size (.cells #[.slice m n l,.slice p n i] 62);have T:=x6 w1 (.cells #[.slice m n l,.slice p n i] 62);have x:=(yj w1 (.cells #[.slice m n l,.slice p n i] 62) _ (xZ b4.o)).trans b4.o;have D:=b8.o.alloc (.cells #[.slice m n l,.slice p n i] 62);have C:=a3.o.alloc (.cells #[.slice m n l,.slice p n i] 62);have b6:w1.heap.size<(w1.alloc (.cells #[.slice m n l,.slice p n i] 62)).heap.size:=by simp
 obtain ⟨V,hV⟩:∃V,V=w1.alloc (.cells #[.slice m n l,.slice p n i] 62):=⟨_,rfl⟩;rw [<-hV] at I T x D C b6 ⊢;clear hV;refine (bk.o m p l i W0.heap.size V I y.o.size D C b3.o).mono ?_;rintro e w3 ⟨rfl,a5,b5,M⟩;have J:=D.lt;have K:=C.lt
 have b7:∀j,j<W0.heap.size->¬((Value.slice m n l).ownBlock=some j\/(Value.slice p n i).ownBlock=some j):=fun j P=>by
  rintro (h | h)
  ·have:=(J j h).1;omega
  ·have:=(K j h).1;omega
 have N:=(M.block _ b6 (by
  rintro (h | h)
  ·have:=(b8.o.lt _ h).2;omega
  ·have:=(a3.o.lt _ h).2;omega)).trans T
 have E:=(M.block _ (xZ x) (b7 _ (xZ a0.o))).trans x
 have a9:=I.trans (M.toBelow I.size (fun j P=>by
  rcases P with h | h
  ·have:=(J j h).1;have:=y.o.size;omega
  ·have:=(K j h).1;have:=y.o.size;omega))
 have bw:=xZ E;obtain ⟨⟨z0,z1⟩,zf⟩:=bx2 N;obtain ⟨⟨t0,t1⟩,tf⟩:=bx2 E;obtain ⟨H,b0,ad,b9⟩:=af E a9 a5 b5;clear E a9 a5 b5 M N T x D C I J K b7 x0 x1 x2 xf y0 y1 yf;go_wp2_with fail;have e1:=yW w3 (w.heap.size+1+1) 0 _ _ (.slice m n l) H.o;have e2:=yW _ (w.heap.size+1+1) 1 _ _ (.slice p n i) e1;have e3:((w3.setCell (ao (w.heap.size+1+1) 0) (.slice m n l)).setCell (ao (w.heap.size+1+1) 1) (.slice p n i)).heap[w.heap.size+1+1]?=some (.cells #[.slice m n l,.slice p n i] 62 (0,0)):=by simpa using e2
 have hk:Keep (fun j=>j=w.heap.size+1+1) w3 ((w3.setCell (ao (w.heap.size+1+1) 0) (.slice m n l)).setCell (ao (w.heap.size+1+1) 1) (.slice p n i)):=Keep.setCell (S:=fun j=>j=w.heap.size+1+1) (Keep.setCell (S:=fun j=>j=w.heap.size+1+1) (Keep.refl _ _) (ao (w.heap.size+1+1) 0) (.inr rfl) _) (ao (w.heap.size+1+1) 1) (.inr rfl) _;obtain ⟨W9,bl⟩:∃W9,W9=(w3.setCell (ao (w.heap.size+1+1) 0) (.slice m n l)).setCell (ao (w.heap.size+1+1) 1) (.slice p n i):=⟨_,rfl⟩;rw [<-bl] at e3 hk ⊢;obtain ⟨⟨r0,r1⟩,rf⟩:=bx2 e3;have bh:=hk.own ad.o (fun j P e=>ar H.o (by decide) ad.o (by rw [P,e]));have be:=hk.own b9.o (fun j P e=>ar H.o (by decide) b9.o (by rw [P,e]));exact yk (v:=.tuple #[.agg #[.slice m n l,.slice p n i],.bool true]) (by simp [results,results153,go_sem,r0,r1]) rfl ⟨m,l,p,i,rfl,bo.o,bg.o,aA bh y.o.size,aA be y.o.size,b0.o.trans (hk.toBelow b0.o.size (fun j P=>am))⟩
theorem n8 (A:N0) (n c:Nat) (ps:N3) (w:N6) (hA:Rd w A (au .i64 ps)) (a5:ps.length=n) (hn:n<=1048576):Calls prog 148 #[.slice A n c] w fun e w'=>∃h a A2 c2,e=.returned (.agg #[.slice h n a,.slice A2 n c2])/\n<=a/\n<=c2/\w'.ownsRow w.heap.size 2 1 (.slice h n a) n (au .i64 ps)/\w'.ownsRow w.heap.size 2 1 (.slice A2 n c2) n (au .i64 (List.replicate n 0))/\(∀j,(Value.slice h n a).ownBlock=some j->(Value.slice A2 n c2).ownBlock≠some j)/\an w w':=by
 have T:=fun w' (k:an w w')=>cS A ps c w' (hA.below k) am;rw [a5] at T;have a7:=aa T;have Z:=fun w'=>jM ik w' rfl n am (by unfold maxLen;omega);simp only [dS] at Z;have a8:=aa Z;clear T a5 hA Z;go_enter func148,ntmps148;go_wp2_with fail;have hz:=x6 w (.cells #[yZ,yZ] 62);have X:an w (w.alloc (.cells #[yZ,yZ] 62)):=(ya _ w).alloc (x4 _) _;obtain ⟨C,a6⟩:∃C,C=w.alloc (.cells #[yZ,yZ] 62):=⟨_,rfl⟩;rw [<-a6] at hz X ⊢;have a4:=xZ hz;obtain ⟨HZ,u⟩:=ab hz X;clear hz X a6;have g:(fun _:N6=>True) C.drew:=trivial;refine eL 6 (fun _:N6=>True) (by kernel_rfl) ?_;refine wX 0 g ?_;refine wX 2 g ?_;refine wX 3 g ?_;simp only [yn,yo,yp,Act.put,yq,yr,yt];refine aU (rs:=[1,4]) (by kernel_rfl) (by simp) ?_;refine aC.cons rfl (fun K I=>?_) (aC.cons rfl (fun K I=>?_) aC.nil)
 ·simp only [yn,yo,yp];go_simp;refine (a7.o _ u.o.drew).mono ?_;rintro e D ⟨h,a,rfl,O,y,m⟩;have F:=u.o.drew.trans (m.mono u.o.size);have G:=(m.block w.heap.size (by simpa using a4)).trans HZ.o;have Q:=aA (base':=w.heap.size) y (by have:=u.o.size;simpa using this);have W:=m.size;have M:∀j,(Value.slice h n a).ownBlock=some j->j<D.heap.size:=fun j q=>(y.lt j q).2;have R:=aa M;clear M;simp only [yL] at W;obtain ⟨p,a0,ad,a1⟩:=af F G Q O;clear m F G y Q O;dsimp only;refine I.out _ _ trivial (fun g=>?_);clear I K g;refine aU (rs:=[4]) (by kernel_rfl) (by simp) ?_;refine aC.cons rfl (fun K I=>?_) aC.nil;simp only [yn,yo,yp];obtain ⟨V,B,N,l⟩:=a8.o D;obtain ⟨E,J,i,L⟩:=af (aA (base':=w.heap.size) N p.o.size) (p.o.trans (l.mono p.o.size)) ((l.block w.heap.size am).trans a0.o) (az ad.o l);have x:=i.o;obtain ⟨⟨z0,z1⟩,zf⟩:=bx2 x;have a9:=xZ x;clear N l x;go_simp;refine I.out _ _ trivial (fun g=>?_);clear I K B;refine wX 5 g ?_;simp only [yn,yo,yp,Act.put,yq,yr,yt];refine cF (by rfl) (by kernel_rfl) ?_;simp only [yy,yz];go_wp2_with fail;have e1:=yW V w.heap.size 0 _ _ (.slice h n a) i.o;have e2:=yW _ w.heap.size 1 _ _ (.slice (some (ao D.heap.size 0)) n n) e1;have e3:((V.setCell (ao w.heap.size 0) (.slice h n a)).setCell (ao w.heap.size 1) (.slice (some (ao D.heap.size 0)) n n)).heap[w.heap.size]?=some (.cells #[.slice h n a,.slice (some (ao D.heap.size 0)) n n] 62 (0,0)):=by simpa using e2
  have P:Keep (fun j=>j=w.heap.size) V ((V.setCell (ao w.heap.size 0) (.slice h n a)).setCell (ao w.heap.size 1) (.slice (some (ao D.heap.size 0)) n n)):=Keep.setCell (S:=fun j=>j=w.heap.size) (Keep.setCell (S:=fun j=>j=w.heap.size) (Keep.refl _ _) (ao w.heap.size 0) (.inr rfl) _) (ao w.heap.size 1) (.inr rfl) _;obtain ⟨W9,U⟩:∃W9,W9=(V.setCell (ao w.heap.size 0) (.slice h n a)).setCell (ao w.heap.size 1) (.slice (some (ao D.heap.size 0)) n n):=⟨_,rfl⟩;rw [<-U] at e3 P ⊢;obtain ⟨⟨r0,r1⟩,rf⟩:=bx2 e3;have a2:=P.own L.o (fun j q e=>ar i.o (by decide) L.o (by rw [q,e]));have Y:=P.own E.o (fun j q e=>ar i.o (by decide) E.o (by rw [q,e]))
  exact yk (v:=.agg #[.slice h n a,.slice (some (ao D.heap.size 0)) n n]) (by simp [results,results148,go_sem,r0,r1]) rfl ⟨h,a,_,n,rfl,a1.o,x4 _,a2,Y,fun j q e=>by
   have h1:=R.o j q;have h2:D.heap.size=j:=by simpa [Value.ownBlock] using e
   omega,J.o.trans (P.toBelow J.o.size (fun j q=>am))⟩
 ·simp only [yn,yo,yp];obtain ⟨D,B,N,l⟩:=a8.o C.drew;have F:=u.o.drew.trans (l.mono u.o.size);have G:=(l.block w.heap.size (by simpa using a4)).trans HZ.o;have H:=aA (base':=w.heap.size) N (by have:=u.o.size;simpa using this);have W:=l.size;simp only [yL] at W H B;obtain ⟨p,a0,a3⟩:=ae F G H;clear l F G N H;go_simp;refine I.out _ _ trivial (fun g=>?_);clear I K B;refine aU (rs:=[1]) (by kernel_rfl) (by simp) ?_;refine aC.cons rfl (fun K I=>?_) aC.nil;simp only [yn,yo,yp];go_simp;refine (a7.o _ p.o).mono ?_;rintro e V ⟨h,a,rfl,O,y,m⟩;have M:∀j,(Value.slice h n a).ownBlock=some j->D.heap.size<=j:=fun j q=>(y.lt j q).1;have R:=aa M;clear M;obtain ⟨L,J,i,E,a1⟩:=ag (aA (base':=w.heap.size) y p.o.size) (p.o.trans (m.mono p.o.size)) ((m.block w.heap.size am).trans a0.o) (az a3.o m) O;have x:=i.o;obtain ⟨⟨z0,z1⟩,zf⟩:=bx2 x;have a9:=xZ x;clear y m x O;dsimp only;refine I.out _ _ trivial (fun g=>?_);clear I K;refine wX 5 g ?_;simp only [yn,yo,yp,Act.put,yq,yr,yt];refine cF (by rfl) (by kernel_rfl) ?_;simp only [yy,yz];go_wp2_with fail;have e1:=yW V w.heap.size 0 _ _ (.slice h n a) i.o;have e2:=yW _ w.heap.size 1 _ _ (.slice (some (ao C.heap.size 0)) n n) e1;have e3:((V.setCell (ao w.heap.size 0) (.slice h n a)).setCell (ao w.heap.size 1) (.slice (some (ao C.heap.size 0)) n n)).heap[w.heap.size]?=some (.cells #[.slice h n a,.slice (some (ao C.heap.size 0)) n n] 62 (0,0)):=by simpa using e2
  have P:Keep (fun j=>j=w.heap.size) V ((V.setCell (ao w.heap.size 0) (.slice h n a)).setCell (ao w.heap.size 1) (.slice (some (ao C.heap.size 0)) n n)):=Keep.setCell (S:=fun j=>j=w.heap.size) (Keep.setCell (S:=fun j=>j=w.heap.size) (Keep.refl _ _) (ao w.heap.size 0) (.inr rfl) _) (ao w.heap.size 1) (.inr rfl) _;obtain ⟨W9,U⟩:∃W9,W9=(V.setCell (ao w.heap.size 0) (.slice h n a)).setCell (ao w.heap.size 1) (.slice (some (ao C.heap.size 0)) n n):=⟨_,rfl⟩;rw [<-U] at e3 P ⊢;obtain ⟨⟨r0,r1⟩,rf⟩:=bx2 e3;have a2:=P.own L.o (fun j q e=>ar i.o (by decide) L.o (by rw [q,e]));have Y:=P.own E.o (fun j q e=>ar i.o (by decide) E.o (by rw [q,e]))
  exact yk (v:=.agg #[.slice h n a,.slice (some (ao C.heap.size 0)) n n]) (by simp [results,results148,go_sem,r0,r1]) rfl ⟨h,a,_,n,rfl,a1.o,x4 _,a2,Y,fun j q e=>by
   have h1:=R.o j q;have h2:C.heap.size=j:=by simpa [Value.ownBlock] using e
   have h3:=(a3.o.lt C.heap.size rfl).2
   omega,J.o.trans (P.toBelow J.o.size (fun j q=>am))⟩
theorem qI (A:N0) (n c:Nat) (ps:N3) (w:N6) (hA:Rd w A (au .i64 ps)) (j:ps.length=n) (u:n<=1048576):Calls prog 148 #[.slice A n c] w fun e w'=>∃h g i a,e=.returned (.agg #[.slice h n g,.slice i n a])/\n<=g/\n<=a/\w'.ownsRow w.heap.size 2 1 (.slice h n g) n (au .i64 ps)/\w'.ownsRow w.heap.size 2 1 (.slice i n a) n (au .i64 (List.replicate n 0))/\an w w':=
 (n8 A n c ps w hA j u).mono fun e w' ⟨h,g,i,a,o,l,q,m,p,_,k⟩=>⟨h,g,i,a,o,l,q,m,p,k⟩
theorem gX (S n b steps:Nat) (l:N3) (w:N6) (h:dN w S n b steps l):Calls prog 150 #[(ap S)] w fun e w'=>e=.returned (yY steps)/\w=w':=by
 obtain ⟨m,o,A,y,vs,a,g,k,i,j⟩:=h;obtain ⟨⟨v,u,p,q⟩,x⟩:=bx4 a;clear a g k i j;go_enter func150,ntmps150;go_wp2;go_ret;exact ⟨rfl,rfl⟩
theorem oq (S n b steps t:Nat) (l:N3) (w:N6) (h:dN w S n b steps l) (X:n<=1048576) (u:1<=n/b) (D:steps<=1048576) (Q:t<steps):Calls prog 231 #[(ap S),yY t] w fun e w'=>e=.returned (.tuple #[yY ((t/(n/b):Nat):Int),yY ((t%(n/b):Nat):Int),.bool true])/\∃d,w'=w.drewN d:=by
 have x:=gX S n b steps l w h;obtain ⟨R,V,Z,W,vs,p,B,H,E,F⟩:=h;have q:=Nat.div_le_self n b;obtain ⟨j,i⟩:∃j,n/b=j:=⟨_,rfl⟩;rw [i] at p u q ⊢;obtain ⟨⟨T,P,Y,O⟩,U⟩:=bx4 p;obtain ⟨k,a⟩:∃k,t/j=k:=⟨_,rfl⟩;obtain ⟨m,g⟩:∃m,t%j=m:=⟨_,rfl⟩;have y:(t:Int).tdiv (j:Int)=(k:Int):=by rw [<-a];rfl
 have N:(t:Int).tmod (j:Int)=(m:Int):=by rw [<-g];rfl
 have I:k<=t:=by rw [<-a];exact Nat.div_le_self _ _
 have A:m<=t:=by rw [<-g];exact Nat.mod_le _ _
 have K:IntKind.i64.wrap (k:Int)=(k:Int):=yc _ am;have M:IntKind.i64.wrap (m:Int)=(m:Int):=yc _ am;have J:¬(j=0):=am;have G:(t:Int)<steps:=am;have L:¬((t:Int)<0):=am;have v:¬((steps:Int)<=t):=am;rw [a,g];have C:=aa x;clear x p B H E F i a g;go_enter func231,ntmps231;go_wp2_with fail;refine C.o.mono ?_;rintro e w' ⟨rfl,rfl⟩;go_wp2_with fail
 go_quiet (fail)
 go_wp2_with fail;go_ret3;exact ⟨rfl,_,rfl⟩
def bU (l:N3) (n b t:Nat):N3:=((cX l n ((t/(n/b))*(n-1))).drop (t%(n/b)*b)).take b
theorem nM {n b steps t:Nat} (a:t<steps):t/(n/b)<epN n b steps:=by
 unfold epN fL;rw [if_neg am];have:=Nat.div_le_div_right (c:=n/b) (show t<=steps-1 by omega);omega
theorem eG (l:N3) {n b t:Nat} (a:1<=n/b):(bU l n b t).length=b:=by
 unfold bU;have e:=ip n b (t%(n/b)) (Nat.mod_lt _ a);rw [yF,yI,er];omega
theorem rT (l:N3) {n b t:Nat} (a:1<=n/b):∀k,k<b->0<=nth (bU l n b t) k/\nth (bU l n b t) k<n:=fun k e=>by
 have g:=ip n b (t%(n/b)) (Nat.mod_lt _ a);unfold bU;rw [fu e,fv];exact tv l n _ _ am
theorem qD (S n b steps t:Nat) (l:N3) (w:N6) (h:dN w S n b steps l) (hb:1<=b) (hn:n<=1048576) (m:1<=n/b) (N:steps<=1048576) (ht:t<steps):Calls prog 198 #[(ap S),yY t] w fun e w'=>∃A c,e=.returned (.slice A b c)/\Rd w' A (au .i64 (bU l n b t))/\an w w':=by
 have i:=oq S n b steps t l w h hn m N ht;obtain ⟨Ab,cb,Ao,co,vs,q,I,h3,h4,h5⟩:=h;have Q:=Nat.div_le_self n b;have U:=nM (n:=n) (b:=b) ht;have hm:=Nat.mod_lt t m;have y:=ip n b _ hm;have D:=qx n b _ hb hm;have a:=pC (n-n%b) b hm;rw [D] at a;obtain ⟨A1,H,W,k2,J⟩:=h5 _ U;have v:bU l n b t=((cX l n ((t/(n/b))*(n-1))).drop (t%(n/b)*b)).take b:=rfl;rw [v];have R:epN n b steps<=steps:=gG _ _;obtain ⟨G,p⟩:∃G,cX l n ((t/(n/b))*(n-1))=G:=⟨_,rfl⟩;have Z:G.length=n:=by rw [<-p];exact er _ _ _
 rw [p] at J ⊢;obtain ⟨E,hE⟩:∃E,epN n b steps=E:=⟨_,rfl⟩;rw [hE] at U q h4 R;obtain ⟨L,u⟩:∃L,t/(n/b)=L:=⟨_,rfl⟩;obtain ⟨K,F⟩:∃K,t%(n/b)=K:=⟨_,rfl⟩;rw [u] at i U W;rw [F] at i hm y a ⊢;obtain ⟨M,k⟩:∃M,n/b=M:=⟨_,rfl⟩;rw [k] at q I m hm Q a;obtain ⟨lo,B⟩:∃lo,K*b=lo:=⟨_,rfl⟩;rw [B] at y a ⊢;obtain ⟨bb,ob,rfl,X⟩:=I _ _ a.1;obtain ⟨_,_,T,Y⟩:=I _ _ a.2;injection T with T;injection T with i1 i2 _;subst i1;subst i2
 obtain ⟨bo,oo,rfl,V⟩:=h3 _ _ W;obtain ⟨bg,og,rfl,q3⟩:=J.num (show 0<G.length by omega);rw [<-yQ] at Y;have a5:(K:Int)<M:=am;have b4:(L:Int)<E:=am;have a2:(lo:Int)<=((lo+b:Nat):Int):=am;have a8:((lo+b:Nat):Int)<=H:=am;have a6:lo<=lo+b:=am;have a9:lo+b<=H:=am;have b0:¬(H=lo):=am;have b1:bo<w.heap.size:=aw V;have b2:bb<w.heap.size:=aw X;obtain ⟨⟨r0,r1,r2,r3⟩,rf⟩:=bx4 q;have b3:S<w.heap.size:=xZ q;obtain ⟨H1,O,K3⟩:=ae q i J;clear i J q I h3 h4 h5 hE u F k B p Z a W q3 D v;go_enter func198,ntmps198;go_wp2_with fail;refine O.o.mono ?_;rintro e w' ⟨rfl,d,rfl⟩;have g:an w (w.drewN d):=yh (ya _ _) d;have j:(w.drewN d).heap.size=w.heap.size:=by simp
 generalize w.drewN d=w1 at g j ⊢;have a7:=aq g X;have a4:=aq g Y;have b6:=aq g V;have x:=(g.block _ b3).trans H1.o;obtain ⟨⟨y0,y1,y2,y3⟩,yf⟩:=bx4 x;rw [<-j] at b1 b2 b3;obtain ⟨C,P⟩:=ab g j;clear X Y V r0 r1 r2 r3 rf g j x;go_wp2_with fail;have ad:(lo:Int)+b<=H:=am;have av:((lo:Int)+b).toNat=lo+b:=am;have a1:(0:Int)<=(lo:Int)+b:=am;have b5:(lo:Int)<=(lo:Int)+b:=am;have a0:lo+b-lo=b:=am;have a3:¬(lo+b=lo):=am
 go_quiet (fail)
 go_wp2_with fail;go_ret;refine ⟨_,_,rfl,?_,yh (C.o.alloc (by have:=P.o;omega) _) _⟩;have:=((((K3.o.below C.o).alloc (.cells #[yY (lo:Int),yY ((lo:Int)+b)] 111)).drewN nq).drop lo).take b
 rwa [dK,dq] at this
theorem ou (S n b steps t:Nat) (l:N3) (w:N6) (h:dN w S n b steps l) (G:1<=b) (F:b<=n) (M:n<=1048576) (x:steps<=1048576) (K:t<steps):Calls prog 152 #[(ap S),yY t] w fun e w'=>∃A c,e=.returned (.slice A b c)/\b<=c/\Rd w' A (au .i64 (bU l n b t))/\an w w':=by
 have p:1<=n/b:=Nat.div_pos F G;have E:=qD S n b steps t l w h G M p x K;have g:=eG l (t:=t) p;obtain ⟨u,a⟩:∃u,bU l n b t=u:=⟨_,rfl⟩;rw [a] at E g ⊢;have i:=fun A c w' (hA:Rd w' A (au .i64 u))=>ij A u c w' hA am;rw [g] at i;obtain ⟨J,D⟩:=ab E i;clear E i a h g;go_enter func152,ntmps152;go_wp2_with fail;refine J.o.mono ?_;rintro e I ⟨A,c,rfl,hr,m⟩;have H:=D.o A c I hr;obtain ⟨N,q⟩:=ab H m;clear H hr m;go_wp2_with fail;refine N.o.mono ?_;rintro e Q ⟨v,rfl,y,k⟩;obtain ⟨P,O,rfl,j⟩:=aB y;obtain ⟨L,C,B⟩:=ae (Rd.own y) (q.o.trans (k.mono q.o.size)) j;clear y k j;go_wp2;go_ret;exact ⟨_,_,rfl,B.o,L.o,C.o⟩
theorem bZ.keep {w w':N6} {base:Nat} {n:N5} {e:Ex} (h:bZ w base n e) {S:Nat->Prop} (k:Keep S w w') (m:∀j,S j->j<base):bZ w' base n e:=by
 obtain ⟨u,v,rfl,o,l,p⟩:=h;exact ⟨u,v,rfl,k.own o (fun i g a=>by have:=m i a;have:=(o.lt i g).1;omega),k.own l (fun i g a=>by have:=m i a;have:=(l.lt i g).1;omega),p⟩
def gK (base:Nat) (w:N6) (l:N8) (n:Nat) (v:Value):Prop:=∃a,w.ownsRow base 67 2 v n (List.flatten a)/\a.length=n/\(∀r∈a,r.length=2)/\(∀j x,j<n->l[j]?=some x->bZ w base (aK a j) x)
theorem dY.own {w wr:N6} {l:N8} {k:Nat} {v:Value} (h:dY w wr l k v):gK w.heap.size wr l k v:=by
 obtain ⟨a,i,e,j,g,_⟩:=h;exact ⟨a,i,e,j,g⟩
theorem gK.base {base base':Nat} {w:N6} {l:N8} {n:Nat} {v:Value} (h:gK base w l n v) (e:base'<=base):gK base' w l n v:=by
 obtain ⟨a,m,i,o,k⟩:=h;exact ⟨a,aA m e,i,o,fun j x g p=>(k j x g p).base e⟩
theorem gK.keep {base:Nat} {w w':N6} {l:N8} {n:Nat} {v:Value} (h:gK base w l n v) {S:Nat->Prop} (k:Keep S w w') (e:∀j,S j->j<base):gK base w' l n v:=by
 obtain ⟨a,g,o,q,p⟩:=h;exact ⟨a,k.own g (fun i y u=>by have:=e i u;have:=(g.lt i y).1;omega),o,q,fun j x m A=>(p j x m A).keep k e⟩
theorem gK.below {base:Nat} {w w':N6} {l:N8} {n:Nat} {v:Value} (h:gK base w l n v) (a:an w w'):gK base w' l n v:=h.keep (S:=fun _=>False) (Keep.below a) (fun _ h=>h.elim)
theorem gK.rd {base:Nat} {w:N6} {l:N8} {A:N0} {n c:Nat} (h:gK base w l n (.slice A n c)) (o:l.length=n):aQ rEx 2 w A l:=by
 obtain ⟨a,i,m,k,g⟩:=h;exact ⟨a,Rd.own i,by omega,k,fun j x e=>(g j x (by have:=(yB.1 e).1;omega) e).rd⟩
theorem tq (c d:Nat) (A B:N0) (l:N8) (a:N3) (w:N6) (h:aQ rEx 2 w A l) (hl:l.length<=1048576) (C:Rd w B (au .i64 a)) (H:a.length<=1048576):Calls prog 227 #[.slice A l.length c,.slice B a.length d] w fun e w'=>an w w'/\
   (((∀k,k<a.length->cu l.length (nth a k))/\∃p j,e=.returned (.tuple #[.slice p a.length j,.bool true])/\gK w.heap.size w' (bf l a) a.length (.slice p a.length j))\/((¬∀k,k<a.length->cu l.length (nth a k))/\e=.returned (.tuple #[yZ,.bool false]))):=by
 have hm:=oZ w.heap.size c d A B l a (w.alloc (.cells #[.slice A l.length c] 25)) (x6 w _) (h.below aH ((ya _ w).alloc (x4 _) _)) hl (C.alloc _) H;have g:=fp l a;unfold pG at hm;obtain ⟨n,q⟩:∃n,a.length=n:=⟨_,rfl⟩;obtain ⟨N,D⟩:∃N,l.length=N:=⟨_,rfl⟩;rw [q,D] at hm ⊢;rw [q] at g;obtain ⟨I,J⟩:=ab hm g;clear hm g q D h C;go_enter func227,ntmps227;go_wp2_with fail;refine I.o.mono ?_;rintro e E ⟨x,G⟩;have i:an w E:=((ya _ w).alloc (x4 _) _).trans (x.mono (by first | omega | (simp;done) | (simp;omega)));have y:=aa i;clear x i;rcases G with ⟨hg,v,rfl,m⟩ | ⟨hg,rfl⟩
 ·obtain ⟨p,j,rfl⟩:=m.form;obtain ⟨u,F⟩:=ab hg m;clear hg m;go_wp2_with fail;go_ret2;exact ⟨y.o,.inl ⟨u.o,_,_,rfl,F.o.own.base (by simp)⟩⟩
 ·have u:=aa hg;clear hg;go_wp2_with fail;go_ret2;exact ⟨y.o,.inr ⟨u.o,rfl⟩⟩
theorem jz {i:Inp} (h:bn i.cfg.sizes):1<=cnt i:=by
 unfold cnt;have j:=h.1.1;have:=cW i.cfg.sizes (show 1<=i.cfg.sizes.length-1 by omega);have e:aF i.cfg.sizes 1=0+(szN i.cfg.sizes 0+1)*szN i.cfg.sizes 1:=rfl;have a:=(h.1.at (k:=1) am).1;have g:1*1<=(szN i.cfg.sizes 0+1)*szN i.cfg.sizes 1:=Nat.mul_le_mul am a;omega
theorem wl {w:N6} {A:N0} {l:N3} (h:Rd w A (au .i64 l)) (hl:0<l.length):∀a,A=some a->a.block<w.heap.size:=fun a g=>by
 obtain ⟨b,o,e,p⟩:=h.num hl;rw [g] at e;injection e with e
 subst e;exact aw p
def bj (i:Inp) (P:N3) (l:N8):N3:=l.foldl (fun a x=>eK a (ea i.cfg.sizes P i.cfg.shift x.1 x.2)) (List.replicate (cnt i) 0)
theorem iJ (i:Inp) (P:N3) (l:N8) (x:Ex):bj i P (l++[x])=eK (bj i P l) (ea i.cfg.sizes P i.cfg.shift x.1 x.2):=by simp [bj]
theorem du (i:Inp) (P:N3) (l:N8):(bj i P l).length=cnt i:=by
 have:∀(l:N8) (a:N3),(l.foldl (fun a x=>eK a (ea i.cfg.sizes P i.cfg.shift x.1 x.2)) a).length=a.length:=by
  intro l
  induction l with
  | nil=>intro a;rfl
  | cons x l ih=>intro a;rw [List.foldl_cons,ih,gc]
 unfold bj;rw [this,yH]
theorem nG (i:Inp) (P:N3) (l:N8):W64 (bj i P l):=by
 have:∀(l:N8) (a:N3),W64 a->W64 (l.foldl (fun a x=>eK a (ea i.cfg.sizes P i.cfg.shift x.1 x.2)) a):=by
  intro l
  induction l with
  | nil=>intro a h;exact h
  | cons x l ih=>intro a _;exact ih _ (cY fun _ _=>dg _)
 refine this _ _ fun k e=>?_;rw [cJ _ _ e];simp
def bJ (i:Inp) (P:N3) (l:N8):Int:=l.foldl (fun a x=>wrap64 (a+gQ i.cfg.sizes P i.cfg.shift x.1 x.2)) 0
theorem mc (i:Inp) (P:N3) (l:N8) (x:Ex):bJ i P (l++[x])=wrap64 (bJ i P l+gQ i.cfg.sizes P i.cfg.shift x.1 x.2):=by simp [bJ]
theorem tr {i:Inp} (hg:bQ i) {a:N3} {j:Nat} {x:Ex} (e:∀k,k<a.length->cu i.data.length (nth a k)) (h:j<a.length) (g:(bf i.data a)[j]?=some x):cG (inN i) (kt i) x:=by
 rw [jV _ _ h] at g;injection g with g
 have m:=e j h;unfold cu at m;have l:(nth a j).toNat<i.data.length:=am;have n:i.data.getD (nth a j).toNat ([],[])=i.data[(nth a j).toNat]:=by simp [l]
 rw [<-g,n];exact hg.f _ (List.getElem_mem l)
theorem xL (a i:N0) (e g j h:Nat) (w:N6):Sem.run prog (Instr.field 62 (.agg #[.slice a e g,.slice i j h]) 0) w=.ok (.slice a e g) w:=by kernel_rfl
def de (i:Inp) (a:N3):Prop:=∀k,k<a.length->cu i.data.length (nth a k)
def dZ (i:Inp) (P:N3) (k:Nat):N3:=bj i P (bf i.data (bU i.draws i.data.length i.cfg.batch.toNat k))
def aN (i:Inp):Nat->Ex
 | 0=>(i.start,List.replicate (cnt i) 0)
 | k+1=>(eS i.cfg.rate i.cfg.mom i.cfg.shift (aN i k).1 (aN i k).2 (dZ i (aN i k).1 k),eT i.cfg.mom i.cfg.shift (aN i k).2 (dZ i (aN i k).1 k))
theorem kj {i:Inp} (hg:bQ i) (k:Nat):de i (bU i.draws i.data.length i.cfg.batch.toNat k):=fun j e=>by
 have h:=hg.c.w;have g:=hg.c.ba;have l:=hg.b;have a:1<=i.data.length/i.cfg.batch.toNat:=Nat.div_pos am am;rw [eG _ a] at e;exact rT _ a j e
theorem xg:cE prog 32 62 (.agg #[yZ,yZ]) 2 48:=⟨underlying32,info_parts (by kernel_rfl),rfl,by decide⟩
def cT (i:Inp) (n:Nat):N8:=(List.range n).map (aN i)
theorem dj (i:Inp) (n:Nat):(cT i n).length=n:=by simp [cT]
theorem iv (i:Inp) {n j:Nat} (h:j<n):(cT i n)[j]?=some (aN i j):=by simp [cT,h]
theorem fN (i:Inp) (h:i.start.length=cnt i):∀k,(aN i k).1.length=cnt i/\(aN i k).2.length=cnt i:=by
 intro k
 induction k with
 | zero=>exact ⟨h,by simp [aN]⟩
 | succ k ih=>exact ⟨by rw [aN];dsimp only;rw [kW];exact ih.1,by rw [aN];dsimp only;rw [kY];exact ih.2⟩
def dX (base:Nat) (w:N6) (i:Inp) (n:Nat) (v:Value):Prop:=∃a,w.ownsRow base 62 2 v n (List.flatten a)/\a.length=n/\(∀r∈a,r.length=2)/\(∀j,j<n->bZ w base (aK a j) (aN i j))
theorem dX.form {base:Nat} {w:N6} {i:Inp} {n:Nat} {v:Value} (h:dX base w i n v):∃A c,v=.slice A n c/\n<=c:=by
 obtain ⟨a,e,_⟩:=h;exact aB e
theorem dX.keep {base:Nat} {w w':N6} {i:Inp} {n:Nat} {v:Value} (h:dX base w i n v) {S:Nat->Prop} (k:Keep S w w') (g:∀j,S j->j<base):dX base w' i n v:=by
 obtain ⟨a,l,m,p,o⟩:=h;exact ⟨a,k.own l (fun j e q=>by have:=g j q;have:=(l.lt j e).1;omega),m,p,fun j e=>(o j e).keep k g⟩
theorem dX.below {base:Nat} {w w':N6} {i:Inp} {n:Nat} {v:Value} (h:dX base w i n v) (a:an w w'):dX base w' i n v:=h.keep (S:=fun _=>False) (Keep.below a) (fun _ h=>h.elim)
theorem dX.rd {base:Nat} {w:N6} {i:Inp} {A:N0} {n c:Nat} (h:dX base w i n (.slice A n c)):aQ rEx 2 w A (cT i n):=by
 obtain ⟨a,m,k,o,l⟩:=h
 exact ⟨a,Rd.own m,by rw [dj];exact k,o,fun j x e=>by
  have g:j<n:=by have:=(yB.1 e).1;rwa [dj] at this
  rw [iv i g] at e;injection e with e
  rw [<-e]
  exact (l j g).rd⟩
theorem dX.push {base:Nat} {m n:N6} {i:Inp} {k:Nat} {v o l g:Value} {a:List (N5)} (q:m.ownsRow base 62 2 v k (List.flatten a)) (p:a.length=k) (A:∀r∈a,r.length=2) (x:∀j,j<k->bZ m base (aK a j) (aN i j)) (y:bZ m base [l,g] (aN i k)) (u:n.ownsRow base 62 2 o (k+1) (List.flatten a++[l,g])) (hg:m.grownBy n v.ownBlock):dX base n i (k+1) o:=by
 refine ⟨a++[[l,g]],by rw [yJ,List.flatten_cons,List.flatten_nil,List.append_nil];exact u,by simp [p],?_,?_⟩
 ·intro r hr;rcases yN.1 hr with hr | hr
  ·exact A r hr
  ·rw [List.mem_singleton.1 hr];rfl
 ·intro j B;rcases yl j k with h | h
  ·have e:aK (a++[[l,g]]) j=aK a j:=by simp [aK,yD (show j<a.length by omega)]
   rw [e];exact (x j h).pushed q hg (by decide)
  ·obtain rfl:j=k:=am;have e:aK (a++[[l,g]]) j=[l,g]:=by rw [<-p];simp [aK]
   rw [e];exact y.pushed q hg (by decide)
theorem dX.one {base:Nat} {w:N6} {i:Inp} {e a:Value} (h:base<=w.heap.size) (g:bZ w base [e,a] (aN i 0)):dX base (w.alloc (.cells #[e,a] 62)) i 1 (.slice (some (ao w.heap.size 0)) 1 1):=by
 refine ⟨[[e,a]],⟨by simp,.inr ⟨w.heap.size,1,#[e,a],rfl,h,x6 w _,x4 _,by unfold maxLen;omega,by simp,by simp⟩⟩,rfl,by simp,fun j k=>?_⟩;obtain rfl:j=0:=am;exact g.below ((ya _ _).alloc (x4 _) _)
theorem mK {n base:Nat} {w w':N6} {x:Ex} {e g:N0} {i a:Nat} (l:w'.ownsRow w.heap.size 2 1 (.slice e n i) n (au .i64 x.1)) (k:w'.ownsRow w.heap.size 2 1 (.slice g n a) n (au .i64 x.2)) (h:base<=w.heap.size) (l1:x.1.length=n) (l2:x.2.length=n) (o:n<=1048576) (j:W64 x.1) (m:W64 x.2):bZ w' base [.slice e n i,.slice g n a] x:=
 ⟨_,_,rfl,by rw [l1];exact aA l h,by rw [l2];exact aA k h,by omega,by omega,j,m⟩
def wn:Value->Nat
 | .slice _ n _=>n
 | _=>0
theorem rZ {n:Nat} {s:N3} (h:s.length=n) (g:W64 s):eK (List.replicate n 0) s=s:=by
 refine fd (by rw [gc,yH,h]) fun k a=>?_;rw [gc,yH] at a;unfold eK;rw [aI _ (by rw [yH];exact a),cJ _ k (by rw [yH];exact a)];have e:=g.nth k;simp only [List.getElem_replicate];generalize nth s k=y at e ⊢;unfold wrap64;omega
theorem sK {n:Nat} {s g:N3} (e:s.length=n) (a:W64 s):fP n [s,g]=eK s g:=by
 unfold fP;simp only [List.foldl_cons,List.foldl_nil];rw [rZ e a]
theorem kP (l:N8) (a:N3) {k:Nat} (g:k<a.length) {x:Ex} {j:Nat} (e:nth a k=(j:Int)) (h:l[j]?=some x):bf l (a.take (k+1))=bf l (a.take k)++[x]:=by
 rw [cM _ _ g];unfold bf;rw [List.map_append];simp [e,List.getD,h]
theorem pZ {n k:Nat} (h:k<n):n-(k+1)<n-k:=am
def lF (i:Inp) (P a:N3) (w:N6) (e:Ending) (w':N6):Prop:=an w w'/\ ((de i a/\∃v,e=.returned (.tuple #[v,.bool true])/\w'.ownsRow w.heap.size 2 1 v (cnt i) (au .i64 (bj i P (bf i.data a))))\/(¬de i a/\e=.returned (.tuple #[yZ,.bool false])))
theorem wG (w:N6) (u v:Value) (e h:N0) (n k i:Nat) (s g:N3) (p:u=.slice e n k) (m:v=.slice h n i) (q:s.length=n) (hg:g.length=n) (y:n<=1048576) (o:Rd w e (au .i64 s)) (l:Rd w h (au .i64 g)):
  aQ jS 1 (w.alloc (.cells #[u,v] 26)) (some (ao w.heap.size 0)) [s,g]:=by
 refine mM (dO w [u,v] _ _ rfl) rfl fun j x a=>?_
 match j,a with
 | 0,a=>injection a with a;subst a;exact ⟨u,rfl,e,k,by rw [p,q],by omega,o.alloc _⟩
 | 1,a=>injection a with a;subst a;exact ⟨v,rfl,h,i,by rw [m,hg],by omega,l.alloc _⟩
theorem mZ (A:N0) (c:Nat) (D:N0) (cd:Nat) (T:N0) (ct:Nat) (R:N0) (cr:Nat) (i:Inp) (Ap X:N0) (P l:N3) (n cp cx:Nat) (w:N6) (hA:Rd w A (au .i64 i.cfg.sizes)) (hc:i.cfg.sizes.length<=c) (hD:aQ rEx 2 w D i.data) (hg:bQ i) (hP:Rd w Ap (au .i64 P)) (a5:P.length=n) (hn:cnt i=n) (wP:W64 P) (hX:Rd w X (au .i64 l)) (ce:l.length<=17592186043904):Calls prog 67 #[.agg (ax A c D cd T ct R cr i),.slice Ap n cp,.slice X l.length cx] w (lF i P l w):=by
 have bo:=hg.c.z.bound (k:=i.cfg.sizes.length-1) (by have:=hg.c.z.1.1;omega);have U:aF i.cfg.sizes (i.cfg.sizes.length-1)=n:=hn;rw [U] at bo;have C:=fun w'=>jP A c D cd T ct R cr i Ap n cp w';have B:=fun w' (q:an w w') X1 Y1 x c1 c2 (hf:cG (inN i) (kt i) x) (r1:aP w' X1 x.1 c1) (r2:aP w' Y1 x.2 c2)=>qW A Ap X1 Y1 i.cfg.sizes P x.1 x.2 c cp c1 c2 i.cfg.shift w' ⟨hA.below q,hP.below q,hg.c.z,by rw [a5,U],hc,wP⟩ r1.hr hf.1 r1.hw r1.hc r2.hr hf.2;rw [U,a5] at B;have a9:=fun w'=>jM eC w' rfl n am (by unfold maxLen;omega);simp only [dS] at a9;have a8:bj i P (bf i.data (l.take 0))=List.replicate n 0:=by simp [bj,bf,hn]
 obtain ⟨m,hm⟩:∃m,l.length=m:=⟨_,rfl⟩;obtain ⟨N,hN⟩:∃N,i.data.length=N:=⟨_,rfl⟩;have cl:N<=1048576:=by rw [<-hN];exact hg.b.2
 rw [hm] at ce ⊢;have b0:(w.alloc (.cells (ax A c D cd T ct R cr i) 29)).heap.size=w.heap.size+1:=by simp
 have u:=dD w (ax A c D cd T ct R cr i) 29 rfl;have V:an w (w.alloc (.cells (ax A c D cd T ct R cr i) 29)):=(ya _ w).alloc (x4 _) _;obtain ⟨W1,b1⟩:∃W1,W1=w.alloc (.cells (ax A c D cd T ct R cr i) 29):=⟨_,rfl⟩;rw [<-b1] at b0 u V;obtain ⟨W2,G,av,ad⟩:=a9 W1;rw [b0] at G av;rw [b1] at G;dsimp only [ax] at G;have a1:=(ad.block _ am).trans u;have be:=V.trans (ad.mono V.size);obtain ⟨HD,HX,bm,bD,Hm,HN,HG,bN⟩:=aj hD hX C B hm hN hg av;obtain ⟨bl,bV,bC,Hn⟩:=af a1 be a8 hn;clear hA hc hD hg hP a5 hn wP hX C B a9 hm hN b0 u V av a1 be ad U a8 b1;go_enter func67,ntmps67;dsimp only [ax];go_wp2_with fail;clear G
 go_loopw [8,9] (fun v x wr=>∃k:Nat,k<=m/\x=yY k/\wr.ownsRow w.heap.size 2 1 v n (au .i64 (bj i P (bf i.data (l.take k))))/\al (∀j,j<k->cu N (nth l j))/\Below (w.heap.size+1) W2 wr) (fun _ x _=>m-(intOf x).toNat)
 ·exact ⟨0,yb _,rfl,by rw [bC.o];exact aA bN.o am,aa fun j hj=>am,ya _ _⟩
 case round=>
  obtain ⟨k,hk,rfl,M,a0,Y⟩:=hrel;obtain ⟨As,cs,rfl,bg⟩:=aB M;have u:=(Y.block _ am).trans bl.o;have hB:=bV.o.trans (Y.mono am);have co:=hB.size;obtain ⟨HO,cc,HB,c7,cm⟩:=ag M Y hB u bg;dsimp only [ax] at u;obtain ⟨⟨t0,t1,t2,t3,t4,t5,t6,t7,t8,t9,bM,bA,c3,bz,cb⟩,tf⟩:=em u;have bG:=xZ u;clear M Y hB u bg;by_cases I:k<m
  ·have cj:(k:Int)<m:=am;obtain ⟨bx,ox,rfl,px⟩:=HX.o.num (show k<l.length by rw [Hm.o];exact I);have b3:=(HB.o.cell (p:=(ao bx (ox+k))) (aw px)).trans px;clear px;by_cases E:cu N (nth l k)
   ·obtain ⟨j,hj⟩:∃j:Nat,nth l k=(j:Int):=⟨(nth l k).toNat,by have:=E.1;omega⟩;have cg:j<N:=by have:=E.2;omega
    rw [hj] at b3;obtain ⟨x,hx⟩:∃x,i.data[j]?=some x:=⟨_,yC (by rw [HN.o];exact cg)⟩;obtain ⟨bd,od,X1,c1,Y1,c2,rfl,ck,p1,p2,r1,r2⟩:=bP (HD.o.below aH HB.o) hx;have L:cG (inN i) (kt i) x:=HG.o.f _ (by obtain ⟨q1,q2⟩:=yB.1 hx;rw [<-q2];exact List.getElem_mem _);have B:=fun w' (q:an wr w')=>bD.o w' (HB.o.trans (q.mono HB.o.size)) X1 Y1 x c1 c2 L (r1.below q) (r2.below q);have a6:=ll (sz:=i.cfg.sizes) (ps:=P) (q:=i.cfg.shift) (x:=x.1) (y:=x.2) L.1 (by have:=HG.o.c.z.1.1;omega);have b9:aF i.cfg.sizes (i.cfg.sizes.length-1)=n:=Hn.o;rw [b9] at a6;have bh:=kP i.data l (k:=k) (by rw [Hm.o];exact I) hj hx;have q1:¬((j:Int)<0):=am;have hN:=HN.o;have q2:¬((i.data.length:Int)<=j):=am;have q3:(j:Int)<i.data.length:=am;obtain ⟨Hj,bv,b7,c0,bF⟩:=ag hj B a6 bh E;obtain ⟨n1,a3⟩:∃n1,x.1.length=n1:=⟨_,rfl⟩;obtain ⟨n2,b5⟩:∃n2,x.2.length=n2:=⟨_,rfl⟩;rw [a3] at p1;rw [b5] at p2;obtain ⟨bO,c6⟩:=ab a3 b5;clear hj hx r1 r2 L B a6 b9 bh E hN a3 b5;go_upto_region 8 with (fail);clear b3 t0 t1 t2 t3 t4 t5 t6 t7 t8 t9 bM bA c3 bz cb tf;have u:=c7.o;dsimp only [ax] at u;have a:(fun w':N6=>w'.heap[w.heap.size]?=some (.cells #[.slice A i.cfg.sizes.length c,yY i.cfg.shift,yY i.cfg.rate,yY i.cfg.mom,yY i.cfg.workers,yY i.cfg.batch,yY i.cfg.micros,yY i.cfg.steps,yY i.cfg.bucket,yY i.cfg.chunk,yY i.cfg.window,yY i.cfg.cap,.slice (some (ao bd od)) i.data.length cd,.slice T i.start.length ct,.slice R i.draws.length cr] 29 (0,0))/\w'.cell? (ao bd (od+j*2))=some (.slice X1 n1 c1)/\w'.cell? (ao bd (od+j*2+1))=some (.slice Y1 n2 c2)) wr.drew:=⟨u,p1,p2⟩;refine HA.g (fun w':N6=>w'.heap[w.heap.size]?=some (.cells #[.slice A i.cfg.sizes.length c,yY i.cfg.shift,yY i.cfg.rate,yY i.cfg.mom,yY i.cfg.workers,yY i.cfg.batch,yY i.cfg.micros,yY i.cfg.steps,yY i.cfg.bucket,yY i.cfg.chunk,yY i.cfg.window,yY i.cfg.cap,.slice (some (ao bd od)) i.data.length cd,.slice T i.start.length ct,.slice R i.draws.length cr] 29 (0,0))/\w'.cell? (ao bd (od+j*2))=some (.slice X1 n1 c1)/\w'.cell? (ao bd (od+j*2+1))=some (.slice Y1 n2 c2)) ?_;refine HA.t ?_ [0,1,2,4,5,6,7,8,9,10,11,12,13,14,15] a ?_;refine HA.o 3 (fun K O=>?_);clear u;have C:=bm.o wr.drew;dsimp only [ax] at C;go_simp;refine C.mono ?_;clear C;rintro e w3 ⟨rfl,J⟩;have b8:=yg ((J.block _ bG).trans a.1) (yg (aq J a.2.1) (aq J a.2.2));have b2:=aa (show an wr w3 from (ya _ wr).drew.trans J);clear J a;dsimp only;refine O.out _ _ b8 (fun a=>?_);clear O K b8;refine HA.o 16 (fun K O=>?_);have B:=bv.o w3 b2.o;rw [bO.o,c6.o] at B;go_simp;refine B.mono ?_;clear B;rintro e w4 ⟨A4,c4,rfl,bp,S⟩;have bs:=yg ((S.block _ (xZ a.1)).trans a.1) (yg (aq S a.2.1) (aq S a.2.2));obtain ⟨b4,bB⟩:=ab (b2.o.trans (S.mono b2.o.size)) bp;clear S a bp;dsimp only;refine O.out _ _ bs (fun a=>?_);clear O K bs;refine HA.o 17 (fun K O=>?_);go_simp;have c9:=b4.o.size
    have bk:aQ jS 1 (w4.alloc (.cells #[.slice As n cs,.slice A4 n c4] 26)) (some (ao w4.heap.size 0)) [bj i P (bf i.data (l.take k)),ea i.cfg.sizes P i.cfg.shift x.1 x.2]:=
     wG w4 _ _ As A4 n cs c4 _ _ rfl rfl (by rw [du];exact Hn.o) b7.o bo (Rd.own (az HO.o b4.o)) bB.o
    have F:=qP (some (ao w4.heap.size 0)) [bj i P (bf i.data (l.take k)),ea i.cfg.sizes P i.cfg.shift x.1 x.2] 2 n _ _ bk (by simp) rfl (by rw [du];exact Hn.o);have F:Calls prog 103 #[.slice (some (ao w4.heap.size 0)) 2 2] (w4.alloc (.cells #[.slice As n cs,.slice A4 n c4] 26)) _:=F;have Z:=aa F;clear bk F;refine O.out _ _ ⟨bR a.1 _,ay a.2.1 _,ay a.2.2 _⟩ (fun a=>?_);clear O K;refine HA.o 18 (fun K O=>?_);go_simp;refine Z.o.mono ?_;rintro e w5 ⟨v5,ok,rfl,Q,H⟩
    obtain ⟨rfl,a4⟩:=H (fun t y W=>by
     match t,W with
     | 0,W=>injection W with W;rw [<-W,du];exact Hn.o
     | 1,W=>injection W with W;rw [<-W];exact b7.o)
    rw [sK (by rw [du];exact Hn.o) (nG _ _ _),<-iJ,<-c0.o] at a4;have bb:=yg ((Q.block _ (xZ a.1)).trans a.1) (yg (aq Q a.2.1) (aq Q a.2.2));have a2:an wr w5:=(b4.o.alloc c9 _).trans (Q.mono (by simp;omega));obtain ⟨bc,c8⟩:=ab (aA (base':=w.heap.size) a4 (by simp;omega)) (cc.o.trans (a2.mono am));clear Q a2 a4 H a Z;obtain ⟨A5,c5,rfl,_⟩:=aB bc.o;dsimp only;refine O.out _ _ bb (fun a=>?_);clear O K bb;refine HA.t ?_ [19,20,21,22] a ?_;refine HA.d ?_;clear a p1 p2;go_wp2_with fail;go_roundw
    case rel=>
     refine ⟨k+1,I,by go_num,bc.o,aa fun t ht=>?_,c8.o⟩;rcases yl t k with h | h
     ·exact a0.out t h
     ·obtain rfl:t=k:=am;exact bF.o
    case measure=>exact pZ I
   ·have a7:nth l k<0\/(i.data.length:Int)<=nth l k:=by
     have hN:=HN.o;unfold cu at E;omega
    have b6:¬de i l:=fun h=>E (by rw [<-HN.o];exact h k (by rw [Hm.o];exact I));have bw:=aa b6;obtain ⟨z,hz⟩:∃z,nth l k=z:=⟨_,rfl⟩;rw [hz] at b3 a7;clear b6 E hz;by_cases a8:z<0
    ·clear a7;go_wp2_with fail;go_ret2;exact ⟨HB.o,.inr ⟨bw.o,rfl⟩⟩
    ·have cv:(i.data.length:Int)<=z:=am;clear a7;go_wp2_with fail;go_ret2;exact ⟨HB.o,.inr ⟨bw.o,rfl⟩⟩
  ·obtain rfl:m=k:=am;go_wp2_with fail;go_ret2;refine ⟨HB.o,.inl ⟨fun j hj=>by rw [HN.o];exact a0.out j (by rw [<-Hm.o];exact hj),_,rfl,?_⟩⟩;have:=HO.o;rw [Hn.o]
   rwa [<-Hm.o,yK] at this
theorem qT (c i m:Nat) (A:N0) (l:N3) (w:N6) (hA:Rd w A (au .u64 l)) (q:i<l.length) (hl:l.length<=17592186043904) (D:U64 l) (hm:1<=m) (M:m<=1048576):Calls prog 184 #[.agg #[.slice A l.length c,yY i],yY m] w fun e w'=>e=.returned (.tuple #[.agg #[.slice A l.length c,yY ((i+1:Nat):Int)],yY (nth l i%m),.bool true])/\an w w':=by
 obtain ⟨a,g,rfl,p⟩:=hA.num q;obtain ⟨x,E⟩:∃x,nth l i=x:=⟨_,rfl⟩;have k:=D i q;rw [E] at p k ⊢;obtain ⟨n,F⟩:∃n,l.length=n:=⟨_,rfl⟩;rw [F] at q hl ⊢;have J:a<w.heap.size:=aw p;clear F E D hA;have Q:¬((m:Int)<1):=am;have O:(i:Int)<n:=am;have C:¬((n:Int)<=i):=am
 have hw:wrap64 (x%(m:Int))=x%(m:Int):=by
  have L:=Int.emod_nonneg x (show (m:Int)≠0 by omega);have H:=Int.emod_lt_of_pos x (show (0:Int)<(m:Int) by omega);generalize x%(m:Int)=y at L H ⊢;unfold wrap64;omega
 have N:=aa hw;clear hw;go_enter func184,ntmps184;go_wp2_with fail
 go_region
 go_wp2_with fail;have u:=x6 (w.alloc (.cells #[.slice (some (ao a g)) n c,yY ((i:Int)+1)] 244)) (.cells #[.slice (some (ao a g)) n c,yY ((i:Int)+1)] 244);rw [show (w.alloc (.cells #[.slice (some (ao a g)) n c,yY ((i:Int)+1)] 244)).heap.size=w.heap.size+1 by simp] at u;have G:an w ((w.alloc (.cells #[.slice (some (ao a g)) n c,yY ((i:Int)+1)] 244)).alloc (.cells #[.slice (some (ao a g)) n c,yY ((i:Int)+1)] 244)):=((ya _ w).alloc (x4 _) _).alloc (by simp) _;obtain ⟨j,h⟩:∃j,j=((w.alloc (.cells #[.slice (some (ao a g)) n c,yY ((i:Int)+1)] 244)).alloc (.cells #[.slice (some (ao a g)) n c,yY ((i:Int)+1)] 244)).drew:=⟨_,rfl⟩;have P:j.heap[w.heap.size+1]?=some (.cells #[.slice (some (ao a g)) n c,yY ((i:Int)+1)] 244 (0,0)):=by rw [h];exact u
 have B:an w j:=by rw [h];exact G.drew
 rw [<-h];clear h G u;obtain ⟨⟨K,I⟩,R⟩:=bx2 P;rw [N.o];exact yk (v:=.tuple #[.agg #[.slice (some (ao a g)) n c,yY ((i:Int)+1)],yY (x%m),.bool true]) (by simp [results,results184,go_sem,K,I]) rfl ⟨by rw [Int.natCast_add];rfl,B⟩
def btB (x lo a:Int):Bool:=decide (lo<=x/\x<=a)
theorem gH (x lo a:Int) (w:N6):Calls prog 37 #[yY x,yY lo,yY a] w fun e w'=>e=.returned (.bool (btB x lo a))/\w=w':=by
 by_cases g:lo<=x
 ·by_cases h:x<=a
  ·go_enter func37,ntmps37;go_wp2;go_ret;exact ⟨aL (by unfold btB;simp [g,h]),rfl⟩
  ·go_enter func37,ntmps37;go_wp2;go_ret;exact ⟨aL (by unfold btB;simp;omega),rfl⟩
 ·go_enter func37,ntmps37;go_wp2;go_ret;exact ⟨aL (by unfold btB;simp;omega),rfl⟩
theorem sZ (A:N0) (sz:N3) (c:Nat) (w:N6) (hA:Rd w A (au .i64 sz)) (hl:sz.length<=17592186043904):Calls prog 80 #[.slice A sz.length c] w fun e w'=>e=.returned (yY (cB sz))/\∃n,w'=w.drewN n:=by
 by_cases h:2<=sz.length/\sz.length<=16
 ·refine (nc A sz c w hA h).mono fun e w' ⟨i,g⟩=>⟨?_,g⟩;rcases i with ⟨a,rfl⟩ | ⟨a,rfl⟩
  ·refine aD ?_;unfold lv;by_cases hc:1048576<aF sz (sz.length-1)
   ·rw [if_pos hc,fO (fun hg=>by have:=hg.2;omega) a]
   ·rw [if_neg hc,eO ⟨a,by omega⟩]
  ·exact aD (dx a).symm
 ·exact (lZ A sz c w hl h).mono fun e w' ⟨i,g⟩=>⟨by rw [i,dx (fun hr=>h hr.1)],0,g.symm⟩
theorem sQ (a b c d e f:Int) {g:Bool} {l:N3} (hl:[a,b,c,d,e,f]=l) {k:Nat} (i:k<5) (h:okB (nth l k)=false):(okB a&&okB b&&okB c&&okB d&&okB e&&g)=false:=by
 subst hl
 match k,i with
 | 0,_=>simp only [show nth [a,b,c,d,e,f] 0=a from rfl] at h;simp [h]
 | 1,_=>simp only [show nth [a,b,c,d,e,f] 1=b from rfl] at h;simp [h]
 | 2,_=>simp only [show nth [a,b,c,d,e,f] 2=c from rfl] at h;simp [h]
 | 3,_=>simp only [show nth [a,b,c,d,e,f] 3=d from rfl] at h;simp [h]
 | 4,_=>simp only [show nth [a,b,c,d,e,f] 4=e from rfl] at h;simp [h]
theorem qJ (a b c d e f:Int) (g:Bool) {l:N3} (hl:[a,b,c,d,e,f]=l) (h:∀j,j<5->okB (nth l j)=true) (hg:g=true):(okB a&&okB b&&okB c&&okB d&&okB e&&g)=true:=by
 subst hl;have n:okB a=true:=h 0 am;have m:okB b=true:=h 1 am;have i:okB c=true:=h 2 am;have o:okB d=true:=h 3 am;have k:okB e=true:=h 4 am;simp [n,m,i,o,k,hg]
theorem iz (A:N0) (c:Nat) (k:Cfg) (w:N6) (h:ff w A c k):Calls prog 36 #[.agg (bE A c k)] w fun e w'=>e=.returned (yY (aM k))/\an w w':=by
 have M:=fun w' (q:an w w')=>sZ A k.sizes c w' (h.hr.below q) h.hl;have f6:=@uC k;have f9:=@uA k;have fs:=@uz k;have f2:=@uD k;have Y:=@uB k;have f0:=@uE k;unfold wkB shB iB baB jL at *;obtain ⟨K,v⟩:∃K,aM k=K:=⟨_,rfl⟩;rw [v] at f6 f9 fs f2 Y f0 ⊢;clear v h;obtain ⟨sz,J,ra,X,n,ba,mi,st,bu,ch,wi,ca⟩:=k;dsimp only [bE] at *;obtain ⟨L,hL⟩:∃L,sz.length=L:=⟨_,rfl⟩;obtain ⟨W,N⟩:∃W,cB sz=W:=⟨_,rfl⟩;rw [hL,N] at M;rw [N] at fs f2 Y f0;rw [hL] at ⊢;obtain ⟨a0,F6,F9,Fs,F2,F7,F0⟩:=ai M f6 f9 fs f2 Y f0;clear M f6 f9 fs f2 Y f0 hL N;go_enter func36,ntmps36;go_wp2_with fail;have hz:=x6 w (.cells #[.slice A L c,yY J,yY ra,yY X,yY n,yY ba,yY mi,yY st,yY bu,yY ch,yY wi,yY ca] 24);have hB:=(ya _ w).alloc (x4 _) (.cells #[.slice A L c,yY J,yY ra,yY X,yY n,yY ba,yY mi,yY st,yY bu,yY ch,yY wi,yY ca] 24);obtain ⟨W0,T⟩:∃W0,W0=w.alloc (.cells #[.slice A L c,yY J,yY ra,yY X,yY n,yY ba,yY mi,yY st,yY bu,yY ch,yY wi,yY ca] 24):=⟨_,rfl⟩;rw [<-T] at hz hB ⊢;clear T;obtain ⟨⟨z0,z1,z2,z3,Z,z5,z6,z7,z8,z9,B,F⟩,zf⟩:=fY hz;obtain ⟨m,O⟩:=ab hB hz;clear hB hz;refine (gH n 1 64 _).mono ?_;rintro e w' ⟨rfl,rfl⟩;obtain ⟨b1,g⟩:∃b1,btB n 1 64=b1:=⟨_,rfl⟩;have I:=aa (show decide (1<=n/\n<=64)=b1 from g);rw [g];clear g;rcases bK b1 with rfl | rfl
 ·go_wp2_with fail;go_ret;exact ⟨aD (F6.o I.o).symm,m.o⟩
 go_wp2_with fail;refine (gH J 1 62 _).mono ?_;rintro e w' ⟨rfl,rfl⟩;obtain ⟨b2,P⟩:∃b2,btB J 1 62=b2:=⟨_,rfl⟩;have R:=aa (show decide (1<=J/\J<=62)=b2 from P);rw [P];clear P;rcases bK b2 with rfl | rfl
 ·go_wp2_with fail;go_ret;exact ⟨aD (F9.o I.o R.o).symm,m.o⟩
 go_wp2_with fail;refine (a0.o _ m.o).mono ?_;rintro e w' ⟨rfl,d,rfl⟩;have g:=yh m.o d;have D:(W0.drewN d).heap[w.heap.size]?=some (.cells #[.slice A L c,yY J,yY ra,yY X,yY n,yY ba,yY mi,yY st,yY bu,yY ch,yY wi,yY ca] 24 (0,0)):=O.o;generalize W0.drewN d=W1 at g D ⊢;clear z0 z1 z2 z3 Z z5 z6 z7 z8 z9 B F zf m O;obtain ⟨⟨z0,z1,z2,z3,Z,z5,z6,z7,z8,z9,B,F⟩,zf⟩:=fY D;obtain ⟨m,O⟩:=ab g D;clear g D;by_cases h3:W≠0
 ·have hq:(W != 0)=true:=by rw [bne_iff_ne];exact h3
  have H3:=aa h3;clear h3;go_wp2_with fail;go_ret;exact ⟨aD (Fs.o I.o R.o H3.o).symm,m.o⟩
 obtain rfl:W=0:=am;clear h3;have lz:w.heap.size<W1.heap.size:=xZ O.o;by_cases h4:st<0
 ·go_wp2_with fail;go_ret;exact ⟨aD (F2.o I.o R.o trivial (by rw [yT (show ¬(0<=st/\st<=1048576) by omega),Bool.and_false])).symm,m.o.alloc m.o.size _⟩
 by_cases a3:1048576<st
 ·go_wp2_with fail;go_ret;exact ⟨aD (F2.o I.o R.o trivial (by rw [yT (show ¬(0<=st/\st<=1048576) by omega),Bool.and_false])).symm,m.o.alloc m.o.size _⟩
 have GS:=aa (show decide (0<=st/\st<=1048576)=true by rw [yV];omega);have V:=dO W1 (au .i64 [mi,bu,ch,wi,ca,st+1]) 3 _ rfl;have y:=(yj W1 (.cells (au .i64 [mi,bu,ch,wi,ca,st+1]).toArray 3) _ (xZ O.o)).trans O.o;obtain ⟨E,Q⟩:=ab V y;clear V y;go_wp2_with fail;clear z0 z1 z2 z3 Z z5 z6 z7 z8 z9 B F zf;have u:=aa (m.o.alloc m.o.size (.cells (au .i64 [mi,bu,ch,wi,ca,st+1]).toArray 3));obtain ⟨l,hl⟩:∃l:N3,[mi,bu,ch,wi,ca,st+1]=l:=⟨_,rfl⟩;have HL:=aa hl;change Code.wp _ _ _ _ (W1.alloc (.cells (au .i64 [mi,bu,ch,wi,ca,st+1]).toArray 3));rw [hl] at E Q u ⊢;clear hl m O lz;obtain ⟨p,hp⟩:∃p,W1.heap.size=p:=⟨_,rfl⟩;rw [hp] at E ⊢;generalize W1.alloc (.cells (au .i64 l).toArray 3)=W2 at E Q u ⊢;clear hp
 go_loopw [5] (fun i wr=>∃k:Nat,k<=5/\i=yY k/\al (∀j,j<k->okB (nth l j)=true)/\wr=W2) (fun i _=>5-(intOf i).toNat)
 ·exact ⟨0,yb _,rfl,aa fun j hj=>am,rfl⟩
 case round=>
  obtain ⟨k,hk,rfl,H,rfl⟩:=hrel;by_cases a1:k<5
  ·have G:k<l.length:=by rw [<-HL.o];simp only [List.length_cons,List.length_nil];omega
   obtain ⟨b',o,S,hc⟩:=E.o.num G;have a2:(k:Int)<5:=am;injection S with S;injection S with S e2 _;subst S;subst e2
   obtain ⟨x,hx⟩:∃x,nth l k=x:=⟨_,rfl⟩;rw [hx,yR] at hc;have Hx:=aa hx;clear hx G;go_wp2_with fail;refine (gH x 1 1048576 _).mono ?_;rintro e w' ⟨rfl,rfl⟩;obtain ⟨C,a⟩:∃C,btB x 1 1048576=C:=⟨_,rfl⟩;have U:=aa (show okB x=C from a);rw [a];clear a;rcases bK C with rfl | rfl
   ·go_wp2_with fail;go_ret;exact ⟨aD (F2.o I.o R.o trivial (sQ mi bu ch wi ca _ HL.o a1 (by rw [Hx.o];exact U.o))).symm,u.o⟩
   go_wp2_with fail;go_roundw
   case rel=>exact ⟨k+1,by omega,by go_num,aa (p:=∀j,j<k+1->okB (nth l j)=true) fun j hj=>by
    rcases yl j k with h | h
    ·exact H.out j h
    ·obtain rfl:j=k:=am
     rw [Hx.o];exact U.o,trivial⟩
   case measure=>simp [intOf];omega
  ·obtain rfl:k=5:=am;have hn:=qJ mi bu ch wi ca _ (decide (0<=st/\st<=1048576)) HL.o H.out GS.o;have Hn:=aa hn;clear hn;have y:=Q.o;obtain ⟨⟨z0,z1,z2,z3,Z,z5,z6,z7,z8,z9,B,F⟩,zf⟩:=fY y;clear y;go_wp2_with fail;refine (gH ba n 1048576 _).mono ?_;rintro e w' ⟨rfl,rfl⟩;obtain ⟨C,a⟩:∃C,btB ba n 1048576=C:=⟨_,rfl⟩;have U:=aa (show decide (n<=ba/\ba<=1048576)=C from a);rw [a];clear a;rcases bK C with rfl | rfl
   ·go_wp2_with fail;go_ret;exact ⟨aD (F7.o I.o R.o trivial Hn.o U.o).symm,u.o⟩
   go_wp2_with fail;go_ret;exact ⟨aD (F0.o I.o R.o trivial Hn.o U.o).symm,u.o⟩
theorem ib (n:Nat) (w:N6) (h:1<=n) (a:n<=1048576):Calls prog 82 #[yY n] w fun e w'=>e=.returned (yY ((n-1:Nat):Int))/\w=w':=by
 have g:(0:Int)<=(n:Int)-1:=am;go_enter func82,ntmps82;go_wp2
 all_goals
  go_ret;exact ⟨aD am,rfl⟩
theorem qp {sn a t:Nat} (e:1<=a) (h:t*a<sn):t<(sn+a-1)/a:=by
 rw [Nat.lt_iff_add_one_le,Nat.le_div_iff_mul_le e,yP];omega
theorem qo {sn a t:Nat} (e:1<=a) (h:t<(sn+a-1)/a):t*a<sn:=by
 rw [Nat.lt_iff_add_one_le,Nat.le_div_iff_mul_le e,yP] at h;omega
theorem m7 (A:N0) (c n:Nat) (k:Cfg) (w:N6) (h:ff w A c k) (hg:fe k) (hn:k.batch<=n/\(n:Int)<=1048576):Calls prog 81 #[.agg (bE A c k),yY n] w fun e w'=>e=.returned (yY (epN n k.batch.toNat k.steps.toNat:Int))/\an w w':=by
 have l:=fun w' (q:an w w')=>iz A c k w' (h.below q);rw [eE.2 hg] at l;have g1:=hg.w;have g2:=hg.ba;have g3:=hg.st;clear h hg;obtain ⟨sz,P,ra,O,Q,ba,mi,st,bu,ch,wi,ca⟩:=k;dsimp only [bE] at *;obtain ⟨bt,rfl⟩:∃bt:Nat,ba=bt:=⟨ba.toNat,by omega⟩;obtain ⟨sn,rfl⟩:∃sn:Nat,st=sn:=⟨st.toNat,by omega⟩;rw [Int.toNat_natCast,Int.toNat_natCast];obtain ⟨L,R⟩:∃L,sz.length=L:=⟨_,rfl⟩;rw [R] at l ⊢;obtain ⟨a,g⟩:∃a,n/bt=a:=⟨_,rfl⟩;have j:1<=a:=by rw [<-g];exact Nat.div_pos am am
 have H:a<=n:=by rw [<-g];exact Nat.div_le_self _ _
 have S:epN n bt sn=(sn+a-1)/a:=by unfold epN;rw [g,ml _ _ j]
 rw [S];have G:(sn+a-1)/a<=sn+a-1:=Nat.div_le_self _ _;have v:=fun t=>qp (sn:=sn) (t:=t) j;have p:=fun t=>qo (sn:=sn) (t:=t) j;obtain ⟨E,C⟩:∃E,(sn+a-1)/a=E:=⟨_,rfl⟩;rw [C] at G v p ⊢;have W:(n:Int).tdiv (bt:Int)=(a:Int):=by rw [<-g];rfl
 have T:(n:Int)/(bt:Int)=(a:Int):=by rw [<-g];rfl
 have Z:¬(bt=0):=am;obtain ⟨F,M,K⟩:=ae l v p;have B:btB (n:Int) (bt:Int) 1048576=true:=by unfold btB;rw [yS];omega
 have J:=aa B;clear l R g S C v p B;go_enter func81,ntmps81;go_wp2_with fail;have I:=x6 w (.cells #[.slice A L c,yY P,yY ra,yY O,yY Q,yY bt,yY mi,yY sn,yY bu,yY ch,yY wi,yY ca] 24);have D:=(ya _ w).alloc (x4 _) (.cells #[.slice A L c,yY P,yY ra,yY O,yY Q,yY bt,yY mi,yY sn,yY bu,yY ch,yY wi,yY ca] 24);refine (F.o _ D).mono ?_;rintro e V ⟨rfl,u⟩;have y:=(u.block _ (xZ I)).trans I;have Y:=aa (D.trans (u.mono D.size));obtain ⟨⟨z0,z1,z2,z3,z4,z5,z6,z7,z8,z9,X,a0⟩,zf⟩:=fY y;clear I D u y;go_wp2_with fail;refine (gH n bt 1048576 _).mono ?_;rintro e w' ⟨rfl,rfl⟩;rw [J.o];go_wp2_with fail
 go_loopw [5,6] (fun t i wr=>∃k m:Nat,k<=E/\t=yY k/\i=yY m/\al (m=k*a)/\m<sn+a/\wr=V) (fun _ i _=>sn-(intOf i).toNat)
 ·exact ⟨0,0,yb _,rfl,rfl,aa am,by omega,rfl⟩
 case round=>
  obtain ⟨k,m,hk,rfl,rfl,N,hm,rfl⟩:=hrel;by_cases x:m<sn
  ·have U:(m:Int)<sn:=am;go_wp2_with fail;go_roundw
   ·exact ⟨k+1,m+a,M.o k (by rw [<-N.out];exact x),by go_num,by go_num,aa (by rw [N.out,yP]),by omega,trivial⟩
   ·simp [intOf];omega
  ·obtain rfl:k=E:=by
    rcases yl k E with h | h
    ·exact absurd (K.o k h) (by rw [<-N.out];exact x)
    ·omega
   go_wp2_with fail;go_ret;exact ⟨rfl,Y.o⟩
theorem qU (A:N0) (c n:Nat) (k:Cfg) (w:N6) (h:ff w A c k) (hg:fe k) (J:k.batch<=n/\(n:Int)<=1048576):Calls prog 40 #[.agg (bE A c k),yY n] w fun e w'=>e=.returned (yY (fV n k.batch.toNat k.steps.toNat:Int))/\an w w':=by
 have a:=fun w' (q:an w w')=>m7 A c n k w' (h.below q) hg J;have N:=hg.w;have M:=hg.ba;have P:=hg.st;have i:=fun w'=>ib n w' am am;have g:=nt (n:=n) (b:=k.batch.toNat) (st:=k.steps.toNat) am am;unfold fV at g ⊢;clear h hg;obtain ⟨sz,B,ra,x,C,ba,mi,st,bu,ch,wi,ca⟩:=k;dsimp only [bE] at *;obtain ⟨L,D⟩:∃L,sz.length=L:=⟨_,rfl⟩;rw [D] at a ⊢;obtain ⟨E,F⟩:∃E,epN n ba.toNat st.toNat=E:=⟨_,rfl⟩;obtain ⟨m,hm⟩:∃m,n-1=m:=⟨_,rfl⟩;rw [F] at a g ⊢;rw [hm] at i g ⊢;obtain ⟨y,v⟩:∃y,E*m=y:=⟨_,rfl⟩;rw [v] at g ⊢;have G:(E:Int)*(m:Int)=(y:Int):=by rw [<-v];push_cast;rfl
 obtain ⟨p,u⟩:=ab a i;clear a i D F hm v;go_enter func40,ntmps40;go_wp2_with fail;have I:=x6 w (.cells #[.slice A L c,yY B,yY ra,yY x,yY C,yY ba,yY mi,yY st,yY bu,yY ch,yY wi,yY ca] 24);have l:=(ya _ w).alloc (x4 _) (.cells #[.slice A L c,yY B,yY ra,yY x,yY C,yY ba,yY mi,yY st,yY bu,yY ch,yY wi,yY ca] 24);refine (p.o _ l).mono ?_;rintro e K ⟨rfl,j⟩;have H:=aa (l.trans (j.mono l.size));clear I l j;go_wp2_with fail;refine (u.o _).mono ?_;rintro e O ⟨rfl,rfl⟩;go_wp2_with fail;go_ret;exact ⟨rfl,H.o⟩
theorem xO {q n:Nat} (h:q<n) (a:n<=1048576):(q:Int)<=1048576:=am
theorem xN {q n k m:Nat} (h:n-1-k=q) (a:k<m) (e:m<n):(q:Int)-1=(n:Int)-1-((k+1:Nat):Int):=am
theorem xM {q:Nat} (h:0<q):((q:Int)-1).toNat<(q:Int).toNat:=am
theorem lV (n c i:Nat) (A:N0) (l:N3) (w:N6) (hA:Rd w A (au .u64 l)) (hn:1<=n) (bw:n<=1048576) (hi:i+(n-1)<=l.length) (hl:l.length<=1048576) (hu:U64 l):Calls prog 139 #[yY n,.agg #[.slice A l.length c,yY i]] w fun e w'=>∃v,e=.returned (.tuple #[.agg #[.slice A l.length c,yY ((i+(n-1):Nat):Int)],v,.bool true])/\w'.ownsRow w.heap.size 3 1 v n (au .i64 (cX l n i))/\an w w':=by
 obtain ⟨m,hm⟩:∃m,n-1=m:=⟨_,rfl⟩;rw [hm] at hi ⊢;have bz:cX l n i=dy n (dC l n i) m:=by unfold cX;rw [hm]
 rw [bz];have c4:m<n:=am;have ct:n<=m+1:=am;have b0:=fun w'=>ib n w' hn bw;rw [hm] at b0;clear hm bz;have y:=fun k (hk:k<m) w' (q:Rd w' A (au .u64 l))=>qT c (i+k) (n-k) A l w' q am am hu am am;obtain ⟨N,hN⟩:∃N,l.length=N:=⟨_,rfl⟩;rw [hN] at hi hl y ⊢;obtain ⟨HA,ce,cg,HN⟩:=af hA y b0 hN;clear hA y b0 hu hN;have ad:¬((n:Int)<0):=am;have bd:¬((1048576:Int)<n):=am;have bF:¬(((N:Int)-i)<m):=am;go_enter func139,ntmps139;go_wp2_with fail;have bB:IntKind.i64.wrap ((N:Int)-i)=(N:Int)-i:=yc _ am
 go_quiet ((go_at_call 82;refine Calls.quiet_of ((cg.o _).mono fun e w' ⟨he,hw⟩=>⟨he,0,hw.symm⟩)))
 clear bB ad bd bF;go_wp2_with fail
 rename_i h9 _ _
 clear h9;have M:=(yj (w.alloc (.cells #[.slice A N c,yY i] 244)) (.cells #[yZ,yY 0] 244) w.heap.size (by simp)).trans (x6 w _);have hy:=x6 (w.alloc (.cells #[.slice A N c,yY i] 244)) (.cells #[yZ,yY 0] 244);rw [show (w.alloc (.cells #[.slice A N c,yY i] 244)).heap.size=w.heap.size+1 by simp] at hy;have hB:an w ((w.alloc (.cells #[.slice A N c,yY i] 244)).alloc (.cells #[yZ,yY 0] 244)):=((ya _ w).alloc (x4 _) _).alloc (by simp) _;obtain ⟨R,J⟩:∃R,R=((w.alloc (.cells #[.slice A N c,yY i] 244)).alloc (.cells #[yZ,yY 0] 244)).drewN nq:=⟨_,rfl⟩;have b8:R.heap[w.heap.size]?=some (.cells #[.slice A N c,yY i] 244 (0,0)):=by rw [J];exact M
 have a9:R.heap[w.heap.size+1]?=some (.cells #[yZ,yY 0] 244 (0,0)):=by rw [J];exact hy
 have a7:an w R:=by rw [J];exact yh hB _
 rw [<-J];clear J M hy hB;have cs:=a7.size;have ck:=xZ a9;obtain ⟨co,bD,be⟩:=ae b8 a9 a7;clear b8 a9 a7
 go_loopw [7,8] (fun v x wr=>∃k:Nat,k<=n/\x=yY k/\wr.ownsRow R.heap.size 3 1 v k (au .i64 (j4 k))/\an R wr) (fun _ x _=>n-(intOf x).toNat)
 ·exact ⟨0,yb _,rfl,yi _ _ _ _,ya _ _⟩
 case round=>
  obtain ⟨k,hk,rfl,h,X⟩:=hrel;by_cases Q:k<n
  ·obtain ⟨Al,cl,rfl,_⟩:=aB h;obtain ⟨bs,Hb⟩:=ab h X;clear h X;go_wp2_with (at_builtin;refine aE iK _ rfl (.tmp 37) (.tmp 39) rfl R.heap.size (.slice Al k cl) k _ rfl bs.o [yY (k:Int)] rfl rfl (aV .i64 [_]) am (by unfold maxLen;omega) Hb.o.size ?_);intro g6 c6 w6 B bg cc;have U:=Hb.o.trans bg;obtain ⟨a6,bN⟩:=ab B U;clear B bg cc U;go_wp2_with fail;go_roundw
   case rel=>
    refine ⟨k+1,by omega,by go_num,?_,bN.o⟩;have:j4 (k+1)=j4 k++[(k:Int)]:=di _ _;rw [this,aT];exact a6.o
   case measure=>simp [intOf];omega
  ·obtain rfl:n=k:=am;obtain ⟨g,c2,rfl,_⟩:=h.form hn;obtain ⟨W1,rfl⟩:∃W1:N6,W1=wr:=⟨_,rfl⟩;have E:=(X.block _ am).trans co.o;have b5:=(X.block _ ck).trans bD.o;have bM:=h.lt g rfl;have cx:=X.size;obtain ⟨b1,c8,a8,bC⟩:=af E b5 (be.o.trans (X.mono be.o.size)) h;clear E b5 X h;go_wp2_with fail
   go_loopw [9] (fun x wr=>∃k:Nat,k<=m/\x=yY ((n:Int)-1-k)/\wr.heap[w.heap.size]?=some (.cells #[.slice A N c,yY ((i+k:Nat):Int)] 244 (0,0))/\wr.ownsRow R.heap.size 3 1 (.slice (some (ao g 0)) n c2) n (au .i64 (dy n (dC l n i) k))/\Keep (fun j=>j=w.heap.size\/j=g) W1 wr) (fun x _=>(intOf x).toNat)
   ·exact ⟨0,yb _,by go_num,b1.o,bC.o,Keep.refl _ _⟩
   case round=>
    obtain ⟨k,hk,rfl,M,h,hK⟩:=hrel;by_cases Q:k<m
    ·obtain ⟨q,hq⟩:∃q,n-1-k=q:=⟨_,rfl⟩;have bb:(n:Int)-1-k=(q:Int):=am;have ad:0<q:=am;have bd:(0:Int)<q:=am
     have bp:Rd wr A (au .u64 l):=hK.rd (HA.o.below a8.o) (fun a ha e=>by
      obtain ⟨b,o,L,hc⟩:=HA.o.num (show 0<l.length by have:=HN.o;omega);rw [ha] at L;injection L with L;subst L
      have h5:b<w.heap.size:=aw hc;have h6:b=w.heap.size\/b=g:=e
      omega)
     have y:=ce.o k Q wr bp;rw [<-lq l am,show ((n-k:Nat):Int)=(q:Int)+1 by omega] at y;have bc:=kd l (n:=n) (i:=i) (k:=k) am;obtain ⟨C,Z⟩:∃C,dC l n i k=C:=⟨_,rfl⟩;rw [Z] at y bc;obtain ⟨c3,I⟩:=ab (ye bM.2 hK.size) (show ¬g=w.heap.size by omega);have G:q<n:=am;have D:C<n:=am;have O:(C:Int)<n:=am;have T:(q:Int)<n:=am;have bA:=xZ M;obtain ⟨⟨z0,z1⟩,zf⟩:=bx2 M;simp only [Int.natCast_add,Int.cast_ofNat_Int] at y;obtain ⟨bm,bV,HZ,HO,HK,Hq⟩:=ah y Z M h hK hq;rw [bb];have cm:wrap64 ((q:Int)+1)=(q:Int)+1:=by unfold wrap64;omega
     obtain ⟨a3,Y,cb,c0⟩:=af G D O T;clear y Z M h hK bp hq bb bc G D O T;go_wp2_with fail
     with_reducible refine bm.o.mono ?_
     rintro e w1 ⟨rfl,K⟩;have E:=(K.block _ bA).trans HZ.o;have F:=az HO.o K;have p1:=bq F a3.o;have p2:=bq F Y.o;have f1:=F.frozenAt q;have f2:=F.frozenAt C;clear z0 z1 zf;obtain ⟨⟨z0,z1⟩,zf⟩:=bx2 E;have bo:=xZ E;have V:=K.size;obtain ⟨b1,c1,bG,cp⟩:=af E F K V;clear E F K p1 p2 f1 f2;have cr:=aa (ye c3.o V);go_upto_region 13 with (fail);clear z0 z1 zf;have e1:=yW w1 w.heap.size 0 _ _ (.slice A N c) b1.o;have L:=yW _ w.heap.size 1 _ _ (yY ((i:Int)+k+1)) e1;have a5:Keep (fun j=>j=w.heap.size\/j=g) w1 (((w1.setCell (ao w.heap.size 0) (.slice A N c)).setCell (ao w.heap.size 1) (yY ((i:Int)+k+1))).alloc (.cells #[.slice A N c,yY ((i:Int)+k+1)] 244)):=(Keep.setCell (S:=fun j=>j=w.heap.size\/j=g) (Keep.setCell (S:=fun j=>j=w.heap.size\/j=g) (Keep.refl _ _) (ao w.heap.size 0) (.inr (.inl rfl)) _) (ao w.heap.size 1) (.inr (.inl rfl)) _).alloc _;have W:=(yj ((w1.setCell (ao w.heap.size 0) (.slice A N c)).setCell (ao w.heap.size 1) (yY ((i:Int)+k+1))) (.cells #[.slice A N c,yY ((i:Int)+k+1)] 244) w.heap.size (by simpa using bo)).trans L;have u:=((Keep.setCell (S:=fun j=>j=w.heap.size) (Keep.setCell (S:=fun j=>j=w.heap.size) (Keep.refl _ w1) (ao w.heap.size 0) (.inr rfl) (.slice A N c)) (ao w.heap.size 1) (.inr rfl) (yY ((i:Int)+k+1))).alloc (.cells #[.slice A N c,yY ((i:Int)+k+1)] 244)).own c1.o (fun j P e=>I.o (by injection P with P;exact P.trans e));obtain ⟨W5,bh⟩:∃W5,W5=((w1.setCell (ao w.heap.size 0) (.slice A N c)).setCell (ao w.heap.size 1) (yY ((i:Int)+k+1))).alloc (.cells #[.slice A N c,yY ((i:Int)+k+1)] 244):=⟨_,rfl⟩;rw [<-bh] at W a5 u ⊢;clear bh e1 L;have b6:=fF u;have G:=a3.o;have D:=Y.o;have p1:=bq u G;have p2:=bq u D;have f1:=u.frozenAt q;have f2:=u.frozenAt C;have a4:=mI (p:=dy n (dC l n i) k) (i:=q) (j:=C) (by rw [fl];exact G) (by rw [fl];exact D);have b3:dy n (dC l n i) (k+1)=swp (dy n (dC l n i) k) q C:=by rw [dy,Hq.o,bV.o]
     obtain ⟨sl,b9⟩:∃sl,dy n (dC l n i) k=sl:=⟨_,rfl⟩;rw [b9] at u p1 p2 a4 b3;obtain ⟨c9,cz,cy,c5,cd,bl⟩:=ah u a4 G b3 a5 W;have O:=cb.o;have T:=c0.o;clear u a4 b3 a5 W b9 b6;go_upto_region 14 with (fail);go_upto_region 15 with (fail);have B:=cU c9.o q (nth sl C);have a2:Keep (fun j=>j=w.heap.size\/j=g) w1 (W5.setCell (ao g q) (yY (nth sl C))):=Keep.setCell (S:=fun j=>j=w.heap.size\/j=g) cd.o (ao g q) (.inr (.inr rfl)) _;have a0:=((Keep.setCell (S:=fun j=>j=g) (Keep.refl _ W5) (ao g q) (.inr rfl) (yY (nth sl C))).block w.heap.size (xZ bl.o) (fun e=>I.o e.symm)).trans bl.o;obtain ⟨W6,b4⟩:∃W6,W6=W5.setCell (ao g q) (yY (nth sl C)):=⟨_,rfl⟩;rw [<-b4] at B a2 a0 ⊢;clear b4 p1 p2 f1 f2;have D:=Y.o;have p2:=bq B D;have f2:=B.frozenAt C;obtain ⟨a6,cj,bv⟩:=ae B a2 a0;clear B a2 a0;go_upto_region 10 with (fail);have cv:=xO a3.o bw;clear p2 f2 O T cm;go_wp2_with fail;go_roundw
     case rel=>
      refine ⟨k+1,Q,congrArg (Value.int .i64) (xN Hq.o Q c4),?_,?_,?_⟩
      ·have h8:=(Keep.setCell (S:=fun j=>j=g) (Keep.refl _ W6) (ao g C) (.inr rfl) (yY (nth sl q))).block w.heap.size (xZ bv.o) (fun e=>I.o e.symm);refine h8.trans (bv.o.trans ?_);simp [Int.add_assoc]
      ·rw [c5.o];exact cU a6.o C _
      ·exact HK.o.trans ((Keep.below bG.o).trans (Keep.setCell (S:=fun j=>j=w.heap.size\/j=g) cj.o (ao g C) (.inr (.inr rfl)) _))
     case measure=>exact xM ad
    ·obtain rfl:m=k:=am;have a1:=(hK.block _ am am).trans c8.o;have b2:an w wr:=a8.o.trans (hK.toBelow a8.o.size (fun j P=>am));have e1:=yW wr (w.heap.size+1) 0 _ _ (.slice A N c) a1;have L:=yW _ (w.heap.size+1) 1 _ _ (yY ((i:Int)+m)) e1;have av:Keep (fun j=>j=w.heap.size+1) wr ((wr.setCell (ao (w.heap.size+1) 0) (.slice A N c)).setCell (ao (w.heap.size+1) 1) (yY ((i:Int)+m))):=Keep.setCell (S:=fun j=>j=w.heap.size+1) (Keep.setCell (S:=fun j=>j=w.heap.size+1) (Keep.refl _ _) _ (.inr rfl) _) _ (.inr rfl) _;have H:=av.own h (fun j P e=>by injection P with P;have h1:g=j:=P;omega);obtain ⟨⟨z0,z1⟩,zf⟩:=bx2 M;obtain ⟨⟨y0,y1⟩,yf⟩:=bx2 a1;obtain ⟨bO,c7,E2⟩:=ae H (b2.trans (av.toBelow b2.size (fun j P=>am))) L;clear H b2 av e1 L hK h M a1;go_wp2_with fail;have W:=E2.o;have H:=bO.o;have b7:=c7.o;obtain ⟨W9,bk⟩:∃W9,W9=(wr.setCell (ao (w.heap.size+1) 0) (.slice A N c)).setCell (ao (w.heap.size+1) 1) (yY ((i:Int)+m)):=⟨_,rfl⟩;rw [<-bk] at W H b7 ⊢;clear bk;have W:W9.heap[w.heap.size+1]?=some (.cells #[.slice A N c,yY ((i:Int)+m)] 244 (0,0)):=by simpa using W
     clear y0 y1 yf z0 z1 zf;obtain ⟨⟨r0,r1⟩,rf⟩:=bx2 W;exact yk (v:=.tuple #[.agg #[.slice A N c,yY ((i:Int)+m)],.slice (some (ao g 0)) n c2,.bool true]) (by simp [results,results139,go_sem,r0,r1]) rfl ⟨_,by rw [Int.natCast_add],aA H am,b7⟩
theorem mh (n bt sn:Nat) (w:N6) (I:1<=bt/\bt<=n) (L:n<=1048576) (K:sn<=1048576):Calls prog 138 #[yY n,yY bt,yY sn] w fun e w'=>e=.returned (yY (epN n bt sn:Int))/\w=w':=by
 obtain ⟨a,g⟩:∃a,n/bt=a:=⟨_,rfl⟩;have j:1<=a:=by rw [<-g];exact Nat.div_pos am am
 have x:a<=n:=by rw [<-g];exact Nat.div_le_self _ _
 have C:epN n bt sn=(sn+a-1)/a:=by unfold epN;rw [g,ml _ _ j]
 rw [C];have v:(sn+a-1)/a<=sn+a-1:=Nat.div_le_self _ _;have p:=fun t=>qp (sn:=sn) (t:=t) j;have l:=fun t=>qo (sn:=sn) (t:=t) j;obtain ⟨E,u⟩:∃E,(sn+a-1)/a=E:=⟨_,rfl⟩;rw [u] at v p l ⊢;have G:(n:Int).tdiv (bt:Int)=(a:Int):=by rw [<-g];rfl
 have F:(n:Int)/(bt:Int)=(a:Int):=by rw [<-g];rfl
 have H:¬(bt=0):=am;obtain ⟨A,y⟩:=ab p l;clear g C u p l;go_enter func138,ntmps138;go_wp2_with fail
 go_loopw [7,8] (fun t i wr=>∃k m:Nat,k<=E/\t=yY k/\i=yY m/\al (m=k*a)/\m<sn+a/\wr=w) (fun _ i _=>sn-(intOf i).toNat)
 ·exact ⟨0,0,yb _,rfl,rfl,aa am,by omega,rfl⟩
 case round=>
  obtain ⟨k,m,J,rfl,rfl,B,hm,rfl⟩:=hrel;by_cases q:m<sn
  ·have D:(m:Int)<sn:=am;go_wp2_with fail;go_roundw
   ·exact ⟨k+1,m+a,A.o k (by rw [<-B.out];exact q),by go_num,by go_num,aa (by rw [B.out,yP]),by omega,trivial⟩
   ·simp [intOf];omega
  ·obtain rfl:k=E:=by
    rcases yl k E with h | h
    ·exact absurd (y.o k h) (by rw [<-B.out];exact q)
    ·omega
   go_wp2_with fail;go_ret;exact ⟨rfl,rfl⟩
theorem oN (n bt sn t c:Nat) (A:N0) (C:Nat) (w:N6) (I:1<=bt/\bt<=n) (K:n<=1048576) (J:sn<=1048576) (H:t<sn):Calls prog 105 #[.agg #[yY n,yY bt,yY sn,.slice A C c],yY t] w fun e w'=>e=.returned (.tuple #[yY (t/(n/bt):Nat),yY (t%(n/bt):Nat),.bool true])/\an w w':=by
 obtain ⟨a,g⟩:∃a,n/bt=a:=⟨_,rfl⟩;have m:1<=a:=by rw [<-g];exact Nat.div_pos am am
 have k:a<=n:=by rw [<-g];exact Nat.div_le_self _ _
 have B:(n:Int).tdiv (bt:Int)=(a:Int):=by rw [<-g];rfl
 have y:(n:Int)/(bt:Int)=(a:Int):=by rw [<-g];rfl
 rw [g];have l:t/a<=t:=Nat.div_le_self _ _;have j:t%a<a:=Nat.mod_lt _ am;have p:(t:Int).tdiv (a:Int)=((t/a:Nat):Int):=rfl;have h:(t:Int)/(a:Int)=((t/a:Nat):Int):=rfl;have o:(t:Int).tmod (a:Int)=((t%a:Nat):Int):=rfl;have i:(t:Int)%(a:Int)=((t%a:Nat):Int):=rfl;obtain ⟨E,u⟩:∃E,t/a=E:=⟨_,rfl⟩;obtain ⟨M,q⟩:∃M,t%a=M:=⟨_,rfl⟩;rw [u] at l p h ⊢;rw [q] at j o i ⊢;have G:¬(bt=0):=am;have F:¬(a=0):=am;have D:¬((sn:Int)<=t):=am;have x:(t:Int)<sn:=am;clear g u q;go_enter func105,ntmps105;go_wp2_with fail
 go_quiet (fail)
 go_wp2_with fail;exact yk (v:=.tuple #[yY (E:Int),yY (M:Int),.bool true]) (by simp [results,results105,go_sem]) rfl ⟨rfl,yh ((ya _ w).alloc (x4 _) _) _⟩
end Go.Proofs.YthamijnggdjaoaaGreat
