/- No condition. -/
import Derived.Test.YtaccfnffmbndhaaGreatC00
import Derived.Test.YtaccfnffmbndhaaGreatC17
import Derived.Test.YtaccfnffmbndhaaGreatC06
import Derived.Test.YtaccfnffmbndhaaGreatC07
import Derived.Test.YtaccfnffmbndhaaGreatC01
import Derived.Laws.CopyOwn
import Derived.Test.YtaccfnffmbndhaaGreatC12
import Derived.WalkMore
import Derived.Deep.LoopGhost
set_option linter.unusedSimpArgs false
set_option linter.unusedVariables false
set_option maxRecDepth 100000
set_option maxHeartbeats 4000000
namespace Go.Proofs.YtaccfnffmbndhaaGreat
open Go.RowKit
theorem zX {H:Nat→Prop} {w:World} {b x:Nat} {i:Inp} {a:MAd} {m:Mst} (h:aI H w b i x a m) (hn:(bZ i x m.st).length≤m.nx) (u v:Value):
  Calls Tryz.prog 17 #[.pointer (some ⟨b,0,none⟩),u,v] w fun e q=>e=.returned (KL 13)∧Below w.heap.size w q:=by
 have p:=aa (qd h hn);clear h hn
 go_enter Tryz.func17,Tryz.ntmps17
 go_wp2_with fail
 refine p.out.mono ?_
 rintro e y ⟨rfl,j⟩
 have o:=aa (j.alloc j.size (.cells KR 56));clear j
 go_wp2_with fail
 go_ret
 exact ⟨rfl,o.out⟩
def smI:Inp:=⟨⟨[1,1],1,0,0,1,1,1,0,1,1,1,1⟩,[([1],[1])],[5,6],[]⟩
theorem Dq:kQ smI:=by
 refine ⟨⟨by decide,by decide,⟨⟨by decide,fun k i=>?_⟩,by decide⟩,by decide,by decide,by decide,by decide,by decide,by decide,by decide⟩,by decide,fun x hx=>?_,by decide,by decide⟩
 ·have:k=0∨k=1:=by have:k<2:=i;omega
  rcases this with rfl | rfl<;>decide
 ·have:x=([1],[1]):=by simpa [smI] using hx
  subst this;decide
theorem Iu:cU smI:=⟨Dq,by decide,by decide,by decide,by decide,by decide⟩
theorem vo {w:World} {b:Nat} {xs:List Value} {e:TypeId} (h:w.heap[b]?=some (.cells xs.toArray e (0,0))):Rd w (some ⟨b,0,none⟩) xs:=fun k u hu=>⟨b,0,rfl,by
 rw [Kz,JF w b k _ _ _ h];simpa using hu⟩
theorem tO {l:List Int} (h:∀z∈l,0≤z∧z≤1048576):W64 l:=fun k i=>by
 have:=h _ (ul i);omega
theorem Iv {w:World} {b:Nat} (v:w.heap[b]?=some (.cells #[KL 1,KL 1] 3 (0,0))) {b3 b4 b5 b6:Nat} (y:w.heap[b3]?=some (.cells #[KL 1] 2 (0,0))) (q:w.heap[b4]?=some (.cells #[KL 1] 2 (0,0)))
  (u:w.heap[b5]?=some (.cells #[.slice (some ⟨b3,0,none⟩) 1 1,.slice (some ⟨b4,0,none⟩) 1 1] 107 (0,0))) (o:w.heap[b6]?=some (.cells #[KL 5,KL 6] 2 (0,0))):
  gF w (some ⟨b,0,none⟩) 2 (some ⟨b5,0,none⟩) (some ⟨b6,0,none⟩) 2 none smI:=by
 refine ⟨⟨by decide,by decide,by decide,vo v⟩,?_,by decide,⟨by decide,by decide,vo o,tO (by simp [smI])⟩,by decide,Rd.nil _ _,by decide,fun k i=>absurd i (by simp [smI]),by decide,by decide⟩
 refine ⟨[[.slice (some ⟨b3,0,none⟩) 1 1,.slice (some ⟨b4,0,none⟩) 1 1]],vo u,rfl,by simp,fun j x hx=>?_⟩
 have p:j=0:=by have:=(Kg.1 hx).1;simp [smI] at this;omega
 subst p
 have:x=([1],[1]):=by simpa [smI] using hx.symm
 subst this
 exact ⟨_,_,_,_,rfl,⟨by decide,by decide,vo y,tO (by simp)⟩,⟨by decide,by decide,vo q,tO (by simp)⟩⟩
theorem xd (w:World):Calls Tryz.prog 9 #[] w fun e o=>e=.returned (.bool true)∧Below w.heap.size w o:=by
 go_enter Tryz.func9,Tryz.ntmps9
 go_wp2_with fail
 have p:=Iv (cz [.cells #[KL 1,KL 1] 3,.cells #[.slice (some ⟨w.heap.size,0,none⟩) 2 2,KL 1,KL 0,KL 0,KL 1,KL 1,KL 1,KL 0,KL 1,KL 1,KL 1,KL 1] 24,.cells #[KL 1] 2,.cells #[KL 1] 2,.cells #[.slice (some ⟨w.heap.size+1+1,0,none⟩) 1 1,.slice (some ⟨w.heap.size+1+1+1,0,none⟩) 1 1] 107,.cells #[KL 5,KL 6] 2] w 0 rfl) (b3:=w.heap.size+1+1) (b4:=w.heap.size+1+1+1) (b5:=w.heap.size+1+1+1+1) (b6:=w.heap.size+1+1+1+1+1) (cz [.cells #[KL 1,KL 1] 3,.cells #[.slice (some ⟨w.heap.size,0,none⟩) 2 2,KL 1,KL 0,KL 0,KL 1,KL 1,KL 1,KL 0,KL 1,KL 1,KL 1,KL 1] 24,.cells #[KL 1] 2,.cells #[KL 1] 2,.cells #[.slice (some ⟨w.heap.size+1+1,0,none⟩) 1 1,.slice (some ⟨w.heap.size+1+1+1,0,none⟩) 1 1] 107,.cells #[KL 5,KL 6] 2] w 2 rfl) (cz [.cells #[KL 1,KL 1] 3,.cells #[.slice (some ⟨w.heap.size,0,none⟩) 2 2,KL 1,KL 0,KL 0,KL 1,KL 1,KL 1,KL 0,KL 1,KL 1,KL 1,KL 1] 24,.cells #[KL 1] 2,.cells #[KL 1] 2,.cells #[.slice (some ⟨w.heap.size+1+1,0,none⟩) 1 1,.slice (some ⟨w.heap.size+1+1+1,0,none⟩) 1 1] 107,.cells #[KL 5,KL 6] 2] w 3 rfl) (cz [.cells #[KL 1,KL 1] 3,.cells #[.slice (some ⟨w.heap.size,0,none⟩) 2 2,KL 1,KL 0,KL 0,KL 1,KL 1,KL 1,KL 0,KL 1,KL 1,KL 1,KL 1] 24,.cells #[KL 1] 2,.cells #[KL 1] 2,.cells #[.slice (some ⟨w.heap.size+1+1,0,none⟩) 1 1,.slice (some ⟨w.heap.size+1+1+1,0,none⟩) 1 1] 107,.cells #[KL 5,KL 6] 2] w 4 rfl) (cz [.cells #[KL 1,KL 1] 3,.cells #[.slice (some ⟨w.heap.size,0,none⟩) 2 2,KL 1,KL 0,KL 0,KL 1,KL 1,KL 1,KL 0,KL 1,KL 1,KL 1,KL 1] 24,.cells #[KL 1] 2,.cells #[KL 1] 2,.cells #[.slice (some ⟨w.heap.size+1+1,0,none⟩) 1 1,.slice (some ⟨w.heap.size+1+1+1,0,none⟩) 1 1] 107,.cells #[KL 5,KL 6] 2] w 5 rfl)
 have hc:=sY (some ⟨w.heap.size,0,none⟩) 2 (some ⟨w.heap.size+1+1+1+1,0,none⟩) 1 (some ⟨w.heap.size+1+1+1+1+1,0,none⟩) 2 none 0 smI 0 (uE w [.cells #[KL 1,KL 1] 3,.cells #[.slice (some ⟨w.heap.size,0,none⟩) 2 2,KL 1,KL 0,KL 0,KL 1,KL 1,KL 1,KL 0,KL 1,KL 1,KL 1,KL 1] 24,.cells #[KL 1] 2,.cells #[KL 1] 2,.cells #[.slice (some ⟨w.heap.size+1+1,0,none⟩) 1 1,.slice (some ⟨w.heap.size+1+1+1,0,none⟩) 1 1] 107,.cells #[KL 5,KL 6] 2]) p Iu (by decide)
 have x:=er [.cells #[KL 1,KL 1] 3,.cells #[.slice (some ⟨w.heap.size,0,none⟩) 2 2,KL 1,KL 0,KL 0,KL 1,KL 1,KL 1,KL 0,KL 1,KL 1,KL 1,KL 1] 24,.cells #[KL 1] 2,.cells #[KL 1] 2,.cells #[.slice (some ⟨w.heap.size+1+1,0,none⟩) 1 1,.slice (some ⟨w.heap.size+1+1+1,0,none⟩) 1 1] 107,.cells #[KL 5,KL 6] 2] w
 refine Calls.mono hc ?_
 rintro e i ⟨b,a,rfl,q1, -,hm⟩
 have hM:=hm (fun _=>False) i (Keep.refl _ _) (fun _ h=>h.elim)
 have B:=x.trans (q1.mono x.size)
 have v:(bZ smI 0 (gw smI).st).length≤(gw smI).nx:=by decide
 have hx:=fun o (q:Below i.heap.size i o)=>qd (hM.below q (fun _ _ h=>h)) v
 have he:=fun o (q:Below i.heap.size i o)=>zX (hM.below q (fun _ _ h=>h)) v (.pointer none) (.pointer none)
 obtain ⟨H,D,u⟩:=af hx he B;clear p hc x hm hM q1 B v hx he
 go_wp2_with fail
 refine (H.out i (br i)).mono ?_
 rintro e J ⟨rfl,y⟩
 have j:=aa y;clear y
 go_wp2_with fail
 refine (D.out _ (j.out.alloc j.out.size _)).mono ?_
 rintro e I ⟨rfl,A⟩
 have C:=aa ((u.out.trans ((j.out.alloc j.out.size (.cells KR 56)).mono u.out.size)).trans (A.mono (by rw [JS];have:=u.out.size;have:=j.out.size;omega)));clear A
 go_wp2_with fail
 go_ret
 exact ⟨rfl,C.out⟩
theorem rN {w:World} {b:Nat} {p u v:Value} {t:TypeId} (i o j:Value) (h:w.heap[b]?=some (.cells #[p,u,v] t (0,0))):
  (((w.setCell ⟨b,0,none⟩ i).setCell ⟨b,1,none⟩ o).setCell ⟨b,2,none⟩ j).heap[b]?=some (.cells #[i,o,j] t (0,0)):=by
 have h1:=KG w b 0 _ _ i h
 have q:=KG _ b 1 _ _ o h1
 exact KG _ b 2 _ _ j q
theorem oZ {w:World} {b:Nat} (j o p:Value):Keep (fun i=>i=b) w (((w.setCell ⟨b,0,none⟩ j).setCell ⟨b,1,none⟩ o).setCell ⟨b,2,none⟩ p):=
 Keep.setCell (S:=fun i=>i=b) (Keep.setCell (S:=fun i=>i=b) (Keep.setCell (S:=fun i=>i=b) (Keep.refl _ w) ⟨b,0,none⟩ (.inr rfl) j) ⟨b,1,none⟩ (.inr rfl) o) ⟨b,2,none⟩ (.inr rfl) p
theorem Ep (r c:Nat) (w:World) (hr:1≤r∧r≤1048576) (hc:1≤c∧c≤1048576) (hm:r*c≤1048576):
  Calls Tryz.prog 198 #[KL r,KL c] w fun e u=>∃A,e=.returned (.agg #[KL r,KL c,.slice A (r*c) (r*c)])∧u.ownsRow w.heap.size 2 1 (.slice A (r*c) (r*c)) (r*c) (aq .i64 (List.replicate (r*c) 0))∧Below w.heap.size w u:=by
 have e1:(r:Int)*(c:Int)=((r*c:Nat):Int):=(Int.natCast_mul r c).symm
 have hs:=fun u=>sw r c u ⟨by omega,by omega⟩ ⟨by omega,by omega⟩
 obtain ⟨p,J⟩:∃p,r*c=p:=⟨_,rfl⟩
 rw [J] at e1 hm ⊢
 clear J
 have q:(8:Nat)*p≤281474976710656:=by omega
 obtain ⟨C,Q⟩:=ae q hs;clear q hs
 go_enter Tryz.func198,Tryz.ntmps198
 go_wp2_with fail
 refine (Q.out _).mono ?_
 rintro e w1 ⟨rfl,B⟩
 subst B
 go_wp2_with (at_make;refine se kD _ rfl (.tmp 20) (.tmp 20) rfl rfl p rfl rfl C.out (by unfold maxLen;omega) ?_)
 intro D j x
 rw [dS] at j
 have i:=(x.block w.heap.size (by simp)).trans (JE w _)
 obtain ⟨⟨T,O,Z⟩,U⟩:=bx3 i
 have X:w.heap.size<D.heap.size:=JC i
 obtain ⟨Y,R,V⟩:=af j x i;clear j x i
 go_wp2_with fail
 have L:=rN (KL r) (KL c) (.slice (some ⟨w.heap.size+1,0,none⟩) p p) V.out
 have y:=oZ (w:=D) (b:=w.heap.size) (KL r) (KL c) (.slice (some ⟨w.heap.size+1,0,none⟩) p p)
 obtain ⟨H,o⟩:∃H,H=(((D.setCell ⟨w.heap.size,0,none⟩ (KL r)).setCell ⟨w.heap.size,1,none⟩ (KL c)).setCell ⟨w.heap.size,2,none⟩ (.slice (some ⟨w.heap.size+1,0,none⟩) p p)):=⟨_,rfl⟩
 rw [←o] at L y ⊢
 clear o T O Z U
 obtain ⟨⟨N,q1,q2⟩,qf⟩:=bx3 L
 refine JQ (v:=.agg #[KL r,KL c,.slice (some ⟨w.heap.size+1,0,none⟩) p p]) (by simp [results,Tryz.results198,go_sem,N,q1,q2]) rfl ⟨_,rfl,?_,?_⟩
 ·refine ax (base:=w.heap.size+1) (y.own Y.out (fun k I e=>?_)) (by omega)
  simp [Value.ownBlock] at I
  omega
 ·exact (Below.trans ((JG _ w).alloc (JD _) _) (R.out.mono (by simp))).trans (y.toBelow (by omega) (fun k I=>by omega))
end Go.Proofs.YtaccfnffmbndhaaGreat
namespace Go.Proofs.YtaccfnffmbndhaaGreat
open Go.RowKit Go.Shelf
attribute [local go_sem] Oper.semAt_some
def IZ (r c:Nat) (ys xs:List Int) (A B:Option Addr) (i d e:Nat) (q:Int) (w:World) (G N M:Nat) (j:List (Fin r)) (W:World):Prop:=
 (W.ownsRow w.heap.size 2 1 (.slice (some ⟨G,0,none⟩) i i) i (aq .i64 (mq r c ys xs q (j.map (·.1)) 0 0))∧Boxed W w.heap.size 64 (.slice A r d)∧Boxed W (w.heap.size+1) 64 (.slice B c e)∧Boxed W (w.heap.size+1+1) 3 (KL q)∧
  W.heap[w.heap.size+1+1+1]?=some (.cells #[KL 0,KL 0,KN] 282 (0,0))∧W.heap[N]?=some (.cells #[KL r,KL c,.slice (some ⟨G,0,none⟩) i i] 282 (0,0))∧
  W.heap[M]?=some (.cells #[KL r,KL c,.slice (some ⟨G,0,none⟩) i i] 282 (0,0)))∧Below w.heap.size w W
theorem Ea (r c:Nat) (ys xs:List Int) (A B:Option Addr) (C d e:Nat) (q:Int) (w:World) (G N M K:Nat) (v:w.heap.size≤K):OwnFrom K (IZ r c ys xs A B C d e q w G N M):=by
 intro s W H row hs hg hr
 obtain ⟨⟨h1,o,D,p,x,u,j⟩,i⟩:=hs
 have y:=ownFrom_below (β:=Unit) (JD _) v () W H row i hg hr
 exact ⟨⟨vA h1 hg hr,dK rfl o hg hr,dK rfl D hg hr,dK rfl p hg hr,dK rfl x hg hr,dK rfl u hg hr,dK rfl j hg hr⟩,y⟩
theorem Bz (r c:Nat) (A B:Option Addr) (ys xs:List Int) (d e:Nat) (q:Int) (w:World) (hr:1≤r∧r≤1048576) (hc:1≤c∧c≤1048576) (hm:r*c≤1048576)
  (hA:Rd w A (aq .i64 ys)) (wy:W64 ys) (cb:ys.length=r) (hB:Rd w B (aq .i64 xs)) (bG:xs.length=c) (wx:W64 xs):
  Calls Tryz.prog 178 #[.slice A r d,.slice B c e,KL q] w fun e J=>∃A',e=.returned (.agg #[KL r,KL c,.slice A' (r*c) (r*c)])∧J.ownsRow w.heap.size 2 1 (.slice A' (r*c) (r*c)) (r*c) (aq .i64 (kl r c ys xs q))∧Below w.heap.size w J:=by
 obtain ⟨C,a8⟩:∃C,r*c=C:=⟨_,rfl⟩
 have d2:1≤C:=by rw [←a8];exact Nat.mul_pos hr.1 hc.1
 have b5:=fun J=>Ep r c J hr hc hm
 have bz:=fun A' J=>lO r c A' C C J hr hc a8.symm (by omega)
 have c6:=fun cs J=>qC cs J
 rw [a8] at b5 hm ⊢
 obtain ⟨co,cv,cx,ab,cr,cy,HA,HB⟩:=ak b5 bz c6 a8 bG cb hA hB;obtain ⟨WX,WY⟩:=ae wx wy;clear b5 bz c6 a8 bG cb hA hB wx wy
 refine (callsIn_wide (n:=3)).1 ?_
 refine callsIn_of_wp_marks Tryz.func178 rfl trivial ?_ rfl
 simp only [Tryz.ntmps178,List.size_toArray,List.length_cons,List.length_nil,Nat.reduceAdd,Nat.reduceSub,Array.replicate_succ,Array.replicate_zero,List.push_toArray,List.append_toArray,List.nil_append,List.cons_append]
 gi_wp2_with fail
 refine ⟨trivial,?_⟩
 refine (callsIn_wide.2 (co.out _)).mono ?_
 rintro e w1 ⟨A',rfl,L,a0⟩
 have aR:Below w.heap.size w w1:=Below.trans (((((JG _ w).alloc (JD _) _).alloc (by simp) _).alloc (by simp;omega) _).alloc (by simp;omega) _) (a0.mono (by first | (simp;done) | (simp;omega)))
 have h2:Boxed w1 w.heap.size 64 (.slice A r d):=by
  refine (a0.block w.heap.size (by first | (simp;done) | (simp;omega))).trans ?_
  refine (JP _ _ _ (by first | (simp;done) | (simp;omega))).trans ((JP _ _ _ (by first | (simp;done) | (simp;omega))).trans ((JP _ _ _ (by simp)).trans (JE w _)))
 have h3:Boxed w1 (w.heap.size+1) 64 (.slice B c e):=by
  refine (a0.block (w.heap.size+1) (by first | (simp;done) | (simp;omega))).trans ?_
  refine (JP _ _ _ (by first | (simp;done) | (simp;omega))).trans ((JP _ _ _ (by simp)).trans ?_)
  have:=JE (w.alloc (.cells #[.slice A r d] 64)) (.cells #[.slice B c e] 64)
  simpa using this
 have h4:Boxed w1 (w.heap.size+1+1) 3 (KL q):=by
  refine (a0.block (w.heap.size+1+1) (by first | (simp;done) | (simp;omega))).trans ?_
  refine (JP _ _ _ (by simp)).trans ?_
  have:=JE ((w.alloc (.cells #[.slice A r d] 64)).alloc (.cells #[.slice B c e] 64)) (.cells #[KL q] 3)
  simpa using this
 have h5:w1.heap[w.heap.size+1+1+1]?=some (.cells #[KL 0,KL 0,KN] 282 (0,0)):=by
  refine (a0.block (w.heap.size+1+1+1) (by simp)).trans ?_
  have:=JE (((w.alloc (.cells #[.slice A r d] 64)).alloc (.cells #[.slice B c e] 64)).alloc (.cells #[KL q] 3)) (.cells #[KL 0,KL 0,KN] 282)
  simpa using this
 obtain ⟨G,dG,bA,hG,bs⟩:=L.form (by omega)
 simp only [Ku] at bA
 obtain ⟨rfl,_,rfl⟩:=bA
 have c7:w.heap.size+1+1+1+1≤G:=by simpa using hG
 have L:=ax L (base':=w.heap.size) (by first | (simp;done) | (simp;omega))
 obtain ⟨bl,a6,H2,H3,H4,H5,bh,cd⟩:=ak L aR h2 h3 h4 h5 c7 bs;clear L aR h2 h3 h4 h5 c7 bs hG a0
 gi_wp2_with fail
 refine ⟨trivial,?_⟩
 refine (callsIn_wide.2 (cv.out _ _)).mono ?_
 rintro e w2 ⟨rfl,rfl⟩
 gi_wp2_with fail
 refine ⟨trivial,?_⟩
 refine (callsIn_wide.2 (cx.out _ _)).mono ?_
 rintro e w3 ⟨rfl,rfl⟩
 gi_wp2_with fail
 obtain ⟨U,hW0⟩:∃U,U=(w1.alloc (.cells #[KL r,KL c,.slice (some ⟨G,0,none⟩) C C] 282)).alloc (.cells #[KL r,KL c,.slice (some ⟨G,0,none⟩) C C] 282):=⟨_,rfl⟩
 rw [←hW0]
 have ad:U.heap.size=w1.heap.size+1+1:=by rw [hW0];simp
 have bN:U.heap[w1.heap.size]?=some (.cells #[KL r,KL c,.slice (some ⟨G,0,none⟩) C C] 282 (0,0)):=by
  rw [hW0];exact (JP _ _ _ (by simp)).trans (JE w1 _)
 have bM:(U.alloc (.cells #[KL r,KL c,.slice (some ⟨G,0,none⟩) C C] 282)).heap[U.heap.size]?=some (.cells #[KL r,KL c,.slice (some ⟨G,0,none⟩) C C] 282 (0,0)):=JE U _
 have hl:∀b o,w1.heap[b]?=some o→(U.alloc (.cells #[KL r,KL c,.slice (some ⟨G,0,none⟩) C C] 282)).heap[b]?=some o:=fun b o h=>by
  have hb:=JC h
  rw [hW0];exact (JP _ _ _ (by simp;omega)).trans ((JP _ _ _ (by simp;omega)).trans ((JP _ _ _ hb).trans h))
 have R:Below w.heap.size w U:=by rw [hW0];exact (a6.out.alloc a6.out.size _).alloc (by have:=a6.out.size;simp;omega) _
 have r0:U.ownsRow w.heap.size 2 1 (.slice (some ⟨G,0,none⟩) C C) C (aq .i64 (List.replicate C 0)):=by rw [hW0];exact (bl.out.alloc _).alloc _
 rw [←ab.out,BC r c ys xs q 0,ab.out] at r0
 obtain ⟨N,hN⟩:∃N,N=w1.heap.size:=⟨_,rfl⟩
 rw [←hN] at bN ad ⊢
 rw [←ad]
 have bU:IZ r c ys xs A B C d e q w G N U.heap.size [] (U.alloc (.cells #[KL r,KL c,.slice (some ⟨G,0,none⟩) C C] 282)):=⟨⟨r0.alloc _,hl _ _ H2.out,hl _ _ H3.out,hl _ _ H4.out,hl _ _ H5.out,(JP U _ _ (JC bN)).trans bN,bM⟩,R.alloc R.size _⟩
 obtain ⟨bw,aP,d0,HN,d1⟩:=ah ad R bM hN bU;clear ad R bM bN r0 hN hW0 hl bU
 refine' wpIn_rangeFunc_ownG (F:=Fence.wide) (n:=3) rfl (by omega) (gf:=217) (lb:=#[.pointer (some ⟨U.heap.size,0,none⟩)]) rfl trivial (enters_of Tryz.func217 (by kernel_rfl) rfl)
  (mN _ U.heap.size w.heap.size G 0 r c C C hr.2 hc ab.out.symm (JD _) _ d0.out) j9 (ka (by have:=aP.out.size;simp;omega) (by simp)) (JG _ _) (fun _=>rfl)
  (IZ r c ys xs A B C d e q w G N U.heap.size)
  (fun _ _ _=>False)
  (Ea r c ys xs A B C d e q w G N U.heap.size _ (by have:=aP.out.size;simp;omega))
  (fun _ _ _ _ _ hs _ _=>hs)
  d1.out
  _ ?assign ?body ?done ?stop
 case assign=>
  intro l x W K Q
  unfold oH
  gi_wp2
  exact Q
 case body=>
  rintro l bb x W ⟨⟨O,b0,b9,b4,a1,ao,b7⟩,a2⟩ a3
  have O:W.ownsRow w.heap.size 2 1 (.slice (some ⟨G,0,none⟩) C C) C (aq .i64 (mq r c ys xs q (bb.map (·.1)) x.1 0)):=by rw [yv x.1 0];exact O
  obtain ⟨aG,H2,H3,H4,H5,cj,bf,av⟩:=ak O b0 b9 b4 a1 ao b7 a2;have d5:=aa a3;clear O b0 b9 b4 a1 ao b7 a2 a3
  gi_wp2_with fail
  gi_loopw [26] (fun i wr=>∃j:Nat,j≤c∧i=KL j∧wr.ownsRow w.heap.size 2 1 (.slice (some ⟨G,0,none⟩) C C) C (aq .i64 (mq r c ys xs q (bb.map (·.1)) x.1 j))∧Keep (fun i=>i=G) W wr) (fun i _=>c-(intOf i).toNat)
  case atStart=>exact ⟨0,JH _,rfl,aG.out,Keep.refl _ _⟩
  case round=>
   obtain ⟨j,hj,rfl,a7,Q⟩:=hrel
   by_cases a3:j<c
   ·have b3:x.1<ys.length:=by rw [cy.out];exact x.2
    have bo:j<xs.length:=by rw [cr.out];exact a3
    have d4:=bh.out
    obtain ⟨b1,o1,cO,bd⟩:=HA.out.num b3
    obtain ⟨b2,o2,cl,b8⟩:=HB.out.num bo
    have l1:b1<w.heap.size:=ar bd
    have l2:b2<w.heap.size:=ar b8
    subst cO;subst cl
    have hk:∀b v,b≠G→∀o,W.cell? ⟨b,o,none⟩=some v→wr.cell? ⟨b,o,none⟩=some v:=fun b v hb o h=>Q.cell h hb
    have H:(fun J:World=>J.cell? ⟨w.heap.size,0,none⟩=some (.slice (some ⟨b1,o1,none⟩) r d)∧J.cell? ⟨w.heap.size+1,0,none⟩=some (.slice (some ⟨b2,o2,none⟩) c e)∧J.cell? ⟨w.heap.size+1+1,0,none⟩=some (KL q)∧J.cell? ⟨b1,o1+x.1,none⟩=some (KL (nth ys x.1))∧J.cell? ⟨b2,o2+j,none⟩=some (KL (nth xs j))) wr.drew:=⟨hk _ _ (by omega) _ (Boxed.cell H2.out),hk _ _ (by omega) _ (Boxed.cell H3.out),hk _ _ (by omega) _ (Boxed.cell H4.out),hk _ _ (by omega) _ ((av.out.cell (p:=⟨b1,o1+x.1,none⟩) l1).trans bd),hk _ _ (by omega) _ ((av.out.cell (p:=⟨b2,o2+j,none⟩) l2).trans b8)⟩
    have d3:(x.1:Int)<r:=by have:=x.2;omega
    have a4:x.1*c+j<C:=by rw [←ab.out];have:=oN (c:=c) x.2;omega
    have c9:=fun J=>rq (nth ys x.1) (nth xs j) q J (WY.out _ b3) (WX.out _ bo)
    obtain ⟨ct,cf,HK,bn⟩:=ag c9 a7 Q a4;clear c9 a7 Q hk a4 b3 bo bd b8
    gi_wp2_with fail
    refine iZ (fun J:World=>J.cell? ⟨w.heap.size,0,none⟩=some (.slice (some ⟨b1,o1,none⟩) r d)∧J.cell? ⟨w.heap.size+1,0,none⟩=some (.slice (some ⟨b2,o2,none⟩) c e)∧J.cell? ⟨w.heap.size+1+1,0,none⟩=some (KL q)∧J.cell? ⟨b1,o1+x.1,none⟩=some (KL (nth ys x.1))∧J.cell? ⟨b2,o2+j,none⟩=some (KL (nth xs j))) (by kernel_rfl) (by kernel_rfl) (by rintro ⟨_,_,h⟩;exact h) ?_
    refine wpAnyH_take (i:=0) (v:=?_) rfl (by kernel_rfl) (by kernel_rfl) (by kernel_rfl) (fun _ _ _ h=>h) (Or.inl ⟨by rfl,?_⟩) H ?_
    rotate_left
    ·intro w9 y;(try dsimp only at y);obtain ⟨X,s2,Y,V,Z⟩:=y;go_simp;(try with_reducible rfl)
    simp only [JT,JU,JV,Act.put,JW,JX,J0]
    refine wpAnyH_take (i:=1) (v:=?_) rfl (by kernel_rfl) (by kernel_rfl) (by kernel_rfl) (fun _ _ _ h=>h) (Or.inl ⟨by rfl,?_⟩) H ?_
    rotate_left
    ·intro w9 y;(try dsimp only at y);obtain ⟨X,s2,Y,V,Z⟩:=y;go_simp;(try with_reducible rfl)
    simp only [JT,JU,JV,Act.put,JW,JX,J0]
    refine wpAnyH_take (i:=2) (v:=?_) rfl (by kernel_rfl) (by kernel_rfl) (by kernel_rfl) (fun _ _ _ h=>h) (Or.inl ⟨by rfl,?_⟩) H ?_
    rotate_left
    ·intro w9 y;(try dsimp only at y);obtain ⟨X,s2,Y,V,Z⟩:=y;go_simp;(try with_reducible rfl)
    simp only [JT,JU,JV,Act.put,JW,JX,J0]
    refine wpAnyH_take (i:=3) (v:=?_) rfl (by kernel_rfl) (by kernel_rfl) (by kernel_rfl) (fun _ _ _ h=>h) (Or.inl ⟨by rfl,?_⟩) H ?_
    rotate_left
    ·intro w9 y;(try dsimp only at y);obtain ⟨X,s2,Y,V,Z⟩:=y;go_simp;(try with_reducible rfl)
    simp only [JT,JU,JV,Act.put,JW,JX,J0]
    refine wpAnyH_take (i:=4) (v:=?_) rfl (by kernel_rfl) (by kernel_rfl) (by kernel_rfl) (fun _ _ _ h=>h) (Or.inl ⟨by rfl,?_⟩) H ?_
    rotate_left
    ·intro w9 y;(try dsimp only at y);obtain ⟨X,s2,Y,V,Z⟩:=y;go_simp;(try with_reducible rfl)
    simp only [JT,JU,JV,Act.put,JW,JX,J0]
    refine wpAnyH_take (i:=5) (v:=?_) rfl (by kernel_rfl) (by kernel_rfl) (by kernel_rfl) (fun _ _ _ h=>h) (Or.inl ⟨by rfl,?_⟩) H ?_
    rotate_left
    ·intro w9 y;(try dsimp only at y);obtain ⟨X,s2,Y,V,Z⟩:=y;go_simp;(try with_reducible rfl)
    simp only [JT,JU,JV,Act.put,JW,JX,J0]
    refine wpAnyH_take (i:=6) (v:=?_) rfl (by kernel_rfl) (by kernel_rfl) (by kernel_rfl) (fun _ _ _ h=>h) (Or.inl ⟨by rfl,?_⟩) H ?_
    rotate_left
    ·intro w9 y;(try dsimp only at y);obtain ⟨X,s2,Y,V,Z⟩:=y;go_simp;(try with_reducible rfl)
    simp only [JT,JU,JV,Act.put,JW,JX,J0]
    refine wpAnyH_take (i:=7) (v:=?_) rfl (by kernel_rfl) (by kernel_rfl) (by kernel_rfl) (fun _ _ _ h=>h) (Or.inl ⟨by rfl,?_⟩) H ?_
    rotate_left
    ·intro w9 y;(try dsimp only at y);obtain ⟨X,s2,Y,V,Z⟩:=y;go_simp;(try with_reducible rfl)
    simp only [JT,JU,JV,Act.put,JW,JX,J0]
    refine wpAnyH_take (i:=8) (v:=?_) rfl (by kernel_rfl) (by kernel_rfl) (by kernel_rfl) (fun _ _ _ h=>h) (Or.inl ⟨by rfl,?_⟩) H ?_
    rotate_left
    ·intro w9 y;(try dsimp only at y);obtain ⟨X,s2,Y,V,Z⟩:=y;go_simp;(try with_reducible rfl)
    simp only [JT,JU,JV,Act.put,JW,JX,J0]
    refine wpAnyH_take (i:=9) (v:=?_) rfl (by kernel_rfl) (by kernel_rfl) (by kernel_rfl) (fun _ _ _ h=>h) (Or.inl ⟨by rfl,?_⟩) H ?_
    rotate_left
    ·intro w9 y;(try dsimp only at y);obtain ⟨X,s2,Y,V,Z⟩:=y;go_simp;(try with_reducible rfl)
    simp only [JT,JU,JV,Act.put,JW,JX,J0]
    refine wpAnyH_take (i:=10) (v:=?_) rfl (by kernel_rfl) (by kernel_rfl) (by kernel_rfl) (fun _ _ _ h=>h) (Or.inl ⟨by rfl,?_⟩) H ?_
    rotate_left
    ·intro w9 y;(try dsimp only at y);obtain ⟨X,s2,Y,V,Z⟩:=y;go_simp;(try with_reducible rfl)
    simp only [JT,JU,JV,Act.put,JW,JX,J0]
    refine wpAnyH_ready (rs:=[11]) (by kernel_rfl) (by simp) ?_
    refine AllReadyH.cons rfl (fun K Q=>?_) AllReadyH.nil
    simp only [JT,JU,JV]
    go_simp
    refine (ct.out _).mono ?_
    rintro e w3 ⟨rfl,T⟩
    dsimp only
    have b6:(fun J:World=>J.cell? ⟨w.heap.size,0,none⟩=some (.slice (some ⟨b1,o1,none⟩) r d)∧J.cell? ⟨w.heap.size+1,0,none⟩=some (.slice (some ⟨b2,o2,none⟩) c e)∧J.cell? ⟨w.heap.size+1+1,0,none⟩=some (KL q)∧J.cell? ⟨b1,o1+x.1,none⟩=some (KL (nth ys x.1))∧J.cell? ⟨b2,o2+j,none⟩=some (KL (nth xs j))) w3:=⟨am T H.1,am T H.2.1,am T H.2.2.1,am T H.2.2.2.1,am T H.2.2.2.2⟩
    refine Q.out _ _ b6 (fun _=>?_)
    clear Q K H
    have H:=b6
    clear b6
    have I:=ap (w:=wr.drew) cf.out T
    have cA:∃u,w3.cell? ⟨G,x.1*c+j,none⟩=some u:=⟨_,cq I bn.out⟩
    obtain ⟨u3,p3⟩:=cA
    have f3:=I.frozenAt (x.1*c+j)
    obtain ⟨be,cw⟩:=ae I T;clear I T
    refine wpAnyH_take (i:=12) (v:=?_) rfl (by kernel_rfl) (by kernel_rfl) (by kernel_rfl) (fun _ _ _ h=>h) (Or.inl ⟨by rfl,?_⟩) H ?_
    rotate_left
    ·intro w9 y;(try dsimp only at y);obtain ⟨X,s2,Y,V,Z⟩:=y;go_simp;(try with_reducible rfl)
    simp only [JT,JU,JV,Act.put,JW,JX,J0]
    refine wpAnyH_ready (rs:=[13]) (by kernel_rfl) (by simp) ?_
    refine AllReadyH.cons rfl (fun K Q=>?_) AllReadyH.nil
    simp only [JT,JU,JV]
    go_simp
    refine Q.out _ _ ?_ (fun _=>?_)
    ·obtain ⟨X,s2,Y,V,Z⟩:=H
     exact ⟨(World.cell?_setCell_far _ _ _ _ (show G≠w.heap.size by omega)).trans X,(World.cell?_setCell_far _ _ _ _ (show G≠w.heap.size+1 by omega)).trans s2,(World.cell?_setCell_far _ _ _ _ (show G≠w.heap.size+1+1 by omega)).trans Y,(World.cell?_setCell_far _ _ _ _ (show G≠b1 by omega)).trans V,(World.cell?_setCell_far _ _ _ _ (show G≠b2 by omega)).trans Z⟩
    refine wpAnyH_done (by kernel_rfl) ?_ _
    clear H p3 f3 Q K
    gi_wp2_with fail
    refine ⟨⟨j+1,by omega,by go_num,?_,?_⟩,by simp [intOf];omega⟩
    ·rw [←D8 x.2 a3]
     exact dA be.out _ _
    ·exact Keep.setCell (HK.out.drew.trans (Keep.below cw.out)) ⟨G,_,none⟩ (.inr rfl) _
   ·obtain rfl:j=c:=by omega
    gi_wp2_with fail
    have ci:=bh.out
    have bX:=cd.out
    have bI:=bw.out
    have bV:=HN.out
    have cc:Below w.heap.size W wr:=Q.toBelow av.out.size (fun k hk=>by omega)
    have bv:=(Q.block _ (JC bf.out) (by omega)).trans bf.out
    refine ⟨(lh Q fun k o hk ho=>?_).from _,⟨cc,fun _=>bv.trans bf.out.symm⟩,⟨⟨?_,?_,?_,?_,?_,?_,bv⟩,av.out.trans cc⟩⟩
    ·subst hk
     exact sN aG.out ho
    ·rw [List.map_append,List.map_singleton,←D9 hc.1];exact a7
    ·exact (Q.block _ (JC H2.out) (by omega)).trans H2.out
    ·exact (Q.block _ (JC H3.out) (by omega)).trans H3.out
    ·exact (Q.block _ (JC H4.out) (by omega)).trans H4.out
    ·exact (Q.block _ (JC H5.out) (by omega)).trans H5.out
    ·exact (Q.block _ (JC cj.out) (by omega)).trans cj.out
 case done=>
  rintro D zs W hD rfl ⟨⟨O,b0,b9,b4,a1,ao,b7⟩,a2⟩ Q
  obtain ⟨⟨n0,n1,n2⟩,nf⟩:=bx3 ao
  obtain ⟨⟨m0,m1,m2⟩,mf⟩:=bx3 a1
  gi_wp2
  have aM:(List.finRange r).map (·.1)=List.range r:=List.ext_getElem (by simp) (by simp)
  rw [aM,BD hc.1] at O
  have h3:=rN (KL r) (KL c) (.slice (some ⟨G,0,none⟩) C C) a1
  have k3:=oZ (w:=W) (b:=w.heap.size+1+1+1) (KL r) (KL c) (.slice (some ⟨G,0,none⟩) C C)
  have ci:=bh.out
  have bX:=cd.out
  have bI:=bw.out
  have bV:=HN.out
  simp only [JS] at hD
  obtain ⟨W3,c8⟩:∃W3,W3=(((W.setCell ⟨w.heap.size+1+1+1,0,none⟩ (KL r)).setCell ⟨w.heap.size+1+1+1,1,none⟩ (KL c)).setCell ⟨w.heap.size+1+1+1,2,none⟩ (.slice (some ⟨G,0,none⟩) C C)):=⟨_,rfl⟩
  rw [←c8] at h3 k3 ⊢
  clear c8
  have bi:W3.heap[D]?=some (.deferred (some [])):=(k3.block D (JC Q) (by omega)).trans Q
  refine ⟨by simp,.inl ⟨_,_,rfl,run_takeDeferred bi,?_⟩⟩
  have h4:(W3.putObj D (.deferred none)).heap[w.heap.size+1+1+1]?=some (.cells #[KL r,KL c,.slice (some ⟨G,0,none⟩) C C] 282 (0,0)):=(World.putObj_heap_other (by omega)).trans h3
  have I:=ownsRow_putObj (k3.own O (fun k hk e=>by simp [Value.ownBlock] at hk;omega)) (.deferred none) bi rfl
  have a5:Below w.heap.size w (W3.putObj D (.deferred none)):=(a2.trans (k3.toBelow a2.size (fun k hk=>by omega))).trans (belowK_b (w:=w) (JD _) W3 D _ _ (by omega) bi rfl rfl)
  obtain ⟨W4,bO⟩:∃W4,W4=W3.putObj D (.deferred none):=⟨_,rfl⟩
  rw [←bO] at h4 I a5 ⊢
  clear bO ci bX bI bV aM
  obtain ⟨⟨q0,q1,q2⟩,qf⟩:=bx3 h4
  refine ⟨.agg #[KL r,KL c,.slice (some ⟨G,0,none⟩) C C],by simp [results,Tryz.results178,go_sem,q0,q1,q2],_,rfl,I,a5⟩
 case stop=>
  rintro D c bb W _ _ h _
  exact h.elim
end Go.Proofs.YtaccfnffmbndhaaGreat
namespace Go.Proofs.YtaccfnffmbndhaaGreat
open Go.RowKit
theorem nd {P:Program} {w:World} {ops:Array Oper} {rest:List Oper} {o:Oper} {a:Act} {Q:Exit→Act→World→Prop} (p:o.guard=none) (d s:Operand) (x B:TypeId)
  (C:o.op=.call {callee:=.builtin .copy,args:=#[d,s],argTypes:=#[x,B]}) (elem:TypeId) (hu:P.underlying x=some (.slice elem)) (hsz:(P.info? elem).map (·.size)=some 1)
  (dp sp:Option Addr) (n dCap sCap:Nat) (hd:a.eval d=.slice dp n dCap) (hs:a.eval s=.slice sp n sCap)
  (g off:Nat) (cur:List Value) (t:TypeId) (hg:w.heap[g]?=some (.cells cur.toArray t (0,0))) (cs:List Value) (hn:cs.length=n) (hdp:0<n→dp=some ⟨g,off,none⟩) (hr:Rd w sp cs)
  (hfit:off+cs.length≤cur.length) (h1:∀v∈cs,v.oneCell'=true)
  (h:∀A,Hid (A.heap[g]?=some (.cells (splice cur off cs).toArray t (0,0)))→Keep (fun i=>i=g) w A→wpList P ops Q rest (a.put o.dst (goInt cs.length)) A):
  wpList P ops Q (o::rest) a w:=by
 by_cases D:cs.length=0
 ·obtain rfl:cs=[]:=List.eq_nil_of_length_eq_zero D
  refine wpList_copy_nothing p d s x B C elem hu hsz dp sp n dCap n sCap hd hs (by simp at hn;subst hn;rfl) ?_
  exact h w (show _=_ by simpa [splice] using hg) (Keep.refl _ _)
 ·obtain rfl:=hdp (by omega)
  have hx:∃y,sp=some y∧∀j v,cs[j]?=some v→w.cell? (y.add j)=some v:=by
   obtain ⟨b,L,q,_⟩:=hr 0 cs[0] (Kh (by omega))
   refine ⟨_,q,fun j v hv=>?_⟩
   obtain ⟨I,J,e,hc⟩:=hr j v hv
   rw [q] at e
   injection e with e
   injection e with e1 e2 _
   subst e1;subst e2
   rw [Addr.add_lit]
   exact hc
  obtain ⟨y,rfl,u⟩:=hx
  refine wpList_copy_own p d s x B C elem hu hsz g off n dCap y n sCap hd hs cur.toArray t hg cs (by rw [hn];exact (Nat.min_self n).symm) u (by simpa using hfit) h1 ?_
  exact h _ (show _=_ by simpa [splice] using setRow_heap w g _ _ t _ hg) ⟨rfl,rfl,rfl,by simp [World.setRow],fun k H hn=>setRow_other w g k _ hn⟩
theorem xx {P:Program} {w:World} {ops:Array Oper} {H:Array Value} {o:Oper} {a:Act} {K:Act→World→Prop} {Q:Exit→Act→World→Prop} {E:Prop} (d s:Operand) (x C:TypeId) (A:o.guard=none)
  (D:o.op=.call {callee:=.builtin .copy,args:=#[d,s],argTypes:=#[x,C]}) (elem:TypeId) (hu:P.underlying x=some (.slice elem)) (hsz:(P.info? elem).map (·.size)=some 1)
  (dp sp:Option Addr) (n dCap sCap:Nat) (hd:a.eval d=.slice dp n dCap) (hs:a.eval s=.slice sp n sCap)
  (g off:Nat) (cur:List Value) (t:TypeId) (hg:w.heap[g]?=some (.cells cur.toArray t (0,0))) (cs:List Value) (hn:cs.length=n) (hdp:0<n→dp=some ⟨g,off,none⟩) (hr:Rd w sp cs)
  (hfit:off+cs.length≤cur.length) (h1:∀v∈cs,v.oneCell'=true)
  (h:∀B,Hid (B.heap[g]?=some (.cells (splice cur off cs).toArray t (0,0)))→Keep (fun i=>i=g) w B→K (a.put o.dst (goInt cs.length)) B):
  if Region.wanted o (yielded ops H)=true then Oper.wp P o a w K Q else E:=by
 rw [if_pos (by simp [Region.wanted,A])]
 by_cases I:cs.length=0
 ·obtain rfl:cs=[]:=List.eq_nil_of_length_eq_zero I
  have p:=run_copy_none (P:=P) w x C o.type elem dp sp n dCap n sCap hu hsz (by simp at hn;subst hn;rfl)
  unfold Oper.wp
  simp [execOp,D,resolve,invoke,builtin,hd,hs,p,Result.andThen]
  exact h w (show _=_ by simpa [splice] using hg) (Keep.refl _ _)
 ·obtain rfl:=hdp (by omega)
  have hx:∃y,sp=some y∧∀j v,cs[j]?=some v→w.cell? (y.add j)=some v:=by
   obtain ⟨b,O,q,_⟩:=hr 0 cs[0] (Kh (by omega))
   refine ⟨_,q,fun j v hv=>?_⟩
   obtain ⟨L,N,e,hc⟩:=hr j v hv
   rw [q] at e
   injection e with e
   injection e with e1 e2 _
   subst e1;subst e2
   rw [Addr.add_lit]
   exact hc
  obtain ⟨y,rfl,u⟩:=hx
  have p:=run_copy_row (P:=P) w x C o.type elem g off n dCap y n sCap cur.toArray t cs hu hsz hg (by rw [hn];exact (Nat.min_self n).symm) u (by simpa using hfit) h1
  unfold Oper.wp
  simp [execOp,D,resolve,invoke,builtin,hd,hs,p,Result.andThen]
  exact h _ (show _=_ by simpa [splice] using setRow_heap w g _ _ t _ hg) ⟨rfl,rfl,rfl,by simp [World.setRow],fun k J hn=>setRow_other w g k _ hn⟩
theorem D7 {w:World} {base:Nat} {e:TypeId} {g n:Nat} {xs:List Value} (h:w.ownsRow base e 1 (.slice (some ⟨g,0,none⟩) n n) n xs):w.heap[g]?=some (.cells xs.toArray e (0,0)):=by
 rcases h.2 with ⟨o,_⟩ | ⟨p,cap,i,hv,_,hg,_,_,hs,j⟩
 ·cases o
 ·simp only [Ku,Option.some.injEq,Addr.mk.injEq,and_true,true_and] at hv
  obtain ⟨rfl,rfl⟩:=hv
  rw [Nat.mul_one] at hs j
  have:i=xs.toArray:=by
   rw [←j,List.take_of_length_le (by simp [hs])]
  rw [←this]
  exact hg
theorem jB (q:IntKind) (a b:List Int) (i:Nat):splice (aq q a) i (aq q b)=aq q (splice a i b):=by
 unfold splice
 rw [cK,a9,cV,←cD,←cD]
theorem qL {w:World} {g:Nat} {e:TypeId} {xs:List Value} (h:w.heap[g]?=some (.cells xs.toArray e (0,0))):Rd w (some ⟨g,0,none⟩) xs:=fun k u hu=>by
 refine ⟨g,0,rfl,?_⟩
 rw [Kz,JF w g k xs.toArray e (0,0) h]
 simpa using hu
theorem EL {w:World} {base:Nat} {e:TypeId} {g:Nat} {xs:List Value} (h:w.heap[g]?=some (.cells xs.toArray e (0,0))) (i:base≤g) (hm:xs.length≤maxLen):w.ownsRow base e 1 (.slice (some ⟨g,0,none⟩) xs.length xs.length) xs.length xs:=
 ⟨by simp,.inr ⟨g,xs.length,xs.toArray,rfl,i,h,JD _,hm,by simp,by simp⟩⟩
theorem tT {o W D:List Int} {lo:Nat} (h:lo+W.length+D.length≤o.length):(splice (splice o lo W) (lo+W.length) D).drop lo=W++(D++o.drop (lo+W.length+D.length)):=by
 have p:splice o lo W=(o.take lo++W)++o.drop (lo+W.length):=by unfold splice;rw [Kl]
 have j:(o.take lo++W).length=lo+W.length:=by rw [Kf,Kk];omega
 have q:(splice o lo W).take (lo+W.length)=o.take lo++W:=by rw [p,←j,List.take_left]
 have v:(splice o lo W).drop (lo+W.length+D.length)=o.drop (lo+W.length+D.length):=by
  rw [p,List.drop_append,j,List.drop_of_length_le (by rw [j];omega),List.nil_append,List.drop_drop]
  congr 1
  omega
 have u:splice (splice o lo W) (lo+W.length) D=o.take lo++(W++(D++o.drop (lo+W.length+D.length))):=by
  show (splice o lo W).take (lo+W.length)++(D++(splice o lo W).drop (lo+W.length+D.length))=_
  rw [q,v,Kl]
 have i:(o.take lo).length=lo:=by rw [Kk];omega
 rw [u]
 conv=>lhs;rw [←i]
 rw [i,List.drop_append_of_le_length (by rw [i];exact JD _),List.drop_of_length_le (by rw [i];exact JD _),List.nil_append]
def Ji (sz ps:List Int) (q:Int) (x y:List Int) (G:Nat) (k:Nat) (D:Value) (j i w:World):Prop:=
 ∃A c o,D=.slice A (szN sz (k+1)) c∧w.ownsRow j.heap.size 2 1 (.slice A (szN sz (k+1)) c) (szN sz (k+1)) (aq .i64 (fC sz ps q x y (sz.length-2-k)))∧
  w.heap[G]?=some (.cells (aq .i64 o).toArray 2 (0,0))∧o.length=aZ sz (sz.length-1)∧o.drop (aZ sz (k+1))=nN sz ps q x y (sz.length-2-k)∧(∀a,A=some a→a.block≠G)∧Below i.heap.size i w
theorem DC:cL Tryz.prog 52 2:=⟨⟨_,Tryz.underlying52,rfl⟩,by kernel_rfl⟩
theorem GT (b:Nat) (sz ps:List Int) (q:Int) (A B:Option Addr) (x y:List Int) (c d:Nat) (w:World) (h:kT 186 280 w b sz ps q) (hg:dy sz) (wp:W64 ps) (hA:Rd w A (aq .i64 x)) (hx:x.length=szN sz 0) (wx:W64 x) (hB:Rd w B (aq .i64 y)) (hy:y.length=szN sz (sz.length-1)):
  Calls Tryz.prog 148 #[.pointer (some ⟨b,0,none⟩),.slice A x.length c,.slice B y.length d] w fun e u=>∃A' c',e=.returned (.tuple #[.slice A' (aZ sz (sz.length-1)) c',.bool true])∧u.ownsRow w.heap.size 2 1 (.slice A' (aZ sz (sz.length-1)) c') (aZ sz (sz.length-1)) (aq .i64 (gD sz ps q x y))∧Below w.heap.size w u:=by
 have hm:=Gy b sz ps q A B x y c d w h hg wp hA hx wx hB hy
 have ei:=h.lt
 obtain ⟨S,Ap,cp,Al,cl,b6,h0,h1,h2,h3,h4,h5,h6⟩:=h
 have cb:=fun u (k:Below w.heap.size w u)=>jv S sz u (h1.below k)
 have cA:=fun u (k:Below w.heap.size w u)=>ju S sz u (h1.below k)
 have d9:=fun j u (k:Below w.heap.size w u)=>mw S sz j u (h1.below k) (by have:=hg.1.1.2;omega)
 have d5:=fun j u (k:Below w.heap.size w u)=>nr S sz j u (h1.below k) (by have:=hg.1.1.2;omega)
 have eB:=hg.2
 have dp:gD sz ps q x y=nN sz ps q x y (sz.length-1):=rfl
 obtain ⟨n,hn⟩:∃n,sz.length-1=n:=⟨_,rfl⟩
 obtain ⟨N,hN⟩:∃N,aZ sz n=N:=⟨_,rfl⟩
 have fb:mx (cT sz ps q x n) y=fC sz ps q x y 0:=by show _=mx _ _;rw [hn]
 rw [hn] at h0 cA d9 d5 h4 h6 cb eB dp hm hy ⊢
 rw [hN] at cb eB ⊢
 rw [fb] at hm
 have jj:1≤n∧n≤15:=by have:=hg.1.1;omega
 obtain ⟨Hm,hz,gv,h7,hJ,H0,H3,H4⟩:=ak hm cb cA d9 d5 h0 h3 h4;obtain ⟨H5,H6,HG,WP,Hx,WX,Hy,Hn⟩:=ak h5 h6 hg wp hx wx hy hn;obtain ⟨HN,gG⟩:=ae hN dp;clear hm cb cA d9 d5 h0 h1 h2 h3 h4 h5 h6 hg wp hA hx wx hB hy hn hN dp fb
 go_enter Tryz.func148,Tryz.ntmps148
 go_wp2_with fail
 go_step3
 go_wp2_with fail
 refine Hm.out.mono ?_
 rintro e Q ⟨A',c',D,dc,vals,rfl,hr,em,hc,ho,hb⟩
 have bN:=(hb.block b ei).trans H0.out
 obtain ⟨⟨r0,r1,r2,r3⟩,rf⟩:=bx4 bN
 have gb:b<Q.heap.size:=JC bN
 have aP:=hb.size
 obtain ⟨Hr,gm,Hc,Ho,Hb,f8⟩:=ai hr em hc ho hb bN;clear hr em hc ho hb bN
 go_wp2_with fail
 refine (hz.out _ Hb.out).mono ?_
 rintro e u ⟨rfl,rfl⟩
 have ef:(8:Nat)*N≤281474976710656:=by omega
 have i5:=aa ef;clear ef
 go_wp2_with (at_make;refine se kD _ rfl (.tmp 31) (.tmp 31) rfl rfl N rfl rfl i5.out (by unfold maxLen;omega) ?_)
 intro w2 ga dn
 have c6:=D7 ga
 rw [dS] at c6
 have bO:=(dn.block b gb).trans f8.out
 clear r0 r1 r2 r3 rf
 obtain ⟨⟨r0,r1,r2,r3⟩,rf⟩:=bx4 bO
 have ib:=JC bO
 have k1:=JC c6
 obtain ⟨ds,i0,j7⟩:=af dn c6 bO;clear ga dn c6 bO
 have cv:(n:Int)-1=((n-1:Nat):Int):=by omega
 have g6:IntKind.i64.wrap ((n:Int)-1)=((n-1:Nat):Int):=by rw [JI _ (by omega)];omega
 rw [cv] at g6
 go_wp2_with fail
 go_step3
 go_wp2_with fail
 refine (gv.out _ (Hb.out.trans (ds.out.mono aP))).mono ?_
 rintro e u ⟨rfl,rfl⟩
 go_wp2_with fail
 clear g6 cv r0 r1 r2 r3 rf
 go_loopw [9,12] (fun v i wr=>∃k:Nat,k≤n-1∧i=KL k∧Ji sz ps q x y Q.heap.size k v w Q wr) (fun _ i _=>(intOf i).toNat)
 case atStart=>
  have eo:sz.length-2-(n-1)=0:=by have:=Hn.out;omega
  have dv:n-1+1=n:=by omega
  refine ⟨n-1,JD _,rfl,D,dc,List.replicate N 0,?_,?_,i0.out,?_,?_,?_,ds.out⟩
  ·rw [dv,←Hy.out]
  ·rw [eo,dv,←Hy.out];exact ap Ho.out ds.out
  ·rw [Hn.out,HN.out];simp
  ·rw [eo,dv,HN.out];simp [nN]
  ·intro a ha e
   have:=(Ho.out.lt a.block (by rw [ha];rfl)).2
   omega
 case round=>
  obtain ⟨k,hk,rfl,A9,c9,o,rfl,ho,ec,b7,f9,f4,hW⟩:=hrel
  have cf:=(hW.block b gb).trans f8.out
  obtain ⟨⟨r0,r1,r2,r3⟩,rf⟩:=bx4 cf
  have fa:Below w.heap.size w wr:=Hb.out.trans (hW.mono aP)
  have gO:b<wr.heap.size:=JC cf
  obtain ⟨d0,hE,bz,i3,gd,eM,HW,bd⟩:=ak cf ho ec b7 f9 f4 hW fa;clear cf ho ec b7 f9 f4 hW fa
  have fs:=h7.out k
  have b3:=hJ.out k
  obtain ⟨hT,i4⟩:=ae fs b3;clear fs b3
  go_wp2_with fail
  go_cut [13,14] (fun v1 v2 wx=>∃M1 M2,v1=.pointer (some ⟨M1,0,none⟩)∧v2=.pointer (some ⟨M2,0,none⟩)∧wx.heap[M1]?=some (.cells #[KL (aZ sz k:Int),KL (cW sz k:Int)] 52 (0,0))∧wx.heap[M2]?=some (.cells #[KL (cW sz k:Int),KL (aZ sz (k+1):Int)] 52 (0,0))∧wr.heap.size≤M1∧wr.heap.size≤M2∧Below wr.heap.size wr wx)
  case first=>
   have t0:∀u,Below wr.heap.size wr u→u.cell? ⟨b,0,none⟩=some (.pointer (some ⟨S,0,none⟩)):=fun u k=>JF u b 0 _ _ _ (sb d0.out u k)
   have tl:=sl d0.out
   have q:Below wr.heap.size wr wr.drew:=(br wr).drew
   clear r0 r1 r2 r3 rf
   refine HA.g (fun u:World=>Below wr.heap.size wr u) ?_
   refine HA.t ?_ [0,1,2,3,4,6,7,8,9,10] q ?_
   obtain ⟨U,hU⟩:∃U,wr.drew=U:=⟨_,rfl⟩
   rw [hU] at q ⊢
   clear hU
   repeat' first
    | (refine HA.three 5 12 13 ?_ ?_ ?_)
    | (refine HA.three 11 12 13 ?_ ?_ ?_)
    | (refine HA.two 5 12 ?_ ?_)
    | (refine HA.two 5 13 ?_ ?_)
    | (refine HA.two 11 12 ?_ ?_)
    | (refine HA.two 11 13 ?_ ?_)
    | (refine HA.two 12 13 ?_ ?_)
    | (refine HA.sole 5 ?_)
    | (refine HA.sole 11 ?_)
    | (refine HA.sole 12 ?_)
    | (refine HA.sole 13 ?_)
    | (refine HAS.c (i:=5) (hT.out U (bd.out.trans (q.mono bd.out.size)) (by omega)) ?_;rintro e V ⟨rfl,kV⟩;(try replace gA:=sb gA _ kV);(try replace gB:=sb gB _ kV);replace q:=q.trans (kV.mono q.size);refine ⟨_,rfl,q,fun _=>?_⟩;clear kV;obtain ⟨U,rfl⟩:∃U,U=V:=⟨_,rfl⟩)
    | (refine HAS.c (i:=11) (i4.out U (bd.out.trans (q.mono bd.out.size)) (by omega)) ?_;rintro e V ⟨rfl,kV⟩;(try replace gA:=sb gA _ kV);(try replace gB:=sb gB _ kV);replace q:=q.trans (kV.mono q.size);refine ⟨_,rfl,q,fun _=>?_⟩;clear kV;obtain ⟨U,rfl⟩:∃U,U=V:=⟨_,rfl⟩)
    | (have hA:=q.size;have bV:=(br U).alloc (JD _) (.cells #[KL 0,KL 0] 52);have gA:=JE U (.cells #[KL 0,KL 0] 52);(try have nB:=JC gB);(try replace gB:=sb gB _ bV);replace q:=q.alloc q.size (.cells #[KL 0,KL 0] 52);refine HAS.v (i:=12) (U.alloc (.cells #[KL 0,KL 0] 52)) (.pointer (some ⟨U.heap.size,0,none⟩)) q ?_;obtain ⟨V,hv⟩:∃V,U.alloc (.cells #[KL 0,KL 0] 52)=V:=⟨_,rfl⟩;rw [hv] at gA q ⊢;(try rw [hv] at gB);clear hv bV;obtain ⟨mm,hm⟩:∃mm,U.heap.size=mm:=⟨_,rfl⟩;rw [hm] at gA hA ⊢;(try rw [hm] at nB);clear hm;obtain ⟨U,rfl⟩:∃U,U=V:=⟨_,rfl⟩)
    | (have hB:=q.size;have bV:=(br U).alloc (JD _) (.cells #[KL 0,KL 0] 52);have gB:=JE U (.cells #[KL 0,KL 0] 52);(try have nA:=JC gA);(try replace gA:=sb gA _ bV);replace q:=q.alloc q.size (.cells #[KL 0,KL 0] 52);refine HAS.v (i:=13) (U.alloc (.cells #[KL 0,KL 0] 52)) (.pointer (some ⟨U.heap.size,0,none⟩)) q ?_;obtain ⟨V,hv⟩:∃V,U.alloc (.cells #[KL 0,KL 0] 52)=V:=⟨_,rfl⟩;rw [hv] at gB q ⊢;(try rw [hv] at gA);clear hv bV;obtain ⟨mm,hm⟩:∃mm,U.heap.size=mm:=⟨_,rfl⟩;rw [hm] at gB hB ⊢;(try rw [hm] at nA);clear hm;obtain ⟨U,rfl⟩:∃U,U=V:=⟨_,rfl⟩)
    | (refine HA.st 14 gA DC (fun w8 e8 k8=>?_);refine ⟨iq q k8 q.size hA,?_⟩;refine HA.st 15 ((k8.block _ (JC gB) (by omega)).trans gB) DC (fun w9 e9 k9=>?_);have F:=ue (w:=wr) (by omega) hA hB q e8 k8 e9 k9;refine ⟨F.2.2.2.2.2,HA.d ?_⟩;have HF:=aa F;clear F e8 k8 e9 k9 t0 tl gA gB q;go_wp2_with fail;go_meet;exact ⟨_,_,rfl,rfl,HF.out.1,HF.out.2.1,HF.out.2.2.2⟩)
  case rest=>
   obtain ⟨M1,M2,rfl,rfl,ao,bn,kd,k5,hB⟩:=hcut
   have hR:=HG.out.1
   have fi:=Hn.out
   have fe:k+1<sz.length:=by omega
   have z0:=hR.at (k:=k) (by omega)
   have z1:=hR.at fe
   have ct:=HG.out.mul fe
   have ee:1≤szN sz (k+1)*szN sz k:=Nat.mul_pos z1.1 z0.1
   have a1:cW sz k=aZ sz k+szN sz (k+1)*szN sz k:=rfl
   have Y:=eP sz k
   have Z:=fv sz (show k+1≤n by omega)
   have g9:=HN.out
   have d4:sz.length-2-k=n-1-k:=by omega
   have a7:=jX (sz:=sz) (ps:=ps) (q:=q) (x:=x) (y:=y) Hx.out (n-1-k)
   rw [show sz.length-1-(n-1-k)=k+1 by omega] at a7
   have bw:=rC sz ps q x y (n-1-k)
   have a6:=eC (sz:=sz) (ps:=ps) (q:=q) Hx.out k
   have ci:=nl (sz:=sz) (ps:=ps) (q:=q) WX.out k
   obtain ⟨Ak,ck,bU,gp,c7⟩:=gm.out.2 k (by omega)
   rw [a6] at bU
   obtain ⟨bo,oo,rfl,pv⟩:=Hr.out _ _ bU
   have hS:bo<Q.heap.size:=ar pv
   have bA:Below Q.heap.size Q wc:=HW.out.trans (hB.mono HW.out.size)
   have d2:=(bA.cell (p:=⟨bo,oo+k,none⟩) hS).trans pv
   have bs:=(hB.block b gO).trans d0.out
   have dr:=(hB.block Q.heap.size (JC bz.out)).trans bz.out
   have ab:=ap hE.out hB
   rw [d4] at ab
   have bh:=c7.below bA
   obtain ⟨lo,cO⟩:∃lo,aZ sz k=lo:=⟨_,rfl⟩
   obtain ⟨r,hr⟩:∃r,szN sz (k+1)=r:=⟨_,rfl⟩
   obtain ⟨c0,b0⟩:∃c0,szN sz k=c0:=⟨_,rfl⟩
   obtain ⟨H,X⟩:∃H,r*c0=H:=⟨_,rfl⟩
   rw [←Y,a1] at bn
   rw [a1] at ao
   rw [←Y,a1] at Z
   rw [cO,hr,b0,X] at ao bn Z
   rw [hr] at a7 z1 ab
   rw [b0] at a6 z0 d2
   rw [hr,b0,X] at ee ct
   rw [hr]
   obtain ⟨ev,e7⟩:∃ev,fC sz ps q x y (n-1-k)=ev:=⟨_,rfl⟩
   obtain ⟨vv,d3⟩:∃vv,cT sz ps q x k=vv:=⟨_,rfl⟩
   rw [e7] at a7 bw ab
   rw [d3] at a6 ci bh c7
   have gZ:=aa c7
   have bI:=fun W (h:Below wc.heap.size wc W)=>Bz r c0 A9 Ak ev vv c9 ck q W ⟨z1.1,z1.2.1⟩ ⟨z0.1,z0.2.1⟩ (by rw [X];exact ct) ((Rd.own ab).below h) bw a7 (bh.below h) a6 ci
   rw [X] at bI
   have d1:(kl r c0 ev vv q).length=H:=by rw [yu,X]
   obtain ⟨ow,dk⟩:∃ow,kl r c0 ev vv q=ow:=⟨_,rfl⟩
   rw [dk] at bI d1
   obtain ⟨⟨m0,m1⟩,mf⟩:=bx2 ao
   obtain ⟨⟨n0,n1,n2,n3⟩,nf⟩:=bx4 bs
   have k7:=JC ao
   have hY:Q.heap.size<wc.heap.size:=JC dr
   have il:b<wc.heap.size:=JC bs
   have i8:bo<wc.heap.size:=by omega
   have cs:M1≠Q.heap.size:=by have:=HW.out.size;have:=JC bz.out;omega
   have fd:M2≠Q.heap.size:=by have:=HW.out.size;have:=JC bz.out;omega
   have b7:o.length=N:=by rw [i3.out,fi,g9]
   have he:lo+H+r≤N:=by omega
   have id:k<sz.length:=by omega
   have kf:¬(N=lo):=by omega
   have kn:lo+H≤N:=by omega
   have kb:(lo:Int)+H≤N:=by omega
   have kc:((lo:Int)+H).toNat=lo+H:=by omega
   have kx:(0:Int)≤(lo:Int)+H:=by omega
   have kj:(lo:Int)≤(lo:Int)+H:=by omega
   obtain ⟨ky,bi,kq,go,hC,hV,av,gR⟩:=ak ao bn bs dr ab bI d1 dk;obtain ⟨ey,eU,eY,a5,R,bG,hq,HB⟩:=ak e7 d3 cO hr b0 X bA hB;obtain ⟨O,k0,gI,WV,a4,gV,hp,ih⟩:=ak b7 bh a6 ci a7 bw d4 bU;clear ao bn bs dr ab bI d1 dk e7 d3 cO hr b0 X bA hB b7 bh a6 ci a7 bw d4 bU gp c7 pv a1 Y Z g9 fi n0 n1 n3 nf mf
   go_wp2_with fail
   have C:(fun u:World=>u.cell? ⟨M1,0,none⟩=some (KL lo)∧u.cell? ⟨M1,1,none⟩=some (KL ((lo:Int)+H))∧u.cell? ⟨bo,oo+k,none⟩=some (.slice Ak c0 ck)∧u.cell? ⟨b,2,none⟩=some (KL q)) wc.drew:=⟨m0,m1,d2,n2⟩
   refine HA.g (fun u:World=>u.cell? ⟨M1,0,none⟩=some (KL lo)∧u.cell? ⟨M1,1,none⟩=some (KL ((lo:Int)+H))∧u.cell? ⟨bo,oo+k,none⟩=some (.slice Ak c0 ck)∧u.cell? ⟨b,2,none⟩=some (KL q)) ?_
   refine HA.t ?_ [0,1,2,3,4,5,6,7,8,9,10,11,12,13,14] C ?_
   refine HA.o 15 (fun K hK=>?_)
   go_simp
   refine (hV.out _ ((JG wc.heap.size wc).drew)).mono ?_
   rintro e w5 ⟨A5,rfl,bb,a8⟩
   have ez:=JL (am a8 C.1) (JL (am a8 C.2.1) (JL (am a8 C.2.2.1) (am a8 C.2.2.2)))
   have aG:Below wc.heap.size wc w5:=(JG wc.heap.size wc).drew.trans a8
   have f5:=(aG.block _ hY).trans go.out
   have bb:=Rd.own bb
   obtain ⟨gc,hf,ad⟩:=af f5 bb aG;clear f5 bb a8 aG C
   dsimp only
   refine hK.out _ _ ez (fun C=>?_)
   clear hK K ez
   refine HA.o 16 (fun K hK=>?_)
   go_simp
   refine hK.out _ _ C (fun C=>?_)
   clear hK K
   refine HA.o 17 (fun K hK=>?_)
   refine xx (.tmp 58) (.tmp 69) 64 64 rfl rfl 2 Tryz.underlying64 (by kernel_rfl) (some ⟨Q.heap.size,lo,none⟩) A5 H (N-lo) H rfl rfl Q.heap.size lo (aq .i64 o) 2 gc.out (aq .i64 ow) (by rw [a9,av.out]) (fun _=>rfl) hf.out (by rw [a9,a9,av.out,O.out];omega) (bP _ _) ?_
   intro w6 ea T
   rw [jB] at ea
   have f2:=JL (T.cell C.1 (by exact cs)) (JL (T.cell C.2.1 (by exact cs)) (JL (T.cell C.2.2.1 (show bo≠_ by omega)) (T.cell C.2.2.2 (show b≠_ by omega))))
   have a2:=(T.block M2 (JC ((ad.out.block _ (JC bi.out)).trans bi.out)) fd).trans ((ad.out.block _ (JC bi.out)).trans bi.out)
   obtain ⟨gU,d7⟩:=ae ea T;clear ea T C
   dsimp only
   refine hK.out _ _ f2 (fun C=>?_)
   clear hK K f2
   refine HA.d ?_
   have eX:w6.ownsRow w.heap.size 2 1 (.slice A9 r c9) r (aq .i64 ev):=d7.out.own (ap hC.out ad.out) (fun i hi e=>by
    cases A9 with
    | none=>cases hi
    | some a=>simp [Value.ownBlock] at hi;exact eM.out a rfl (hi.trans e))
   have eb:=C.2.2.2
   have es:=C.2.2.1
   obtain ⟨⟨hO,gf⟩,hX⟩:=bx2 a2
   have ia:=JC a2
   obtain ⟨g7,i7⟩:=ae eX a2;clear eX a2 C m0 m1 d2 n2
   have jA:¬(N=lo+H):=by omega
   have io:lo+H+r≤N:=by omega
   have k6:(lo:Int)+H+r≤N:=by omega
   have k3:((lo:Int)+H+r).toNat=lo+H+r:=by omega
   have kt:(0:Int)≤(lo:Int)+H+r:=by omega
   have kk:(lo:Int)+H≤(lo:Int)+H+r:=by omega
   have gx:=aa (show (aq .i64 ev).length=r by rw [a9,a4.out])
   obtain ⟨gg,gJ⟩:=ae (show lo+H+(aq .i64 ev).length≤(aq .i64 (splice o lo ow)).length by rw [a9,a9,a4.out,length_splice _ _ _ (by rw [av.out,O.out];omega),O.out];omega) (show (Tryz.prog.info? 2).map (·.size)=some 1 by kernel_rfl)
   go_wp2_with (refine nd rfl (.tmp 76) (.tmp 77) 64 64 rfl 2 Tryz.underlying64 gJ.out (some ⟨Q.heap.size,lo+H,none⟩) A9 r (N-(lo+H)) c9 rfl rfl Q.heap.size (lo+H) (aq .i64 (splice o lo ow)) 2 gU.out (aq .i64 ev) gx.out (fun _=>rfl) (Rd.own g7.out) gg.out (bP _ _) ?_)
   intro w7 bM b9
   rw [jB] at bM
   obtain ⟨o7,bX⟩:∃o7,splice (splice o lo ow) (lo+H) ev=o7:=⟨_,rfl⟩
   have fc:o7.length=N:=by
    have h1:(splice o lo ow).length=N:=by rw [length_splice _ _ _ (by rw [av.out,O.out];omega),O.out]
    rw [←bX,length_splice _ _ _ (by rw [h1,a4.out];omega),h1]
   have ew:o7.drop (aZ sz k)=nN sz ps q x y (n-k):=by
    have e1:=Hn.out
    have e2:=tT (o:=o) (W:=ow) (D:=ev) (lo:=lo) (by rw [av.out,a4.out,O.out];exact he)
    rw [av.out,a4.out,bX] at e2
    rw [eY.out,e2,show n-k=(n-1-k)+1 by omega]
    have e3:aZ sz (k+1)=lo+H+r:=by
     rw [←eP sz k,show cW sz k=aZ sz k+szN sz (k+1)*szN sz k from rfl,eY.out,a5.out,R.out,bG.out]
    have e4:=gd.out
    rw [e3,hp.out] at e4
    rw [nN,show sz.length-1-(n-1-k)=k+1 by omega,show sz.length-2-(n-1-k)=k by omega,a5.out,R.out,ey.out,eU.out,gR.out,←e4]
   have cr:Below Q.heap.size Q w7:=hq.out.trans (((ad.out.mono (by omega)).trans (d7.out.toBelow (by have:=ad.out.size;omega) (fun i hi=>by omega))).trans (b9.toBelow (by have:=d7.out.size;have:=ad.out.size;omega) (fun i hi=>by omega)))
   rw [bX] at bM
   have fr:=b9.own g7.out (fun i hi e=>by
    cases A9 with
    | none=>cases hi
    | some a=>simp [Value.ownBlock] at hi;exact eM.out a rfl (hi.trans e))
   have h8:=b9.cell eb (show b≠_ by omega)
   have f7:=b9.cell es (show bo≠_ by omega)
   obtain ⟨cy,e6,eG,a0,gS⟩:=ah bM fc ew cr fr;clear bM fc ew cr fr bX b9 eb es hO gf hX
   by_cases dT:k=0
   ·have cx:((k:Int)==0)=true:=by simp [dT]
    have co:w7.ownsRow w.heap.size 2 1 (.slice (some ⟨Q.heap.size,0,none⟩) N N) N (aq .i64 (gD sz ps q x y)):=by
     have e1:=eG.out
     rw [dT] at e1
     have e2:o7=gD sz ps q x y:=by rw [gG.out,←Nat.sub_zero n,←e1];rfl
     have e3:=EL (base:=w.heap.size) (xs:=aq .i64 o7) (by exact cy.out) aP (by rw [a9,e6.out];unfold maxLen;omega)
     rw [a9,e6.out] at e3
     rw [←e2];exact e3
    have f0:=aa co;clear co dT
    have L:=Hb.out.trans (a0.out.mono aP)
    have eS:=aa L;clear L
    go_wp2_with fail
    try rw [Exit.noGoto_ret]
    go_ret2
    exact ⟨_,_,rfl,f0.out,eS.out⟩
   ·have cx:((k:Int)==0)=false:=by simp;omega
    obtain ⟨gl,ol,dl,Bl,el,hcs,hd,eV,gy⟩:=H6.out k (by omega)
    have b5:k<b6.length:=by rw [H4.out];omega
    have cd:∀t,t<4→(List.flatten b6)[k*4+t]?=(bq b6 k)[t]?:=fun t ht=>lD H5.out k t b5 ht
    have e0:=cd 0 (by omega);have e1:=cd 1 (by omega);have e2:=cd 2 (by omega)
    rw [hcs] at e0 e1 e2
    simp only [Nat.add_zero,Kb,Ka] at e0 e1 e2
    obtain ⟨bl,ob,gk,q0⟩:=H3.out _ _ e0
    obtain ⟨_,_,b2,q1⟩:=H3.out _ _ e1
    obtain ⟨_,_,b4,q2⟩:=H3.out _ _ e2
    subst gk
    injection b2 with b2;injection b2 with i1 i2 _;subst i1;subst i2
    injection b4 with b4;injection b4 with i1 i2 _;subst i1;subst i2
    have d6:bl<w.heap.size:=ar q0
    have L:=Hb.out.trans (a0.out.mono aP)
    have dG:=(L.cell (p:=⟨bl,ob+k*4,none⟩) d6).trans q0
    have be:=(L.cell (p:=⟨bl,ob+(k*4+1),none⟩) d6).trans q1
    have cc:=(L.cell (p:=⟨bl,ob+(k*4+2),none⟩) d6).trans q2
    rw [←Ky] at be cc
    rw [a5.out] at dG
    rw [R.out] at be
    rw [a5.out,R.out,bG.out] at cc hd
    have eq:=(L.block b ei).trans H0.out
    obtain ⟨⟨n0,n1,n2,n3⟩,nf⟩:=bx4 eq
    have aR:=xn sz ps k
    rw [a5.out,R.out,bG.out] at aR
    have b3:=Ch r c0 gl ol H dl (wL sz ps k) A9 ev c9 q w7.drew ⟨z1.1,z1.2.1⟩ ⟨z0.1,z0.2.1⟩ bG.out.symm hd (by omega) aR ((eV.below L).drewN 1) (C8 WP.out sz k) ((Rd.own gS.out).drewN 1) a4.out gV.out
    have k2:k<n:=by omega
    obtain ⟨hQ,eS⟩:=ae b3 L;clear b3 L eq aR eV gy hcs e0 e1 e2 q0 q1 q2 cd b5 hd
    go_wp2_with fail
    go_region_held3 (fun u=>u.cell? ⟨b,3,none⟩=some (.slice (some ⟨bl,ob,none⟩) n cl)∧u.cell? ⟨bl,ob+k*4,none⟩=some (KL r)∧u.cell? ⟨bl,ob+k*4+1,none⟩=some (KL c0)∧u.cell? ⟨bl,ob+k*4+2,none⟩=some (.slice (some ⟨gl,ol,none⟩) H dl)∧u.cell? ⟨b,2,none⟩=some (KL q)) (simp [go_sem, *])
     ((go_at_call 179;refine hQ.out.mono ?_;rintro e w8 ⟨A8,c8,rfl,a3,J⟩;have g0:=am J n3;have g1:=am J dG;have g2:=am J be;have g3:=am J cc;have g4:=am J n2;have g5:=am J f7;obtain ⟨hF,h9⟩:=ae a3 J;clear a3 J))
    go_wp2_with fail
    have aM:=pq (wL sz ps k) r c0 ev q
    obtain ⟨bk,b1⟩:∃bk,mC (wL sz ps k) r c0 ev q=bk:=⟨_,rfl⟩
    have a3:=ax (base':=w7.heap.size) hF.out (by simp)
    rw [b1] at aM a3
    obtain ⟨cw,fn,f3⟩:=af aM a3 b1
    have J:=(JG w7.heap.size w7).drew.trans h9.out
    have hh:=aa J;clear aM a3 b1 J g0 g1 g2 g3 g4 g5 n0 n1 n2 n3 nf f7 dG be cc h8 cx
    go_loopw [103] (fun i wx=>∃j:Nat,j≤c0∧i=KL j∧wx.ownsRow w7.heap.size 2 1 (.slice A8 c0 c8) c0 (aq .i64 (jC bk j (fun i=>if 0<nth vv i then nth bk i else 0)))∧Below w7.heap.size w7 wx) (fun i _=>c0-(intOf i).toNat)
    case atStart=>exact ⟨0,JH _,rfl,by rw [gP];exact fn.out,hh.out⟩
    case round=>
     obtain ⟨j,hj,rfl,I,b8⟩:=hrel
     by_cases da:j<c0
     ·obtain ⟨g8,d8,ej,gT,_⟩:=I.form (by omega)
      simp only [Ku] at ej
      obtain ⟨rfl,gs,rfl⟩:=ej
      clear gs
      have e5:j<bk.length:=by rw [cw.out];exact da
      have p1:=cq I da
      rw [fN _ e5,if_neg (by omega)] at p1
      have f1:=I.frozenAt j
      have f6:=iQ (l:=bk) (k:=j) (fun i=>if 0<nth vv i then nth bk i else 0) e5
      obtain ⟨bv,ov,rfl,k4⟩:=((gZ.out.below a0.out).below b8).num (show j<vv.length by rw [gI.out];exact da)
      obtain ⟨HO,bf,gz⟩:=af I b8 f6;clear I b8 f6 e5
      go_wp2_with fail
      refine (EK _ _ _).mono ?_
      rintro e w9 ⟨rfl,rfl⟩
      go_wp2_with fail
      go_roundw
      case rel=>exact ⟨j+1,by omega,by go_num,by rw [←gz.out];exact dA HO.out j _,bf.out.setCell (p:=⟨g8,j,none⟩) gT _⟩
      case measure=>simp [intOf];omega
     ·obtain rfl:j=c0:=by omega
      obtain ⟨HO,bf⟩:=ae I b8;clear I b8
      have eu:IntKind.i64.wrap ((k:Int)-1)=((k-1:Nat):Int):=by rw [JI _ (by omega)];omega
      have cj:(k:Int)-1=((k-1:Nat):Int):=by omega
      rw [cj] at eu
      go_wp2_with fail
      clear eu cj
      go_roundw
      case rel=>
       have ek:k-1+1=k:=by omega
       have en:=Hn.out
       have hD:Q.heap.size<w7.heap.size:=JC cy.out
       have i6:fC sz ps q x y (sz.length-2-(k-1))=jC bk j (fun i=>if 0<nth vv i then nth bk i else 0):=by
        rw [show sz.length-2-(k-1)=(n-1-k)+1 by omega,fC,show sz.length-2-(n-1-k)=k by omega,show sz.length-1-(n-1-k)=k+1 by omega,ey.out,eU.out,a5.out,R.out,f3.out]
        rw [←cw.out,iR]
        rfl
       refine ⟨k-1,by omega,rfl,A8,c8,o7,?_,?_,?_,?_,?_,?_,?_⟩
       ·rw [ek,R.out]
       ·rw [ek,R.out,i6];exact ax HO.out (by omega)
       ·exact (bf.out.block _ hD).trans cy.out
       ·rw [e6.out,en,HN.out]
       ·rw [ek,eG.out,show sz.length-2-(k-1)=n-k by omega]
       ·intro a ha e9
        have:=(HO.out.lt a.block (by rw [ha];rfl)).1
        omega
       ·exact a0.out.trans (bf.out.mono (by omega))
      case measure=>simp [intOf];omega
end Go.Proofs.YtaccfnffmbndhaaGreat
