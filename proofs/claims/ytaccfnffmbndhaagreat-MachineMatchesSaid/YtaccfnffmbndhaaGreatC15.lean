/- No condition. -/
import Derived.Test.YtaccfnffmbndhaaGreatC00
import Derived.Test.YtaccfnffmbndhaaGreatProg
import Derived.Test.YtaccfnffmbndhaaGreatC01
import Derived.BigQuiet
import Derived.Deep.QuietTactic
import Derived.Test.YtaccfnffmbndhaaGreatC10
import Derived.Test.YtaccfnffmbndhaaGreatC12
import Derived.Test.YtaccfnffmbndhaaGreatC14
import Derived.Test.YtaccfnffmbndhaaGreatC11
import Derived.Test.YtaccfnffmbndhaaGreatC08
import Derived.IntWalk
set_option linter.unusedSimpArgs false
set_option linter.unusedVariables false
set_option maxRecDepth 100000
set_option maxHeartbeats 4000000
namespace Go.Proofs.YtaccfnffmbndhaaGreat
open Go.RowKit
def FO (i j:List Int) (e:Ending):Prop:=∃d:Int,e=.returned (KL d)∧ -1≤d∧(d<0↔i=j)
theorem yX (A1 y:Option Addr) (j o:List Int) (c1 c2:Nat) (w:World) (h1:Rd w A1 (aq .i64 j)) (D:Rd w y (aq .i64 o)) (O:j.length≤17592186043904) (I:o.length≤17592186043904):
  Calls Tryz.prog 76 #[.slice A1 j.length c1,.slice y o.length c2] w fun e A=>FO j o e∧∃n,A=w.drewN n:=by
 go_enter Tryz.func76,Tryz.ntmps76
 go_wp2
 go_loopw [5] (fun i wr=>∃k:Nat,k≤j.length∧k≤o.length∧i=KL k∧j.take k=o.take k∧∃n,wr=w.drewN n) (fun i _=>j.length+o.length+1-(intOf i).toNat)
 case atStart=>exact ⟨0,JH _,JH _,rfl,rfl,0,rfl⟩
 case round=>
  obtain ⟨k,C,B,rfl,v,n,rfl⟩:=hrel
  have u:=aa v;clear v
  by_cases q:k<j.length
  ·by_cases p:k<o.length
   ·obtain ⟨R,U,rfl,Q⟩:=h1.num q
    obtain ⟨V,T,rfl,L⟩:=D.num p
    have J:decide ((j.length:Int)≤(k:Int))=false:=by simp;omega
    have H:decide ((o.length:Int)≤(k:Int))=false:=by simp;omega
    go_wp2
    go_quiet (fail)
    go_wp2
    ·have hx:(j.length≤k∨o.length≤k)∨(nth j k != nth o k)=true:=by assumption
     have hx:(nth j k != nth o k)=true:=hx.resolve_left (by omega)
     have x:=aa hx;clear hx
     go_ret
     refine ⟨⟨k,rfl,by omega,fun h=>by omega,fun h=>?_⟩,_,World.drewN_drewN _ _ _⟩
     subst h
     have:=x.out
     simp at this
    ·have hx:(¬j.length≤k∧¬o.length≤k)∧(nth j k != nth o k)=false:=by assumption
     have hx:=hx.2
     have x:=aa hx;clear hx
     go_roundw
     case rel=>exact ⟨k+1,by omega,by omega,by go_num,np q p u.out (by have:=x.out;simpa using this),_,rfl⟩
     case measure=>simp [intOf];omega
   ·have J:decide ((j.length:Int)≤(k:Int))=false:=by simp;omega
    have H:decide ((o.length:Int)≤(k:Int))=true:=by simp;omega
    go_wp2
    go_quiet (fail)
    go_wp2
    go_ret
    refine ⟨⟨k,rfl,by omega,fun h=>by omega,fun h=>?_⟩,_,by first | rfl | exact World.drewN_drewN _ _ _⟩
    subst h;omega
  ·by_cases p:k<o.length
   ·obtain rfl:k=j.length:=by omega
    go_wp2
    go_quiet (fail)
    go_wp2
    go_ret
    refine ⟨⟨j.length,rfl,by omega,fun h=>by omega,fun h=>?_⟩,_,by first | rfl | exact World.drewN_drewN _ _ _⟩
    subst h;omega
   ·go_wp2
    go_ret
    refine ⟨⟨-1,rfl,by omega,fun _=>?_,fun _=>by omega⟩,n,rfl⟩
    have N:k=j.length:=by omega
    exact rD (by omega) (by rw [←N];exact u.out)
theorem ns (A1 u:Option Addr) (o p:List Int) (c1 c2:Nat) (w:World) (h1:Rd w A1 (aq .i64 o)) (y:Rd w u (aq .i64 p)) (v:o.length≤17592186043904) (q:p.length≤17592186043904):
  Calls Tryz.prog 25 #[.slice A1 o.length c1,.slice u p.length c2] w fun e x=>e=.returned (.bool (decide (o=p)))∧∃n,x=w.drewN n:=by
 have j:=yX A1 u o p c1 c2 w h1 y v q
 have B:=aa j;clear j
 go_enter Tryz.func25,Tryz.ntmps25
 go_wp2_with fail
 refine B.out.mono ?_
 rintro e C ⟨⟨d,rfl,A,i⟩,n,rfl⟩
 by_cases j:d<0
 ·have h:=i.1 j
  have H:=aa h;clear h i
  go_wp2
  go_ret
  exact ⟨cP (by rw [KA H.out];first | done | simpa using j),n,rfl⟩
 ·have h:¬o=p:=fun e=>j (i.2 e)
  have H:=aa h;clear h i
  go_wp2
  go_ret
  exact ⟨cP (by rw [KD H.out];first | done | simpa using j),n,rfl⟩
theorem qu (A1 j u v:Option Addr) (p m U R:List Int) (c1 c2 o i:Nat) (w:World) (h1:bD w A1 p c1) (h2:bD w j m c2) (h3:bD w u U o) (h4:bD w v R i):
  Calls Tryz.prog 55 #[.agg #[.slice A1 p.length c1,.slice j m.length c2],.agg #[.slice u U.length o,.slice v R.length i]] w fun e x=>e=.returned (.bool (decide (p=U)&&decide (m=R)))∧Below w.heap.size w x:=by
 have I:=fun x (q:Below w.heap.size w x)=>ns A1 u p U c1 o x (h1.hr.below q) (h3.hr.below q) h1.hl h3.hl
 have J:=fun x (q:Below w.heap.size w x)=>ns j v m R c2 i x (h2.hr.below q) (h4.hr.below q) h2.hl h4.hl
 obtain ⟨b1,Q⟩:∃b1,decide (p=U)=b1:=⟨_,rfl⟩
 obtain ⟨b2,N⟩:∃b2,decide (m=R)=b2:=⟨_,rfl⟩
 obtain ⟨T,B⟩:∃n,p.length=n:=⟨_,rfl⟩
 obtain ⟨V,O⟩:∃n,m.length=n:=⟨_,rfl⟩
 obtain ⟨Z,D⟩:∃n,U.length=n:=⟨_,rfl⟩
 obtain ⟨Y,H⟩:∃n,R.length=n:=⟨_,rfl⟩
 rw [Q,B,D] at I
 rw [N,O,H] at J
 rw [Q,N,B,O,D,H]
 obtain ⟨a0,a1⟩:=ae I J;clear I J Q N B O D H h1 h2 h3 h4
 go_enter Tryz.func55,Tryz.ntmps55
 go_wp2_with fail
 have hz:=(JP (w.alloc (.cells #[.slice A1 T c1,.slice j V c2] 39)) (.cells #[.slice u Z o,.slice v Y i] 39) w.heap.size (by simp)).trans (JE w _)
 have hy:=JE (w.alloc (.cells #[.slice A1 T c1,.slice j V c2] 39)) (.cells #[.slice u Z o,.slice v Y i] 39)
 rw [show (w.alloc (.cells #[.slice A1 T c1,.slice j V c2] 39)).heap.size=w.heap.size+1 by simp] at hy
 have hB:Below w.heap.size w ((w.alloc (.cells #[.slice A1 T c1,.slice j V c2] 39)).alloc (.cells #[.slice u Z o,.slice v Y i] 39)):=((JG _ w).alloc (JD _) _).alloc (by simp) _
 obtain ⟨X,hW0⟩:∃X,X=(w.alloc (.cells #[.slice A1 T c1,.slice j V c2] 39)).alloc (.cells #[.slice u Z o,.slice v Y i] 39):=⟨_,rfl⟩
 rw [←hW0] at hz hy hB ⊢
 clear hW0
 refine (a0.out _ hB).mono ?_
 rintro e w1 ⟨rfl,d,rfl⟩
 have y:=JN hB d
 have C:(X.drewN d).heap[w.heap.size]?=some (.cells #[.slice A1 T c1,.slice j V c2] 39 (0,0)):=hz
 have A:(X.drewN d).heap[w.heap.size+1]?=some (.cells #[.slice u Z o,.slice v Y i] 39 (0,0)):=hy
 clear hz hy hB
 generalize X.drewN d=W1 at C A y ⊢
 obtain ⟨⟨z0,z1⟩,zf⟩:=bx2 C
 obtain ⟨⟨y0,y1⟩,yf⟩:=bx2 A
 have L:=aa y;clear C A y
 rcases dB b1 with rfl | rfl
 ·go_wp2_with fail
  go_ret
  exact ⟨rfl,L.out⟩
 go_wp2_with fail
 refine (a1.out _ L.out).mono ?_
 rintro e w2 ⟨rfl,i,rfl⟩
 go_wp2_with fail
 go_ret
 exact ⟨by simp,JN L.out i⟩
theorem ip:dq Tryz.prog 26 2 (KL 0) 1 8:=⟨Tryz.underlying26,info_parts (by kernel_rfl),rfl,by decide⟩
theorem xI (A:Option Addr) (n c:Nat) (w:World) (hn:n≤1048576):
  Calls Tryz.prog 52 #[.slice A n c] w fun e H=>∃U,e=.returned (.agg #[.slice A n c,.slice U n n])∧H.ownsRow w.heap.size 2 1 (.slice U n n) n (aq .i64 (List.replicate n 0))∧Below w.heap.size w H:=by
 have p:=fun H=>j8 ip H rfl n (by omega) (by unfold maxLen;omega)
 simp only [dS] at p
 have O:=aa p;clear p
 have L:=JE w (.cells #[KN,KN] 39)
 have C:Below w.heap.size w (w.alloc (.cells #[KN,KN] 39)):=(JG _ w).alloc (JD _) _
 have x:=JC L
 obtain ⟨V,B,u,q⟩:=O.out (w.alloc (.cells #[KN,KN] 39))
 rw [show (w.alloc (.cells #[KN,KN] 39)).heap.size=w.heap.size+1 by simp] at B u
 obtain ⟨i,y,D⟩:=af ((q.block w.heap.size x).trans L) (ax (base':=w.heap.size) u (by omega)) (C.trans (q.mono (by omega)))
 have o:=i.out
 obtain ⟨⟨z0,z1⟩,zf⟩:=bx2 o
 have Y:=JC o
 clear L C u q o x
 go_enter Tryz.func52,Tryz.ntmps52
 go_wp2_with fail
 have e1:=KG V w.heap.size 0 _ _ (.slice A n c) i.out
 have e2:=KG _ w.heap.size 1 _ _ (.slice (some ⟨w.heap.size+1,0,none⟩) n n) e1
 have R:((V.setCell ⟨w.heap.size,0,none⟩ (.slice A n c)).setCell ⟨w.heap.size,1,none⟩ (.slice (some ⟨w.heap.size+1,0,none⟩) n n)).heap[w.heap.size]?=some (.cells #[.slice A n c,.slice (some ⟨w.heap.size+1,0,none⟩) n n] 39 (0,0)):=by simpa using e2
 have I:Keep (fun j=>j=w.heap.size) V ((V.setCell ⟨w.heap.size,0,none⟩ (.slice A n c)).setCell ⟨w.heap.size,1,none⟩ (.slice (some ⟨w.heap.size+1,0,none⟩) n n)):=Keep.setCell (S:=fun j=>j=w.heap.size) (Keep.setCell (S:=fun j=>j=w.heap.size) (Keep.refl _ _) _ (.inr rfl) _) _ (.inr rfl) _
 obtain ⟨Q,J⟩:∃Q,Q=(V.setCell ⟨w.heap.size,0,none⟩ (.slice A n c)).setCell ⟨w.heap.size,1,none⟩ (.slice (some ⟨w.heap.size+1,0,none⟩) n n):=⟨_,rfl⟩
 rw [←J] at R I ⊢
 obtain ⟨⟨Z,X⟩,rf⟩:=bx2 R
 have N:=I.own y.out (fun j T e=>an i.out (by decide) y.out (by rw [T,e]))
 exact JQ (v:=.agg #[.slice A n c,.slice (some ⟨w.heap.size+1,0,none⟩) n n]) (by simp [results,Tryz.results52,go_sem,Z,X]) rfl ⟨_,rfl,N,D.out.trans (I.toBelow D.out.size (fun j T=>by omega))⟩
def dM (w:World) (vs:Array Value) (i:Inp) (x:Nat) (m:Mst):Prop:=∃A c D C T u R I j v o p B q y H IA ic,vs=#[.slice A i.cfg.sizes.length c,KL i.cfg.shift,KL i.cfg.rate,KL i.cfg.mom,KL i.cfg.workers,KL i.cfg.batch,KL i.cfg.micros,KL i.cfg.steps,KL i.cfg.bucket,KL i.cfg.chunk,KL i.cfg.window,KL i.cfg.cap,.slice D i.data.length C,.slice T i.start.length u,.slice R i.draws.length I,KL (x:Nat),.slice j i.start.length v,.slice o i.start.length p,.slice B i.start.length q,.slice y m.rc.length H,.slice IA (dx i x).length ic,KL (aW i x m:Nat)]∧
 gF w A c D T u R i∧bD w j m.P v∧bD w o m.M p∧bD w B m.G q∧cE rEx 2 w y m.rc∧Rd w IA (bH (dx i x))∧m.P.length=i.start.length∧m.M.length=i.start.length∧m.G.length=i.start.length
theorem dM.below {w o:World} {vs:Array Value} {i:Inp} {x:Nat} {m:Mst} (h:dM w vs i x m) (j:Below w.heap.size w o):dM o vs i x m:=by
 obtain ⟨A,c,D,L,T,X,R,I,v,Q,q,B,J,N,Y,V,IA,ic,u,h1,p,O,y,H,U,C⟩:=h
 exact ⟨A,c,D,L,T,X,R,I,v,Q,q,B,J,N,Y,V,IA,ic,u,h1.below j,p.below j,O.below j,y.below j,H.below cY j,U.below j,C⟩
theorem ml {i:Inp} (h:cU i) (x:Nat) {k:Nat} (o:k≤i.cfg.steps.toNat):(kK i x k).length≤48000000:=by
 rw [j0 h.ok]
 have h1:=lZ h.ok x 0
 have j:k≤6:=by have:=h.s;omega
 have:=Nat.mul_le_mul j h1
 omega
theorem nz (n:Nat):W64 (List.replicate n 0):=by
 intro k i
 rw [dI _ _ i];simp
def Jt (i:Inp) (x:Nat) (A:Option Addr) (c:Nat) (D:Option Addr) (T:Option Addr) (p:Nat) (R:Option Addr) (w:World) (e:Ending) (o:World):Prop:=
 ∃vs,e=.returned (.tuple #[.agg vs,KL 0])∧vs.size=22∧(vs.toList.all (·.oneCell')=true)∧Below w.heap.size w o∧∀j,Keep (fun k=>k<w.heap.size) o j→gF j A c D T p R i→dM j vs i x (gw i)
theorem EE (l:List Itm):∀u∈bH l,u.oneCell'=true:=by
 intro u hu
 unfold bH at hu
 obtain ⟨x,_,hx⟩:=List.mem_flatMap.1 hu
 obtain ⟨k,s,n,a⟩:=x
 cases a<;>simp only [aN,FL,aT,List.mem_cons,List.not_mem_nil,or_false] at hx<;>(repeat (first | (rcases hx with rfl | hx; · rfl) | (subst hx;rfl)))
theorem Iy {A:Option Addr} {c:Nat} {D:Option Addr} {U:Nat} {T:Option Addr} {p:Nat} {R:Option Addr} {N:Nat} {i:Inp} {x:Nat} {w H o:World} {B:Option Addr} {g rb:Nat} {v:Value} (hn:i.start.length≤60) (L:Keep (fun k=>k<w.heap.size) H o) (hI:gF o A c D T p R i)
  (oM:H.ownsRow w.heap.size 2 1 (.slice B i.start.length i.start.length) i.start.length (aq .i64 (List.replicate i.start.length 0))) (oG:H.ownsRow w.heap.size 2 1 (.slice (some ⟨g,0,none⟩) i.start.length i.start.length) i.start.length (aq .i64 (List.replicate i.start.length 0)))
  (hr:H.heap[rb]?=some (.cells #[.slice T i.start.length p,.slice B i.start.length i.start.length] 39 (0,0))) (Y:w.heap.size≤rb) (Q:H.ownsRow w.heap.size 136 12 v (dx i x).length (bH (dx i x))):dM o #[.slice A i.cfg.sizes.length c,KL i.cfg.shift,KL i.cfg.rate,KL i.cfg.mom,KL i.cfg.workers,KL i.cfg.batch,KL i.cfg.micros,KL i.cfg.steps,KL i.cfg.bucket,KL i.cfg.chunk,KL i.cfg.window,KL i.cfg.cap,.slice D i.data.length U,.slice T i.start.length p,.slice R i.draws.length N,KL (x:Nat),.slice T i.start.length p,.slice B i.start.length i.start.length,.slice (some ⟨g,0,none⟩) i.start.length i.start.length,.slice (some ⟨rb,0,none⟩) 1 1,v,KL 0] i x (gw i):=by
 obtain ⟨IA,ic,rfl,_⟩:=aw Q
 have C:∀{u:Value} {e size n xs},H.ownsRow w.heap.size e size u n xs→o.ownsRow w.heap.size e size u n xs:=fun h=>L.own h fun k X e=>by have:=(h.lt k X).1;omega
 have V:aW i x (gw i)=0:=by simp [aW,gw]
 have q:(List.replicate i.start.length (0:Int)).length≤i.start.length:=by simp
 have O:bD o B (List.replicate i.start.length 0) i.start.length:=⟨q,by rw [Km];omega,Rd.own (C oM),nz _⟩
 have I:o.heap[rb]?=some (.cells #[.slice T i.start.length p,.slice B i.start.length i.start.length] 39 (0,0)):=(L.block _ (JC hr) (by omega)).trans hr
 refine ⟨A,c,D,U,T,p,R,N,T,p,B,i.start.length,some ⟨g,0,none⟩,i.start.length,some ⟨rb,0,none⟩,1,IA,ic,?_,hI,hI.t,O,⟨q,by show (List.replicate i.start.length (0:Int)).length≤_;rw [Km];omega,Rd.own (C oG),nz _⟩,?_,Rd.own (C Q),rfl,by simp [gw],by simp [gw]⟩
 ·rw [V];rfl
 ·refine ⟨[[.slice T i.start.length p,.slice B i.start.length i.start.length]],fun k u hu=>⟨_,_,rfl,by rw [Kz,JF _ rb k _ _ _ I];simpa using hu⟩,rfl,by simp,?_⟩
  intro j y J
  cases j with
  | succ j=>simp [gw] at J
  | zero=>
   simp only [gw,Kb,Option.some.injEq] at J
   subst J
   exact ⟨T,p,B,i.start.length,by simp [bq],hI.t,O⟩
theorem Ix {i V o:World} {n g rb b:Nat} {X:Obj} {Z:Array Value} {xs:List Value} (x:Below i.heap.size i V) (v:V.ownsRow i.heap.size 2 1 (.slice (some ⟨g,0,none⟩) n n) n xs) {Y:Array Value} (hr:V.heap[rb]?=some (.cells Y 39 (0,0))) (B:i.heap.size≤rb)
  (u:V.heap[b]?=some (.cells Z 43 (0,0))) (p:i.heap.size≤b) (C:o.heap[b]?=some X) (q:Keep (fun j=>j=b) V o):o.heap[b]?=some X∧o.ownsRow i.heap.size 2 1 (.slice (some ⟨g,0,none⟩) n n) n xs∧o.heap[rb]?=some (.cells Y 39 (0,0))∧i.heap.size≤rb∧i.heap.size≤b∧Below i.heap.size i o:=by
 refine ⟨C,q.own v (fun k y e=>an u (by decide) v (by rw [y,e])),(q.block _ (JC hr) (fun e=>?_)).trans hr,B,p,x.trans (q.toBelow x.size (fun j A=>by rw [A];exact p))⟩
 rw [←e,hr] at u
 simp at u
theorem xV (A:Option Addr) (c:Nat) (D:Option Addr) (cd:Nat) (T:Option Addr) (B:Nat) (R:Option Addr) (Z:Nat) (i:Inp) (x:Nat) (w:World) (h:gF w A c D T B R i) (hs:cU i) (hx:x<(aE i).W):
  Calls Tryz.prog 13 #[.agg (aH A c D cd T B R Z i),KL (x:Nat)] w (Jt i x A c D T B R w):=by
 have hc:=hs.g.c
 have ew:(((aE i).W:Nat):Int)=i.cfg.workers:=by have:=hc.w;simp only [aE];omega
 have em:(((aE i).mi:Nat):Int)=i.cfg.micros:=by have:=hc.mi;simp only [aE];omega
 have eu:(((aE i).bu:Nat):Int)=i.cfg.bucket:=by have:=hc.bu;simp only [aE];omega
 have ec:(((aE i).ck:Nat):Int)=i.cfg.chunk:=by have:=hc.ch;simp only [aE];omega
 have ei:(((aE i).wi:Nat):Int)=i.cfg.window:=by have:=hc.wi;simp only [aE];omega
 have en:(aE i).n=i.start.length:=rfl
 obtain ⟨s,a4⟩:∃s:Nat,i.cfg.steps=(s:Int):=⟨i.cfg.steps.toNat,by have:=hc.st;omega⟩
 have bb:i.cfg.steps.toNat=s:=by omega
 have bA:s≤6:=by have:=hs.s;omega
 have hn:=hs.n
 have bN:¬i.cfg.workers≤(x:Int):=by omega
 have bM:¬(x:Int)<0:=by omega
 have a2:=fun k (hk:k≤s)=>ml hs x (k:=k) (by omega)
 have b9:=fun st=>lZ hs.ok x st
 have N:=fun p=>xI T i.start.length B p (by omega)
 have Y:=fun p=>jw A i.cfg.sizes.length c i.cfg.shift i.cfg.rate i.cfg.mom i.cfg.workers i.cfg.batch i.cfg.micros i.cfg.steps i.cfg.bucket i.cfg.chunk i.cfg.window i.cfg.cap D i.data.length cd T i.start.length B R i.draws.length Z p
 have I:=fun k (hk:k<s) p=>AS (aE i) k s x A i.cfg.sizes.length c i.cfg.shift i.cfg.rate i.cfg.mom i.cfg.batch i.cfg.cap p hs.ok (by have:=hc.bu;simp only [aE];omega) (by have:=hc.wi;simp only [aE];omega) hx hk
 rw [←a4] at I
 simp only [ew,em,eu,ec,ei,en] at I
 have bw:(x:Int)≤1048576:=by have:=hc.w;omega
 obtain ⟨W0,W1,hW0,aP,g0,g1,k1, -⟩:=eE w (aH A c D cd T B R Z i) KP 29 43
 have a7:=kg A c D cd T B R Z i W1 (h.below k1)
 rw [qe.2 hs.g] at a7
 obtain ⟨b6,b4,bf,G0,G1,K1,a0,a5⟩:=ak hW0 aP a7 g0 g1 k1 N Y;obtain ⟨a6,ao,bO,HT,a8,Hh,Hc⟩:=aj I a2 b9 bb a4 h hc
 have t4:∀p,Below W1.heap.size W1 p→p.cell? ⟨w.heap.size,4,none⟩=some (KL i.cfg.workers):=fun p q=>JF p w.heap.size 4 _ _ _ (sb g0 p q)
 have a3:∀p,Below W1.heap.size W1 p→p.cell? ⟨w.heap.size,13,none⟩=some (.slice T i.start.length B):=fun p q=>JF p w.heap.size 13 _ _ _ (sb g0 p q)
 have tl:=sl g0
 have q0:=br W1
 clear hW0 aP g0 g1 a7 h k1 N Y I a2 b9 bb a4 ew em eu ec ei en hs hc
 go_enter Tryz.func13,Tryz.ntmps13
 go_wp2_with (refine aJ (b:=w.heap.size) (aH A c D cd T B R Z i) (by rw [b6.out,b4.out];exact G0.out) gM rfl rfl rfl rfl ?_)
 rw [b6.out,b4.out]
 refine bf.out.mono ?_
 rintro e w1 ⟨rfl,k2⟩
 have q1:=bt q0 k2
 clear k2 q0
 go_wp2_with fail
 refine (a0.out w1).mono ?_
 rintro e w2 ⟨X,rfl,aM,O⟩
 have q2:=bt q1 O
 have O2:=aa (ax aM q1.size);clear aM O q1
 obtain ⟨C,Q⟩:∃C,w2.alloc (.cells #[.slice T i.start.length B,.slice X i.start.length i.start.length] 39)=C:=⟨_,rfl⟩
 have O:Below w2.heap.size w2 C:=by rw [←Q];exact (br w2).alloc (JD _) _
 have g3:C.heap[w2.heap.size]?=some (.cells #[.slice T i.start.length B,.slice X i.start.length i.start.length] 39 (0,0)):=by rw [←Q];exact JE w2 _
 obtain ⟨Q3,bU,G3,O3⟩:=ag (bt q2 O) Q g3 (ap O2.out O)
 go_wp2_with fail
 clear g3 O Q q2
 go_cut [8] (fun v wx=>∃H g rb,v=.pointer (some ⟨H,0,none⟩)∧wx.heap[H]?=some (.cells #[.slice A i.cfg.sizes.length c,KL i.cfg.shift,KL i.cfg.rate,KL i.cfg.mom,KL i.cfg.workers,KL i.cfg.batch,KL i.cfg.micros,KL i.cfg.steps,KL i.cfg.bucket,KL i.cfg.chunk,KL i.cfg.window,KL i.cfg.cap,.slice D i.data.length cd,.slice T i.start.length B,.slice R i.draws.length Z,KL (x:Nat),.slice T i.start.length B,.slice X i.start.length i.start.length,.slice (some ⟨g,0,none⟩) i.start.length i.start.length,.slice (some ⟨rb,0,none⟩) 1 1,KN,KL 0] 43 (0,0))∧wx.ownsRow C.heap.size 2 1 (.slice (some ⟨g,0,none⟩) i.start.length i.start.length) i.start.length (aq .i64 (List.replicate i.start.length 0))∧wx.heap[rb]?=some (.cells #[.slice T i.start.length B,.slice X i.start.length i.start.length] 39 (0,0))∧C.heap.size≤rb∧C.heap.size≤H∧Below C.heap.size C wx)
 case first=>
  have s7:=fun p q=>bx2 (sb G3.out p q)
  have bh:=sl G3.out
  have aR:=fun p (q:Below C.heap.size C p)=>a3 p (bt Q3.out q)
  have bl:=fun p (q:Below C.heap.size C p)=>tl p (bt Q3.out q)
  clear t4 a3 tl
  have q3:Below C.heap.size C C.drew:=(br C).drew
  refine HA.g (fun p:World=>Below C.heap.size C p) ?_
  refine HA.ld 0 (aH A c D cd T B R Z i) (fun p q=>sb G0.out p (bt Q3.out q)) gM q3 ?_
  refine HA.t ?_ [1,2,3,4,5,7] q3 ?_
  obtain ⟨U,hU⟩:∃U,C.drew=U:=⟨_,rfl⟩
  rw [hU] at q3 ⊢
  clear hU
  have q:=q3
  clear q3
  repeat' first
   | (refine HA.three 6 8 10 ?_ ?_ ?_)
   | (refine HA.two 8 10 ?_ ?_)
   | (refine HA.two 6 10 ?_ ?_)
   | (refine HA.two 6 8 ?_ ?_)
   | (refine HA.sole 6 ?_)
   | (refine HA.sole 8 ?_)
   | (refine HA.sole 10 ?_)
   | (obtain ⟨V,hV,oG,L⟩:=j8 ip U rfl i.start.length (by omega) (by unfold maxLen;omega);rw [dS] at oG;replace oG:=ax oG q.size;replace q:=q.trans (L.mono q.size);(try replace gR:=sb gR _ L);(try replace gB:=sb gB _ L);refine HAS.v (i:=6) V (.slice (some ⟨U.heap.size,0,none⟩) i.start.length i.start.length) q ?_;clear hV L;obtain ⟨U,rfl⟩:∃U,U=V:=⟨_,rfl⟩)
   | (have bo:=q.size;have L:=(br U).alloc (JD _) (.cells #[.slice T i.start.length B,.slice X i.start.length i.start.length] 39);have gR:=JE U (.cells #[.slice T i.start.length B,.slice X i.start.length i.start.length] 39);(try replace oG:=ap oG L);(try replace gB:=sb gB _ L);replace q:=q.alloc q.size (.cells #[.slice T i.start.length B,.slice X i.start.length i.start.length] 39);refine HAS.v (i:=8) (U.alloc (.cells #[.slice T i.start.length B,.slice X i.start.length i.start.length] 39)) (.slice (some ⟨U.heap.size,0,none⟩) 1 1) q ?_;obtain ⟨V,hv⟩:∃V,U.alloc (.cells #[.slice T i.start.length B,.slice X i.start.length i.start.length] 39)=V:=⟨_,rfl⟩;rw [hv] at L gR q ⊢;(try rw [hv] at oG);(try rw [hv] at gB);clear hv L;obtain ⟨U,rfl⟩:∃U,U=V:=⟨_,rfl⟩)
   | (have bn:=q.size;have L:=(br U).alloc (JD _) (.cells KP 43);have gB:=JE U (.cells KP 43);(try replace oG:=ap oG L);(try replace gR:=sb gR _ L);replace q:=q.alloc q.size (.cells KP 43);refine HAS.v (i:=10) (U.alloc (.cells KP 43)) (.pointer (some ⟨U.heap.size,0,none⟩)) q ?_;obtain ⟨V,hv⟩:∃V,U.alloc (.cells KP 43)=V:=⟨_,rfl⟩;rw [hv] at L gB q ⊢;(try rw [hv] at oG);(try rw [hv] at gR);clear hv L;obtain ⟨U,rfl⟩:∃U,U=V:=⟨_,rfl⟩)
   | (refine HA.t ?_ [9] q ?_)
   | (refine HA.st 11 gB cI (fun w9 e9 k9=>?_);have F:=Ix q oG gR bo gB bn e9 k9;refine ⟨F.2.2.2.2.2,HA.d ?_⟩;clear s7 bh aR bl e9 k9;have HF:=aa F;clear F;go_wp2_with fail;go_meet;exact ⟨_,_,_,rfl,HF.out⟩)
   | fail
 case rest=>
  obtain ⟨H,g,rb,rfl,h8,oG,hR,c8,bI,hB⟩:=hcut
  have qc:=bt Q3.out hB
  have c6:=tl W1 (br W1)
  have bz:=JC G1.out
  have Q:=Q3.out.size
  have gI:=sb G0.out wc qc
  have kI:=fun p (q:Keep (fun j=>j=H) wc p)=>(q.block w.heap.size (tl wc qc) (by omega)).trans gI
  have j7:∀p,Keep (fun j=>j=H) wc p→p.cell? ⟨w.heap.size,7,none⟩=some (KL i.cfg.steps):=fun p q=>JF p w.heap.size 7 _ _ _ (kI p q)
  have bd:=JC h8
  have gZ:=sb G1.out wc qc
  obtain ⟨H8,OG,HR,HB,KI,GZ⟩:=ai h8 oG hR hB kI gZ
  have bv:=Keep.refl (fun j=>j=H) wc
  have b2:w.heap.size<wc.heap.size:=tl wc qc
  clear t4 a3 tl h8 oG hR hB gI kI gZ qc
  go_wp2_with fail
  clear bv
  go_loopw [9] (fun y wr=>∃k:Nat,k≤s∧y=KL k∧∃v,wr.heap[H]?=some (.cells #[.slice A i.cfg.sizes.length c,KL i.cfg.shift,KL i.cfg.rate,KL i.cfg.mom,KL i.cfg.workers,KL i.cfg.batch,KL i.cfg.micros,KL i.cfg.steps,KL i.cfg.bucket,KL i.cfg.chunk,KL i.cfg.window,KL i.cfg.cap,.slice D i.data.length cd,.slice T i.start.length B,.slice R i.draws.length Z,KL (x:Nat),.slice T i.start.length B,.slice X i.start.length i.start.length,.slice (some ⟨g,0,none⟩) i.start.length i.start.length,.slice (some ⟨rb,0,none⟩) 1 1,v,KL 0] 43 (0,0))∧wr.ownsRow wc.heap.size 136 12 v (kK i x k).length (bH (kK i x k))∧Keep (fun j=>j=H) wc wr) (fun y _=>s-(intOf y).toNat)
  case atStart=>exact ⟨0,JH _,rfl,_,H8.out,by simpa [kK,bH] using JO _ _ _ _,Keep.refl _ _⟩
  case round=>
   obtain ⟨k,hk,rfl,v,e8,oI,qk⟩:=hrel
   by_cases aG:k<s
   ·have be:(k:Int)<i.cfg.steps:=by rw [a8.out];omega
    have bG:IntKind.i64.wrap ((k:Int)+1)=((k+1:Nat):Int):=by rw [JI _ (by omega)];push_cast;rfl
    have ab:∀j,j<wc.heap.size→¬v.ownBlock=some j:=fun j J e=>by have:=(oI.lt j e).1;omega
    have kb:=fun p (q:Keep (fun j=>v.ownBlock=some j) wr p)=>(q.block H (JC e8) (ab H bd)).trans e8
    have kj:=fun p (q:Keep (fun j=>v.ownBlock=some j) wr p)=>(q.block w.heap.size (JK b2 qk.size) (ab _ b2)).trans (KI.out wr qk)
    obtain ⟨KB,KJ,OI,QK⟩:=ag kb kj oI qk
    go_wp2_with fail
    clear j7 qk
    have ad:∀p,Keep (fun j=>v.ownBlock=some j) wr p→p.cell? ⟨H,20,none⟩=some v:=fun p q=>JF p H 20 _ _ _ (KB.out p q)
    have q0:Keep (fun j=>v.ownBlock=some j) wr wr.drew:=(Keep.refl _ _).drew
    refine XA.g 8 (fun p:World=>Keep (fun j=>v.ownBlock=some j) wr p) ?_
    refine XA.t ?_ [0,1,4,5] q0 ?_
    refine XA.ld 2 (aH A c D cd T B R Z i) (fun p q=>KJ.out p q) gM q0 ?_
    refine XA.c 3 (a5.out _) ?_
    rintro e w3 ⟨rfl,O⟩
    refine ⟨_,rfl,q0.trans (Keep.below O),fun _=>?_⟩
    have q3:=q0.trans (Keep.below (S:=fun j=>v.ownBlock=some j) O)
    refine XA.c 6 (a6.out k aG w3) ?_
    rintro e w4 ⟨u,rfl,oU,k4⟩
    have q4:=q3.trans (Keep.below (S:=fun j=>v.ownBlock=some j) k4)
    refine ⟨_,rfl,q4,fun _=>?_⟩
    obtain ⟨UA,uc,rfl,_⟩:=aw oU
    have b1:=ap (ap (OI.out.drew) O) k4
    have a1:Below wr.heap.size wr w4:=((br wr).drew.trans O).trans (k4.mono O.size)
    have hal:=ao.out (k+1) aG
    rw [fP,Kf] at hal
    have av:((kK i x k).length+(aD (aE i) x k).length)*88≤140737488355328:=by omega
    refine XA.o 7 (fun K' hK=>?_)
    refine bF gW (.tmp 47) (.tmp 52) rfl rfl wc.heap.size v _ _ rfl b1 UA _ uc _ rfl (Rd.own oU) oU.1 (EE _) av (by unfold maxLen;omega) (JJ QK.out.size a1.size) ?_
    intro A7 c7 w7 o7 b7 g7 _
    have q7:Keep (fun j=>v.ownBlock=some j) wr w7:=((Keep.below a1).grown g7 (fun k hk=>.inr hk))
    refine hK.out _ _ q7 fun _=>?_
    refine XA.e ?_
    simp only [Kc,Ke]
    have e7:=KB.out w7 q7
    have f7:=JM w7 H 20 _ _ e7
    have l7:=JC e7
    rw [←yM,←fP,←Kf,←fP] at o7
    have k8:Keep (fun j=>j=H) wc (w7.setCell ⟨H,20,none⟩ (.slice A7 ((kK i x (k+1)).length) c7)):=((QK.out.trans (Keep.below a1)).grown g7 (fun k hk=>.inl (by have:=(OI.out.lt k hk).1;omega))).setCell _ (.inr rfl) _
    have b0:=ss (i:=20) (v:=.slice A7 ((kK i x (k+1)).length) c7) e7 rfl
    have o8:=(Keep.setCell (S:=fun j=>j=H) (Keep.refl _ w7) ⟨H,20,none⟩ (.inr rfl) (.slice A7 ((kK i x (k+1)).length) c7)).own o7 (fun j J e=>by have:=(o7.lt j J).1;omega)
    obtain ⟨K8,E8,O8⟩:=af k8 b0 o8
    rw [←Kf,←fP]
    have c9:=ad w7 q7
    clear hK K' k8 b0 o8 o7 b7 g7 q7 e7 ad q0 q3 q4 a1 b1 O k4 hal av oU
    go_wp2_with fail
    go_roundw
    case rel=>exact ⟨k+1,by omega,by go_num,_,by simpa using E8.out,O8.out,K8.out⟩
    case measure=>simp [intOf];omega
   ·obtain rfl:k=s:=by omega
    have be:¬(k:Int)<i.cfg.steps:=by rw [a8.out];omega
    obtain ⟨IA,ic,rfl,_⟩:=aw oI
    have gZ:=(qk.block (w.heap.size+1) (JC GZ.out) (by omega)).trans GZ.out
    obtain ⟨E8,bi,OI,QK⟩:=ag e8 gZ oI qk;clear e8 gZ oI
    go_wp2_with (first | (refine aJ #[.slice A i.cfg.sizes.length c,KL i.cfg.shift,KL i.cfg.rate,KL i.cfg.mom,KL i.cfg.workers,KL i.cfg.batch,KL i.cfg.micros,KL i.cfg.steps,KL i.cfg.bucket,KL i.cfg.chunk,KL i.cfg.window,KL i.cfg.cap,.slice D i.data.length cd,.slice T i.start.length B,.slice R i.draws.length Z,KL (x:Nat),.slice T i.start.length B,.slice X i.start.length i.start.length,.slice (some ⟨g,0,none⟩) i.start.length i.start.length,.slice (some ⟨rb,0,none⟩) 1 1,.slice IA (kK i x k).length ic,KL 0] E8.out cI rfl rfl rfl rfl ?_) | (refine az bi.out cI rfl rfl rfl rfl rfl rfl rfl ?_;intro w9 e9 k9;obtain ⟨E9,K9⟩:=ae e9 k9;clear e9 k9))
    refine JQ (iE rfl rfl E9.out cI) rfl ⟨_,rfl,rfl,rfl,?_,fun bX kk hI=>?_⟩
    ·exact ((K1.out.trans (Q3.out.mono K1.out.size)).trans (HB.out.mono (by omega))).trans ((QK.out.toBelow (by omega) (fun j J=>by omega)).trans (K9.out.toBelow (by have:=QK.out.size;omega) (fun j J=>by omega)))
    ·have kf:∀{u:Value} {e size n xs base},base≤wc.heap.size→W1.heap.size≤base→wc.ownsRow base e size u n xs→(∀j,u.ownBlock=some j→j≠H)→w9.ownsRow w.heap.size e size u n xs:=fun h1 h2 h3 h4=>ax (K9.out.own (QK.out.own h3 (fun j J e=>h4 j J e)) (fun j J e=>by have:=(h3.lt j J).1;omega)) (by omega)
     have b3:rb≠H:=fun e=>by
      have h8:=H8.out
      rw [←e,HR.out] at h8
      simp at h8
     have bs:w9.heap[rb]?=some (.cells #[.slice T i.start.length B,.slice X i.start.length i.start.length] 39 (0,0)):=((K9.out.block rb (JK (JC HR.out) QK.out.size) (by omega)).trans (QK.out.block rb (JC HR.out) b3)).trans HR.out
     have hT:=HT.out
     have b5:=ax (base':=w.heap.size) (K9.out.own OI.out (fun j J e=>by have:=(OI.out.lt j J).1;omega)) (by omega)
     rw [←hT] at b5 ⊢
     exact Iy hn kk hI (kf (by have:=HB.out.size;have:=Q3.out.size;omega) (JD _) (ap O3.out HB.out) (fun j J=>by have:=(O3.out.lt j J).2;omega)) (kf HB.out.size Q OG.out (fun j J e=>an H8.out (by decide) OG.out (by rw [J,e]))) bs (by omega) b5
theorem fg:cL Tryz.prog 136 12:=⟨⟨_,Tryz.underlying136,rfl⟩,by kernel_rfl⟩
theorem jJ (y:Itm):cL Tryz.prog 136 (aN y).length:=by rw [jl];exact fg
theorem ma (y:Itm):∀u∈aN y,u.oneCell'=true:=fun u hu=>EE [y] u (by simpa [bH] using hu)
theorem lA {w:World} {A:Option Addr} {l:List Itm} (h:Rd w A (bH l)) {k:Nat} {y:Itm} (p:l[k]?=some y):∃b o,A=some ⟨b,o,none⟩∧w.rangeAt b (o+k*12) (aN y):=by
 obtain ⟨b,o,hA,hc⟩:=Ad h p
 refine ⟨b,o,hA,fun j v hv=>?_⟩
 have i:=(Kg.1 hv).1
 rw [jl] at i
 rw [Ky,hc j i,hv]
theorem AZ {vs:Array Value} {i:Inp} {x:Nat} {m:Mst} (w:World) (h:dM w vs i x m) (hs:cU i) (a3:aW i x m≤(dx i x).length):
  Calls Tryz.prog 58 #[.agg vs] w fun e C=>∃v,e=.returned v∧C.ownsRow w.heap.size 3 1 v (kU (dx i x) (aW i x m) (aE i).buks.length).length (aq .i64 (dw (kU (dx i x) (aW i x m) (aE i).buks.length)))∧Below w.heap.size w C:=by
 obtain ⟨A,c,D,cd,T,ct,R,cr,PA,pc,MA,mc,GA,gc,SA,sc,IA,ic,rfl,hI,hP,hM,hG,hR,hIt,hl⟩:=h
 have hc:=hs.g.c
 have ew:(((aE i).W:Nat):Int)=i.cfg.workers:=by have:=hc.w;simp only [aE];omega
 have eu:(((aE i).bu:Nat):Int)=i.cfg.bucket:=by have:=hc.bu;simp only [aE];omega
 have ec:(((aE i).ck:Nat):Int)=i.cfg.chunk:=by have:=hc.ch;simp only [aE];omega
 have en:(aE i).n=i.start.length:=rfl
 have hal:(dx i x).length≤48000000:=ml hs x (JD _)
 have Z:=hs.ok.buks
 have N:=fun C=>jw A i.cfg.sizes.length c i.cfg.shift i.cfg.rate i.cfg.mom i.cfg.workers i.cfg.batch i.cfg.micros i.cfg.steps i.cfg.bucket i.cfg.chunk i.cfg.window i.cfg.cap D i.data.length cd T i.start.length ct R i.draws.length cr C
 have H:=fun C=>nE (aE i) (.slice A i.cfg.sizes.length c) (KL i.cfg.shift) (KL i.cfg.rate) (KL i.cfg.mom) (KL i.cfg.batch) (KL i.cfg.micros) (KL i.cfg.steps) (KL i.cfg.window) (KL i.cfg.cap) C hs.ok (by have:=hc.bu;simp only [aE];omega)
 simp only [ew,eu,ec,en] at H
 obtain ⟨nb,hnb'⟩:∃nb,(aE i).buks.length=nb:=⟨_,rfl⟩
 obtain ⟨J,hdn'⟩:∃J,aW i x m=J:=⟨_,rfl⟩
 obtain ⟨o,hits⟩:∃o,dx i x=o:=⟨_,rfl⟩
 rw [hnb'] at H Z ⊢
 rw [hits] at a3 hIt hal ⊢
 rw [hdn'] at a3 ⊢
 obtain ⟨L,hW0⟩:∃L,w.alloc (.cells #[.slice A i.cfg.sizes.length c,KL i.cfg.shift,KL i.cfg.rate,KL i.cfg.mom,KL i.cfg.workers,KL i.cfg.batch,KL i.cfg.micros,KL i.cfg.steps,KL i.cfg.bucket,KL i.cfg.chunk,KL i.cfg.window,KL i.cfg.cap,.slice D i.data.length cd,.slice T i.start.length ct,.slice R i.draws.length cr,KL (x:Nat),.slice PA i.start.length pc,.slice MA i.start.length mc,.slice GA i.start.length gc,.slice SA m.rc.length sc,.slice IA o.length ic,KL (J:Nat)] 43)=L:=⟨_,rfl⟩
 have g0:L.heap[w.heap.size]?=some (.cells #[.slice A i.cfg.sizes.length c,KL i.cfg.shift,KL i.cfg.rate,KL i.cfg.mom,KL i.cfg.workers,KL i.cfg.batch,KL i.cfg.micros,KL i.cfg.steps,KL i.cfg.bucket,KL i.cfg.chunk,KL i.cfg.window,KL i.cfg.cap,.slice D i.data.length cd,.slice T i.start.length ct,.slice R i.draws.length cr,KL (x:Nat),.slice PA i.start.length pc,.slice MA i.start.length mc,.slice GA i.start.length gc,.slice SA m.rc.length sc,.slice IA o.length ic,KL (J:Nat)] 43 (0,0)):=by rw [←hW0];exact JE w _
 have k0:Below w.heap.size w L:=by rw [←hW0];exact (br w).alloc (JD _) _
 have b9:∀C,Below L.heap.size L C→C.cell? ⟨w.heap.size,20,none⟩=some (.slice IA o.length ic):=fun C q=>JF C w.heap.size 20 _ _ _ (sb g0 C q)
 have b8:∀C,Below L.heap.size L C→C.cell? ⟨w.heap.size,21,none⟩=some (KL (J:Nat)):=fun C q=>JF C w.heap.size 21 _ _ _ (sb g0 C q)
 have tl:=sl g0
 obtain ⟨aP,G0,K0,a0,a5,aM,a1,aR⟩:=ak hW0 g0 k0 N H (hIt.below k0) Z hal;clear hW0 g0 k0 N H hI hP hM hG hR hIt hl ew eu ec en hs hc hnb' hdn' hits Z hal
 go_enter Tryz.func58,Tryz.ntmps58
 go_wp2_with fail
 rw [aP.out]
 go_loopw [3,4] (fun y3 y4 wr=>∃j:Nat,j≤nb∧y4=KL j∧wr.ownsRow L.heap.size 3 1 y3 (kU o J j).length (aq .i64 (dw (kU o J j)))∧Below L.heap.size L wr) (fun _ y _=>nb-(intOf y).toNat)
 case atStart=>exact ⟨0,JH _,rfl,by rw [show kU o J 0=[] by simp [kU]];exact JO _ _ _ _,br L⟩
 case round=>
  obtain ⟨j,U,rfl,ho,q⟩:=hrel
  have Ho:=aa ho;clear ho
  go_wp2_with (refine aJ (aH A c D cd T ct R cr i) (sb G0.out _ q) gM rfl rfl rfl rfl ?_)
  refine (a0.out _).mono ?_
  rintro e w1 ⟨rfl,k1⟩
  go_wp2_with fail
  refine (a5.out w1).mono ?_
  rintro e w2 ⟨v,rfl,ob,k2⟩
  obtain ⟨BA,bc,rfl,_⟩:=aw ob
  have q2:=(q.trans (k1.mono q.size)).trans (k2.mono (JJ q.size k1.size))
  have a2:=aa (ap (ap Ho.out k1) k2);clear ob k1 k2 q
  by_cases b3:j<nb
  ·have ao:(j:Int)<nb:=by omega
   have b2:IntKind.i64.wrap ((j:Int)+1)=((j+1:Nat):Int):=by have:=a1.out;rw [JI _ (by omega)];push_cast;rfl
   go_wp2_with fail
   go_loopw [5,6] (fun y5 y6 wr=>∃k:Nat,k≤J∧y6=KL k∧y5=.bool (rW o k j)∧Below w2.heap.size w2 wr) (fun _ y _=>J-(intOf y).toNat)
   case atStart=>exact ⟨0,JH _,rfl,rfl,br w2⟩
   case round=>
    obtain ⟨k,hk,rfl,rfl,q3⟩:=hrel
    have q4:=q2.trans (q3.mono q2.size)
    by_cases b7:k<J
    ·have ad:(k:Int)<J:=by omega
     have b0:(k:Int)<o.length:=by omega
     have b4:¬(k:Int)<0:=by omega
     have b1:IntKind.i64.wrap ((k:Int)+1)=((k+1:Nat):Int):=by have:=aR.out;rw [JI _ (by omega)];push_cast;rfl
     obtain ⟨y,hy⟩:∃y,o[k]?=some y:=⟨_,Kh (by omega)⟩
     obtain ⟨ib,io,hA,Q⟩:=lA (aM.out.below q4) hy
     subst hA
     obtain ⟨O,p⟩:=ae (Cr hy j) q3;clear hy
     by_cases h2:y.kind=2
     ·have a8:(y.kind:Int)=2:=by omega
      have H2:=aa h2;clear h2
      by_cases hn:y.n=j
      ·have Y:(y.n:Int)=j:=by omega
       have V:=aa hn;clear hn
       go_wp2_with (first | (refine dN Q (jJ y) rfl rfl rfl ?_) | (refine az (JE _ _) (jJ y) rfl rfl rfl rfl (by simp) (by simp [jl]) (List.all_eq_true.2 (ma y)) ?_;intro u B I;have c0:u.cell? ⟨wr.heap.size,0,none⟩=some (KL (y.kind:Nat)):=JF u wr.heap.size 0 _ _ _ B;have c2:u.cell? ⟨wr.heap.size,2,none⟩=some (KL (y.n:Nat)):=JF u wr.heap.size 2 _ _ _ B;have X:=aa ((p.out.alloc p.out.size _).trans (I.toBelow (p.out.alloc p.out.size _).size (fun j U=>by rw [U];exact p.out.size)));clear B I));go_roundw;(case rel=>exact ⟨k+1,by omega,by go_num,by rw [O.out];simp [iw,H2.out,V.out],X.out⟩);(case measure=>simp [intOf];omega)
      ·have Y:¬(y.n:Int)=j:=by omega
       have V:=aa hn;clear hn
       go_wp2_with (first | (refine dN Q (jJ y) rfl rfl rfl ?_) | (refine az (JE _ _) (jJ y) rfl rfl rfl rfl (by simp) (by simp [jl]) (List.all_eq_true.2 (ma y)) ?_;intro u B I;have c0:u.cell? ⟨wr.heap.size,0,none⟩=some (KL (y.kind:Nat)):=JF u wr.heap.size 0 _ _ _ B;have c2:u.cell? ⟨wr.heap.size,2,none⟩=some (KL (y.n:Nat)):=JF u wr.heap.size 2 _ _ _ B;have X:=aa ((p.out.alloc p.out.size _).trans (I.toBelow (p.out.alloc p.out.size _).size (fun j U=>by rw [U];exact p.out.size)));clear B I));go_roundw;(case rel=>exact ⟨k+1,by omega,by go_num,by rw [O.out];simp [iw,H2.out,V.out],X.out⟩);(case measure=>simp [intOf];omega)
     ·by_cases h5:y.kind=5
      ·have a8:(y.kind:Int)=5:=by omega
       have H2:=aa h5;clear h2 h5
       by_cases hn:y.n=j
       ·have Y:(y.n:Int)=j:=by omega
        have V:=aa hn;clear hn
        go_wp2_with (first | (refine dN Q (jJ y) rfl rfl rfl ?_) | (refine az (JE _ _) (jJ y) rfl rfl rfl rfl (by simp) (by simp [jl]) (List.all_eq_true.2 (ma y)) ?_;intro u B I;have c0:u.cell? ⟨wr.heap.size,0,none⟩=some (KL (y.kind:Nat)):=JF u wr.heap.size 0 _ _ _ B;have c2:u.cell? ⟨wr.heap.size,2,none⟩=some (KL (y.n:Nat)):=JF u wr.heap.size 2 _ _ _ B;have X:=aa ((p.out.alloc p.out.size _).trans (I.toBelow (p.out.alloc p.out.size _).size (fun j U=>by rw [U];exact p.out.size)));clear B I));go_roundw;(case rel=>exact ⟨k+1,by omega,by go_num,by rw [O.out];simp [iw,H2.out,V.out],X.out⟩);(case measure=>simp [intOf];omega)
       ·have Y:¬(y.n:Int)=j:=by omega
        have V:=aa hn;clear hn
        go_wp2_with (first | (refine dN Q (jJ y) rfl rfl rfl ?_) | (refine az (JE _ _) (jJ y) rfl rfl rfl rfl (by simp) (by simp [jl]) (List.all_eq_true.2 (ma y)) ?_;intro u B I;have c0:u.cell? ⟨wr.heap.size,0,none⟩=some (KL (y.kind:Nat)):=JF u wr.heap.size 0 _ _ _ B;have c2:u.cell? ⟨wr.heap.size,2,none⟩=some (KL (y.n:Nat)):=JF u wr.heap.size 2 _ _ _ B;have X:=aa ((p.out.alloc p.out.size _).trans (I.toBelow (p.out.alloc p.out.size _).size (fun j U=>by rw [U];exact p.out.size)));clear B I));go_roundw;(case rel=>exact ⟨k+1,by omega,by go_num,by rw [O.out];simp [iw,H2.out,V.out],X.out⟩);(case measure=>simp [intOf];omega)
      ·have a8:¬(y.kind:Int)=2:=by omega
       have b5:¬(y.kind:Int)=5:=by omega
       obtain ⟨H2,V⟩:=ae h2 h5;clear h2 h5
       go_wp2_with (first | (refine dN Q (jJ y) rfl rfl rfl ?_) | (refine az (JE _ _) (jJ y) rfl rfl rfl rfl (by simp) (by simp [jl]) (List.all_eq_true.2 (ma y)) ?_;intro u B I;have c0:u.cell? ⟨wr.heap.size,0,none⟩=some (KL (y.kind:Nat)):=JF u wr.heap.size 0 _ _ _ B;have c2:u.cell? ⟨wr.heap.size,2,none⟩=some (KL (y.n:Nat)):=JF u wr.heap.size 2 _ _ _ B;have X:=aa ((p.out.alloc p.out.size _).trans (I.toBelow (p.out.alloc p.out.size _).size (fun j U=>by rw [U];exact p.out.size)));clear B I));go_roundw;(case rel=>exact ⟨k+1,by omega,by go_num,by rw [O.out];simp [iw,H2.out,V.out],X.out⟩);(case measure=>simp [intOf];omega)
    ·obtain rfl:k=J:=by omega
     have ad:¬(k:Int)<k:=by omega
     obtain ⟨a4,p⟩:=ae (ap a2.out q3) q3
     have b6:=zR o k j
     cases hb:rW o k j with
     | true=>
      obtain ⟨HO,Q4⟩:=ae hb q4;clear hb q2 q3
      go_wp2_with (at_builtin;refine aQ gq _ rfl (.tmp 47) (.tmp 49) rfl L.heap.size _ _ _ rfl a4.out [KL (j:Nat)] rfl rfl (by simp [Value.oneCell']) (by have:=a1.out;omega) (by have:=a1.out;unfold maxLen;omega) Q4.out.size ?_)
      intro g6 c6 w6 a6 a7 aG
      obtain ⟨av,ab⟩:=ae a6 (Q4.out.trans a7);clear a6 a7 aG q4
      go_wp2_with fail
      go_roundw
      case rel=>exact ⟨j+1,by omega,by go_num,by rw [sO,HO.out];simpa [dw,aq] using av.out,ab.out⟩
      case measure=>simp [intOf];omega
     | false=>
      obtain ⟨HO,Q4⟩:=ae hb q4;clear hb q2 q3
      go_wp2_with fail
      go_roundw
      case rel=>exact ⟨j+1,by omega,by go_num,by rw [sO,HO.out];simpa using a4.out,Q4.out⟩
      case measure=>simp [intOf];omega
  ·obtain rfl:j=nb:=by omega
   have ao:¬(j:Int)<j:=by omega
   have Q2:=aa q2;clear q2
   go_wp2_with fail
   go_ret
   exact ⟨_,rfl,ax a2.out K0.out.size,K0.out.trans (Q2.out.mono K0.out.size)⟩
theorem CC (A1 v:Option Addr) (j o:List Int) (c1 c2:Nat) (w:World) (h1:Rd w A1 (aq .i64 j)) (A:Rd w v (aq .i64 o)) (hl:j.length≤140737488355328):
  Calls Tryz.prog 57 #[.slice A1 j.length c1,.slice v o.length c2] w fun e y=>e=.returned (.bool (decide (j=o)))∧∃n,y=w.drewN n:=by
 by_cases q:j.length=o.length
 ·have u:((j.length:Int) != (o.length:Int))=false:=by simp [q]
  go_enter Tryz.func57,Tryz.ntmps57
  go_wp2
  go_loopw [5,13] (fun _ i wr=>∃k:Nat,k≤j.length∧i=KL k∧j.take k=o.take k∧∃n,wr=w.drewN n) (fun _ i _=>j.length-(intOf i).toNat)
  case atStart=>exact ⟨0,JH _,rfl,rfl,0,rfl⟩
  case round=>
   obtain ⟨k,D,rfl,p,n,rfl⟩:=hrel
   by_cases x:k<o.length
   ·obtain ⟨H,L,rfl,C⟩:=h1.num (k:=k) (by omega)
    obtain ⟨I,J,rfl,B⟩:=A.num (k:=k) (by omega)
    go_wp2
    go_quiet (fail)
    go_wp2
    ·have hx:(nth j k != nth o k)=true:=by assumption
     go_ret
     refine ⟨cP ?_,_,World.drewN_drewN _ _ _⟩
     symm;rw [KE]
     rintro rfl
     simp at hx
    ·have hx:(nth j k != nth o k)=false:=by assumption
     go_roundw
     case rel=>exact ⟨k+1,by omega,by go_num,np (by omega) (by omega) p (by simpa using hx),_,rfl⟩
     case measure=>simp [intOf];omega
   ·go_wp2
    go_ret
    refine ⟨cP ?_,n,rfl⟩
    symm;rw [decide_eq_true_iff]
    obtain rfl:k=j.length:=by omega
    exact rD q p
 ·have u:((j.length:Int) != (o.length:Int))=true:=by simp;omega
  go_enter Tryz.func57,Tryz.ntmps57
  go_wp2
  go_ret
  refine ⟨cP ?_,0,rfl⟩
  symm;rw [KE]
  rintro rfl
  exact q rfl
theorem DB (A:Option Addr) (c:Nat) (k:Cfg) (w:World):
  Calls Tryz.prog 75 #[.agg (cS A c k)] w fun e x=>e=.returned (.agg #[KL k.rate,KL k.mom,KL k.shift])∧Below w.heap.size w x:=by
 obtain ⟨sz,sh,ra,i,o,ba,mi,st,bu,ch,wi,ca⟩:=k
 dsimp only [cS]
 obtain ⟨L,hL⟩:∃L,sz.length=L:=⟨_,rfl⟩
 rw [hL]
 clear hL
 go_enter Tryz.func75,Tryz.ntmps75
 go_wp2_with fail
 have p:=JE (w.alloc (.cells #[.slice A L c,KL sh,KL ra,KL i,KL o,KL ba,KL mi,KL st,KL bu,KL ch,KL wi,KL ca] 24)) (.cells #[KL ra,KL i,KL sh] 168)
 rw [show (w.alloc (.cells #[.slice A L c,KL sh,KL ra,KL i,KL o,KL ba,KL mi,KL st,KL bu,KL ch,KL wi,KL ca] 24)).heap.size=w.heap.size+1 by simp] at p
 have hB:Below w.heap.size w ((w.alloc (.cells #[.slice A L c,KL sh,KL ra,KL i,KL o,KL ba,KL mi,KL st,KL bu,KL ch,KL wi,KL ca] 24)).alloc (.cells #[KL ra,KL i,KL sh] 168)):=((JG _ w).alloc (JD _) _).alloc (by simp) _
 obtain ⟨q,j⟩:∃q,q=(w.alloc (.cells #[.slice A L c,KL sh,KL ra,KL i,KL o,KL ba,KL mi,KL st,KL bu,KL ch,KL wi,KL ca] 24)).alloc (.cells #[KL ra,KL i,KL sh] 168):=⟨_,rfl⟩
 rw [←j] at p hB ⊢
 clear j
 obtain ⟨⟨B,y,u⟩,C⟩:=bx3 p
 exact JQ (v:=.agg #[KL ra,KL i,KL sh]) (by simp [results,Tryz.results75,go_sem,B,y,u]) rfl ⟨rfl,hB⟩
theorem xU (A:Option Addr) (c:Nat) (D:Option Addr) (u:Nat) (T:Option Addr) (x:Nat) (R:Option Addr) (p:Nat) (i:Inp) (P:Option Addr) (j o:Nat) (w:World):
  Calls Tryz.prog 122 #[.agg (aH A c D u T x R p i),.slice P j o] w fun e O=>e=.returned (.agg #[.slice A i.cfg.sizes.length c,.slice P j o,KL i.cfg.shift])∧Below w.heap.size w O:=by
 obtain ⟨⟨sz,sh,ra,y,B,ba,mi,st,bu,ch,wi,ca⟩,data,start,draws⟩:=i
 dsimp only [aH]
 obtain ⟨L,hL⟩:∃L,sz.length=L:=⟨_,rfl⟩
 obtain ⟨N,J⟩:∃N,data.length=N:=⟨_,rfl⟩
 obtain ⟨M,hM⟩:∃M,start.length=M:=⟨_,rfl⟩
 obtain ⟨Q,H⟩:∃Q,draws.length=Q:=⟨_,rfl⟩
 rw [hL,J,hM,H]
 clear hL J hM H
 go_enter Tryz.func122,Tryz.ntmps122
 go_wp2_with fail
 have C:=JE (w.alloc (.cells #[.slice A L c,KL sh,KL ra,KL y,KL B,KL ba,KL mi,KL st,KL bu,KL ch,KL wi,KL ca,.slice D N u,.slice T M x,.slice R Q p] 29)) (.cells #[.slice A L c,.slice P j o,KL sh] 214)
 rw [show (w.alloc (.cells #[.slice A L c,KL sh,KL ra,KL y,KL B,KL ba,KL mi,KL st,KL bu,KL ch,KL wi,KL ca,.slice D N u,.slice T M x,.slice R Q p] 29)).heap.size=w.heap.size+1 by simp] at C
 have hB:Below w.heap.size w ((w.alloc (.cells #[.slice A L c,KL sh,KL ra,KL y,KL B,KL ba,KL mi,KL st,KL bu,KL ch,KL wi,KL ca,.slice D N u,.slice T M x,.slice R Q p] 29)).alloc (.cells #[.slice A L c,.slice P j o,KL sh] 214)):=((JG _ w).alloc (JD _) _).alloc (by simp) _
 obtain ⟨I,q⟩:∃I,I=(w.alloc (.cells #[.slice A L c,KL sh,KL ra,KL y,KL B,KL ba,KL mi,KL st,KL bu,KL ch,KL wi,KL ca,.slice D N u,.slice T M x,.slice R Q p] 29)).alloc (.cells #[.slice A L c,.slice P j o,KL sh] 214):=⟨_,rfl⟩
 rw [←q] at C hB ⊢
 clear q
 obtain ⟨⟨V,U,X⟩,Y⟩:=bx3 C
 exact JQ (v:=.agg #[.slice A L c,.slice P j o,KL sh]) (by simp [results,Tryz.results122,go_sem,V,U,X]) rfl ⟨rfl,hB⟩
theorem wY (A B:Option Addr) (n c m d:Nat) (w:World):
  Calls Tryz.prog 56 #[.agg #[.slice A n c,.slice B m d]] w fun e p=>e=.returned (.agg #[.slice A n c,.slice B m d])∧Below w.heap.size w p:=by
 go_enter Tryz.func56,Tryz.ntmps56
 go_wp2_with fail
 have j:=JE (w.alloc (.cells #[.slice A n c,.slice B m d] 68)) (.cells #[.slice A n c,.slice B m d] 39)
 rw [show (w.alloc (.cells #[.slice A n c,.slice B m d] 68)).heap.size=w.heap.size+1 by simp] at j
 have hB:Below w.heap.size w ((w.alloc (.cells #[.slice A n c,.slice B m d] 68)).alloc (.cells #[.slice A n c,.slice B m d] 39)):=((JG _ w).alloc (JD _) _).alloc (by simp) _
 obtain ⟨o,i⟩:∃o,o=(w.alloc (.cells #[.slice A n c,.slice B m d] 68)).alloc (.cells #[.slice A n c,.slice B m d] 39):=⟨_,rfl⟩
 rw [←i] at j hB ⊢
 clear i
 obtain ⟨⟨u,q⟩,x⟩:=bx2 j
 exact JQ (v:=.agg #[.slice A n c,.slice B m d]) (by simp [results,Tryz.results56,go_sem,u,q]) rfl ⟨rfl,hB⟩
def yo:dD (List Int):=fun w i zs=>∃A c,i=[.slice A zs.length c]∧zs.length≤c∧zs.length≤17592186043904∧Rd w A (aq .i64 zs)
theorem sq:AA yo:=fun p ⟨A,c,h1,i,o,j⟩=>⟨A,c,h1,i,o,j.below p⟩
theorem Bp {w:World} {V:Option Addr} {j:List (List Int)} (h:cE yo 1 w V j) {k:Nat} {x:List Int} (hx:j[k]?=some x):
  ∃b o A c,V=some ⟨b,o,none⟩∧b<w.heap.size∧w.cell? ⟨b,o+k,none⟩=some (.slice A x.length c)∧Rd w A (aq .i64 x)∧x.length≤17592186043904∧x.length≤c:=by
 obtain ⟨b,o,B,rfl,y,u,hR,i,_⟩:=h.get (by decide) hx
 obtain ⟨A,c,rfl,p,v,q⟩:=hR
 exact ⟨b,o,A,c,rfl,y,by rw [Nat.mul_one] at i;exact i,q,v,p⟩
def sH:dD (List Int):=fun w i zs=>∃A c,i=[.slice A zs.length c]∧zs.length≤17592186043904∧Rd w A (aq .i64 zs)
theorem xy:AA sH:=fun o ⟨A,c,h1,j,i⟩=>⟨A,c,h1,j,i.below o⟩
theorem mR {w:World} {V:Option Addr} {j:List (List Int)} (h:cE sH 1 w V j) {k:Nat} {x:List Int} (hx:j[k]?=some x):
  ∃b o A c,V=some ⟨b,o,none⟩∧b<w.heap.size∧w.cell? ⟨b,o+k,none⟩=some (.slice A x.length c)∧Rd w A (aq .i64 x)∧x.length≤17592186043904:=by
 obtain ⟨b,o,y,rfl,v,q,hR,i,_⟩:=h.get (by decide) hx
 obtain ⟨A,c,rfl,u,p⟩:=hR
 exact ⟨b,o,A,c,rfl,v,by rw [Nat.mul_one] at i;exact i,p,u⟩
theorem tq:∀vals:List Value,List.flatten (vals.map fun v=>[v])=vals
 | []=>rfl
 | v::l=>by simp [tq l]
theorem uU {α:Type} {R:dD α} {w:World} {A:Option Addr} {vals:List Value} {l:List α} (hA:Rd w A vals) (hl:vals.length=l.length) (h:∀(j:Nat) (x:α),l[j]?=some x→∃v,vals[j]?=some v∧R w [v] x):cE R 1 w A l:=by
 refine ⟨vals.map fun v=>[v],by rw [tq];exact hA,by simp [hl],by simp,fun j x hx=>?_⟩
 obtain ⟨v,hv,hR⟩:=h j x hx
 have:bq (vals.map fun v=>[v]) j=[v]:=by simp [bq,List.getD,hv]
 rw [this];exact hR
theorem GN {S:Nat→Prop} {p w j:World} (h:Keep S w j) {A:Option Addr} {xs:List Value} (x:Rd p A xs) (hr:Rd w A xs) (v:∀k,S k→p.heap.size≤k):Rd j A xs:=fun k u hu=>by
 obtain ⟨b,o,rfl,c0⟩:=x k u hu
 obtain ⟨y,B,i,c1⟩:=hr k u hu
 injection i with i;injection i with i1 i2 _;subst i1;subst i2
 exact ⟨b,o,rfl,h.cell c1 fun hs=>by have h1:=v _ hs;have q:=ar c0;dsimp only at h1 q;omega⟩
theorem Do (W:World) (b:Nat) {p i:Value} (x y:Value) {t:TypeId} (h:W.heap[b]?=some (.cells #[p,i] t (0,0))):
  ((W.setCell ⟨b,0,none⟩ x).setCell ⟨b,1,none⟩ y).heap[b]?=some (.cells #[x,y] t (0,0))∧Keep (fun j=>j=b) W ((W.setCell ⟨b,0,none⟩ x).setCell ⟨b,1,none⟩ y):=by
 have q:=KG W b 0 _ _ x h
 have o:=KG _ b 1 _ _ y q
 exact ⟨by simpa using o,Keep.setCell (S:=fun j=>j=b) (Keep.setCell (S:=fun j=>j=b) (Keep.refl _ _) _ (.inr rfl) _) _ (.inr rfl) _⟩
theorem Dn (W:World) (b:Nat) {i q v B:Value} (x y z u:Value) {t:TypeId} (h:W.heap[b]?=some (.cells #[i,q,v,B] t (0,0))):
  ((((W.setCell ⟨b,0,none⟩ x).setCell ⟨b,1,none⟩ y).setCell ⟨b,2,none⟩ z).setCell ⟨b,3,none⟩ u).heap[b]?=some (.cells #[x,y,z,u] t (0,0))∧Keep (fun j=>j=b) W ((((W.setCell ⟨b,0,none⟩ x).setCell ⟨b,1,none⟩ y).setCell ⟨b,2,none⟩ z).setCell ⟨b,3,none⟩ u):=by
 have o:=KG W b 0 _ _ x h
 have C:=KG _ b 1 _ _ y o
 have p:=KG _ b 2 _ _ z C
 have A:=KG _ b 3 _ _ u p
 exact ⟨by simpa using A,Keep.setCell (S:=fun j=>j=b) (Keep.setCell (S:=fun j=>j=b) (Keep.setCell (S:=fun j=>j=b) (Keep.setCell (S:=fun j=>j=b) (Keep.refl _ _) _ (.inr rfl) _) _ (.inr rfl) _) _ (.inr rfl) _) _ (.inr rfl) _⟩
theorem fw {w:World} {b:Nat} {x:Obj} (h:w.heap[b]?=some x) (o:Obj):(w.alloc o).heap[b]?=some x:=
 (JP w o b (by rcases JR b w.heap.size with q | q; · exact q
               ·rw [Array.getElem?_eq_none q] at h;cases h)).trans h
theorem kJ (w:World) (xs:Array Value) (e:TypeId) {n:Nat} (hn:w.heap.size=n):(w.alloc (.cells xs e)).heap[n]?=some (.cells xs e (0,0)):=by
 subst hn;exact JE w _
theorem hZ {w:World} {n:Nat} (h:w.heap.size=n) (o:Obj):(w.alloc o).heap.size=n+1:=by simp [h]
def mp (n:Nat) (i:List (List Int)):List Int:=i.foldl eI (List.replicate n 0)
theorem AK (n:Nat) (i:List (List Int)) (x:List Int):mp n (i++[x])=eI (mp n i) x:=by simp [mp]
theorem qs (n:Nat) (i:List (List Int)):(mp n i).length=n:=by
 have:∀(l:List (List Int)) (a:List Int),(l.foldl eI a).length=a.length:=by
  intro l
  induction l with
  | nil=>intro a;rfl
  | cons x l ih=>intro a;rw [List.foldl_cons,ih,ir]
 unfold mp;rw [this];simp
def IX (o:List (List Int)) (n:Nat) (w:World) (e:Ending) (i:World):Prop:=∃v ok,e=.returned (.tuple #[v,.bool ok])∧Below w.heap.size w i∧((∀(j:Nat) (x:List Int),o[j]?=some x→x.length=n)→ok=true∧i.ownsRow w.heap.size 2 1 v n (aq .i64 (mp n o)))
theorem AR (V:Option Addr) (u:List (List Int)) (c n:Nat) (x0:List Int) (w:World) (hV:cE sH 1 w V u) (hl:u.length≤17592186043904) (h0:u[0]?=some x0) (hn:x0.length=n):
  Calls Tryz.prog 120 #[.slice V u.length c] w (IX u n w):=by
 obtain ⟨N,hN⟩:∃N,u.length=N:=⟨_,rfl⟩
 have aG:0<N:=by rw [←hN];exact (Kg.1 h0).1
 obtain ⟨b,o,A0,c0,rfl,hb,p0,_,a2⟩:=mR hV h0
 rw [hN] at hl ⊢
 rw [hn,Nat.add_zero] at p0
 rw [hn] at a2
 have av:¬(N=0):=by omega
 have J:=fun w'=>j8 ip w' rfl n (by omega) (by unfold maxLen;omega)
 simp only [dS] at J
 obtain ⟨a0,HV,HN⟩:=af J hV hN;clear J hV hN h0 hn
 have a7:(0:Int)<N:=by omega
 have ab:((N:Int)==0)=false:=by simp;omega
 go_enter Tryz.func120,Tryz.ntmps120
 obtain ⟨W2,U,a1,Z⟩:=a0.out w
 go_wp2_with fail
 obtain ⟨C,a6⟩:=ae a1 Z;clear U a1 Z p0 a0
 go_loopw [5] (fun x wr=>∃k:Nat,k≤N∧x=KL k∧wr.ownsRow w.heap.size 2 1 (.slice (some ⟨w.heap.size,0,none⟩) n n) n (aq .i64 (mp n (u.take k)))∧Hid (∀(j:Nat) (x:List Int),j<k→u[j]?=some x→x.length=n)∧Below w.heap.size w wr) (fun x _=>N-(intOf x).toNat)
 case atStart=>exact ⟨0,JH _,rfl,C.out,Lib.hid fun j x hj=>by omega,a6.out⟩
 case round=>
  obtain ⟨W1,rfl⟩:∃W1:World,W1=wr:=⟨_,rfl⟩
  obtain ⟨k,hk,rfl,q,T,B⟩:=hrel
  by_cases a3:k<N
  ·obtain ⟨x,hx⟩:∃x,u[k]?=some x:=⟨_,Kh (by rw [HN.out];exact a3)⟩
   have a8:(k:Int)<N:=by omega
   have g1:cE sH 1 W1 (some ⟨b,o,none⟩) u:=HV.out.below xy B
   obtain ⟨b',o',A,cA,e1,aM,p,hA,Q⟩:=mR g1 hx
   injection e1 with e1;injection e1 with e1 e2 _;subst e1;subst e2
   obtain ⟨HX,HO,L,HA,P⟩:=ah hx q B hA p
   obtain ⟨m,hm⟩:∃m,x.length=m:=⟨_,rfl⟩
   have Hm:=aa hm
   rw [hm] at p Q
   clear hx q B hA hm g1
   by_cases Y:m=n
   ·subst Y
    go_wp2_with fail
    clear p
    go_loopw [6] (fun y wr=>∃t:Nat,t≤m∧y=KL t∧wr.ownsRow w.heap.size 2 1 (.slice (some ⟨w.heap.size,0,none⟩) m m) m (aq .i64 (jC (mp m (u.take k)) t (fun t=>wrap64 (nth (mp m (u.take k)) t+nth x t))))∧Keep (fun i=>i=w.heap.size) W1 wr) (fun y _=>m-(intOf y).toNat)
    case atStart=>exact ⟨0,JH _,rfl,by rw [gP];exact HO.out,Keep.refl _ _⟩
    case round=>
     obtain ⟨t,ht,rfl,q,O⟩:=hrel
     by_cases v:t<m
     ·have a5:(t:Int)<m:=by omega
      have I:t<(mp m (u.take k)).length:=by rw [qs];exact v
      have p1:=cq q v
      rw [fN _ I,if_neg (by omega)] at p1
      have f1:=q.frozenAt t
      obtain ⟨b2,o2,rfl,p3⟩:=HA.out.num (show t<x.length by rw [Hm.out];exact v)
      have hbs:b<w.heap.size:=hb
      have p2:wr.cell? ⟨b,o+k,none⟩=some (.slice (some ⟨b2,o2,none⟩) m cA):=O.cell (by rw [P.out,Hm.out]) (by dsimp only;omega)
      have ao:b2<w.heap.size:=by
       obtain ⟨_,_,A9,c9,H,_,q9,r9,_⟩:=mR HV.out HX.out
       injection H with H;injection H with H D _;subst H;subst D
       have:=(L.out.cell (p:=⟨b,o+k,none⟩) hb).trans q9
       rw [P.out] at this
       injection this with this
       simp only [Ku] at this
       rw [←this.1] at r9
       obtain ⟨b8,o8,D,q8⟩:=r9.num (show t<x.length by rw [Hm.out];exact v)
       injection D with D;injection D with D _ _;subst D
       exact ar q8
      have p4:wr.cell? ⟨b2,o2+t,none⟩=some (KL (nth x t)):=O.cell p3 (by dsimp only;omega)
      have R:=iQ (l:=mp m (u.take k)) (k:=t) (fun t=>wrap64 (nth (mp m (u.take k)) t+nth x t)) I
      obtain ⟨HK,C,a4⟩:=af O q R;clear O q R I p3
      go_wp2_with fail
      go_region
      all_goals go_wp2_with fail
      all_goals
       go_roundw
       case rel=>
        refine ⟨t+1,by omega,by go_num,?_,?_⟩
        ·rw [←a4.out];exact dA (bC C.out 1) t _
        ·exact Keep.setCell (HK.out.drewN 1) ⟨w.heap.size,t,none⟩ (.inr rfl) _
       case measure=>simp [intOf];omega
     ·obtain rfl:m=t:=by omega
      obtain ⟨HK,C⟩:=ae O q;clear O q
      go_wp2_with fail
      go_roundw
      case rel=>
       refine ⟨k+1,by omega,by go_num,?_,Lib.hid fun j y hj X=>?_,L.out.trans (HK.out.toBelow (by have:=L.out.size;omega) (fun j hj=>by omega))⟩
       ·rw [List.take_add_one,HX.out,Option.toList_some,AK]
        have H:=C.out
        have D:=iR (mp m (u.take k)) (fun t=>wrap64 (nth (mp m (u.take k)) t+nth x t))
        rw [qs] at D
        unfold eI
        rw [qs,←D]
        exact H
       ·rcases JR j k with h | h
        ·exact T.out j y h X
        ·obtain rfl:j=k:=by omega
         rw [HX.out] at X;injection X with X;rw [←X];exact Hm.out
      case measure=>simp [intOf];omega
   ·have ad:((m:Int) != (n:Int))=true:=by rw [bne_iff_ne];omega
    go_wp2_with fail
    go_ret2
    refine ⟨_,_,rfl,L.out,fun h=>absurd ?_ Y⟩
    rw [←Hm.out];exact h k x HX.out
  ·obtain rfl:k=N:=by omega
   obtain ⟨HO,L⟩:=ae q B;clear q B
   go_wp2_with fail
   go_ret2
   refine ⟨_,_,rfl,L.out,fun h=>⟨rfl,?_⟩⟩
   have:=HO.out
   rwa [←HN.out,Ks] at this
theorem EW:dq Tryz.prog 262 267 (.agg #[KL 0,KL 0,KL 0]) 3 24:=⟨Tryz.underlying262,info_parts (by kernel_rfl),rfl,by decide⟩
theorem va (A:Option Addr) (sz:List Int) (c:Nat) (w:World) (hA:Rd w A (aq .i64 sz)) (hg:dy sz):
  Calls Tryz.prog 157 #[.slice A sz.length c] w fun e w'=>∃A' c',e=.returned (.slice A' (aZ sz (sz.length-1)) c')∧w'.ownsRow w.heap.size 267 3 (.slice A' (aZ sz (sz.length-1)) c') (aZ sz (sz.length-1)) (plV (plL sz (sz.length-1)))∧Below w.heap.size w w':=by
 have a7:=hg.1.1
 obtain ⟨b,o,rfl,a5⟩:=hA.num (show 0<sz.length by omega)
 have J:b<w.heap.size:=ar a5
 obtain ⟨L,hL⟩:∃L,sz.length=L:=⟨_,rfl⟩
 rw [hL] at a7 ⊢
 obtain ⟨HA,HG,HL⟩:=af hA hg hL;clear hA hg hL a5
 go_enter Tryz.func157,Tryz.ntmps157
 go_wp2_with fail
 go_loopw [3,4] (fun v i wr=>∃k:Nat,k+1≤L∧i=KL k∧wr.ownsRow w.heap.size 267 3 v (aZ sz k) (plV (plL sz k))∧Below w.heap.size w wr) (fun _ i _=>L-(intOf i).toNat)
 case atStart=>exact ⟨0,by omega,rfl,JO _ _ _ _,JG _ _⟩
 case round=>
  obtain ⟨wq,rfl⟩:∃wq:World,wq=wr:=⟨_,rfl⟩
  obtain ⟨k,hk,rfl,T,hW0⟩:=hrel
  obtain ⟨A0,c9,rfl,_⟩:=aw T
  obtain ⟨a1,ad⟩:=ae T hW0;clear T hW0
  have b7:IntKind.i64.wrap ((k:Int)+1)=(k:Int)+1:=JI _ (by omega)
  by_cases b9:k+1<L
  ·have hR:=HG.out.1
   have b3:=HL.out
   have z0:=hR.at (k:=k) (by omega)
   have z1:=hR.at (k:=k+1) (by omega)
   obtain ⟨_,_,e',p0⟩:=HA.out.num (show k<sz.length by omega)
   injection e' with e';injection e' with e1 e2 _;subst e1;subst e2
   obtain ⟨_,_,e',p1⟩:=HA.out.num (show k+1<sz.length by omega)
   injection e' with e';injection e' with e1 e2 _;subst e1;subst e2
   rw [z0.2.2] at p0
   rw [z1.2.2] at p1
   have b5:=HG.out.bound (k:=k+1) (by omega)
   have hm:=eP sz k
   have x:cW sz k=aZ sz k+szN sz (k+1)*szN sz k:=rfl
   have R:plK sz k=plW k (szN sz k) (szN sz (k+1)*szN sz k)++plB k (szN sz (k+1)):=rfl
   obtain ⟨c0,a6⟩:∃c0,szN sz k=c0:=⟨_,rfl⟩
   obtain ⟨Q,a2⟩:∃Q,szN sz (k+1)=Q:=⟨_,rfl⟩
   obtain ⟨N,hN⟩:∃N,aZ sz k=N:=⟨_,rfl⟩
   obtain ⟨M,hM⟩:∃M,cW sz k=M:=⟨_,rfl⟩
   rw [a6] at p0 x R z0
   rw [a2] at p1 x hm R z1
   rw [hN,hM] at x
   rw [hM] at hm
   rw [←hm] at b5
   obtain ⟨b4,HN,Hm⟩:=af R hN hm
   have b1:(k:Int)+1<L:=by omega
   have b6:(k:Int)<L:=by omega
   clear a6 a2 R hm hN hM b3 hR
   go_wp2_with fail
   go_loopw [3,5] (fun v i wr=>∃r:Nat,r≤Q∧i=KL r∧wr.ownsRow w.heap.size 267 3 v (N+r*c0) (plV (plL sz k++plW k c0 (r*c0)))∧Below w.heap.size w wr) (fun _ i _=>Q-(intOf i).toNat)
   case atStart=>
    refine ⟨0,JH _,rfl,?_,ad.out⟩
    rw [Nat.zero_mul,show plW k c0 0=[] from rfl,List.append_nil,Nat.add_zero,←HN.out]
    exact a1.out
   case round=>
    obtain ⟨w1,rfl⟩:∃w1:World,w1=wr:=⟨_,rfl⟩
    obtain ⟨r,hr,rfl,Z,O⟩:=hrel
    obtain ⟨A1,d1,rfl,_⟩:=aw Z
    have ab:=(O.cell (p:=⟨b,o+k,none⟩) J).trans p0
    have a3:=(O.cell (p:=⟨b,o+(k+1),none⟩) J).trans p1
    obtain ⟨av,a8⟩:=ae Z O;clear Z O
    by_cases b8:r<Q
    ·have hrc:r*c0+c0≤Q*c0:=by
      have:=KH c0 (show r+1≤Q by omega)
      rwa [Kx] at this
     have a0:(r+1)*c0=r*c0+c0:=Kx r c0
     obtain ⟨rc,D⟩:∃rc,r*c0=rc:=⟨_,rfl⟩
     obtain ⟨m1,ao⟩:∃m1,Q*c0=m1:=⟨_,rfl⟩
     have V:=fun j (hj:j<c0)=>D2 k c0 r j hj
     rw [D] at hrc a0 V
     rw [ao] at hrc x
     obtain ⟨b2,aR,aM⟩:=af V a0 D;clear V a0 D ao
     go_wp2_with fail
     go_loopw [3,6] (fun v i wr=>∃j:Nat,j≤c0∧i=KL j∧wr.ownsRow w.heap.size 267 3 v (N+(rc+j)) (plV (plL sz k++plW k c0 (rc+j)))∧Below w.heap.size w wr) (fun _ i _=>c0-(intOf i).toNat)
     case atStart=>
      refine ⟨0,JH _,rfl,?_,a8.out⟩
      rw [Nat.add_zero,←aM.out]
      exact av.out
     case round=>
      obtain ⟨w2,rfl⟩:∃w2:World,w2=wr:=⟨_,rfl⟩
      obtain ⟨j,hj,rfl,u,q⟩:=hrel
      obtain ⟨A2,d2,rfl,_⟩:=aw u
      have bd:=(q.cell (p:=⟨b,o+k,none⟩) J).trans p0
      have hz:=q.size
      obtain ⟨y,B⟩:=ae u q;clear u q ab a3
      by_cases a4:j<c0
      ·have aG:=b2.out j a4
       have aP:=aa aG;clear aG
       go_wp2_with (at_builtin;refine aQ EW w2 rfl (.tmp 32) (.tmp 37) rfl w.heap.size (.slice A2 (N+(rc+j)) d2) (N+(rc+j)) _ rfl y.out [KL k,KL r,KL j] rfl rfl (by simp [Value.oneCell']) (by omega) (by unfold maxLen;omega) (by omega) ?_)
       intro g7 c7 w7 C I X
       have H:=B.out.trans I
       obtain ⟨U,Y⟩:=ae C H;clear C I X H
       go_wp2_with fail
       go_roundw
       case rel=>
        refine ⟨j+1,by omega,by go_num,?_,Y.out⟩
        have:=U.out
        rw [←zN (k,r,(j:Int)),←qN,Kl,←aP.out,show N+(rc+j)+1=N+(rc+(j+1)) by omega,show rc+j+1=rc+(j+1) by omega] at this
        exact this
       case measure=>simp [intOf];omega
      ·obtain rfl:j=c0:=by omega
       go_wp2_with fail
       go_roundw
       case rel=>
        refine ⟨r+1,by omega,by go_num,?_,B.out⟩
        rw [aR.out]
        exact y.out
       case measure=>simp [intOf];omega
    ·obtain rfl:r=Q:=by omega
     have b0:=aa x;clear x
     go_wp2_with fail
     go_loopw [3,7] (fun v i wr=>∃t:Nat,t≤r∧i=KL t∧wr.ownsRow w.heap.size 267 3 v (M+t) (plV (plL sz k++plW k c0 (r*c0)++plB k t))∧Below w.heap.size w wr) (fun _ i _=>r-(intOf i).toNat)
     case atStart=>
      refine ⟨0,JH _,rfl,?_,a8.out⟩
      rw [show plB k 0=[] from rfl,List.append_nil,Nat.add_zero,b0.out]
      exact av.out
     case round=>
      obtain ⟨w2,rfl⟩:∃w2:World,w2=wr:=⟨_,rfl⟩
      obtain ⟨t,ht,rfl,u,q⟩:=hrel
      obtain ⟨A2,d2,rfl,_⟩:=aw u
      have bb:=(q.cell (p:=⟨b,o+(k+1),none⟩) J).trans p1
      have hz:=q.size
      obtain ⟨y,B⟩:=ae u q;clear u q ab a3
      by_cases a4:t<r
      ·go_wp2_with (at_builtin;refine aQ EW w2 rfl (.tmp 48) (.tmp 52) rfl w.heap.size (.slice A2 (M+t) d2) (M+t) _ rfl y.out [KL k,KL t,KL (-1)] rfl rfl (by simp [Value.oneCell']) (by omega) (by unfold maxLen;omega) (by omega) ?_)
       intro g7 c7 w7 C I X
       have H:=B.out.trans I
       obtain ⟨U,Y⟩:=ae C H;clear C I X H
       go_wp2_with fail
       go_roundw
       case rel=>
        refine ⟨t+1,by omega,by go_num,?_,Y.out⟩
        have:=U.out
        rw [←zN (k,t, -1),←qN,show M+t+1=M+(t+1) by omega] at this
        rw [D3]
        simp only [Kl] at this ⊢
        exact this
       case measure=>simp [intOf];omega
      ·obtain rfl:t=r:=by omega
       go_wp2_with fail
       go_roundw
       case rel=>
        refine ⟨k+1,by omega,by go_num,?_,B.out⟩
        rw [vx,b4.out,←Kl,←Hm.out]
        exact y.out
       case measure=>simp [intOf];omega
  ·obtain rfl:k=L-1:=by omega
   have b1:¬((((L-1:Nat):Int)+1)<L):=by omega
   go_wp2_with fail
   go_ret
   exact ⟨_,_,rfl,a1.out,ad.out⟩
end Go.Proofs.YtaccfnffmbndhaaGreat
