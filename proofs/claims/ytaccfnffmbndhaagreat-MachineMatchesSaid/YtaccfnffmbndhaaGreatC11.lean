/- No condition. -/
import Derived.Test.YtaccfnffmbndhaaGreatC00
import Derived.Test.YtaccfnffmbndhaaGreatC07
import Derived.Test.YtaccfnffmbndhaaGreatC10
import Derived.Test.YtaccfnffmbndhaaGreatC01
import Derived.Test.YtaccfnffmbndhaaGreatC05
import Derived.Test.YtaccfnffmbndhaaGreatC04
import Derived.Test.YtaccfnffmbndhaaGreatC03
set_option linter.unusedSimpArgs false
set_option linter.unusedVariables false
set_option maxRecDepth 100000
set_option maxHeartbeats 4000000
namespace Go.Proofs.YtaccfnffmbndhaaGreat
open Go.RowKit
abbrev Pl:=Nat×Nat×Int
def plW (k c m:Nat):List Pl:=(List.range m).map fun i=>(k,i/c,((i%c:Nat):Int))
def plB (k m:Nat):List Pl:=(List.range m).map fun i=>(k,i, -1)
def plK (sz:List Int) (k:Nat):List Pl:=plW k (szN sz k) (szN sz (k+1)*szN sz k)++plB k (szN sz (k+1))
def plL (sz:List Int) (n:Nat):List Pl:=(List.range n).flatMap (plK sz)
theorem Gm (k c m:Nat):(plW k c m).length=m:=by simp [plW]
theorem Gp (k m:Nat):(plB k m).length=m:=by simp [plB]
theorem vx (sz:List Int) (n:Nat):plL sz (n+1)=plL sz n++plK sz n:=by simp [plL,Kw,List.flatMap_append]
theorem zO (sz:List Int) (n:Nat):(plL sz n).length=aZ sz n:=by
 induction n with
 | zero=>rfl
 | succ n ih=>
  have:=eP sz n
  unfold cW at this
  rw [vx,Kf,ih]
  unfold plK
  rw [Kf,Gm,Gp]
  omega
def plV (l:List Pl):List Value:=l.flatMap fun p=>[KL (p.1:Int),KL (p.2.1:Int),KL p.2.2]
theorem qN (a b:List Pl):plV (a++b)=plV a++plV b:=by simp [plV,List.flatMap_append]
theorem zN (p:Pl):plV [p]=[KL (p.1:Int),KL (p.2.1:Int),KL p.2.2]:=rfl
theorem IB:∀(l:List Pl) (i:Nat) (p:Pl),l[i]?=some p→(plV l)[i*3]?=some (KL (p.1:Int))∧(plV l)[i*3+1]?=some (KL (p.2.1:Int))∧(plV l)[i*3+2]?=some (KL p.2.2):=by
 intro l
 induction l with
 | nil=>intro i p h;simp at h
 | cons a l ih=>
  intro i p h
  have hv:plV (a::l)=[KL (a.1:Int),KL (a.2.1:Int),KL a.2.2]++plV l:=rfl
  rw [hv]
  cases i with
  | zero=>
   simp at h
   subst h
   exact ⟨rfl,rfl,rfl⟩
  | succ i=>
   have:=ih i p (by simpa using h)
   rw [Kj (by simp;omega),Kj (by simp;omega),Kj (by simp;omega)]
   simp only [List.length_cons,List.length_nil]
   rw [show (i+1)*3-(0+1+1+1)=i*3 by omega,show (i+1)*3+1-(0+1+1+1)=i*3+1 by omega,show (i+1)*3+2-(0+1+1+1)=i*3+2 by omega]
   exact this
theorem D2 (k c r j:Nat) (i:j<c):plW k c (r*c+j+1)=plW k c (r*c+j)++[(k,r,(j:Int))]:=by
 unfold plW
 rw [Kw,List.map_append]
 have h1:(r*c+j)/c=r:=by rw [Nat.add_comm,Nat.add_mul_div_right _ _ (by omega),Nat.div_eq_of_lt i,Kz]
 have o:(r*c+j)%c=j:=by rw [Nat.add_comm,Nat.add_mul_mod_self_right,Nat.mod_eq_of_lt i]
 rw [List.map_singleton,h1,o]
theorem D3 (k r:Nat):plB k (r+1)=plB k r++[(k,r, -1)]:=by simp [plB,Kw]
def gAt (sz ps:List Int) (q:Int) (x y:List Int) (p:Pl):Int:=
 if 0≤p.2.2 then eL (nth (fC sz ps q x y (sz.length-2-p.1)) p.2.1) (nth (cT sz ps q x p.1) p.2.2.toNat) q else nth (fC sz ps q x y (sz.length-2-p.1)) p.2.1
theorem GK (l:List Int) (n:Nat) (h:l.length=n):(List.range n).map (nth l)=l:=(eQ h fun k _=>rfl).symm
theorem Fw {sz ps:List Int} {q:Int} {x y:List Int} (hx:x.length=szN sz 0) {k:Nat} (j:k+2≤sz.length):
  kl (szN sz (k+1)) (szN sz k) (fC sz ps q x y (sz.length-2-k)) (cT sz ps q x k) q++fC sz ps q x y (sz.length-2-k)=(plK sz k).map (gAt sz ps q x y):=by
 unfold plK
 rw [List.map_append]
 congr 1
 ·unfold kl dh plW
  rw [List.map_map]
  refine List.map_congr_left fun i _=>?_
  unfold Gq gAt
  show _=if 0≤((i%szN sz k:Nat):Int) then eL (nth (fC sz ps q x y (sz.length-2-k)) (i/szN sz k)) (nth (cT sz ps q x k) ((i%szN sz k:Nat):Int).toNat) q else nth (fC sz ps q x y (sz.length-2-k)) (i/szN sz k)
  rw [if_pos (Int.natCast_nonneg _),Int.toNat_natCast]
 ·unfold plB
  rw [List.map_map]
  have hl:=jX (sz:=sz) (ps:=ps) (q:=q) (x:=x) (y:=y) hx (sz.length-2-k)
  rw [show sz.length-1-(sz.length-2-k)=k+1 by omega] at hl
  have:=GK _ _ hl
  conv=>lhs;rw [←this]
  refine List.map_congr_left fun i _=>?_
  unfold gAt
  simp
theorem EJ {sz ps:List Int} {q:Int} {x y:List Int} (hx:x.length=szN sz 0):∀j,j+1≤sz.length→nN sz ps q x y j=(((List.range (sz.length-1)).drop (sz.length-1-j)).flatMap (plK sz)).map (gAt sz ps q x y):=by
 intro j
 induction j with
 | zero=>intro _;rw [Nat.sub_zero,List.drop_eq_nil_of_le (by simp)];rfl
 | succ j ih=>
  intro o
  have i:(List.range (sz.length-1)).drop (sz.length-1-(j+1))=(sz.length-2-j)::(List.range (sz.length-1)).drop (sz.length-1-j):=by
   rw [show sz.length-1-(j+1)=sz.length-2-j by omega]
   rw [List.drop_eq_getElem_cons (by simp;omega),List.getElem_range]
   congr 2
   omega
  rw [i,List.flatMap_cons,List.map_append,←ih (by omega),nN,←Kl]
  congr 1
  have:=Fw (sz:=sz) (ps:=ps) (q:=q) (x:=x) (y:=y) hx (k:=sz.length-2-j) (by omega)
  rw [show sz.length-2-j+1=sz.length-1-j by omega,show sz.length-2-(sz.length-2-j)=j by omega] at this
  exact this
theorem ww {sz ps:List Int} {q:Int} {x y:List Int} (hx:x.length=szN sz 0) (hl:1≤sz.length):gD sz ps q x y=(plL sz (sz.length-1)).map (gAt sz ps q x y):=by
 unfold gD
 rw [EJ hx _ (by omega),Nat.sub_self,Ke]
 rfl
theorem tp {sz ps:List Int} {q:Int} {x y:List Int} (hx:x.length=szN sz 0) (hl:1≤sz.length):(gD sz ps q x y).length=aZ sz (sz.length-1):=by
 rw [ww hx hl,List.length_map,zO]
theorem Gn {sz:List Int} {n:Nat} {p:Pl} (h:p∈plL sz n):p.1<n∧p.2.1<szN sz (p.1+1)∧(p.2.2= -1∨(0≤p.2.2∧p.2.2.toNat<szN sz p.1)):=by
 unfold plL at h
 obtain ⟨k,o,h⟩:=List.mem_flatMap.1 h
 have o:=List.mem_range.1 o
 unfold plK at h
 rcases Kv.1 h with h | h
 ·unfold plW at h
  obtain ⟨i,j,rfl⟩:=List.mem_map.1 h
  have j:=List.mem_range.1 j
  have hc:0<szN sz k:=by
   rcases Nat.eq_zero_or_pos (szN sz k) with q | q
   ·rw [q,Nat.mul_zero] at j;omega
   ·exact q
  exact ⟨o,Nat.div_lt_of_lt_mul (by rw [Nat.mul_comm];exact j),.inr ⟨by dsimp only;omega,by dsimp only;rw [Int.toNat_natCast];exact Nat.mod_lt _ hc⟩⟩
 ·unfold plB at h
  obtain ⟨i,j,rfl⟩:=List.mem_map.1 h
  exact ⟨o,List.mem_range.1 j,.inl rfl⟩
theorem Ah {i:Inp} (h:dy i.cfg.sizes):1≤cnt i:=by
 unfold cnt
 have h1:=h.1.1
 have:=fv i.cfg.sizes (show 1≤i.cfg.sizes.length-1 by omega)
 have o:aZ i.cfg.sizes 1=0+(szN i.cfg.sizes 0+1)*szN i.cfg.sizes 1:=rfl
 have j:=(h.1.at (k:=1) (by omega)).1
 have p:1*1≤(szN i.cfg.sizes 0+1)*szN i.cfg.sizes 1:=Nat.mul_le_mul (by omega) j
 omega
def dO (i:Inp) (P:List Int) (l:List Ex):List Int:=l.foldl (fun a x=>eI a (gD i.cfg.sizes P i.cfg.shift x.1 x.2)) (List.replicate (cnt i) 0)
theorem ut (i:Inp) (P:List Int) (l:List Ex) (x:Ex):dO i P (l++[x])=eI (dO i P l) (gD i.cfg.sizes P i.cfg.shift x.1 x.2):=by simp [dO]
theorem im (i:Inp) (P:List Int) (l:List Ex):(dO i P l).length=cnt i:=by
 have:∀(l:List Ex) (a:List Int),(l.foldl (fun a x=>eI a (gD i.cfg.sizes P i.cfg.shift x.1 x.2)) a).length=a.length:=by
  intro l
  induction l with
  | nil=>intro a;rfl
  | cons x l ih=>intro a;rw [List.foldl_cons,ih,ir]
 unfold dO
 rw [this,Km]
theorem wz (i:Inp) (P:List Int) (l:List Ex):W64 (dO i P l):=by
 have:∀(l:List Ex) (a:List Int),W64 a→W64 (l.foldl (fun a x=>eI a (gD i.cfg.sizes P i.cfg.shift x.1 x.2)) a):=by
  intro l
  induction l with
  | nil=>intro a h;exact h
  | cons x l ih=>intro a _;exact ih _ (fE fun _ _=>gH _)
 refine this _ _ fun k j=>?_
 rw [dI _ _ j];simp
def iK (i:Inp) (j:List Int):Prop:=∀k,k<j.length→jn i.data.length (nth j k)
theorem zk {i:Inp} (hg:kQ i) (k:Nat):iK i (db i.draws i.data.length i.cfg.batch.toNat k):=fun j p=>by
 have h1:=hg.c.w;have q:=hg.c.ba;have u:=hg.b
 have o:1≤i.data.length/i.cfg.batch.toNat:=Nat.div_pos (by omega) (by omega)
 rw [gX _ o] at p
 exact CO _ o j p
theorem EU:dq Tryz.prog 62 68 (.agg #[KN,KN]) 2 48:=⟨Tryz.underlying62,info_parts (by kernel_rfl),rfl,by decide⟩
theorem Dp {n base:Nat} {w i:World} {x:Ex} {A1 j:Option Addr} {c1 c2:Nat} (h1:i.ownsRow w.heap.size 2 1 (.slice A1 n c1) n (aq .i64 x.1)) (q:i.ownsRow w.heap.size 2 1 (.slice j n c2) n (aq .i64 x.2)) (o:base≤w.heap.size) (u:x.1.length=n) (v:x.2.length=n) (hn:n≤1048576) (p:W64 x.1) (y:W64 x.2):dz i base [.slice A1 n c1,.slice j n c2] x:=
 ⟨_,_,rfl,by rw [u];exact ax h1 o,by rw [v];exact ax q o,by omega,by omega,p,y⟩
def JB:Value→Nat
 | .slice _ n _=>n
 | _=>0
theorem zg {w:World} {b:Nat} {t:TypeId} {v0 v1 v2 v3 v4 v5 v6 v7 v8 v9 v10 v11 u o i x v p q:Value} (h:w.heap[b]?=some (.cells #[v0,v1,v2,v3,v4,v5,v6,v7,v8,v9,v10,v11,u,o,i,x,v,p,q] t (0,0))):(w.cell? ⟨b,0,none⟩=some v0∧w.cell? ⟨b,1,none⟩=some v1∧w.cell? ⟨b,2,none⟩=some v2∧w.cell? ⟨b,3,none⟩=some v3∧w.cell? ⟨b,4,none⟩=some v4∧w.cell? ⟨b,5,none⟩=some v5∧w.cell? ⟨b,6,none⟩=some v6∧w.cell? ⟨b,7,none⟩=some v7∧w.cell? ⟨b,8,none⟩=some v8∧w.cell? ⟨b,9,none⟩=some v9∧w.cell? ⟨b,10,none⟩=some v10∧w.cell? ⟨b,11,none⟩=some v11∧w.cell? ⟨b,12,none⟩=some u∧w.cell? ⟨b,13,none⟩=some o∧w.cell? ⟨b,14,none⟩=some i∧w.cell? ⟨b,15,none⟩=some x∧w.cell? ⟨b,16,none⟩=some v∧w.cell? ⟨b,17,none⟩=some p∧w.cell? ⟨b,18,none⟩=some q)∧∀j,w.frozen? ⟨b,j,none⟩=false:=by
 have:=bx (vs:=[v0,v1,v2,v3,v4,v5,v6,v7,v8,v9,v10,v11,u,o,i,x,v,p,q]) h;simp only [Bx,Cs,Nat.reduceAdd,and_true] at this;exact ⟨this.1,this.2.2⟩
theorem eK {T:TypeId} {u v:World} {b:Nat} {sz:List Int} (h:bY T u b sz) (hv:Ext u v):bY T v b sz:=by
 obtain ⟨A1,c1,j,c2,i,c3,p,h1,o,q⟩:=h
 exact ⟨A1,c1,j,c2,i,c3,rt (xs:=[_,_,_]) p hv,aU h1 hv,aU o hv,aU q hv⟩
theorem gi {u v:World} {S n batch steps:Nat} {l:List Int} (h:eN u S n batch steps l) (hv:Ext u v):eN v S n batch steps l:=by
 obtain ⟨o,p,J,H,vs,h1,A,I,B,D⟩:=h
 exact ⟨o,p,J,H,vs,rt (xs:=[_,_,_]) h1 hv,aU A hv,aU I hv,B,fun j y=>by
  obtain ⟨L,C,i,q,x⟩:=D j y
  exact ⟨L,C,i,q,aU x hv⟩⟩
theorem bW:Jj rEx:=fun ⟨A1,c1,o,c2,e,i,j⟩ hv=>⟨A1,c1,o,c2,e,⟨i.hc,i.hl,aU i.hr hv,i.hw⟩,⟨j.hc,j.hl,aU j.hr hv,j.hw⟩⟩
theorem gj {u v:World} {P:Nat} {p:Pln} {o q x A B y i:Value} (h:et u P p o q x A B y i) (j:Ext u v):et v P p o q x A B y i:=by
 obtain ⟨BA,bc,N,J,I,C,h1,D,L,H⟩:=h
 exact ⟨BA,bc,N,J,I,C,rt (xs:=[_,_,_,_,_,_,_,_,_,_,_,_,_,_]) h1 j,aU D j,aU L j,aU H j⟩
structure Mst where
 P:List Int
 M:List Int
 G:List Int
 rc:List Ex
 st:Nat
 nx:Nat
 op:List Nat
def aE (i:Inp):Pln:=⟨i.cfg.workers.toNat,i.cfg.micros.toNat,i.cfg.bucket.toNat,i.cfg.chunk.toNat,i.cfg.window.toNat,i.start.length⟩
def dw (l:List Nat):List Int:=l.map fun j:Nat=>(j:Int)
theorem jV (l:List Nat):(dw l).length=l.length:=by simp [dw]
structure cU (i:Inp):Prop where
 g:kQ i
 n:i.start.length≤60
 w:i.cfg.workers≤8
 m:i.cfg.micros≤20
 s:i.cfg.steps≤6
 d:i.data.length≤40
theorem cU.ok {i:Inp} (h:cU i):cN (aE i):=by
 have h1:=h.g.c.w;have q:=h.g.c.mi;have x:=h.g.c.bu;have u:=h.g.c.ch;have v:=h.g.c.wi
 have j:=h.n;have o:=h.w;have p:=h.m
 exact ⟨by simp only [aE];omega,by simp only [aE];omega,by simp only [aE];omega,by simp only [aE];omega,by simp only [aE];omega,by simp only [aE];omega,by simp only [aE];omega,by simp only [aE];omega⟩
theorem cU.n1 {i:Inp} (h:cU i):1≤(aE i).n:=by
 have:=Ah h.g.c.z
 have:=h.g.s
 simp only [aE];omega
def bZ (i:Inp) (x st:Nat):List Itm:=if st<i.cfg.steps.toNat then aD (aE i) x st else []
structure MAd where
 F:Nat
 E:Option Addr
 ce:Nat
 S:Nat
 PP:Nat
 BA:Option Addr
 bc:Nat
 bp:Nat
 cp:Nat
 bm:Nat
 cm:Nat
 bg:Nat
 cg:Nat
 rb:Nat
 rc:Nat
 IA:Option Addr
 ic:Nat
 ov:Value
def aW (i:Inp) (x:Nat) (m:Mst):Nat:=m.st*(aD (aE i) x 0).length+m.nx
def Mut (b:Nat) (a:MAd) (k:Nat):Prop:=k=b∨k=a.bp∨k=a.bm∨k=a.bg∨k=a.rb∨a.ov.ownBlock=some k
abbrev fL (H:Nat→Prop) (b:Nat) (a:MAd):Nat→Prop:=fun k=>Mut b a k∨H k
def tE (V w:World) (v:Value) (l:List Ex):Prop:=∃i:List (List Value),w.ownsRow 0 68 2 v l.length (List.flatten i)∧i.length=l.length∧(∀r∈i,r.length=2)∧∀j x,l[j]?=some x→rEx V (bq i j) x
structure aI (H:Nat→Prop) (w:World) (b:Nat) (i:Inp) (x:Nat) (a:MAd) (m:Mst):Prop where
 blk:w.heap[b]?=some (.cells #[KL (x:Nat),KL i.cfg.workers,KL i.cfg.micros,.pointer (some ⟨a.F,0,none⟩),.slice a.E i.data.length a.ce,.pointer (some ⟨a.S,0,none⟩),.pointer (some ⟨a.PP,0,none⟩),.slice a.BA (aE i).buks.length a.bc,KL i.cfg.rate,KL i.cfg.mom,KL i.cfg.shift,.slice (some ⟨a.bp,0,none⟩) i.start.length a.cp,.slice (some ⟨a.bm,0,none⟩) i.start.length a.cm,.slice (some ⟨a.bg,0,none⟩) i.start.length a.cg,.slice (some ⟨a.rb,0,none⟩) m.rc.length a.rc,.slice a.IA (bZ i x m.st).length a.ic,KL (m.nx:Nat),KL (aW i x m:Nat),a.ov] 130 (0,0))
 sh:bY 186 (ay (fL H b a) w) a.F i.cfg.sizes
 ex:cE rEx 2 (ay (fL H b a) w) a.E i.data
 sa:eN (ay (fL H b a) w) a.S i.data.length i.cfg.batch.toNat i.cfg.steps.toNat i.draws
 pl:∃a0 a1 a2 a3 a5 a11,et (ay (fL H b a) w) a.PP (aE i) a0 a1 a2 a3 a5 (KL (i.cfg.steps.toNat:Nat)) a11
 bu:Rd (ay (fL H b a) w) a.BA (aF (aE i).buks)
 it:Rd (ay (fL H b a) w) a.IA (bH (bZ i x m.st))
 re:tE (ay (fL H b a) w) w (.slice (some ⟨a.rb,0,none⟩) m.rc.length a.rc) m.rc
 oP:w.ownsRow 0 2 1 (.slice (some ⟨a.bp,0,none⟩) i.start.length a.cp) i.start.length (aq .i64 m.P)
 oM:w.ownsRow 0 2 1 (.slice (some ⟨a.bm,0,none⟩) i.start.length a.cm) i.start.length (aq .i64 m.M)
 oG:w.ownsRow 0 2 1 (.slice (some ⟨a.bg,0,none⟩) i.start.length a.cg) i.start.length (aq .i64 m.G)
 oO:w.ownsRow 0 3 1 a.ov m.op.length (aq .i64 (dw m.op))
 dj:a.bp≠a.bm∧a.bp≠a.bg∧a.bm≠a.bg
 hH:∀k,k<w.heap.size→Mut b a k→¬H k
 wP:m.P.length=i.start.length∧W64 m.P
 wM:m.M.length=i.start.length∧W64 m.M
 wG:m.G.length=i.start.length∧W64 m.G
 ox:m.nx<(bZ i x m.st).length∨(m.nx=0∧i.cfg.steps.toNat≤m.st)
 xw:x<(aE i).W
theorem tE.ext {V o w p:World} {v:Value} {l:List Ex} (h:tE V w v l) (he:Ext V o) (q:∀e size n xs,w.ownsRow 0 e size v n xs→p.ownsRow 0 e size v n xs):tE o p v l:=by
 obtain ⟨i,h1,u,A,y⟩:=h
 exact ⟨i,q _ _ _ _ h1,u,A,fun j x hx=>bW (y j x hx) he⟩
theorem aI.step {H q:Nat→Prop} {w p:World} {b x:Nat} {i:Inp} {a:MAd} {m:Mst} (h:aI H w b i x a m) (u:Keep H w p) (hs:∀k,k<w.heap.size→q k→H k) (hn:∀k,Mut b a k→¬q k):aI q p b i x a m:=by
 have he:Ext (ay (fL H b a) w) (ay (fL q b a) p):=cu (u.mono fun k _ h=>.inr h) (fun k hl I=>I.imp id (hs k hl))
 have J:∀k,k<w.heap.size→Mut b a k→p.heap[k]?=w.heap[k]?:=fun k hl hm=>u.block k hl (h.hH k hl hm)
 have j:∀(v:Value) e size n xs,(∀k,v.ownBlock=some k→Mut b a k)→w.ownsRow 0 e size v n xs→p.ownsRow 0 e size v n xs:=fun v e size n xs hv j=>u.own j fun k o=>h.hH k (j.lt k o).2 (hv k o)
 have bp:∀k,(Value.slice (some ⟨a.bp,0,none⟩) i.start.length a.cp).ownBlock=some k→Mut b a k:=fun k e=>by cases e;exact .inr (.inl rfl)
 have bm:∀k,(Value.slice (some ⟨a.bm,0,none⟩) i.start.length a.cm).ownBlock=some k→Mut b a k:=fun k e=>by cases e;exact .inr (.inr (.inl rfl))
 have bg:∀k,(Value.slice (some ⟨a.bg,0,none⟩) i.start.length a.cg).ownBlock=some k→Mut b a k:=fun k e=>by cases e;exact .inr (.inr (.inr (.inl rfl)))
 have rb:∀k,(Value.slice (some ⟨a.rb,0,none⟩) m.rc.length a.rc).ownBlock=some k→Mut b a k:=fun k e=>by cases e;exact .inr (.inr (.inr (.inr (.inl rfl))))
 have ov:∀k,a.ov.ownBlock=some k→Mut b a k:=fun k e=>.inr (.inr (.inr (.inr (.inr e))))
 obtain ⟨B,C,D,L,N,y,A⟩:=h.pl
 exact ⟨(J b (JC h.blk) (.inl rfl)).trans h.blk,eK h.sh he,dJ bW h.ex he,gi h.sa he,⟨B,C,D,L,N,y,gj A he⟩,aU h.bu he,aU h.it he,
  h.re.ext he (fun e size n xs=>j _ e size n xs rb),j _ _ _ _ _ bp h.oP,j _ _ _ _ _ bm h.oM,j _ _ _ _ _ bg h.oG,j _ _ _ _ _ ov h.oO,h.dj,fun k _ hm=>hn k hm,h.wP,h.wM,h.wG,h.ox,h.xw⟩
theorem aI.below {H:Nat→Prop} {w j:World} {b x:Nat} {i:Inp} {a:MAd} {m:Mst} (h:aI H w b i x a m) (o:Below w.heap.size w j) (hn:∀k,Mut b a k→¬H k):aI H j b i x a m:=h.step (Keep.below o) (fun _ _ h=>h) hn
def kK (i:Inp) (x k:Nat):List Itm:=(List.range k).flatMap fun t=>aD (aE i) x t
abbrev dx (i:Inp) (x:Nat):List Itm:=kK i x i.cfg.steps.toNat
theorem fP (i:Inp) (x k:Nat):kK i x (k+1)=kK i x k++aD (aE i) x k:=by simp [kK,Kw]
theorem j0 {i:Inp} (j:cN (aE i)) (x k:Nat):(kK i x k).length=k*(aD (aE i) x 0).length:=by
 induction k with
 | zero=>simp [kK]
 | succ k ih=>rw [fP,Kf,ih,jk j x k,Kx]
theorem Ay {i:Inp} (j:cN (aE i)) {x st nx:Nat} {y:Itm} (o:(aD (aE i) x st)[nx]?=some y):∀{k:Nat},st<k→(kK i x k)[st*(aD (aE i) x 0).length+nx]?=some y
 | 0,h=>absurd h (Nat.not_lt_zero _)
 | k+1,h=>by
  have hl:=j0 j x k
  have hn:=(Kg.1 o).1
  rw [jk j] at hn
  rw [fP]
  rcases JR st k with p | p
  ·have h1:=KH (aD (aE i) x 0).length (Nat.succ_le_of_lt p)
   rw [Kx] at h1
   rw [Ki (by omega)]
   exact Ay j o p
  ·obtain rfl:st=k:=by omega
   rw [Kj (by omega),hl,Nat.add_sub_cancel_left]
   exact o
def iw (j:Nat) (b:Bool) (y:Itm):Bool:=if y.kind=5∧y.n=j then false else if y.kind=2∧y.n=j then true else b
def rW (i:List Itm) (o j:Nat):Bool:=(i.take o).foldl (iw j) false
def kU (i:List Itm) (o nb:Nat):List Nat:=(List.range nb).filter fun j=>rW i o j
theorem Cr {i:List Itm} {k:Nat} {y:Itm} (h:i[k]?=some y) (j:Nat):rW i (k+1) j=iw j (rW i k j) y:=by
 obtain ⟨o,e⟩:=Kg.1 h
 unfold rW
 rw [List.take_succ_eq_append_getElem o,e,List.foldl_append]
 rfl
theorem sO (i:List Itm) (j nb:Nat):kU i j (nb+1)=kU i j nb++if rW i j nb then [nb] else []:=by
 unfold kU
 rw [Kw,List.filter_append]
 congr 1
 simp only [List.filter_cons,List.filter_nil]
theorem zR (i:List Itm) (j nb:Nat):(kU i j nb).length≤nb:=by
 unfold kU
 exact JJ (List.length_filter_le _ _) (by simp)
structure Cor where
 st:Nat
 bk:Nat
 ph:Nat
 rd:Nat
 ch:Nat
 at':Rg
def Acn.cor (a:Acn):Cor:=⟨a.st,a.bk,a.ph,a.rd,a.ch,a.at'⟩
def Cor.q (wi:Nat) (c:Cor):Nat:=((((c.st*64+c.bk/wi)*2+c.ph)*64+c.rd)*64+c.bk)*128+c.ch
def Acn.key (wi:Nat) (a:Acn):Nat:=2*a.cor.q wi+(if a.send then 0 else 1)
theorem AW {st bk:Nat} {b:Rg} {W c x ph r:Nat} {a:Acn} (h:a∈dF st bk b W c x ph r):a.st=st∧a.bk=bk∧a.ph=ph∧a.rd=r∧a.ch<(dF st bk b W c x ph r).length:=by
 rw [ke]
 unfold dF mT at h
 obtain ⟨i,j,h⟩:=List.mem_flatMap.1 h
 rw [List.mem_range] at j
 rw [Kv] at h
 rcases h with h | h<;>split at h
 ·simp only [List.mem_singleton] at h;subst h;exact ⟨rfl,rfl,rfl,rfl,by show i<_;omega⟩
 ·simp at h
 ·simp only [List.mem_singleton] at h;subst h;exact ⟨rfl,rfl,rfl,rfl,by show i<_;omega⟩
 ·simp at h
theorem ry:dq Tryz.prog 164 132 (.agg #[KL 0,KL 0]) 2 16:=⟨Tryz.underlying164,info_parts (by kernel_rfl),rfl,by decide⟩
def zj (n s k:Nat):List Rg:=(List.range k).map fun j=>(j*s,min (j*s+s) n)
theorem CM (n s k:Nat):zj n s (k+1)=zj n s k++[(k*s,min (k*s+s) n)]:=by simp [zj,Kw]
theorem FB (n s k:Nat):(zj n s k).length=k:=by simp [zj]
theorem IS (n s:Nat):eR n s=zj n s (cZ n s):=rfl
theorem G9 {n s k:Nat} (hs:1≤s) (h:cZ n s≤k):n≤k*s:=by
 rcases Nat.eq_zero_or_pos n with rfl | hn
 ·omega
 ·rw [qj n s hs] at h
  have h1:=Nat.div_add_mod (n+s-1) s
  have i:=Nat.mod_lt (n+s-1) (show 0<s by omega)
  have o:s*((n+s-1)/s)≤s*k:=Nat.mul_le_mul_left s h
  have j:s*k=k*s:=Nat.mul_comm _ _
  omega
theorem qM (n s:Nat) (w:World) (hn:n≤1048576) (hs:1≤s) (a3:s≤1048576):
  Calls Tryz.prog 124 #[KL n,KL s] w fun e R=>∃v,e=.returned v∧R.ownsRow w.heap.size 132 2 v (eR n s).length (aF (eR n s))∧Below w.heap.size w R:=by
 have a2:¬((s:Int)<1):=by omega
 by_cases Z:n=0
 ·subst Z
  go_enter Tryz.func124,Tryz.ntmps124
  go_wp2
  go_ret
  exact ⟨_,rfl,JO _ _ _ _,JG _ _⟩
 ·have a0:¬((n:Int)<1):=by omega
  have hc:=fu n s
  have hl:=fun k (h:k<cZ n s)=>iI h
  have hg:=fun k (h:cZ n s≤k)=>G9 hs h
  rw [IS,FB]
  obtain ⟨m,hm⟩:∃m,cZ n s=m:=⟨_,rfl⟩
  rw [hm] at hc hl hg ⊢
  obtain ⟨Hl,Hg⟩:=ae hl hg;clear hm hl hg
  go_enter Tryz.func124,Tryz.ntmps124
  go_wp2_with fail
  go_loopw [5,6] (fun v x wr=>∃k:Nat,k≤m∧x=KL (min (k*s) n:Nat)∧wr.ownsRow w.heap.size 132 2 v k (aF (zj n s k))∧Below w.heap.size w wr) (fun _ x _=>n-(intOf x).toNat)
  case atStart=>exact ⟨0,JH _,by simp,JO _ _ _ _,JG _ _⟩
  case round=>
   obtain ⟨k,hk,rfl,H,C⟩:=hrel
   by_cases O:k<m
   ·have Q:=Hl.out k O
    have o:=CM n s k
    have hnx:(k+1)*s=k*s+s:=Kx k s
    obtain ⟨y,U⟩:∃y,k*s=y:=⟨_,rfl⟩
    rw [U] at Q o hnx ⊢
    rw [show min y n=y by omega]
    have a1:(y:Int)<n:=by omega
    obtain ⟨A,c,rfl,_⟩:=aw H
    obtain ⟨z,L⟩:∃z,min (y+s) n=z:=⟨_,rfl⟩
    rw [L] at o
    obtain ⟨I,B,N,J,T⟩:=ah o hnx H C L
    have D:=C.size
    clear o hnx H C U
    by_cases V:(s:Int)<(n:Int)-y
    ·obtain rfl:z=y+s:=by omega
     clear L
     go_wp2_with (at_builtin;refine aQ ry _ rfl (.tmp 26) (.tmp 30) rfl w.heap.size (.slice A k c) k _ rfl N.out [KL (y:Int),KL ((y:Int)+s)] rfl rfl (bP .i64 [_,_]) (by omega) (by unfold maxLen;omega) D ?_)
     intro Y c6 w6 i j u
     obtain ⟨q,p⟩:=ae i (J.out.trans j);clear i j u
     go_wp2_with fail
     go_roundw
     case rel=>exact ⟨k+1,by omega,by rw [B.out,T.out];push_cast;rfl,by rw [I.out,gN];exact q.out,p.out⟩
     case measure=>simp [intOf];omega
    ·obtain rfl:z=n:=by omega
     clear L
     go_wp2_with (at_builtin;refine aQ ry _ rfl (.tmp 26) (.tmp 30) rfl w.heap.size (.slice A k c) k _ rfl N.out [KL (y:Int),KL (z:Nat)] rfl rfl (bP .i64 [_,_]) (by omega) (by unfold maxLen;omega) D ?_)
     intro Y c6 w6 i j u
     obtain ⟨q,p⟩:=ae i (J.out.trans j);clear i j u
     go_wp2_with fail
     go_roundw
     case rel=>exact ⟨k+1,by omega,by rw [B.out,T.out],by rw [I.out,gN];exact q.out,p.out⟩
     case measure=>simp [intOf];omega
   ·have X:=Hg.out k (by omega)
    obtain rfl:k=m:=by omega
    rw [show min (k*s) n=n by omega]
    have a4:¬((n:Int)<n):=by omega
    obtain ⟨N,J⟩:=ae H C;clear H C
    go_wp2_with fail
    go_ret
    exact ⟨_,rfl,N.out,J.out⟩
theorem vc (n s:Nat) (w:World) (hn:n≤1048576) (hs:1≤s) (i:s≤1048576):
  Calls Tryz.prog 77 #[KL n,KL s] w fun e o=>∃v,e=.returned v∧o.ownsRow w.heap.size 132 2 v (eR n s).length (aF (eR n s))∧Below w.heap.size w o:=by
 have p:=qM n s w hn hs i
 have y:=aa p;clear p
 go_enter Tryz.func77,Tryz.ntmps77
 go_wp2_with fail
 refine y.out.mono ?_
 rintro e A ⟨v,rfl,q,j⟩
 obtain ⟨x,u⟩:=ae q j;clear q j
 go_wp2_with fail
 go_ret
 exact ⟨_,rfl,x.out,u.out⟩
def szs (k m:Nat):List Int:=(List.range k).map fun i=>(szE k m i:Int)
theorem lL (k m:Nat):(szs k m).length=k:=by simp [szs]
theorem zt {k m i:Nat} (h:i<k):nth (szs k m) i=(szE k m i:Int):=by rw [dI _ _ (by rw [lL];exact h)];simp [szs]
theorem Df (k:Nat):List.replicate k (0:Int)=szs k 0:=by
 refine List.ext_getElem (by simp [lL]) fun i h1 j=>?_
 simp [szs,Dh]
theorem Dg {k m:Nat} (q:0<k):(szs k m).set (m%k) ((szE k m (m%k):Int)+1)=szs k (m+1):=by
 refine List.ext_getElem (by simp [lL]) fun i h1 p=>?_
 have o:i<k:=by simpa [lL] using h1
 rw [List.getElem_set]
 have j:=Di (m:=m) o
 by_cases h:m%k=i
 ·subst h
  rw [if_pos rfl]
  simp only [szs,List.getElem_map,List.getElem_range]
  rw [j,if_pos rfl]
  push_cast;rfl
 ·rw [if_neg h]
  simp only [szs,List.getElem_map,List.getElem_range]
  rw [j,if_neg (fun e=>h e.symm),Nat.add_zero]
theorem Dj (k m i:Nat):szE k m i≤m+1:=by
 unfold szE
 have:=Nat.div_le_self m k
 split<;>omega
def evK (n k m:Nat):List Rg:=(List.range m).map fun i=>(bdN n k i,bdN n k (i+1))
theorem ES (n k m:Nat):evK n k (m+1)=evK n k m++[(bdN n k m,bdN n k m+szE k n m)]:=by
 rw [←nU];exact rx n k m
theorem sD (n k:Nat) (w:World) (h1:1≤k) (h2:k≤1048576) (h3:n≤1048576):
  Calls Tryz.prog 153 #[KL n,KL k] w fun e V=>∃v,e=.returned v∧V.ownsRow w.heap.size 132 2 v k (aF (fA n k))∧Below w.heap.size w V:=by
 have av:¬((n:Int)<0):=by omega
 have aP:¬((k:Int)<1):=by omega
 have aG:¬(k=0):=by omega
 obtain ⟨W0,Q,o0,R⟩:=j8 gq w rfl k (by omega) (by unfold maxLen;omega)
 rw [dS,Df] at o0
 obtain ⟨a0,O0⟩:=ae R o0;clear R o0
 go_enter Tryz.func153,Tryz.ntmps153
 go_wp2_with fail
 clear Q
 go_loopw [6] (fun y wr=>∃m:Nat,m≤n∧y=KL m∧wr.ownsRow w.heap.size 3 1 (.slice (some ⟨w.heap.size,0,none⟩) k k) k (aq .i64 (szs k m))∧Below w.heap.size w wr) (fun y _=>n-(intOf y).toNat)
 case atStart=>exact ⟨0,JH _,rfl,O0.out,a0.out⟩
 case round=>
  obtain ⟨m,hm,rfl,J,x⟩:=hrel
  by_cases p:m<n
  ·have I:(m:Int)<n:=by omega
   have a8:(m:Int).tmod (k:Int)=((m%k:Nat):Int):=rfl
   have a2:(m:Int)%(k:Int)=((m%k:Nat):Int):=rfl
   have C:m%k<k:=Nat.mod_lt _ h1
   have i:=Dg (m:=m) h1
   have hc:=J.cellAt (m%k) (by omega)
   rw [li _ _ _ (by rw [lL];exact C),zt C] at hc
   have u:=Dj k m (m%k)
   have hf:=fun j=>J.frozenAt j
   obtain ⟨r,hr⟩:∃r,m%k=r:=⟨_,rfl⟩
   rw [hr] at a8 a2 C i hc u
   have ad:(r:Int)<k:=by omega
   obtain ⟨s,hs⟩:∃s,szE k m r=s:=⟨_,rfl⟩
   rw [hs] at i hc u
   have a7:IntKind.i64.wrap ((m:Int)+1)=((m+1:Nat):Int):=by rw [JI _ (by omega)];push_cast;rfl
   have D:=(J.stored r (KL ((s:Int)+1))).1
   rw [vG,i] at D
   have U:=Keep.setCell (S:=fun j=>j=w.heap.size) (Keep.refl _ wr) ⟨w.heap.size,r,none⟩ (.inr rfl) (KL ((s:Int)+1))
   obtain ⟨Z,O⟩:=ae D (x.trans (U.toBelow x.size (fun j hj=>by omega)))
   clear J x hr hs i D U
   go_wp2_with fail
   go_roundw
   case rel=>exact ⟨m+1,by omega,by go_num,Z.out,O.out⟩
   case measure=>simp [intOf];omega
  ·have I:¬((m:Int)<n):=by omega
   obtain rfl:n=m:=by omega
   obtain ⟨Ho,O⟩:=ae J x;clear J x
   go_wp2_with fail
   obtain ⟨L,rfl⟩:∃L:World,L=wr:=⟨_,rfl⟩
   go_loopw [7,8,9] (fun v z y wr=>∃m:Nat,m≤k∧y=KL m∧z=KL (bdN n k m:Nat)∧wr.ownsRow L.heap.size 132 2 v m (aF (evK n k m))∧Below L.heap.size L wr) (fun _ _ y _=>k-(intOf y).toNat)
   case atStart=>exact ⟨0,JH _,rfl,by simp [bdN],JO _ _ _ _,JG _ _⟩
   case round=>
    obtain ⟨m,hm,rfl,rfl,o,q⟩:=hrel
    by_cases p:m<k
    ·have I:(m:Int)<k:=by omega
     have a7:IntKind.i64.wrap ((m:Int)+1)=((m+1:Nat):Int):=by rw [JI _ (by omega)];push_cast;rfl
     have hc:=Ho.out.cellAt m (by omega)
     rw [li _ _ _ (by rw [lL];exact p),zt p] at hc
     have u:=Dj k n m
     have Y:=fD n k m h1 hm
     have ao:=fD n k (m+1) h1 p
     have i:=ES n k m
     have hbs:=nU n k m
     obtain ⟨s,hs⟩:∃s,szE k n m=s:=⟨_,rfl⟩
     rw [hs] at hc u i hbs
     have T:=am q hc
     obtain ⟨b,x⟩:∃b,bdN n k m=b:=⟨_,rfl⟩
     rw [x] at Y i hbs ⊢
     obtain ⟨A,c,rfl,_⟩:=aw o
     obtain ⟨B,X,ab,a5⟩:=ag o q i hbs
     have a3:=q.size
     have aM:=ar T
     have d2:=fun V (q':Below wr.heap.size wr V)=>am q' T
     have Hc:=aa hc;clear o q i hbs x hs hc
     go_wp2_with (at_builtin;refine aQ ry _ rfl (.tmp 36) (.tmp 45) rfl L.heap.size (.slice A m c) m _ rfl B.out [KL (b:Nat),KL ((b:Int)+s)] rfl rfl (bP .i64 [_,_]) (by omega) (by unfold maxLen;omega) a3 ?_)
     intro g6 c6 w6 N H a6
     obtain ⟨a4,a1⟩:=ae N (X.out.trans H)
     have d6:=am (X.out.trans H) Hc.out
     clear N H a6
     go_wp2_with fail
     go_roundw
     case rel=>exact ⟨m+1,by omega,by go_num,by rw [a5.out];push_cast;rfl,by rw [ab.out,gN];exact a4.out,a1.out⟩
     case measure=>simp [intOf];omega
    ·have I:¬((m:Int)<k):=by omega
     obtain rfl:k=m:=by omega
     obtain ⟨B,X⟩:=ae (ax (base':=w.heap.size) o O.out.size) (O.out.trans (q.mono O.out.size));clear o q
     go_wp2_with fail
     go_ret
     exact ⟨_,rfl,B.out,X.out⟩
theorem Dv {d:Nat} {l:List Rg} {m:Nat} (h:m<l.length):shR d (l.take (m+1))=shR d (l.take m)++[((aO l m).1+d,(aO l m).2+d)]:=by
 rw [List.take_succ_eq_append_getElem h,cF _ _ h,shR,List.map_append];rfl
theorem sy (A:Option Addr) (l:List Rg) (n c d:Nat) (w:World) (hA:Rd w A (aF l)) (hn:l.length=n) (h1:n≤1048576) (h2:d≤1048576) (h3:∀r∈l,r.1≤1048576∧r.2≤1048576):
  Calls Tryz.prog 205 #[.slice A n c,KL d] w fun e B=>∃v,e=.returned v∧B.ownsRow w.heap.size 132 2 v n (aF (shR d l))∧Below w.heap.size w B:=by
 obtain ⟨Q,H3,Hn⟩:=af hA h3 hn;clear hA h3 hn
 go_enter Tryz.func205,Tryz.ntmps205
 go_wp2_with fail
 go_loopw [5,6] (fun v y wr=>∃m:Nat,m≤n∧y=KL m∧wr.ownsRow w.heap.size 132 2 v m (aF (shR d (l.take m)))∧Below w.heap.size w wr) (fun _ y _=>n-(intOf y).toNat)
 case atStart=>exact ⟨0,JH _,rfl,JO _ _ _ _,JG _ _⟩
 case round=>
  obtain ⟨m,hm,rfl,C,q⟩:=hrel
  by_cases Z:m<n
  ·have a4:(m:Int)<n:=by omega
   have a5:IntKind.i64.wrap ((m:Int)+1)=((m+1:Nat):Int):=by rw [JI _ (by omega)];push_cast;rfl
   obtain ⟨Av,cv,rfl,_⟩:=aw C
   obtain ⟨v,hv⟩:∃v,Value.slice Av m cv=v:=⟨_,rfl⟩
   rw [hv] at C ⊢
   have J:m<l.length:=by rw [Hn.out];exact Z
   have H:=dH J
   obtain ⟨bb,bo,rfl,p⟩:=Q.out _ _ H.1
   obtain ⟨L,a2,e',i⟩:=Q.out _ _ H.2
   obtain ⟨rfl,rfl⟩:L=bb∧a2=bo:=by simpa using e'.symm
   rw [←Ky] at i
   have T:=H3.out (aO l m) (by rw [cF _ _ J];exact List.getElem_mem _)
   have x:=Dv (d:=d) J
   obtain ⟨D,I,R⟩:∃D I,aO l m=(D,I):=⟨_,_,rfl⟩
   rw [R] at p i T x
   dsimp only at p i T x
   have N:=ar p
   have nb:¬v.ownBlock=some L:=fun e=>by have:=(C.lt _ e).1;simp only at N;omega
   have d0:=fun B (q':Keep (fun j=>v.ownBlock=some j) wr B)=>q'.cell (am q p) nb
   have d1:=fun B (q':Keep (fun j=>v.ownBlock=some j) wr B)=>q'.cell (am q i) nb
   have w1:IntKind.i64.wrap ((D:Int)+d)=(D:Int)+d:=JI _ (by omega)
   have w2:IntKind.i64.wrap ((I:Int)+d)=(I:Int)+d:=JI _ (by omega)
   have a3:=q.size
   obtain ⟨Y,Hq,a0⟩:=af C q x
   have V:Keep (fun j=>v.ownBlock=some j) wr wr.drew:=(Keep.refl _ _).drew
   clear C q x R H e' p i nb N
   go_wp2_with fail
   refine HA.g (fun B:World=>Keep (fun j=>v.ownBlock=some j) wr B) ?_
   refine HA.t ?_ [0,1,2,3,4,5,6,7,8,9,10,11,12,13,14,15] V ?_
   refine HA.v 16 (wr.drew.alloc (.cells #[KL ((D:Int)+d),KL ((I:Int)+d)] 132)) (.slice (some ⟨wr.heap.size,0,none⟩) 1 1) (V.alloc _) ?_
   refine HA.o 17 (fun K' hK=>?_)
   have hO:=(Y.out.drew).alloc (.cells #[KL ((D:Int)+d),KL ((I:Int)+d)] 132)
   refine bF ry (.tmp 13) (.tmp 29) rfl rfl w.heap.size v m _ rfl hO (some ⟨wr.heap.size,0,none⟩) 1 1 [KL ((D:Int)+d),KL ((I:Int)+d)] rfl (fun k u hu=>⟨_,_,rfl,by rw [Kz,JF _ wr.heap.size k _ 132 (0,0) (JE wr.drew _)];simpa using hu⟩) rfl (by simp [Value.oneCell']) (by omega) (by unfold maxLen;omega) (by simp;omega) ?_
   intro A5 c5 w5 O a1 U _
   have X:Keep (fun j=>v.ownBlock=some j) wr w5:=(V.alloc _).grown U (fun k hk=>.inr hk)
   refine hK.out _ _ X fun _=>?_
   refine HA.t ?_ [18] X ?_
   refine HA.d ?_
   obtain ⟨O5,Q5⟩:=ae O (Hq.out.trans (X.toBelow a3 (fun j hj=>(Y.out.lt j hj).1)));clear O a1 U d0 d1 w1 w2 V X hK K' hO
   go_wp2_with fail
   go_roundw
   case rel=>exact ⟨m+1,by omega,by go_num,by rw [a0.out,gN];simpa [aF] using O5.out,Q5.out⟩
   case measure=>simp [intOf];omega
  ·have a4:¬((m:Int)<n):=by omega
   obtain rfl:n=m:=by omega
   rw [List.take_of_length_le (by rw [Hn.out];exact JD _)] at C
   obtain ⟨Y,Hb⟩:=ae C q;clear C q
   go_wp2_with fail
   go_ret
   exact ⟨_,rfl,Y.out,Hb.out⟩
theorem DP {l:List Rg} {m:Nat} (h:m<l.length):l.reverse.take (m+1)=l.reverse.take m++[aO l (l.length-1-m)]:=by
 rw [List.take_succ_eq_append_getElem (by simpa using h),List.getElem_reverse,←cF l _ (by omega)]
theorem yj (n s:Nat) (w:World) (hn:n≤1048576) (hs:1≤s) (a2:s≤1048576):
  Calls Tryz.prog 123 #[KL n,KL s] w fun e w'=>∃v,e=.returned v∧w'.ownsRow w.heap.size 132 2 v (m6 n s).length (aF (m6 n s))∧Below w.heap.size w w':=by
 have L:=qM n s w hn hs a2
 have p:m6 n s=(eR n s).reverse:=rfl
 have C:(m6 n s).length=(eR n s).length:=by rw [p,List.length_reverse]
 rw [C]
 have u:=fu n s
 rw [←dU] at u
 obtain ⟨l,hl⟩:∃l,eR n s=l:=⟨_,rfl⟩
 rw [hl] at L p u ⊢
 obtain ⟨N,hN⟩:∃N,l.length=N:=⟨_,rfl⟩
 rw [hN] at L u ⊢
 rw [p]
 obtain ⟨Hb,HN⟩:=ae L hN;clear L p C hl hN
 go_enter Tryz.func123,Tryz.ntmps123
 go_wp2_with fail
 refine Hb.out.mono ?_
 rintro e J ⟨v1,rfl,o1,k1⟩
 obtain ⟨A,c,rfl,_⟩:=aw o1
 obtain ⟨O1,X⟩:=ae o1 k1;clear o1 k1
 go_wp2_with fail
 go_loopw [6,7] (fun v y wr=>∃m:Nat,m≤N∧y=KL ((N:Int)-1-m)∧wr.ownsRow J.heap.size 132 2 v m (aF (l.reverse.take m))∧Below J.heap.size J wr) (fun _ y _=>(intOf y+1).toNat)
 case atStart=>exact ⟨0,JH _,by go_num,JO _ _ _ _,JG _ _⟩
 case round=>
  obtain ⟨m,hm,rfl,x,q⟩:=hrel
  by_cases Q:m<N
  ·obtain ⟨j,hj⟩:∃j,N-1-m=j:=⟨_,rfl⟩
   have o:(N:Int)-1-m=(j:Int):=by omega
   have a6:(0:Int)≤(j:Int):=by omega
   have a3:j<N:=by omega
   have a4:(j:Int)<N:=by omega
   rw [o]
   have i:=DP (l:=l) (m:=m) (by rw [HN.out];exact Q)
   rw [HN.out,hj] at i
   obtain ⟨g,rfl⟩:∃g,A=some ⟨g,0,none⟩:=by
    obtain ⟨g,e,hv,_⟩:=O1.out.form (by omega)
    simp only [Ku] at hv
    exact ⟨g,hv.1⟩
   have O:=ie O1.out a3
   obtain ⟨R,b2,I⟩:∃R b2,aO l j=(R,b2):=⟨_,_,rfl⟩
   rw [I] at O i
   have c0:=am q O.1
   have c1:=am q O.2
   dsimp only at c0 c1
   obtain ⟨Av,cv,rfl,_⟩:=aw x
   obtain ⟨Z,V,U,Hj,H⟩:=ah x q i hj o
   have Y:=q.size
   have a5:IntKind.i64.wrap ((j:Int)-1)=(j:Int)-1:=JI _ (by omega)
   clear x q i hj I O o
   go_wp2_with (at_builtin;refine aQ ry _ rfl (.tmp 18) (.tmp 23) rfl J.heap.size (.slice Av m cv) m _ rfl Z.out [KL (R:Nat),KL (b2:Nat)] rfl rfl (bP .i64 [_,_]) (by omega) (by unfold maxLen;omega) Y ?_)
   intro g6 c6 w6 B D a1
   obtain ⟨a0,T⟩:=ae B (V.out.trans D);clear B D a1
   go_wp2_with fail
   go_roundw
   case rel=>exact ⟨m+1,by omega,by have:=H.out;go_num,by rw [U.out,gN];exact a0.out,T.out⟩
   case measure=>have:=H.out;simp [intOf]
  ·have o:¬((0:Int)≤(N:Int)-1-m):=by omega
   obtain rfl:N=m:=by omega
   rw [List.take_of_length_le (by rw [List.length_reverse,HN.out];exact JD _)] at x
   obtain ⟨Z,V⟩:=ae (ax (base':=w.heap.size) x X.out.size) (X.out.trans (q.mono X.out.size));clear x q
   go_wp2_with fail
   go_ret
   exact ⟨_,rfl,Z.out,V.out⟩
theorem AU (lo i k:Nat) (w:World) (h1:1≤k) (J:k≤1048576) (Y:lo≤i) (X:i≤1048576):
  Calls Tryz.prog 188 #[.agg #[KL lo,KL i],KL k] w fun e p=>∃v,e=.returned v∧p.ownsRow w.heap.size 132 2 v k (aF (dR (lo,i) k))∧Below w.heap.size w p:=by
 obtain ⟨j,hW0⟩:∃j,w.alloc (.cells #[KL lo,KL i] 132)=j:=⟨_,rfl⟩
 have L:j.heap[w.heap.size]?=some (.cells #[KL lo,KL i] 132 (0,0)):=by rw [←hW0];exact JE w _
 have u:Below w.heap.size w j:=by rw [←hW0];exact (br w).alloc (JD _) _
 have t0:=fun p q=>bx2 (sb L p q)
 obtain ⟨B,o⟩:=ae hW0 u;clear hW0 L u
 have H:Hid (dR (lo,i) k=shR lo (fA (i-lo) k)):=Lib.hid rfl
 have Q:(i:Int)-lo=((i-lo:Nat):Int):=by omega
 have T:IntKind.i64.wrap ((i-lo:Nat):Int)=((i-lo:Nat):Int):=JI _ (by omega)
 go_enter Tryz.func188,Tryz.ntmps188
 have I:=br j
 go_wp2_with fail
 rw [B.out]
 refine HA.g (fun p:World=>Below j.heap.size j p) ?_
 refine HA.t ?_ [0,1,2,3,4,5,7,8] I.drew ?_
 refine HA.c 6 (sD (i-lo) k _ h1 J (by omega)) ?_
 rintro e U ⟨v2,rfl,C,N⟩
 obtain ⟨A,c,rfl,_⟩:=aw C
 have y:=bt I.drew N
 refine ⟨_,rfl,y,fun _=>?_⟩
 refine HA.c 9 (sy A (fA (i-lo) k) k c lo U (Rd.own C) (ft _ _) J (by omega) (wH h1 (by omega))) ?_
 rintro e V ⟨v4,rfl,D,O⟩
 have x:=bt y O
 refine ⟨_,rfl,x,fun _=>?_⟩
 refine HA.t ?_ [10] x ?_
 refine HA.d ?_
 have hB:=aa (o.out.trans (x.mono o.out.size))
 rw [←H.out] at D
 have R:=aa (ax (base':=w.heap.size) D (JJ o.out.size y.size));clear D C N O y x t0
 go_wp2_with fail
 go_ret
 exact ⟨_,rfl,R.out,hB.out⟩
theorem Bn (lo i k:Nat) (w:World) (h1:1≤k) (R:k≤1048576) (h3:lo≤i) (Z:i≤1048576):
  Calls Tryz.prog 187 #[.agg #[KL lo,KL i],KL k] w fun e p=>∃v,e=.returned v∧p.ownsRow w.heap.size 132 2 v (chR (lo,i) k).length (aF (chR (lo,i) k))∧Below w.heap.size w p:=by
 obtain ⟨j,hW0⟩:∃j,w.alloc (.cells #[KL lo,KL i] 132)=j:=⟨_,rfl⟩
 have N:j.heap[w.heap.size]?=some (.cells #[KL lo,KL i] 132 (0,0)):=by rw [←hW0];exact JE w _
 have u:Below w.heap.size w j:=by rw [←hW0];exact (br w).alloc (JD _) _
 have t0:=fun p q=>bx2 (sb N p q)
 obtain ⟨C,o⟩:=ae hW0 u;clear hW0 N u
 have x:Hid (chR (lo,i) k=shR lo (eR (i-lo) k)):=Lib.hid rfl
 have T:(i:Int)-lo=((i-lo:Nat):Int):=by omega
 have V:IntKind.i64.wrap ((i-lo:Nat):Int)=((i-lo:Nat):Int):=JI _ (by omega)
 have J:=fu (i-lo) k
 rw [←dU] at J
 go_enter Tryz.func187,Tryz.ntmps187
 have L:=br j
 go_wp2_with fail
 rw [C.out]
 refine HA.g (fun p:World=>Below j.heap.size j p) ?_
 refine HA.t ?_ [0,1,2,3,4,5,7,8] L.drew ?_
 refine HA.c 6 (qM (i-lo) k _ (by omega) h1 R) ?_
 rintro e X ⟨v2,rfl,D,O⟩
 obtain ⟨A,c,rfl,_⟩:=aw D
 have B:=bt L.drew O
 refine ⟨_,rfl,B,fun _=>?_⟩
 refine HA.c 9 (sy A (eR (i-lo) k) _ c lo X (Rd.own D) rfl (by omega) (by omega) (Ar (by omega))) ?_
 rintro e Y ⟨v4,rfl,H,Q⟩
 have y:=bt B Q
 refine ⟨_,rfl,y,fun _=>?_⟩
 refine HA.t ?_ [10] y ?_
 refine HA.d ?_
 have hB:=aa (o.out.trans (y.mono o.out.size))
 have I:(chR (lo,i) k).length=(eR (i-lo) k).length:=by rw [x.out,j6]
 rw [←x.out,←I] at H
 have U:=aa (ax (base':=w.heap.size) H (JJ o.out.size B.size));clear H D O Q B y t0
 go_wp2_with fail
 go_ret
 exact ⟨_,rfl,U.out,hB.out⟩
theorem qh:dq Tryz.prog 217 134 (.agg KS) 9 64:=⟨Tryz.underlying217,info_parts (by kernel_rfl),rfl,by decide⟩
theorem DH (st bk lo A W c x ph r:Nat) (w:World) (h1:1≤W) (J:W≤1048576) (hx:x<W) (N:ph<2) (hr:r+1<W):
  Calls Tryz.prog 160 #[.agg #[KL (st:Nat),KL (bk:Nat),KL (lo:Nat),KL (A:Nat),KL (W:Nat),KL (c:Nat)],KL x,KL ph,KL r,.bool true] w fun e o=>e=.returned (.tuple #[KL (eZ W x ph r:Nat),.bool true])∧Below w.heap.size w o:=by
 obtain ⟨s,hs⟩:∃s,x+(2*W+ph-r)=s:=⟨_,rfl⟩
 have Q:(x:Int)-r+ph+2*W=(s:Int):=by omega
 have B:eZ W x ph r=s%W:=by unfold eZ;rw [←hs]
 rw [B]
 have v:(s:Int).tmod (W:Int)=((s%W:Nat):Int):=rfl
 have y:(s:Int)%(W:Int)=((s%W:Nat):Int):=rfl
 have H:¬(W=0):=by omega
 have L:¬((W:Int)≤x):=by omega
 have O:¬(1<(ph:Int)):=by omega
 have R:¬((W:Int)-2<(r:Int)):=by omega
 obtain ⟨q,D⟩:∃q,s%W=q:=⟨_,rfl⟩
 rw [D] at v y ⊢
 obtain ⟨i,hW0⟩:∃i,w.alloc (.cells #[KL (st:Nat),KL (bk:Nat),KL (lo:Nat),KL (A:Nat),KL (W:Nat),KL (c:Nat)] 220)=i:=⟨_,rfl⟩
 have C:i.heap[w.heap.size]?=some (.cells #[KL (st:Nat),KL (bk:Nat),KL (lo:Nat),KL (A:Nat),KL (W:Nat),KL (c:Nat)] 220 (0,0)):=by rw [←hW0];exact JE w _
 have j:Below w.heap.size w i:=by rw [←hW0];exact (br w).alloc (JD _) _
 have t0:=fun o q=>bx6 (sb C o q)
 obtain ⟨u,p⟩:=ae hW0 j
 have I:=br i
 clear hW0 C j hs D B
 go_enter Tryz.func160,Tryz.ntmps160
 go_wp2_with fail
 try rw [u.out]
 try go_wp2_with fail
 go_ret2
 exact ⟨rfl,p.out⟩
theorem Gc (st bk lo A W c x ph r:Nat) (w:World) (h1:1≤W) (J:W≤1048576) (hx:x<W) (N:ph<2) (hr:r+1<W):
  Calls Tryz.prog 160 #[.agg #[KL (st:Nat),KL (bk:Nat),KL (lo:Nat),KL (A:Nat),KL (W:Nat),KL (c:Nat)],KL x,KL ph,KL r,.bool false] w fun e o=>e=.returned (.tuple #[KL (fV W x ph r:Nat),.bool true])∧Below w.heap.size w o:=by
 obtain ⟨s,hs⟩:∃s,x+(2*W+ph-r-1)=s:=⟨_,rfl⟩
 have Q:(x:Int)-r+ph-1+2*W=(s:Int):=by omega
 have B:fV W x ph r=s%W:=by unfold fV;rw [←hs]
 rw [B]
 have v:(s:Int).tmod (W:Int)=((s%W:Nat):Int):=rfl
 have y:(s:Int)%(W:Int)=((s%W:Nat):Int):=rfl
 have H:¬(W=0):=by omega
 have L:¬((W:Int)≤x):=by omega
 have O:¬(1<(ph:Int)):=by omega
 have R:¬((W:Int)-2<(r:Int)):=by omega
 obtain ⟨q,D⟩:∃q,s%W=q:=⟨_,rfl⟩
 rw [D] at v y ⊢
 obtain ⟨i,hW0⟩:∃i,w.alloc (.cells #[KL (st:Nat),KL (bk:Nat),KL (lo:Nat),KL (A:Nat),KL (W:Nat),KL (c:Nat)] 220)=i:=⟨_,rfl⟩
 have C:i.heap[w.heap.size]?=some (.cells #[KL (st:Nat),KL (bk:Nat),KL (lo:Nat),KL (A:Nat),KL (W:Nat),KL (c:Nat)] 220 (0,0)):=by rw [←hW0];exact JE w _
 have j:Below w.heap.size w i:=by rw [←hW0];exact (br w).alloc (JD _) _
 have t0:=fun o q=>bx6 (sb C o q)
 obtain ⟨u,p⟩:=ae hW0 j
 have I:=br i
 clear hW0 C j hs D B
 go_enter Tryz.func160,Tryz.ntmps160
 go_wp2_with fail
 try rw [u.out]
 try go_wp2_with fail
 go_ret2
 exact ⟨rfl,p.out⟩
theorem zy {b:Rg} {k:Nat} (h1:1≤k) (o:b.1≤b.2):∀r∈dR b k,r.1≤r.2∧r.2≤b.2:=by
 intro r hr
 simp only [dR,shR,fA,List.map_map,List.mem_map,List.mem_range,Function.comp] at hr
 obtain ⟨i,j,rfl⟩:=hr
 have c:=fD (b.2-b.1) k (i+1) h1 (by omega)
 have d:=nV (b.2-b.1) k (show i≤i+1 by omega)
 exact ⟨by simp only;omega,by simp only;omega⟩
theorem zI (st bk lo i W c s:Nat) (w:World) (h1:1≤W) (Y:W≤1048576) (hs:s<W) (U:lo≤i) (Z:i≤1048576) (h5:1≤c) (h6:c≤1048576):
  Calls Tryz.prog 161 #[.agg #[KL (st:Nat),KL (bk:Nat),KL (lo:Nat),KL (i:Nat),KL (W:Nat),KL (c:Nat)],KL s] w fun e u=>∃v,e=.returned v∧u.ownsRow w.heap.size 132 2 v (chR (aO (dR (lo,i) W) s) c).length (aF (chR (aO (dR (lo,i) W) s) c))∧Below w.heap.size w u:=by
 obtain ⟨o,hW0⟩:∃o,w.alloc (.cells #[KL (st:Nat),KL (bk:Nat),KL (lo:Nat),KL (i:Nat),KL (W:Nat),KL (c:Nat)] 220)=o:=⟨_,rfl⟩
 have T:o.heap[w.heap.size]?=some (.cells #[KL (st:Nat),KL (bk:Nat),KL (lo:Nat),KL (i:Nat),KL (W:Nat),KL (c:Nat)] 220 (0,0)):=by rw [←hW0];exact JE w _
 have A:Below w.heap.size w o:=by rw [←hW0];exact (br w).alloc (JD _) _
 have t0:=fun u q=>bx6 (sb T u q)
 have H:=zy (b:=(lo,i)) h1 U
 have J:=qz (lo,i) W
 have a0:(s:Int)<W:=by omega
 obtain ⟨I,p⟩:=ae hW0 A
 have R:=br o
 clear hW0 T A
 go_enter Tryz.func161,Tryz.ntmps161
 go_wp2_with fail
 rw [I.out]
 refine HA.g (fun u:World=>Below o.heap.size o u) ?_
 refine HA.t ?_ [0,1,2,3,5,8,9] R.drew ?_
 refine HA.c 4 (AU lo i W _ h1 Y U Z) ?_
 rintro e Q ⟨v2,rfl,L,V⟩
 have x:=bt R.drew V
 obtain ⟨g,c2,rfl,_⟩:=L.form (by omega)
 have N:=ie L hs
 have j:=H (aO (dR (lo,i) W) s) (by rw [cF _ _ (by rw [J];exact hs)];exact List.getElem_mem _)
 try dsimp only at j
 obtain ⟨B,D,y⟩:∃B D,aO (dR (lo,i) W) s=(B,D):=⟨_,_,rfl⟩
 rw [y] at N j
 try dsimp only at N j
 obtain ⟨d0,d1⟩:=N
 refine ⟨_,rfl,x,fun _=>?_⟩
 refine HA.v 6 Q (.pointer (some ⟨g,s*2,none⟩)) x ?_
 refine HA.v 7 Q (.agg #[KL (B:Nat),KL (D:Nat)]) x ?_
 refine HA.c 10 (Bn B D c Q h5 h6 j.1 (by omega)) ?_
 rintro e w4 ⟨v4,rfl,O,X⟩
 have C:=bt x X
 refine ⟨_,rfl,C,fun _=>?_⟩
 refine HA.t ?_ [11] C ?_
 refine HA.d ?_
 have hB:=aa (p.out.trans (C.mono p.out.size))
 rw [←y] at O
 have O4:=aa (ax (base':=w.heap.size) O (JJ p.out.size x.size));clear O L V X x C t0
 go_wp2_with fail
 go_ret
 exact ⟨_,rfl,O4.out,hB.out⟩
theorem xO (st bk lo H W c x ph r:Nat) (w:World) (h1:1≤W) (h2:W≤1048576) (hx:x<W) (hp:ph<2) (hr:r+1<W) (h3:lo≤H) (h4:H≤1048576) (h5:1≤c) (h6:c≤1048576):
  Calls Tryz.prog 125 #[.agg #[KL (st:Nat),KL (bk:Nat),KL (lo:Nat),KL (H:Nat),KL (W:Nat),KL (c:Nat)],KL x,KL ph,KL r] w fun e p=>∃v,e=.returned v∧p.ownsRow w.heap.size 134 9 v (dF st bk (lo,H) W c x ph r).length (dP (dF st bk (lo,H) W c x ph r))∧Below w.heap.size w p:=by
 obtain ⟨W0,hW0⟩:∃W0,w.alloc (.cells #[KL (st:Nat),KL (bk:Nat),KL (lo:Nat),KL (H:Nat),KL (W:Nat),KL (c:Nat)] 220)=W0:=⟨_,rfl⟩
 have h0:W0.heap[w.heap.size]?=some (.cells #[KL (st:Nat),KL (bk:Nat),KL (lo:Nat),KL (H:Nat),KL (W:Nat),KL (c:Nat)] 220 (0,0)):=by rw [←hW0];exact JE w _
 have bO:Below w.heap.size w W0:=by rw [←hW0];exact (br w).alloc (JD _) _
 have t0:=fun p q=>bx6 (sb h0 p q)
 obtain ⟨c9,bh,H0⟩:=af hW0 bO h0
 have q0:=br W0
 clear hW0 h0 bO
 go_enter Tryz.func125,Tryz.ntmps125
 go_wp2_with fail
 rw [c9.out]
 refine (DH st bk lo H W c x ph r W0 h1 h2 hx hp hr).mono ?_
 rintro e w1 ⟨rfl,k1⟩
 have q1:=bt q0 k1
 go_wp2_with fail
 refine (Gc st bk lo H W c x ph r w1 h1 h2 hx hp hr).mono ?_
 rintro e w2 ⟨rfl,k2⟩
 have q2:=bt q1 k2
 have bU:eZ W x ph r<W:=Nat.mod_lt _ h1
 have bG:fV W x ph r<W:=Nat.mod_lt _ h1
 go_wp2_with fail
 refine (zI st bk lo H W c _ w2 h1 h2 bU h3 h4 h5 h6).mono ?_
 rintro e w3 ⟨v3,rfl,o3,k3⟩
 have q3:=bt q2 k3
 obtain ⟨A3,c3,rfl,_⟩:=aw o3
 go_wp2_with fail
 refine (zI st bk lo H W c _ w3 h1 h2 bG h3 h4 h5 h6).mono ?_
 rintro e w4 ⟨v4,rfl,o4,k4⟩
 have q4:=bt q3 k4
 obtain ⟨A4,c4,rfl,_⟩:=aw o4
 have bo:=ap o3 k4
 have c8:(chR (aO (dR (lo,H) W) (eZ W x ph r)) c).length≤1048576:=uB h1 h3 h4
 have bX:(chR (aO (dR (lo,H) W) (fV W x ph r)) c).length≤1048576:=uB h1 h3 h4
 have HR:Hid (dF st bk (lo,H) W c x ph r=mT (chR (aO (dR (lo,H) W) (eZ W x ph r)) c) (chR (aO (dR (lo,H) W) (fV W x ph r)) c) (fun i s=>(⟨true,false,st,bk,ph,r,i,s⟩:Acn)) (fun i s=>(⟨false,ph==0,st,bk,ph,r,i,s⟩:Acn))):=Lib.hid rfl
 obtain ⟨X,hX⟩:∃X,chR (aO (dR (lo,H) W) (eZ W x ph r)) c=X:=⟨_,rfl⟩
 obtain ⟨Y,hY⟩:∃Y,chR (aO (dR (lo,H) W) (fV W x ph r)) c=Y:=⟨_,rfl⟩
 rw [hX] at bo c8 HR ⊢
 rw [hY] at o4 bX HR ⊢
 obtain ⟨so,b5⟩:∃so,eZ W x ph r=so:=⟨_,rfl⟩
 obtain ⟨si,b6⟩:∃si,fV W x ph r=si:=⟨_,rfl⟩
 rw [b5] at bU ⊢
 rw [b6] at bG ⊢
 obtain ⟨M,hM⟩:∃M:Nat,max X.length Y.length=M:=⟨_,rfl⟩
 obtain ⟨O3,O4,Q4,HM⟩:=ag bo o4 q4 hM;clear o3 bo o4 q0 q1 q2 q3 q4 k1 k2 k3 k4 hX hY b5 b6 hM t0
 go_wp2_with fail
 go_loopw [15,16] (fun v y wr=>∃m:Nat,m≤M∧y=KL m∧wr.ownsRow w4.heap.size 134 9 v (jb X Y (fun i s=>(⟨true,false,st,bk,ph,r,i,s⟩:Acn)) (fun i s=>(⟨false,ph==0,st,bk,ph,r,i,s⟩:Acn)) m).length (dP (jb X Y (fun i s=>(⟨true,false,st,bk,ph,r,i,s⟩:Acn)) (fun i s=>(⟨false,ph==0,st,bk,ph,r,i,s⟩:Acn)) m))∧Below w4.heap.size w4 wr) (fun _ y _=>M-(intOf y).toNat)
 case atStart=>exact ⟨0,JH _,rfl,JO _ _ _ _,JG _ _⟩
 case round=>
  obtain ⟨m,hm,rfl,ho,q⟩:=hrel
  have cc:=vz X Y (fun i s=>(⟨true,false,st,bk,ph,r,i,s⟩:Acn)) (fun i s=>(⟨false,ph==0,st,bk,ph,r,i,s⟩:Acn)) m
  have cf:M≤1048576:=by have:=HM.out;omega
  obtain ⟨Av,cv,rfl,_⟩:=aw ho
  obtain ⟨v,hv⟩:∃v,Value.slice Av (jb X Y (fun i s=>(⟨true,false,st,bk,ph,r,i,s⟩:Acn)) (fun i s=>(⟨false,ph==0,st,bk,ph,r,i,s⟩:Acn)) m).length cv=v:=⟨_,rfl⟩
  rw [hv] at ho ⊢
  clear hv
  have aR:((ph:Int)==0)=(ph==0):=by rw [Bool.eq_iff_iff];simp
  have cd:IntKind.i64.wrap ((m:Int)+1)=((m+1:Nat):Int):=by rw [JI _ (by omega)];push_cast;rfl
  have uJ:=fun p (q':Below wr.heap.size wr p)=>bx6 (sb H0.out p (bt Q4.out (q.trans (q'.mono q.size))))
  obtain ⟨A,b0⟩:∃A,wr.alloc (.cells #[KL (st:Nat),KL (bk:Nat),KL (ph:Nat),KL (r:Nat),KL (m:Nat)] 50)=A:=⟨_,rfl⟩
  have gT:A.heap[wr.heap.size]?=some (.cells #[KL (st:Nat),KL (bk:Nat),KL (ph:Nat),KL (r:Nat),KL (m:Nat)] 50 (0,0)):=by rw [←b0];exact JE wr _
  have kt:Below wr.heap.size wr A:=by rw [←b0];exact (br wr).alloc (JD _) _
  have qr:=br wr
  obtain ⟨Ho,HT,HQ,B,C,bb⟩:=ai ho gT q (q.trans (kt.mono q.size)) (ap ho kt) b0;clear ho q gT kt b0
  by_cases h1:m<X.length
  ·have cb:(m:Int)<X.length:=by omega
   obtain ⟨gx,rfl⟩:∃gx,A3=some ⟨gx,0,none⟩:=by
    obtain ⟨g,e,hv,_⟩:=O3.out.form (by omega)
    simp only [Ku] at hv
    exact ⟨g,hv.1⟩
   have px:=ie O3.out h1
   have be:aO X m=((aO X m).1,(aO X m).2):=rfl
   obtain ⟨b1,bV⟩:∃b,(aO X m).1=b:=⟨_,rfl⟩
   obtain ⟨b2,bM⟩:∃b,(aO X m).2=b:=⟨_,rfl⟩
   rw [bV,bM] at px be
   obtain ⟨aM,aP,bN⟩:=af px.1 px.2 be;clear px bV bM be
   by_cases h2:m<Y.length
   ·have bv:(m:Int)<Y.length:=by omega
    obtain ⟨gy,rfl⟩:∃gy,A4=some ⟨gy,0,none⟩:=by
     obtain ⟨g,e,hv,_⟩:=O4.out.form (by omega)
     simp only [Ku] at hv
     exact ⟨g,hv.1⟩
    have py:=ie O4.out h2
    have Q:aO Y m=((aO Y m).1,(aO Y m).2):=rfl
    obtain ⟨b3,a3⟩:∃b,(aO Y m).1=b:=⟨_,rfl⟩
    obtain ⟨b4,av⟩:∃b,(aO Y m).2=b:=⟨_,rfl⟩
    rw [a3,av] at py Q
    obtain ⟨a2,a8,b9⟩:=af py.1 py.2 Q;clear py a3 av Q
    go_wp2_with fail
    rw [bb.out]
    clear uJ qr
    have R:=fun p (q:Keep (fun j=>v.ownBlock=some j) A p)=>(q.block _ (JC HT.out) (fun e=>an HT.out (by decide) C.out e.symm)).trans HT.out
    have bf:=fun p q=>bx5 (R p q)
    have U:∀g,g<w4.heap.size→¬v.ownBlock=some g:=fun g hg e=>by
     have h:=(C.out.lt g e).1
     omega
    have bd:=fun p (q:Keep (fun j=>v.ownBlock=some j) A p)=>q.cell (am B.out aM.out) (U _ (ar aM.out))
    have bz:=fun p (q:Keep (fun j=>v.ownBlock=some j) A p)=>q.cell (am B.out aP.out) (U _ (ar aP.out))
    have I:Keep (fun j=>v.ownBlock=some j) A A.drew:=(Keep.refl _ _).drew
    have L:=aa R;clear R U
    refine HA.g (fun p:World=>Keep (fun j=>v.ownBlock=some j) A p) ?_
    refine HA.t ?_ [0,1,2,3,4,5,6] I ?_
    obtain ⟨a5,O⟩:∃a:Acn,a=⟨true,false,st,bk,ph,r,m,(b1,b2)⟩:=⟨_,rfl⟩
    refine HA.v 7 (A.drew.alloc (.cells (aT a5).toArray 134)) (.slice (some ⟨A.heap.size,0,none⟩) 1 1) (I.alloc _) ?_ (he:=by subst O;go_simp;simp [aT,aR];try rfl)
    refine HA.o 8 (fun K' hK=>?_)
    have a0:=(C.out.drew).alloc (.cells (aT a5).toArray 134)
    have a7:=B.out.size
    refine bF qh (.tmp 66) (.tmp 73) rfl rfl w4.heap.size v _ _ rfl a0 (some ⟨A.heap.size,0,none⟩) 1 1 (aT a5) rfl (fun k u hu=>⟨_,_,rfl,by rw [Kz,JF _ A.heap.size k (aT a5).toArray 134 (0,0) (JE A.drew _)];simpa using hu⟩) rfl (by simp [aT,Value.oneCell']) (by omega) (by unfold maxLen;omega) (by simp;omega) ?_
    intro A5 c5 N a1 bs aG _
    have q5:Keep (fun j=>v.ownBlock=some j) A N:=(I.alloc _).grown aG (fun k hk=>.inr hk)
    refine hK.out _ _ q5 fun _=>?_
    refine HA.t ?_ [9] q5 ?_
    refine HA.d ?_
    try simp only [Exit.then]
    obtain ⟨O5,T5,Q5,b7⟩:=ag a1 (L.out N q5) (B.out.trans (q5.toBelow B.out.size (fun j hj=>(C.out.lt j hj).1))) O;clear a1 bs aG bf bd bz I q5 hK K' a0 O L a7
    go_wp2_with fail
    obtain ⟨v5,bI⟩:∃v,Value.slice A5 ((jb X Y (fun i s=>(⟨true,false,st,bk,ph,r,i,s⟩:Acn)) (fun i s=>(⟨false,ph==0,st,bk,ph,r,i,s⟩:Acn)) m).length+1) c5=v:=⟨_,rfl⟩
    rw [bI] at O5 ⊢
    clear bI
    have T:=fun p (q:Keep (fun j=>v5.ownBlock=some j) N p)=>(q.block _ (JC T5.out) (fun e=>an T5.out (by decide) O5.out e.symm)).trans T5.out
    have bi:=fun p q=>bx5 (T p q)
    have V:∀g,g<w4.heap.size→¬v5.ownBlock=some g:=fun g hg e=>by
     have h:=(O5.out.lt g e).1
     omega
    have bn:=fun p (q:Keep (fun j=>v5.ownBlock=some j) N p)=>q.cell (am Q5.out a2.out) (V _ (ar a2.out))
    have b8:=fun p (q:Keep (fun j=>v5.ownBlock=some j) N p)=>q.cell (am Q5.out a8.out) (V _ (ar a8.out))
    have D:Keep (fun j=>v5.ownBlock=some j) N N.drew:=(Keep.refl _ _).drew
    have J:=aa T;clear T V
    refine HA.g (fun p:World=>Keep (fun j=>v5.ownBlock=some j) N p) ?_
    refine HA.t ?_ [0,1,2,3,4,5,6,7,8] D ?_
    obtain ⟨a6,Z⟩:∃a:Acn,a=⟨false,ph==0,st,bk,ph,r,m,(b3,b4)⟩:=⟨_,rfl⟩
    refine HA.v 9 (N.drew.alloc (.cells (aT a6).toArray 134)) (.slice (some ⟨N.heap.size,0,none⟩) 1 1) (D.alloc _) ?_ (he:=by subst Z;go_simp;simp [aT,aR];try rfl)
    refine HA.o 10 (fun K' hK=>?_)
    have ao:=(O5.out.drew).alloc (.cells (aT a6).toArray 134)
    have ad:=Q5.out.size
    refine bF qh (.tmp 79) (.tmp 88) rfl rfl w4.heap.size v5 _ _ rfl ao (some ⟨N.heap.size,0,none⟩) 1 1 (aT a6) rfl (fun k u hu=>⟨_,_,rfl,by rw [Kz,JF _ N.heap.size k (aT a6).toArray 134 (0,0) (JE N.drew _)];simpa using hu⟩) rfl (by simp [aT,Value.oneCell']) (by omega) (by unfold maxLen;omega) (by simp;omega) ?_
    intro A6 c6 w6 a4 bl ab _
    have q6:Keep (fun j=>v5.ownBlock=some j) N w6:=(D.alloc _).grown ab (fun k hk=>.inr hk)
    refine hK.out _ _ q6 fun _=>?_
    refine HA.t ?_ [11] q6 ?_
    refine HA.d ?_
    try simp only [Exit.then]
    obtain ⟨O6,T6,Q6,bw⟩:=ag a4 (J.out w6 q6) (Q5.out.trans (q6.toBelow Q5.out.size (fun j hj=>(O5.out.lt j hj).1))) Z;clear a4 bl ab bi bn b8 D q6 hK K' ao Z J ad
    go_wp2_with fail
    go_roundw
    case rel=>exact ⟨m+1,by have:=HM.out;omega,by go_num,by rw [←lX];simp only [iy,h1,h2,if_true,if_false,Bool.not_true,Bool.not_false,Bool.false_and,Bool.true_and];have:=O6.out;rw [b7.out,bw.out] at this;simpa [dP,bN.out,b9.out,Kf] using this,Q6.out⟩
    case measure=>have:=HM.out;simp [intOf];omega
   ·have bv:¬((m:Int)<Y.length):=by omega
    go_wp2_with fail
    rw [bb.out]
    clear uJ qr
    have R:=fun p (q:Keep (fun j=>v.ownBlock=some j) A p)=>(q.block _ (JC HT.out) (fun e=>an HT.out (by decide) C.out e.symm)).trans HT.out
    have bf:=fun p q=>bx5 (R p q)
    have U:∀g,g<w4.heap.size→¬v.ownBlock=some g:=fun g hg e=>by
     have h:=(C.out.lt g e).1
     omega
    have bd:=fun p (q:Keep (fun j=>v.ownBlock=some j) A p)=>q.cell (am B.out aM.out) (U _ (ar aM.out))
    have bz:=fun p (q:Keep (fun j=>v.ownBlock=some j) A p)=>q.cell (am B.out aP.out) (U _ (ar aP.out))
    have I:Keep (fun j=>v.ownBlock=some j) A A.drew:=(Keep.refl _ _).drew
    have L:=aa R;clear R U
    refine HA.g (fun p:World=>Keep (fun j=>v.ownBlock=some j) A p) ?_
    refine HA.t ?_ [0,1,2,3,4,5,6] I ?_
    obtain ⟨a5,O⟩:∃a:Acn,a=⟨true,false,st,bk,ph,r,m,(b1,b2)⟩:=⟨_,rfl⟩
    refine HA.v 7 (A.drew.alloc (.cells (aT a5).toArray 134)) (.slice (some ⟨A.heap.size,0,none⟩) 1 1) (I.alloc _) ?_ (he:=by subst O;go_simp;simp [aT,aR];try rfl)
    refine HA.o 8 (fun K' hK=>?_)
    have a0:=(C.out.drew).alloc (.cells (aT a5).toArray 134)
    have a7:=B.out.size
    refine bF qh (.tmp 66) (.tmp 73) rfl rfl w4.heap.size v _ _ rfl a0 (some ⟨A.heap.size,0,none⟩) 1 1 (aT a5) rfl (fun k u hu=>⟨_,_,rfl,by rw [Kz,JF _ A.heap.size k (aT a5).toArray 134 (0,0) (JE A.drew _)];simpa using hu⟩) rfl (by simp [aT,Value.oneCell']) (by omega) (by unfold maxLen;omega) (by simp;omega) ?_
    intro A5 c5 N a1 bs aG _
    have q5:Keep (fun j=>v.ownBlock=some j) A N:=(I.alloc _).grown aG (fun k hk=>.inr hk)
    refine hK.out _ _ q5 fun _=>?_
    refine HA.t ?_ [9] q5 ?_
    refine HA.d ?_
    try simp only [Exit.then]
    obtain ⟨O5,T5,Q5,b7⟩:=ag a1 (L.out N q5) (B.out.trans (q5.toBelow B.out.size (fun j hj=>(C.out.lt j hj).1))) O;clear a1 bs aG bf bd bz I q5 hK K' a0 O L a7
    go_wp2_with fail
    go_roundw
    case rel=>exact ⟨m+1,by have:=HM.out;omega,by go_num,by rw [←lX];simp only [iy,h1,h2,if_true,if_false,Bool.not_true,Bool.not_false,Bool.false_and,Bool.true_and];have:=O5.out;rw [b7.out] at this;simpa [dP,bN.out,Kf] using this,Q5.out⟩
    case measure=>have:=HM.out;simp [intOf];omega
  ·have cb:¬((m:Int)<X.length):=by omega
   by_cases h2:m<Y.length
   ·have bv:(m:Int)<Y.length:=by omega
    obtain ⟨gy,rfl⟩:∃gy,A4=some ⟨gy,0,none⟩:=by
     obtain ⟨g,e,hv,_⟩:=O4.out.form (by omega)
     simp only [Ku] at hv
     exact ⟨g,hv.1⟩
    have py:=ie O4.out h2
    have Q:aO Y m=((aO Y m).1,(aO Y m).2):=rfl
    obtain ⟨b3,a3⟩:∃b,(aO Y m).1=b:=⟨_,rfl⟩
    obtain ⟨b4,av⟩:∃b,(aO Y m).2=b:=⟨_,rfl⟩
    rw [a3,av] at py Q
    obtain ⟨a2,a8,b9⟩:=af py.1 py.2 Q;clear py a3 av Q
    go_wp2_with fail
    rw [bb.out]
    clear uJ qr
    have T:=fun p (q:Keep (fun j=>v.ownBlock=some j) A p)=>(q.block _ (JC HT.out) (fun e=>an HT.out (by decide) C.out e.symm)).trans HT.out
    have bi:=fun p q=>bx5 (T p q)
    have V:∀g,g<w4.heap.size→¬v.ownBlock=some g:=fun g hg e=>by
     have h:=(C.out.lt g e).1
     omega
    have bn:=fun p (q:Keep (fun j=>v.ownBlock=some j) A p)=>q.cell (am B.out a2.out) (V _ (ar a2.out))
    have b8:=fun p (q:Keep (fun j=>v.ownBlock=some j) A p)=>q.cell (am B.out a8.out) (V _ (ar a8.out))
    have D:Keep (fun j=>v.ownBlock=some j) A A.drew:=(Keep.refl _ _).drew
    have J:=aa T;clear T V
    refine HA.g (fun p:World=>Keep (fun j=>v.ownBlock=some j) A p) ?_
    refine HA.t ?_ [0,1,2,3,4,5,6,7,8] D ?_
    obtain ⟨a6,Z⟩:∃a:Acn,a=⟨false,ph==0,st,bk,ph,r,m,(b3,b4)⟩:=⟨_,rfl⟩
    refine HA.v 9 (A.drew.alloc (.cells (aT a6).toArray 134)) (.slice (some ⟨A.heap.size,0,none⟩) 1 1) (D.alloc _) ?_ (he:=by subst Z;go_simp;simp [aT,aR];try rfl)
    refine HA.o 10 (fun K' hK=>?_)
    have ao:=(C.out.drew).alloc (.cells (aT a6).toArray 134)
    have ad:=B.out.size
    refine bF qh (.tmp 79) (.tmp 88) rfl rfl w4.heap.size v _ _ rfl ao (some ⟨A.heap.size,0,none⟩) 1 1 (aT a6) rfl (fun k u hu=>⟨_,_,rfl,by rw [Kz,JF _ A.heap.size k (aT a6).toArray 134 (0,0) (JE A.drew _)];simpa using hu⟩) rfl (by simp [aT,Value.oneCell']) (by omega) (by unfold maxLen;omega) (by simp;omega) ?_
    intro A6 c6 w6 a4 bl ab _
    have q6:Keep (fun j=>v.ownBlock=some j) A w6:=(D.alloc _).grown ab (fun k hk=>.inr hk)
    refine hK.out _ _ q6 fun _=>?_
    refine HA.t ?_ [11] q6 ?_
    refine HA.d ?_
    try simp only [Exit.then]
    obtain ⟨O6,T6,Q6,bw⟩:=ag a4 (J.out w6 q6) (B.out.trans (q6.toBelow B.out.size (fun j hj=>(C.out.lt j hj).1))) Z;clear a4 bl ab bi bn b8 D q6 hK K' ao Z J ad
    go_wp2_with fail
    go_roundw
    case rel=>exact ⟨m+1,by have:=HM.out;omega,by go_num,by rw [←lX];simp only [iy,h1,h2,if_true,if_false,Bool.not_true,Bool.not_false,Bool.false_and,Bool.true_and];have:=O6.out;rw [bw.out] at this;simpa [dP,b9.out,Kf] using this,Q6.out⟩
    case measure=>have:=HM.out;simp [intOf];omega
   ·have bv:¬((m:Int)<Y.length):=by omega
    have c7:m=M:=by have:=HM.out;omega
    have hb:=ax (base':=w.heap.size) Ho.out (JJ bh.out.size Q4.out.size)
    have bA:dF st bk (lo,H) W c x ph r=jb X Y (fun i s=>(⟨true,false,st,bk,ph,r,i,s⟩:Acn)) (fun i s=>(⟨false,ph==0,st,bk,ph,r,i,s⟩:Acn)) m:=by
     rw [HR.out,c7,←HM.out];rfl
    rw [←bA] at hb
    obtain ⟨Hb,Hq⟩:=ae hb (bh.out.trans ((bt Q4.out (HQ.out)).mono bh.out.size));clear hb bA uJ
    go_wp2_with fail
    go_ret
    exact ⟨_,rfl,Hb.out,Hq.out⟩
end Go.Proofs.YtaccfnffmbndhaaGreat
