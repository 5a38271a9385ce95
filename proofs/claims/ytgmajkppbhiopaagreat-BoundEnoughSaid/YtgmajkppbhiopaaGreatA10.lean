/- No condition. -/
import Derived.Test.YtgmajkppbhiopaaGreatA00
import Derived.Test.YtgmajkppbhiopaaGreatA08
import Derived.Test.YtgmajkppbhiopaaGreatA07
import Derived.Test.YtgmajkppbhiopaaGreatA09
import Derived.Test.YtgmajkppbhiopaaGreatA04
import Derived.Test.YtgmajkppbhiopaaGreatA05
set_option linter.unusedSimpArgs false
set_option linter.unusedVariables false
set_option maxRecDepth 100000
set_option maxHeartbeats 4000000
namespace Go.Proofs.YtgmajkppbhiopaaGreat
open Go.RowKit
theorem dd.keep {w y:World} {base:Nat} {C:List Value} {e:Ex} (h:dd w base C e) {S:Nat→Prop} (k:Keep S w y) (B:∀j,S j→j<base):dd y base C e:=by
 obtain ⟨u,v,rfl,D,A,H⟩:=h
 exact ⟨u,v,rfl,k.own D (fun i x o=>by have:=B i o;have:=(D.lt i x).1;omega),k.own A (fun i x o=>by have:=B i o;have:=(A.lt i x).1;omega),H⟩
def lF (base:Nat) (w:World) (l:List Ex) (n:Nat) (v:Value):Prop:=∃rows,w.ownsRow base 91 2 v n (List.flatten rows)∧rows.length=n∧(∀r∈rows,r.length=2)∧(∀j x,j<n→l[j]?=some x→dd w base (bK rows j) x)
theorem fD.own {w wr:World} {l:List Ex} {k:Nat} {v:Value} (h:fD w wr l k v):lF w.heap.size wr l k v:=by
 obtain ⟨rows,u,i,x,o,_⟩:=h
 exact ⟨rows,u,i,x,o⟩
theorem lF.base {base base':Nat} {w:World} {l:List Ex} {n:Nat} {v:Value} (h:lF base w l n v) (hb:base'≤base):lF base' w l n v:=by
 obtain ⟨rows,y,o,A,u⟩:=h
 exact ⟨rows,aA y hb,o,A,fun j x i B=>(u j x i B).base hb⟩
theorem lF.keep {base:Nat} {w o:World} {l:List Ex} {n:Nat} {v:Value} (h:lF base w l n v) {S:Nat→Prop} (k:Keep S w o) (u:∀j,S j→j<base):lF base o l n v:=by
 obtain ⟨rows,y,A,D,B⟩:=h
 exact ⟨rows,k.own y (fun i I H=>by have:=u i H;have:=(y.lt i I).1;omega),A,D,fun j x C J=>(B j x C J).keep k u⟩
theorem lF.below {base:Nat} {w i:World} {l:List Ex} {n:Nat} {v:Value} (h:lF base w l n v) (hb:Below w.heap.size w i):lF base i l n v:=h.keep (S:=fun _=>False) (Keep.below hb) (fun _ h=>h.elim)
theorem lF.rd {base:Nat} {w:World} {l:List Ex} {A:Option Addr} {n c:Nat} (h:lF base w l n (.slice A n c)) (hn:l.length=n):cZ rEx 2 w A l:=by
 obtain ⟨rows,u,y,v,o⟩:=h
 exact ⟨rows,Rd.own u,by omega,v,fun j x i=>(o j x (by have:=(Fq.1 i).1;omega) i).rd⟩
theorem Aq (c d:Nat) (A B:Option Addr) (l:List Ex) (i:List Int) (w:World) (h:cZ rEx 2 w A l) (hl:l.length≤1048576) (hB:Rd w B (ar .i64 i)) (T:i.length≤1048576):
  Calls Tryz.prog 231 #[.slice A l.length c,.slice B i.length d] w fun e I=>Below w.heap.size w I∧
   (((∀k,k<i.length→ja l.length (nth i k))∧∃D y,e=.returned (.tuple #[.slice D i.length y,.bool true])∧lF w.heap.size I (fF l i) i.length (.slice D i.length y))∨((¬∀k,k<i.length→ja l.length (nth i k))∧e=.returned (.tuple #[FR,.bool false]))):=by
 have hm:=uy w.heap.size c d A B l i (w.alloc (.cells #[.slice A l.length c] 25)) (EN w _) (h.below dH ((EP _ w).alloc (EM _) _)) hl (hB.alloc _) T
 have o:=jw l i
 unfold vn at hm
 obtain ⟨n,hn⟩:∃n,i.length=n:=⟨_,rfl⟩
 obtain ⟨N,L⟩:∃N,l.length=N:=⟨_,rfl⟩
 rw [hn,L] at hm ⊢
 rw [hn] at o
 obtain ⟨U,V⟩:=ab hm o;clear hm o hn L h hB
 go_enter Tryz.func231,Tryz.ntmps231
 go_wp2_with fail
 refine U.out.mono ?_
 rintro e O ⟨hb,R⟩
 have x:Below w.heap.size w O:=((EP _ w).alloc (EM _) _).trans (hb.mono (by first | omega | (simp;done) | (simp;omega)))
 have J:=aa x;clear hb x
 rcases R with ⟨u,v,rfl,C⟩ | ⟨u,rfl⟩
 ·obtain ⟨D,y,rfl⟩:=C.form
  obtain ⟨H,Q⟩:=ab u C;clear u C
  go_wp2_with fail
  go_ret2
  exact ⟨J.out,.inl ⟨H.out,_,_,rfl,Q.out.own.base (by simp)⟩⟩
 ·have H:=aa u;clear u
  go_wp2_with fail
  go_ret2
  exact ⟨J.out,.inr ⟨H.out,rfl⟩⟩
abbrev Pl:=Nat×Nat×Int
def plW (k c m:Nat):List Pl:=(List.range m).map fun i=>(k,i/c,((i%c:Nat):Int))
def plB (k m:Nat):List Pl:=(List.range m).map fun i=>(k,i, -1)
def plK (sz:List Int) (k:Nat):List Pl:=plW k (szN sz k) (szN sz (k+1)*szN sz k)++plB k (szN sz (k+1))
def plL (sz:List Int) (n:Nat):List Pl:=(List.range n).flatMap (plK sz)
theorem CP (k c m:Nat):(plW k c m).length=m:=by simp [plW]
theorem CR (k m:Nat):(plB k m).length=m:=by simp [plB]
theorem Ah (sz:List Int) (n:Nat):plL sz (n+1)=plL sz n++plK sz n:=by simp [plL,FF,List.flatMap_append]
theorem CQ (sz:List Int) (n:Nat):(plL sz n).length=aZ sz n:=by
 induction n with
 | zero=>rfl
 | succ n ih=>
  have:=fl sz n
  unfold cX at this
  rw [Ah,Fp,ih]
  unfold plK
  rw [Fp,CP,CR]
  omega
def gAt (sz ps:List Int) (q:Int) (x y:List Int) (p:Pl):Int:=
 if 0≤p.2.2 then gH (nth (jD sz ps q x y (sz.length-2-p.1)) p.2.1) (nth (eC sz ps q x p.1) p.2.2.toNat) q else nth (jD sz ps q x y (sz.length-2-p.1)) p.2.1
theorem C4 (l:List Int) (n:Nat) (h:l.length=n):(List.range n).map (nth l)=l:=(dQ h fun k _=>rfl).symm
theorem Ca {sz ps:List Int} {q:Int} {x y:List Int} (h:x.length=szN sz 0) {k:Nat} (hk:k+2≤sz.length):
  iP (szN sz (k+1)) (szN sz k) (jD sz ps q x y (sz.length-2-k)) (eC sz ps q x k) q++jD sz ps q x y (sz.length-2-k)=(plK sz k).map (gAt sz ps q x y):=by
 unfold plK
 rw [List.map_append]
 congr 1
 ·unfold iP di plW
  rw [List.map_map]
  refine List.map_congr_left fun i _=>?_
  unfold CT gAt
  show _=if 0≤((i%szN sz k:Nat):Int) then gH (nth (jD sz ps q x y (sz.length-2-k)) (i/szN sz k)) (nth (eC sz ps q x k) ((i%szN sz k:Nat):Int).toNat) q else nth (jD sz ps q x y (sz.length-2-k)) (i/szN sz k)
  rw [if_pos (Int.natCast_nonneg _),Int.toNat_natCast]
 ·unfold plB
  rw [List.map_map]
  have hl:=sH (sz:=sz) (ps:=ps) (q:=q) (x:=x) (y:=y) h (sz.length-2-k)
  rw [show sz.length-1-(sz.length-2-k)=k+1 by omega] at hl
  have:=C4 _ _ hl
  conv=>lhs;rw [←this]
  refine List.map_congr_left fun i _=>?_
  unfold gAt
  simp
theorem Bk {sz ps:List Int} {q:Int} {x y:List Int} (i:x.length=szN sz 0):∀j,j+1≤sz.length→ky sz ps q x y j=(((List.range (sz.length-1)).drop (sz.length-1-j)).flatMap (plK sz)).map (gAt sz ps q x y):=by
 intro j
 induction j with
 | zero=>intro _;rw [Nat.sub_zero,List.drop_eq_nil_of_le (by simp)];rfl
 | succ j ih=>
  intro o
  have h:(List.range (sz.length-1)).drop (sz.length-1-(j+1))=(sz.length-2-j)::(List.range (sz.length-1)).drop (sz.length-1-j):=by
   rw [show sz.length-1-(j+1)=sz.length-2-j by omega]
   rw [List.drop_eq_getElem_cons (by simp;omega),List.getElem_range]
   congr 2
   omega
  rw [h,List.flatMap_cons,List.map_append,←ih (by omega),ky,←Fw]
  congr 1
  have:=Ca (sz:=sz) (ps:=ps) (q:=q) (x:=x) (y:=y) i (k:=sz.length-2-j) (by omega)
  rw [show sz.length-2-j+1=sz.length-1-j by omega,show sz.length-2-(sz.length-2-j)=j by omega] at this
  exact this
theorem Bn {sz ps:List Int} {q:Int} {x y:List Int} (h:x.length=szN sz 0) (hl:1≤sz.length):jH sz ps q x y=(plL sz (sz.length-1)).map (gAt sz ps q x y):=by
 unfold jH
 rw [Bk h _ (by omega),Nat.sub_self,Fo]
 rfl
theorem yt {sz ps:List Int} {q:Int} {x y:List Int} (h:x.length=szN sz 0) (hl:1≤sz.length):(jH sz ps q x y).length=aZ sz (sz.length-1):=by
 rw [Bn h hl,List.length_map,CQ]
theorem qK {i:Inp} (h:cO i.cfg.sizes):1≤cnt i:=by
 unfold cnt
 have x:=h.1.1
 have:=fg i.cfg.sizes (show 1≤i.cfg.sizes.length-1 by omega)
 have u:aZ i.cfg.sizes 1=0+(szN i.cfg.sizes 0+1)*szN i.cfg.sizes 1:=rfl
 have o:=(h.1.at (k:=1) (by omega)).1
 have v:1*1≤(szN i.cfg.sizes 0+1)*szN i.cfg.sizes 1:=Nat.mul_le_mul (by omega) o
 omega
def jA (i:Inp) (h:List Int):Prop:=∀k,k<h.length→ja i.data.length (nth h k)
theorem vh {i:Inp} (o:om i) (k:Nat):jA i (et i.draws i.data.length i.cfg.batch.toNat k):=fun j u=>by
 have x:=o.c.w;have v:=o.c.ba;have y:=o.b
 have h:1≤i.data.length/i.cfg.batch.toNat:=Nat.div_pos (by omega) (by omega)
 rw [j3 _ h] at u
 exact yJ _ h j u
theorem DZ:cH Tryz.prog 59 141 (.agg #[FR,FR]) 2 48:=⟨Tryz.underlying59,info_parts (by kernel_rfl),rfl,by decide⟩
def EJ:Value→Nat
 | .slice _ n _=>n
 | _=>0
theorem Eo {w:World} {b:Nat} {t:TypeId} {v0 v1 v2 v3 v4 v5 v6 v7 v8 v9 v10 v11 x o i A y u v:Value} (h:w.heap[b]?=some (.cells #[v0,v1,v2,v3,v4,v5,v6,v7,v8,v9,v10,v11,x,o,i,A,y,u,v] t (0,0))):(w.cell? ⟨b,0,none⟩=some v0∧w.cell? ⟨b,1,none⟩=some v1∧w.cell? ⟨b,2,none⟩=some v2∧w.cell? ⟨b,3,none⟩=some v3∧w.cell? ⟨b,4,none⟩=some v4∧w.cell? ⟨b,5,none⟩=some v5∧w.cell? ⟨b,6,none⟩=some v6∧w.cell? ⟨b,7,none⟩=some v7∧w.cell? ⟨b,8,none⟩=some v8∧w.cell? ⟨b,9,none⟩=some v9∧w.cell? ⟨b,10,none⟩=some v10∧w.cell? ⟨b,11,none⟩=some v11∧w.cell? ⟨b,12,none⟩=some x∧w.cell? ⟨b,13,none⟩=some o∧w.cell? ⟨b,14,none⟩=some i∧w.cell? ⟨b,15,none⟩=some A∧w.cell? ⟨b,16,none⟩=some y∧w.cell? ⟨b,17,none⟩=some u∧w.cell? ⟨b,18,none⟩=some v)∧∀j,w.frozen? ⟨b,j,none⟩=false:=by
 have:=bx (vs:=[v0,v1,v2,v3,v4,v5,v6,v7,v8,v9,v10,v11,x,o,i,A,y,u,v]) h;simp only [Bx,Cs,Nat.reduceAdd,and_true] at this;exact ⟨this.1,this.2.2⟩
theorem dx {T:TypeId} {u v:World} {b:Nat} {sz:List Int} (h:aY T u b sz) (i:Ext u v):aY T v b sz:=by
 obtain ⟨A1,c1,x,c2,o,c3,B,A,y,C⟩:=h
 exact ⟨A1,c1,x,c2,o,c3,nI (xs:=[_,_,_]) B i,aJ A i,aJ y i,aJ C i⟩
theorem eQ {u v:World} {S n batch steps:Nat} {l:List Int} (h:dB u S n batch steps l) (i:Ext u v):dB v S n batch steps l:=by
 obtain ⟨x,y,Q,N,vs,J,D,O,H,L⟩:=h
 exact ⟨x,y,Q,N,vs,nI (xs:=[_,_,_]) J i,aJ D i,aJ O i,H,fun j C=>by
  obtain ⟨R,I,o,A,B⟩:=L j C
  exact ⟨R,I,o,A,aJ B i⟩⟩
theorem cz:Ew rEx:=fun ⟨A1,c1,u,c2,e,h,i⟩ o=>⟨A1,c1,u,c2,e,⟨h.hc,h.hl,aJ h.hr o,h.hw⟩,⟨i.hc,i.hl,aJ i.hr o,i.hw⟩⟩
theorem eR {u v:World} {P:Nat} {p:Pln} {o a1 x A B y i:Value} (h:db u P p o a1 x A B y i) (hb:Ext u v):db v P p o a1 x A B y i:=by
 obtain ⟨BA,bc,O,L,I,C,J,D,N,H⟩:=h
 exact ⟨BA,bc,O,L,I,C,nI (xs:=[_,_,_,_,_,_,_,_,_,_,_,_,_,_]) J hb,aJ D hb,aJ N hb,aJ H hb⟩
structure Mst where
 P:List Int
 M:List Int
 G:List Int
 rc:List Ex
 st:Nat
 nx:Nat
 op:List Nat
def ao (i:Inp):Pln:=⟨i.cfg.workers.toNat,i.cfg.micros.toNat,i.cfg.bucket.toNat,i.cfg.chunk.toNat,i.cfg.window.toNat,i.start.length⟩
def dW (l:List Nat):List Int:=l.map fun j:Nat=>(j:Int)
theorem yp (l:List Nat):(dW l).length=l.length:=by simp [dW]
structure bP (i:Inp):Prop where
 g:om i
 n:i.start.length≤60
 w:i.cfg.workers≤8
 m:i.cfg.micros≤20
 s:i.cfg.steps≤6
 d:i.data.length≤40
theorem bP.ok {i:Inp} (h:bP i):aT (ao i):=by
 have A:=h.g.c.w;have x:=h.g.c.mi;have C:=h.g.c.bu;have y:=h.g.c.ch;have B:=h.g.c.wi
 have o:=h.n;have u:=h.w;have v:=h.m
 exact ⟨by simp only [ao];omega,by simp only [ao];omega,by simp only [ao];omega,by simp only [ao];omega,by simp only [ao];omega,by simp only [ao];omega,by simp only [ao];omega,by simp only [ao];omega⟩
theorem bP.n1 {i:Inp} (h:bP i):1≤(ao i).n:=by
 have:=qK h.g.c.z
 have:=h.g.s
 simp only [ao];omega
def bf (i:Inp) (x st:Nat):List Itm:=if st<i.cfg.steps.toNat then aw (ao i) x st else []
structure MAd where
 F:Nat
 E:Option Addr
 ce:Nat
 S:Nat
 PP:Nat
 BA:Option Addr
 bc:Nat
 bp:Nat
 cp:Nat
 bm:Nat
 cm:Nat
 bg:Nat
 cg:Nat
 rb:Nat
 rc:Nat
 IA:Option Addr
 ic:Nat
 ov:Value
def bF (i:Inp) (x:Nat) (m:Mst):Nat:=m.st*(aw (ao i) x 0).length+m.nx
def Mut (b:Nat) (a:MAd) (k:Nat):Prop:=k=b∨k=a.bp∨k=a.bm∨k=a.bg∨k=a.rb∨a.ov.ownBlock=some k
abbrev er (H:Nat→Prop) (b:Nat) (a:MAd):Nat→Prop:=fun k=>Mut b a k∨H k
def s6 (V w:World) (v:Value) (l:List Ex):Prop:=∃rows:List (List Value),w.ownsRow 0 141 2 v l.length (List.flatten rows)∧rows.length=l.length∧(∀r∈rows,r.length=2)∧∀j x,l[j]?=some x→rEx V (bK rows j) x
structure aC (H:Nat→Prop) (w:World) (b:Nat) (i:Inp) (x:Nat) (a:MAd) (m:Mst):Prop where
 blk:w.heap[b]?=some (.cells #[FQ (x:Nat),FQ i.cfg.workers,FQ i.cfg.micros,.pointer (some ⟨a.F,0,none⟩),.slice a.E i.data.length a.ce,.pointer (some ⟨a.S,0,none⟩),.pointer (some ⟨a.PP,0,none⟩),.slice a.BA (ao i).buks.length a.bc,FQ i.cfg.rate,FQ i.cfg.mom,FQ i.cfg.shift,.slice (some ⟨a.bp,0,none⟩) i.start.length a.cp,.slice (some ⟨a.bm,0,none⟩) i.start.length a.cm,.slice (some ⟨a.bg,0,none⟩) i.start.length a.cg,.slice (some ⟨a.rb,0,none⟩) m.rc.length a.rc,.slice a.IA (bf i x m.st).length a.ic,FQ (m.nx:Nat),FQ (bF i x m:Nat),a.ov] 179 (0,0))
 sh:aY 212 (aQ (er H b a) w) a.F i.cfg.sizes
 ex:cZ rEx 2 (aQ (er H b a) w) a.E i.data
 sa:dB (aQ (er H b a) w) a.S i.data.length i.cfg.batch.toNat i.cfg.steps.toNat i.draws
 pl:∃a0 a1 a2 a3 a5 a11,db (aQ (er H b a) w) a.PP (ao i) a0 a1 a2 a3 a5 (FQ (i.cfg.steps.toNat:Nat)) a11
 bu:Rd (aQ (er H b a) w) a.BA (az (ao i).buks)
 it:Rd (aQ (er H b a) w) a.IA (bJ (bf i x m.st))
 re:s6 (aQ (er H b a) w) w (.slice (some ⟨a.rb,0,none⟩) m.rc.length a.rc) m.rc
 oP:w.ownsRow 0 2 1 (.slice (some ⟨a.bp,0,none⟩) i.start.length a.cp) i.start.length (ar .i64 m.P)
 oM:w.ownsRow 0 2 1 (.slice (some ⟨a.bm,0,none⟩) i.start.length a.cm) i.start.length (ar .i64 m.M)
 oG:w.ownsRow 0 2 1 (.slice (some ⟨a.bg,0,none⟩) i.start.length a.cg) i.start.length (ar .i64 m.G)
 oO:w.ownsRow 0 3 1 a.ov m.op.length (ar .i64 (dW m.op))
 dj:a.bp≠a.bm∧a.bp≠a.bg∧a.bm≠a.bg
 hH:∀k,k<w.heap.size→Mut b a k→¬H k
 wP:m.P.length=i.start.length∧W64 m.P
 wM:m.M.length=i.start.length∧W64 m.M
 wG:m.G.length=i.start.length∧W64 m.G
 ox:m.nx<(bf i x m.st).length∨(m.nx=0∧i.cfg.steps.toNat≤m.st)
 xw:x<(ao i).W
theorem s6.ext {V i w o:World} {v:Value} {l:List Ex} (h:s6 V w v l) (he:Ext V i) (u:∀e size n xs,w.ownsRow 0 e size v n xs→o.ownsRow 0 e size v n xs):s6 i o v l:=by
 obtain ⟨rows,B,y,C,A⟩:=h
 exact ⟨rows,u _ _ _ _ B,y,C,fun j x D=>cz (A j x D) he⟩
theorem aC.step {H H':Nat→Prop} {w y:World} {b x:Nat} {i:Inp} {a:MAd} {m:Mst} (h:aC H w b i x a m) (hk:Keep H w y) (N:∀k,k<w.heap.size→H' k→H k) (hn:∀k,Mut b a k→¬H' k):aC H' y b i x a m:=by
 have he:Ext (aQ (er H b a) w) (aQ (er H' b a) y):=dL (hk.mono fun k _ h=>.inr h) (fun k hl I=>I.imp id (N k hl))
 have hb:∀k,k<w.heap.size→Mut b a k→y.heap[k]?=w.heap[k]?:=fun k hl hm=>hk.block k hl (h.hH k hl hm)
 have o:∀(v:Value) e size n xs,(∀k,v.ownBlock=some k→Mut b a k)→w.ownsRow 0 e size v n xs→y.ownsRow 0 e size v n xs:=fun v e size n xs J o=>hk.own o fun k u=>h.hH k (o.lt k u).2 (J k u)
 have bp:∀k,(Value.slice (some ⟨a.bp,0,none⟩) i.start.length a.cp).ownBlock=some k→Mut b a k:=fun k e=>by cases e;exact .inr (.inl rfl)
 have bm:∀k,(Value.slice (some ⟨a.bm,0,none⟩) i.start.length a.cm).ownBlock=some k→Mut b a k:=fun k e=>by cases e;exact .inr (.inr (.inl rfl))
 have bg:∀k,(Value.slice (some ⟨a.bg,0,none⟩) i.start.length a.cg).ownBlock=some k→Mut b a k:=fun k e=>by cases e;exact .inr (.inr (.inr (.inl rfl)))
 have rb:∀k,(Value.slice (some ⟨a.rb,0,none⟩) m.rc.length a.rc).ownBlock=some k→Mut b a k:=fun k e=>by cases e;exact .inr (.inr (.inr (.inr (.inl rfl))))
 have ov:∀k,a.ov.ownBlock=some k→Mut b a k:=fun k e=>.inr (.inr (.inr (.inr (.inr e))))
 obtain ⟨C,a1,D,L,O,A,B⟩:=h.pl
 exact ⟨(hb b (EL h.blk) (.inl rfl)).trans h.blk,dx h.sh he,gu cz h.ex he,eQ h.sa he,⟨C,a1,D,L,O,A,eR B he⟩,aJ h.bu he,aJ h.it he,
  h.re.ext he (fun e size n xs=>o _ e size n xs rb),o _ _ _ _ _ bp h.oP,o _ _ _ _ _ bm h.oM,o _ _ _ _ _ bg h.oG,o _ _ _ _ _ ov h.oO,h.dj,fun k _ hm=>hn k hm,h.wP,h.wM,h.wG,h.ox,h.xw⟩
theorem aC.below {H:Nat→Prop} {w o:World} {b x:Nat} {i:Inp} {a:MAd} {m:Mst} (h:aC H w b i x a m) (hb:Below w.heap.size w o) (hn:∀k,Mut b a k→¬H k):aC H o b i x a m:=h.step (Keep.below hb) (fun _ _ h=>h) hn
def iY (i:Inp) (x k:Nat):List Itm:=(List.range k).flatMap fun t=>aw (ao i) x t
abbrev de (i:Inp) (x:Nat):List Itm:=iY i x i.cfg.steps.toNat
theorem p6 (i:Inp) (x k:Nat):iY i x (k+1)=iY i x k++aw (ao i) x k:=by simp [iY,FF]
theorem n8 {i:Inp} (h:aT (ao i)) (x k:Nat):(iY i x k).length=k*(aw (ao i) x 0).length:=by
 induction k with
 | zero=>simp [iY]
 | succ k ih=>rw [p6,Fp,ih,gr h x k,FG]
theorem wu {i:Inp} (o:aT (ao i)) {x st nx:Nat} {y:Itm} (u:(aw (ao i) x st)[nx]?=some y):∀{k:Nat},st<k→(iY i x k)[st*(aw (ao i) x 0).length+nx]?=some y
 | 0,h=>absurd h (Nat.not_lt_zero _)
 | k+1,h=>by
  have hl:=n8 o x k
  have hn:=(Fq.1 u).1
  rw [gr o] at hn
  rw [p6]
  rcases Fa st k with v | v
  ·have A:=FO (aw (ao i) x 0).length (Nat.succ_le_of_lt v)
   rw [FG] at A
   rw [Ft (by omega)]
   exact wu o u v
  ·obtain rfl:st=k:=by omega
   rw [Fu (by omega),hl,Nat.add_sub_cancel_left]
   exact u
structure Cor where
 st:Nat
 bk:Nat
 ph:Nat
 rd:Nat
 ch:Nat
 at':Rg
def Acn.cor (a:Acn):Cor:=⟨a.st,a.bk,a.ph,a.rd,a.ch,a.at'⟩
def df (l:List Itm):List Acn:=l.filterMap (·.a)
def dU (l:List Itm):List Cor:=((df l).filter fun a=>a.send).map Acn.cor
def ey (l:List Itm):List Cor:=((df l).filter fun a=> !a.send).map Acn.cor
theorem eU (l r:List Itm):df (l++r)=df l++df r:=List.filterMap_append ..
theorem js (l r:List Itm):dU (l++r)=dU l++dU r:=by simp [dU,eU]
theorem la (l r:List Itm):ey (l++r)=ey l++ey r:=by simp [ey,eU]
theorem iA {α:Type} (l:List α) (f:α→List Itm):df (l.flatMap f)=l.flatMap fun x=>df (f x):=by
 induction l with
 | nil=>rfl
 | cons x l ih=>rw [List.flatMap_cons,eU,ih,List.flatMap_cons]
theorem cM {α β:Type} {l:List α} {f g:α→List β} (h:∀x∈l,f x=g x):l.flatMap f=l.flatMap g:=by
 induction l with
 | nil=>rfl
 | cons x l ih=>rw [List.flatMap_cons,List.flatMap_cons,h x (by simp),ih fun y i=>h y (by simp [i])]
theorem lC {α:Type} (l:List α) (f:α→Itm) (h:∀x,(f x).a=none):df (l.map f)=[]:=by
 induction l with
 | nil=>rfl
 | cons x l ih=>rw [List.map_cons,df,List.filterMap_cons,h x];exact ih
theorem vk (p:Pln) (w st ph r j:Nat):df (aN p w st ph r j)=bH st j (ay p.buks j) p.W p.ck w ph r:=by
 unfold aN df
 rw [List.filterMap_map]
 generalize bH st j (ay p.buks j) p.W p.ck w ph r=l
 induction l with
 | nil=>rfl
 | cons x l ih=>rw [List.filterMap_cons];show x::_=_;rw [ih]
def kK (p:Pln) (w st a n:Nat):List Acn:=(List.range 2).flatMap fun ph=>(List.range (p.W-1)).flatMap fun r=>(List.range n).flatMap fun j=>bH st (a+j) (ay p.buks (a+j)) p.W p.ck w ph r
theorem vl (p:Pln) (w st:Nat) (g:Rg):df (bU p w st g)=kK p w st g.1 (g.2-g.1):=by
 unfold bU kK
 rw [eU,eU,lC _ _ (fun _=>rfl),lC _ _ (fun _=>rfl),List.append_nil,List.nil_append,iA]
 refine cM fun ph _=>?_
 rw [iA]
 refine cM fun r _=>?_
 rw [iA,List.range'_eq_map_range,List.flatMap_map]
 exact cM fun j _=>vk p w st ph r _
def kJ (p:Pln) (w st:Nat):List Acn:=(List.range (bT p.buks.length p.wi)).flatMap fun k=>kK p w st (k*p.wi) (min (k*p.wi+p.wi) p.buks.length-k*p.wi)
theorem p7 (p:Pln) (w st:Nat):df (aw p w st)=kJ p w st:=by
 unfold aw kJ
 rw [eU,eU,lC _ _ (fun _=>rfl),List.nil_append,iA]
 show _++[]=_
 rw [List.append_nil,Pln.grps,dA,List.flatMap_map]
 exact cM fun k _=>vl p w st _
theorem od (i:Inp) (x k:Nat):df (iY i x k)=(List.range k).flatMap fun st=>kJ (ao i) x st:=by
 unfold iY
 rw [iA]
 exact cM fun st _=>p7 _ _ _
theorem jT {β:Type} (f:Nat→β) (a:Nat):∀m,((List.range m).flatMap fun i=>if i<a then [f i] else [])=(List.range (min m a)).map f
 | 0=>by simp
 | m+1=>by
  rw [FF,List.flatMap_append,jT f a m]
  by_cases h:m<a
  ·rw [show min (m+1) a=min m a+1 by omega,FF,List.map_append]
   simp [h,show min m a=m by omega]
  ·rw [show min (m+1) a=min m a by omega]
   simp [h]
theorem xE (x y:List Rg) (f g:Nat→Rg→Acn) (u:∀i r,(f i r).send=true) (o:∀i r,(g i r).send=false):(fA x y f g).filter (fun a=>a.send)=(List.range x.length).map fun i=>f i (ay x i):=by
 unfold fA
 rw [List.filter_flatMap]
 have:∀i:Nat,List.filter (fun a:Acn=>a.send) ((if i<x.length then [f i (ay x i)] else [])++(if i<y.length then [g i (ay y i)] else []))=if i<x.length then [f i (ay x i)] else []:=fun i=>by
  by_cases v:i<x.length<;>by_cases h:i<y.length<;>simp [v,h,u,o]
 simp only [this]
 rw [jT (fun i=>f i (ay x i)),show min (max x.length y.length) x.length=x.length by omega]
theorem xF (x y:List Rg) (f g:Nat→Rg→Acn) (u:∀i r,(f i r).send=true) (o:∀i r,(g i r).send=false):(fA x y f g).filter (fun a=> !a.send)=(List.range y.length).map fun i=>g i (ay y i):=by
 unfold fA
 rw [List.filter_flatMap]
 have:∀i:Nat,List.filter (fun a:Acn=> !a.send) ((if i<x.length then [f i (ay x i)] else [])++(if i<y.length then [g i (ay y i)] else []))=if i<y.length then [g i (ay y i)] else []:=fun i=>by
  by_cases v:i<x.length<;>by_cases h:i<y.length<;>simp [v,h,u,o]
 simp only [this]
 rw [jT (fun i=>g i (ay y i)),show min (max x.length y.length) y.length=y.length by omega]
theorem zD {W x ph r:Nat} (hr:r<W-1):cU W x ph r=dV W ((x+1)%W) ph r:=by
 unfold cU dV
 rw [Nat.mod_add_mod]
 congr 1
 omega
theorem tT (st bk:Nat) (b:Rg) (W c x ph r:Nat) (hr:r<W-1):((bH st bk b W c x ph r).filter fun a=>a.send).map Acn.cor=((bH st bk b W c ((x+1)%W) ph r).filter fun a=> !a.send).map Acn.cor:=by
 unfold bH
 rw [xE _ _ _ _ (fun _ _=>rfl) (fun _ _=>rfl),xF _ _ _ _ (fun _ _=>rfl) (fun _ _=>rfl),←zD hr,List.map_map,List.map_map]
 rfl
theorem kr (i:Inp) (x k:Nat):dU (iY i x k)=ey (iY i ((x+1)%(ao i).W) k):=by
 unfold dU ey
 rw [od,od]
 simp only [kJ,kK,List.filter_flatMap,List.map_flatMap]
 refine cM fun st _=>cM fun g _=>cM fun ph _=>cM fun r hr=>cM fun j _=>?_
 exact tT _ _ _ _ _ _ _ _ (List.mem_range.1 hr)
def Cor.q (wi:Nat) (c:Cor):Nat:=((((c.st*64+c.bk/wi)*2+c.ph)*64+c.rd)*64+c.bk)*128+c.ch
def Acn.key (wi:Nat) (a:Acn):Nat:=2*a.cor.q wi+(if a.send then 0 else 1)
theorem kZ {st bk:Nat} {b:Rg} {W c x ph r:Nat} {a:Acn} (h:a∈bH st bk b W c x ph r):a.st=st∧a.bk=bk∧a.ph=ph∧a.rd=r∧a.ch<(bH st bk b W c x ph r).length:=by
 rw [fZ]
 unfold bH fA at h
 obtain ⟨i,o,h⟩:=List.mem_flatMap.1 h
 rw [List.mem_range] at o
 rw [FE] at h
 rcases h with h | h<;>split at h
 ·simp only [List.mem_singleton] at h;subst h;exact ⟨rfl,rfl,rfl,rfl,by show i<_;omega⟩
 ·simp at h
 ·simp only [List.mem_singleton] at h;subst h;exact ⟨rfl,rfl,rfl,rfl,by show i<_;omega⟩
 ·simp at h
theorem ik {β:Type} {R:β→β→Prop} {n:Nat} {f:Nat→List β} (x:∀k,k<n→(f k).Pairwise R) (v:∀k h,k<h→h<n→∀a∈f k,∀b∈f h,R a b):((List.range n).flatMap f).Pairwise R:=by
 rw [List.pairwise_flatMap]
 refine ⟨fun k hk=>x k (List.mem_range.1 hk),?_⟩
 refine List.Pairwise.imp_of_mem ?_ (List.pairwise_lt_range (n:=n))
 intro k h _ i o
 exact fun a u b hb=>v k h o (List.mem_range.1 i) a u b hb
theorem zS (wi st bk:Nat) (b:Rg) (W c x ph r:Nat):(bH st bk b W c x ph r).Pairwise fun a b=>a.key wi<b.key wi:=by
 unfold bH fA
 refine ik (fun k _=>?_) (fun k u o _ a i d h=>?_)
 ·split<;>split<;>simp [Acn.key,Acn.cor,Cor.q]
 ·rw [FE] at i h
  have v:a.key wi≤2*(((((st*64+bk/wi)*2+ph)*64+r)*64+bk)*128+k)+1:=by
   rcases i with i | i<;>split at i
   ·simp only [List.mem_singleton] at i;subst i;simp only [Acn.key,Acn.cor,Cor.q];split<;>omega
   ·simp at i
   ·simp only [List.mem_singleton] at i;subst i;simp only [Acn.key,Acn.cor,Cor.q];split<;>omega
   ·simp at i
  have y:2*(((((st*64+bk/wi)*2+ph)*64+r)*64+bk)*128+u)≤d.key wi:=by
   rcases h with h | h<;>split at h
   ·simp only [List.mem_singleton] at h;subst h;simp only [Acn.key,Acn.cor,Cor.q];split<;>omega
   ·simp at h
   ·simp only [List.mem_singleton] at h;subst h;simp only [Acn.key,Acn.cor,Cor.q];split<;>omega
   ·simp at h
  omega
structure InS (p:Pln) (st:Nat) (a:Acn):Prop where
 st:a.st=st
 g:a.bk/p.wi<64
 ph:a.ph<2
 rd:a.rd<64
 bk:a.bk<64
 ch:a.ch<128
theorem lD {p:Pln} (h:aT p) {w st s n:Nat} (hn:s+n≤p.buks.length) {a:Acn} (i:a∈kK p w st s n):InS p st a∧s≤a.bk∧a.bk<s+n:=by
 simp only [kK,List.mem_flatMap,List.mem_range] at i
 obtain ⟨ph,u,r,hr,j,A,i⟩:=i
 obtain ⟨v,B,H,C,D⟩:=kZ i
 have hb:=h.buks
 have o:=h.round w st ph r (s+j)
 rw [aN,List.length_map] at o
 have y:=h.W8
 have x:=Nat.div_le_self a.bk p.wi
 exact ⟨⟨v,by omega,by omega,by omega,by omega,by omega⟩,by omega,by omega⟩
theorem nr {wi:Nat} {a b:Acn} (h:a.cor.q wi<b.cor.q wi):a.key wi<b.key wi:=by
 unfold Acn.key;split<;>split<;>omega
theorem Cn {p:Pln} (h:aT p) (w st k n:Nat) (hn:k*p.wi+n≤p.buks.length) (hw:n≤p.wi):(kK p w st (k*p.wi) n).Pairwise fun a b=>a.key p.wi<b.key p.wi:=by
 have hb:=h.buks
 have L:∀j,j<n→(k*p.wi+j)/p.wi=k:=fun j v=>by
  rw [Nat.mul_comm,Nat.mul_add_div (by have:=h.wi;omega),Nat.div_eq_of_lt (by omega),Nat.add_zero]
 have hm:∀{ph r j:Nat} {a:Acn},a∈bH st (k*p.wi+j) (ay p.buks (k*p.wi+j)) p.W p.ck w ph r→j<n→a.cor.q p.wi=((((st*64+k)*2+ph)*64+r)*64+(k*p.wi+j))*128+a.ch∧a.ch<128:=fun {ph r j a} o v=>by
  obtain ⟨U,Q,V,T,Z⟩:=kZ o
  have A:=h.round w st ph r (k*p.wi+j)
  rw [aN,List.length_map] at A
  refine ⟨?_,by omega⟩
  simp only [Cor.q,Acn.cor,U,Q,V,T,L j v]
 have Y:=h.W8
 unfold kK
 refine ik (fun ph R=>ik (fun r hr=>ik (fun j v=>zS _ _ _ _ _ _ _ _ _) ?_) ?_) ?_
 ·intro j B x u a o b i
  obtain ⟨H,D⟩:=hm o (by omega)
  obtain ⟨I,J⟩:=hm i u
  exact nr (by omega)
 ·intro r O x y a o b i
  simp only [List.mem_flatMap,List.mem_range] at o i
  obtain ⟨j,v,o⟩:=o
  obtain ⟨B,u,i⟩:=i
  obtain ⟨H,D⟩:=hm o v
  obtain ⟨I,J⟩:=hm i u
  exact nr (by omega)
 ·intro ph N x C a o b i
  simp only [List.mem_flatMap,List.mem_range] at o i
  obtain ⟨r,hr,j,v,o⟩:=o
  obtain ⟨O,y,B,u,i⟩:=i
  obtain ⟨H,D⟩:=hm o v
  obtain ⟨I,J⟩:=hm i u
  exact nr (by omega)
theorem iB {p:Pln} (h:aT p) {k:Nat} (hk:k<bT p.buks.length p.wi):k*p.wi+(min (k*p.wi+p.wi) p.buks.length-k*p.wi)≤p.buks.length∧min (k*p.wi+p.wi) p.buks.length-k*p.wi≤p.wi:=by
 have:=ft hk
 omega
theorem p8 {p:Pln} (h:aT p) {w st:Nat} {a:Acn} (i:a∈kJ p w st):InS p st a:=by
 simp only [kJ,List.mem_flatMap,List.mem_range] at i
 obtain ⟨k,hk,i⟩:=i
 exact (lD h (iB h hk).1 i).1
theorem Cm {p:Pln} (h:aT p) (w st:Nat):(kJ p w st).Pairwise fun a b=>a.key p.wi<b.key p.wi:=by
 unfold kJ
 refine ik (fun k hk=>Cn h w st k _ (iB h hk).1 (iB h hk).2) ?_
 intro k B u i a y b hb
 have g1:=iB h (show k<bT p.buks.length p.wi by omega)
 have o:=iB h i
 obtain ⟨m1,C,H⟩:=lD h g1.1 y
 obtain ⟨x,A,I⟩:=lD h o.1 hb
 have v:=h.wi
 have D:a.bk/p.wi≤k:=by
  have:=Nat.div_lt_of_lt_mul (show a.bk<p.wi*(k+1) by rw [Nat.mul_add,Nat.mul_comm];omega)
  omega
 have J:B≤b.bk/p.wi:=(Nat.le_div_iff_mul_le (by omega)).2 A
 refine nr ?_
 have:=m1.ph;have:=m1.rd;have:=m1.bk;have:=m1.ch;have:=m1.st;have:=x.st
 simp only [Cor.q,Acn.cor]
 omega
theorem qO {i:Inp} (h:aT (ao i)) (x k:Nat):(df (iY i x k)).Pairwise fun a b=>a.key (ao i).wi<b.key (ao i).wi:=by
 rw [od]
 refine ik (fun st _=>Cm h x st) ?_
 intro st y o _ a v b hb
 have m1:=p8 h v
 have u:=p8 h hb
 refine nr ?_
 have:=m1.ph;have:=m1.rd;have:=m1.bk;have:=m1.ch;have:=m1.st;have g1:=m1.g;have:=u.st
 simp only [Cor.q,Acn.cor]
 generalize a.bk/(ao i).wi=ga at g1 ⊢
 generalize b.bk/(ao i).wi=gb
 omega
theorem nM:cH Tryz.prog 185 187 (.agg #[FQ 0,FQ 0]) 2 16:=⟨Tryz.underlying185,info_parts (by kernel_rfl),rfl,by decide⟩
def vf (n s k:Nat):List Rg:=(List.range k).map fun j=>(j*s,min (j*s+s) n)
theorem yI (n s k:Nat):vf n s (k+1)=vf n s k++[(k*s,min (k*s+s) n)]:=by simp [vf,FF]
theorem Cd (n s k:Nat):(vf n s k).length=k:=by simp [vf]
theorem D7 (n s:Nat):dA n s=vf n s (bT n s):=rfl
theorem Dk {n s k:Nat} (i:1≤s) (h:bT n s≤k):n≤k*s:=by
 rcases Nat.eq_zero_or_pos n with rfl | hn
 ·omega
 ·rw [qL n s i] at h
  have v:=Nat.div_add_mod (n+s-1) s
  have o:=Nat.mod_lt (n+s-1) (show 0<s by omega)
  have x:s*((n+s-1)/s)≤s*k:=Nat.mul_le_mul_left s h
  have u:s*k=k*s:=Nat.mul_comm _ _
  omega
theorem m6 (n s:Nat) (w:World) (hn:n≤1048576) (hs:1≤s) (a5:s≤1048576):
  Calls Tryz.prog 148 #[FQ n,FQ s] w fun e Y=>∃v,e=.returned v∧Y.ownsRow w.heap.size 187 2 v (dA n s).length (az (dA n s))∧Below w.heap.size w Y:=by
 have a4:¬((s:Int)<1):=by omega
 by_cases h0:n=0
 ·subst h0
  go_enter Tryz.func148,Tryz.ntmps148
  go_wp2
  go_ret
  exact ⟨_,rfl,EZ _ _ _ _,EP _ _⟩
 ·have a2:¬((n:Int)<1):=by omega
  have hc:=dR n s
  have hl:=fun k (h:k<bT n s)=>ft h
  have U:=fun k (h:bT n s≤k)=>Dk hs h
  rw [D7,Cd]
  obtain ⟨m,hm⟩:∃m,bT n s=m:=⟨_,rfl⟩
  rw [hm] at hc hl U ⊢
  obtain ⟨Hl,Hg⟩:=ab hl U;clear hm hl U
  go_enter Tryz.func148,Tryz.ntmps148
  go_wp2_with fail
  go_loopw [5,6] (fun v x wr=>∃k:Nat,k≤m∧x=FQ (min (k*s) n:Nat)∧wr.ownsRow w.heap.size 187 2 v k (az (vf n s k))∧Below w.heap.size w wr) (fun _ x _=>n-(intOf x).toNat)
  case atStart=>exact ⟨0,EQ _,by simp,EZ _ _ _ _,EP _ _⟩
  case round=>
   obtain ⟨k,hk,rfl,L,hb⟩:=hrel
   by_cases T:k<m
   ·have V:=Hl.out k T
    have u:=yI n s k
    have D:(k+1)*s=k*s+s:=FG k s
    obtain ⟨y,hy⟩:∃y,k*s=y:=⟨_,rfl⟩
    rw [hy] at V u D ⊢
    rw [show min y n=y by omega]
    have a3:(y:Int)<n:=by omega
    obtain ⟨A,c,rfl,_⟩:=av L
    obtain ⟨z,Q⟩:∃z,min (y+s) n=z:=⟨_,rfl⟩
    rw [Q] at u
    obtain ⟨N,I,R,O,Z⟩:=ag u D L hb Q
    have J:=hb.size
    clear u D L hb hy
    by_cases a0:(s:Int)<(n:Int)-y
    ·obtain rfl:z=y+s:=by omega
     clear Q
     go_wp2_with (at_builtin;refine be nM _ rfl (.tmp 26) (.tmp 30) rfl w.heap.size (.slice A k c) k _ rfl R.out [FQ (y:Int),FQ ((y:Int)+s)] rfl rfl (bj .i64 [_,_]) (by omega) (by unfold maxLen;omega) J ?_)
     intro g6 c6 w6 i o H
     obtain ⟨C,B⟩:=ab i (O.out.trans o);clear i o H
     go_wp2_with fail
     go_roundw
     case rel=>exact ⟨k+1,by omega,by rw [I.out,Z.out];push_cast;rfl,by rw [N.out,fb];exact C.out,B.out⟩
     case measure=>simp [intOf];omega
    ·obtain rfl:z=n:=by omega
     clear Q
     go_wp2_with (at_builtin;refine be nM _ rfl (.tmp 26) (.tmp 30) rfl w.heap.size (.slice A k c) k _ rfl R.out [FQ (y:Int),FQ (z:Nat)] rfl rfl (bj .i64 [_,_]) (by omega) (by unfold maxLen;omega) J ?_)
     intro g6 c6 w6 i o H
     obtain ⟨C,B⟩:=ab i (O.out.trans o);clear i o H
     go_wp2_with fail
     go_roundw
     case rel=>exact ⟨k+1,by omega,by rw [I.out,Z.out],by rw [N.out,fb];exact C.out,B.out⟩
     case measure=>simp [intOf];omega
   ·have a1:=Hg.out k (by omega)
    obtain rfl:k=m:=by omega
    rw [show min (k*s) n=n by omega]
    have a6:¬((n:Int)<n):=by omega
    obtain ⟨R,O⟩:=ab L hb;clear L hb
    go_wp2_with fail
    go_ret
    exact ⟨_,rfl,R.out,O.out⟩
theorem ro (n s:Nat) (w:World) (hn:n≤1048576) (A:1≤s) (h:s≤1048576):
  Calls Tryz.prog 102 #[FQ n,FQ s] w fun e o=>∃v,e=.returned v∧o.ownsRow w.heap.size 187 2 v (dA n s).length (az (dA n s))∧Below w.heap.size w o:=by
 have hb:=m6 n s w hn A h
 have B:=aa hb;clear hb
 go_enter Tryz.func102,Tryz.ntmps102
 go_wp2_with fail
 refine B.out.mono ?_
 rintro e C ⟨v,rfl,u,i⟩
 obtain ⟨y,x⟩:=ab u i;clear u i
 go_wp2_with fail
 go_ret
 exact ⟨_,rfl,y.out,x.out⟩
def szs (k m:Nat):List Int:=(List.range k).map fun i=>(szE k m i:Int)
theorem jr (k m:Nat):(szs k m).length=k:=by simp [szs]
theorem vx {k m i:Nat} (h:i<k):nth (szs k m) i=(szE k m i:Int):=by rw [cW _ _ (by rw [jr];exact h)];simp [szs]
theorem ze (k:Nat):List.replicate k (0:Int)=szs k 0:=by
 refine List.ext_getElem (by simp [jr]) fun i h o=>?_
 simp [szs,zh]
theorem zg {k m:Nat} (hk:0<k):(szs k m).set (m%k) ((szE k m (m%k):Int)+1)=szs k (m+1):=by
 refine List.ext_getElem (by simp [jr]) fun i u x=>?_
 have v:i<k:=by simpa [jr] using u
 rw [List.getElem_set]
 have o:=zj (m:=m) v
 by_cases h:m%k=i
 ·subst h
  rw [if_pos rfl]
  simp only [szs,List.getElem_map,List.getElem_range]
  rw [o,if_pos rfl]
  push_cast;rfl
 ·rw [if_neg h]
  simp only [szs,List.getElem_map,List.getElem_range]
  rw [o,if_neg (fun e=>h e.symm),Nat.add_zero]
theorem zk (k m i:Nat):szE k m i≤m+1:=by
 unfold szE
 have:=Nat.div_le_self m k
 split<;>omega
def evK (n k m:Nat):List Rg:=(List.range m).map fun i=>(bdN n k i,bdN n k (i+1))
theorem Bz (n k m:Nat):evK n k (m+1)=evK n k m++[(bdN n k m,bdN n k m+szE k n m)]:=by
 rw [←n4];exact nK n k m
theorem xq (n k:Nat) (w:World) (h1:1≤k) (h2:k≤1048576) (h3:n≤1048576):
  Calls Tryz.prog 180 #[FQ n,FQ k] w fun e Y=>∃v,e=.returned v∧Y.ownsRow w.heap.size 187 2 v k (az (eh n k))∧Below w.heap.size w Y:=by
 have b4:¬((n:Int)<0):=by omega
 have b7:¬((k:Int)<1):=by omega
 have b5:¬(k=0):=by omega
 obtain ⟨W0,Q,o0,R⟩:=tI fq w rfl k (by omega) (by unfold maxLen;omega)
 rw [gj,ze] at o0
 obtain ⟨a2,O0⟩:=ab R o0;clear R o0
 go_enter Tryz.func180,Tryz.ntmps180
 go_wp2_with fail
 clear Q
 go_loopw [6] (fun y wr=>∃m:Nat,m≤n∧y=FQ m∧wr.ownsRow w.heap.size 3 1 (.slice (some ⟨w.heap.size,0,none⟩) k k) k (ar .i64 (szs k m))∧Below w.heap.size w wr) (fun y _=>n-(intOf y).toNat)
 case atStart=>exact ⟨0,EQ _,rfl,O0.out,a2.out⟩
 case round=>
  obtain ⟨m,hm,rfl,J,hb⟩:=hrel
  by_cases u:m<n
  ·have I:(m:Int)<n:=by omega
   have b0:(m:Int).tmod (k:Int)=((m%k:Nat):Int):=rfl
   have a4:(m:Int)%(k:Int)=((m%k:Nat):Int):=rfl
   have C:m%k<k:=Nat.mod_lt _ h1
   have h:=zg (m:=m) h1
   have hc:=J.cellAt (m%k) (by omega)
   rw [ji _ _ _ (by rw [jr];exact C),vx C] at hc
   have x:=zk k m (m%k)
   have hf:=fun j=>J.frozenAt j
   obtain ⟨r,hr⟩:∃r,m%k=r:=⟨_,rfl⟩
   rw [hr] at b0 a4 C h hc x
   have b2:(r:Int)<k:=by omega
   obtain ⟨s,T⟩:∃s,szE k m r=s:=⟨_,rfl⟩
   rw [T] at h hc x
   have ad:IntKind.i64.wrap ((m:Int)+1)=((m+1:Nat):Int):=by rw [ER _ (by omega)];push_cast;rfl
   have D:=(J.stored r (FQ ((s:Int)+1))).1
   rw [rM,h] at D
   have V:=Keep.setCell (S:=fun j=>j=w.heap.size) (Keep.refl _ wr) ⟨w.heap.size,r,none⟩ (.inr rfl) (FQ ((s:Int)+1))
   obtain ⟨a1,O⟩:=ab D (hb.trans (V.toBelow hb.size (fun j hj=>by omega)))
   clear J hb hr T h D V
   go_wp2_with fail
   go_roundw
   case rel=>exact ⟨m+1,by omega,by go_num,a1.out,O.out⟩
   case measure=>simp [intOf];omega
  ·have I:¬((m:Int)<n):=by omega
   obtain rfl:n=m:=by omega
   obtain ⟨Ho,O⟩:=ab J hb;clear J hb
   go_wp2_with fail
   obtain ⟨L,rfl⟩:∃L:World,L=wr:=⟨_,rfl⟩
   go_loopw [7,8,9] (fun v z y wr=>∃m:Nat,m≤k∧y=FQ m∧z=FQ (bdN n k m:Nat)∧wr.ownsRow L.heap.size 187 2 v m (az (evK n k m))∧Below L.heap.size L wr) (fun _ _ y _=>k-(intOf y).toNat)
   case atStart=>exact ⟨0,EQ _,rfl,by simp [bdN],EZ _ _ _ _,EP _ _⟩
   case round=>
    obtain ⟨m,hm,rfl,rfl,i,q⟩:=hrel
    by_cases u:m<k
    ·have I:(m:Int)<k:=by omega
     have ad:IntKind.i64.wrap ((m:Int)+1)=((m+1:Nat):Int):=by rw [ER _ (by omega)];push_cast;rfl
     have hc:=Ho.out.cellAt m (by omega)
     rw [ji _ _ _ (by rw [jr];exact u),vx u] at hc
     have x:=zk k n m
     have a0:=eT n k m h1 hm
     have b3:=eT n k (m+1) h1 u
     have h:=Bz n k m
     have o:=n4 n k m
     obtain ⟨s,T⟩:∃s,szE k n m=s:=⟨_,rfl⟩
     rw [T] at hc x h o
     have U:=am q hc
     obtain ⟨b,hb⟩:∃b,bdN n k m=b:=⟨_,rfl⟩
     rw [hb] at a0 h o ⊢
     obtain ⟨A,c,rfl,_⟩:=av i
     obtain ⟨B,Z,b1,a7⟩:=af i q h o
     have a5:=q.size
     have b6:=au U
     have d2:=fun Y (q':Below wr.heap.size wr Y)=>am q' U
     have Hc:=aa hc;clear i q h o hb T hc
     go_wp2_with (at_builtin;refine be nM _ rfl (.tmp 36) (.tmp 45) rfl L.heap.size (.slice A m c) m _ rfl B.out [FQ (b:Nat),FQ ((b:Int)+s)] rfl rfl (bj .i64 [_,_]) (by omega) (by unfold maxLen;omega) a5 ?_)
     intro g6 c6 w6 N H a8
     obtain ⟨a6,a3⟩:=ab N (Z.out.trans H)
     have d6:=am (Z.out.trans H) Hc.out
     clear N H a8
     go_wp2_with fail
     go_roundw
     case rel=>exact ⟨m+1,by omega,by go_num,by rw [a7.out];push_cast;rfl,by rw [b1.out,fb];exact a6.out,a3.out⟩
     case measure=>simp [intOf];omega
    ·have I:¬((m:Int)<k):=by omega
     obtain rfl:k=m:=by omega
     obtain ⟨B,Z⟩:=ab (aA (base':=w.heap.size) i O.out.size) (O.out.trans (q.mono O.out.size));clear i q
     go_wp2_with fail
     go_ret
     exact ⟨_,rfl,B.out,Z.out⟩
theorem zy {d:Nat} {l:List Rg} {m:Nat} (h:m<l.length):shR d (l.take (m+1))=shR d (l.take m)++[((ay l m).1+d,(ay l m).2+d)]:=by
 rw [List.take_succ_eq_append_getElem h,bq _ _ h,shR,List.map_append];rfl
theorem pn (A:Option Addr) (l:List Rg) (n c d:Nat) (w:World) (hA:Rd w A (az l)) (hn:l.length=n) (h1:n≤1048576) (h2:d≤1048576) (h3:∀r∈l,r.1≤1048576∧r.2≤1048576):
  Calls Tryz.prog 193 #[.slice A n c,FQ d] w fun e B=>∃v,e=.returned v∧B.ownsRow w.heap.size 187 2 v n (az (shR d l))∧Below w.heap.size w B:=by
 obtain ⟨Q,H3,Hn⟩:=ae hA h3 hn;clear hA h3 hn
 go_enter Tryz.func193,Tryz.ntmps193
 go_wp2_with fail
 go_loopw [5,6] (fun v y wr=>∃m:Nat,m≤n∧y=FQ m∧wr.ownsRow w.heap.size 187 2 v m (az (shR d (l.take m)))∧Below w.heap.size w wr) (fun _ y _=>n-(intOf y).toNat)
 case atStart=>exact ⟨0,EQ _,rfl,EZ _ _ _ _,EP _ _⟩
 case round=>
  obtain ⟨m,hm,rfl,C,q⟩:=hrel
  by_cases a0:m<n
  ·have a5:(m:Int)<n:=by omega
   have a6:IntKind.i64.wrap ((m:Int)+1)=((m+1:Nat):Int):=by rw [ER _ (by omega)];push_cast;rfl
   obtain ⟨Av,cv,rfl,_⟩:=av C
   obtain ⟨v,hv⟩:∃v,Value.slice Av m cv=v:=⟨_,rfl⟩
   rw [hv] at C ⊢
   have J:m<l.length:=by rw [Hn.out];exact a0
   have H:=dm J
   obtain ⟨bb,bo,rfl,i⟩:=Q.out _ _ H.1
   obtain ⟨L,a3,e',h⟩:=Q.out _ _ H.2
   obtain ⟨rfl,rfl⟩:L=bb∧a3=bo:=by simpa using e'.symm
   rw [←FH] at h
   have T:=H3.out (ay l m) (by rw [bq _ _ J];exact List.getElem_mem _)
   have x:=zy (d:=d) J
   obtain ⟨D,I,R⟩:∃D I,ay l m=(D,I):=⟨_,_,rfl⟩
   rw [R] at i h T x
   dsimp only at i h T x
   have N:=au i
   have nb:¬v.ownBlock=some L:=fun e=>by have:=(C.lt _ e).1;simp only at N;omega
   have d0:=fun B (q':Keep (fun j=>v.ownBlock=some j) wr B)=>q'.cell (am q i) nb
   have d1:=fun B (q':Keep (fun j=>v.ownBlock=some j) wr B)=>q'.cell (am q h) nb
   have w1:IntKind.i64.wrap ((D:Int)+d)=(D:Int)+d:=ER _ (by omega)
   have w2:IntKind.i64.wrap ((I:Int)+d)=(I:Int)+d:=ER _ (by omega)
   have a4:=q.size
   obtain ⟨Z,Hq,a1⟩:=ae C q x
   have V:Keep (fun j=>v.ownBlock=some j) wr wr.drew:=(Keep.refl _ _).drew
   clear C q x R H e' i h nb N
   go_wp2_with fail
   refine HA.g (fun B:World=>Keep (fun j=>v.ownBlock=some j) wr B) ?_
   refine HA.t ?_ [0,1,2,3,4,5,6,7,8,9,10,11,12,13,14,15] V ?_
   refine HA.v 16 (wr.drew.alloc (.cells #[FQ ((D:Int)+d),FQ ((I:Int)+d)] 187)) (.slice (some ⟨wr.heap.size,0,none⟩) 1 1) (V.alloc _) ?_
   refine HA.o 17 (fun K' hK=>?_)
   have hO:=(Z.out.drew).alloc (.cells #[FQ ((D:Int)+d),FQ ((I:Int)+d)] 187)
   refine bS nM (.tmp 13) (.tmp 29) rfl rfl w.heap.size v m _ rfl hO (some ⟨wr.heap.size,0,none⟩) 1 1 [FQ ((D:Int)+d),FQ ((I:Int)+d)] rfl (fun k u hu=>⟨_,_,rfl,by rw [FI,EO _ wr.heap.size k _ 187 (0,0) (EN wr.drew _)];simpa using hu⟩) rfl (by simp [Value.oneCell']) (by omega) (by unfold maxLen;omega) (by simp;omega) ?_
   intro A5 c5 w5 O a2 U _
   have Y:Keep (fun j=>v.ownBlock=some j) wr w5:=(V.alloc _).grown U (fun k hk=>.inr hk)
   refine hK.out _ _ Y fun _=>?_
   refine HA.t ?_ [18] Y ?_
   refine HA.d ?_
   obtain ⟨O5,Q5⟩:=ab O (Hq.out.trans (Y.toBelow a4 (fun j hj=>(Z.out.lt j hj).1)));clear O a2 U d0 d1 w1 w2 V Y hK K' hO
   go_wp2_with fail
   go_roundw
   case rel=>exact ⟨m+1,by omega,by go_num,by rw [a1.out,fb];simpa [az] using O5.out,Q5.out⟩
   case measure=>simp [intOf];omega
  ·have a5:¬((m:Int)<n):=by omega
   obtain rfl:n=m:=by omega
   rw [List.take_of_length_le (by rw [Hn.out];exact EM _)] at C
   obtain ⟨Z,Hb⟩:=ab C q;clear C q
   go_wp2_with fail
   go_ret
   exact ⟨_,rfl,Z.out,Hb.out⟩
theorem zX {l:List Rg} {m:Nat} (h:m<l.length):l.reverse.take (m+1)=l.reverse.take m++[ay l (l.length-1-m)]:=by
 rw [List.take_succ_eq_append_getElem (by simpa using h),List.getElem_reverse,←bq l _ (by omega)]
theorem uc (n s:Nat) (w:World) (hn:n≤1048576) (hs:1≤s) (a2:s≤1048576):
  Calls Tryz.prog 138 #[FQ n,FQ s] w fun e w'=>∃v,e=.returned v∧w'.ownsRow w.heap.size 187 2 v (j0 n s).length (az (j0 n s))∧Below w.heap.size w w':=by
 have hb:=m6 n s w hn hs a2
 have o:j0 n s=(dA n s).reverse:=rfl
 have C:(j0 n s).length=(dA n s).length:=by rw [o,List.length_reverse]
 rw [C]
 have u:=dR n s
 rw [←cY] at u
 obtain ⟨l,hl⟩:∃l,dA n s=l:=⟨_,rfl⟩
 rw [hl] at hb o u ⊢
 obtain ⟨N,hN⟩:∃N,l.length=N:=⟨_,rfl⟩
 rw [hN] at hb u ⊢
 rw [o]
 obtain ⟨Hb,HN⟩:=ab hb hN;clear hb o C hl hN
 go_enter Tryz.func138,Tryz.ntmps138
 go_wp2_with fail
 refine Hb.out.mono ?_
 rintro e J ⟨v1,rfl,o1,k1⟩
 obtain ⟨A,c,rfl,_⟩:=av o1
 obtain ⟨O1,V⟩:=ab o1 k1;clear o1 k1
 go_wp2_with fail
 go_loopw [6,7] (fun v y wr=>∃m:Nat,m≤N∧y=FQ ((N:Int)-1-m)∧wr.ownsRow J.heap.size 187 2 v m (az (l.reverse.take m))∧Below J.heap.size J wr) (fun _ y _=>(intOf y+1).toNat)
 case atStart=>exact ⟨0,EQ _,by go_num,EZ _ _ _ _,EP _ _⟩
 case round=>
  obtain ⟨m,hm,rfl,x,q⟩:=hrel
  by_cases O:m<N
  ·obtain ⟨j,hj⟩:∃j,N-1-m=j:=⟨_,rfl⟩
   have i:(N:Int)-1-m=(j:Int):=by omega
   have a6:(0:Int)≤(j:Int):=by omega
   have a3:j<N:=by omega
   have a4:(j:Int)<N:=by omega
   rw [i]
   have h:=zX (l:=l) (m:=m) (by rw [HN.out];exact O)
   rw [HN.out,hj] at h
   obtain ⟨g,rfl⟩:∃g,A=some ⟨g,0,none⟩:=by
    obtain ⟨g,e,hv,_⟩:=O1.out.form (by omega)
    simp only [FD] at hv
    exact ⟨g,hv.1⟩
   have L:=fj O1.out a3
   obtain ⟨Q,b2,I⟩:∃Q b2,ay l j=(Q,b2):=⟨_,_,rfl⟩
   rw [I] at L h
   have c0:=am q L.1
   have c1:=am q L.2
   dsimp only at c0 c1
   obtain ⟨Av,cv,rfl,_⟩:=av x
   obtain ⟨Z,U,T,Hj,H⟩:=ag x q h hj i
   have Y:=q.size
   have a5:IntKind.i64.wrap ((j:Int)-1)=(j:Int)-1:=ER _ (by omega)
   clear x q h hj I L i
   go_wp2_with (at_builtin;refine be nM _ rfl (.tmp 18) (.tmp 23) rfl J.heap.size (.slice Av m cv) m _ rfl Z.out [FQ (Q:Nat),FQ (b2:Nat)] rfl rfl (bj .i64 [_,_]) (by omega) (by unfold maxLen;omega) Y ?_)
   intro g6 c6 w6 B D a1
   obtain ⟨a0,R⟩:=ab B (U.out.trans D);clear B D a1
   go_wp2_with fail
   go_roundw
   case rel=>exact ⟨m+1,by omega,by have:=H.out;go_num,by rw [T.out,fb];exact a0.out,R.out⟩
   case measure=>have:=H.out;simp [intOf]
  ·have i:¬((0:Int)≤(N:Int)-1-m):=by omega
   obtain rfl:N=m:=by omega
   rw [List.take_of_length_le (by rw [List.length_reverse,HN.out];exact EM _)] at x
   obtain ⟨Z,U⟩:=ab (aA (base':=w.heap.size) x V.out.size) (V.out.trans (q.mono V.out.size));clear x q
   go_wp2_with fail
   go_ret
   exact ⟨_,rfl,Z.out,U.out⟩
theorem xk (lo h k:Nat) (w:World) (Q:1≤k) (N:k≤1048576) (h3:lo≤h) (h4:h≤1048576):
  Calls Tryz.prog 184 #[.agg #[FQ lo,FQ h],FQ k] w fun e x=>∃v,e=.returned v∧x.ownsRow w.heap.size 187 2 v k (az (cG (lo,h) k))∧Below w.heap.size w x:=by
 obtain ⟨o,i⟩:∃o,w.alloc (.cells #[FQ lo,FQ h] 187)=o:=⟨_,rfl⟩
 have O:o.heap[w.heap.size]?=some (.cells #[FQ lo,FQ h] 187 (0,0)):=by rw [←i];exact EN w _
 have y:Below w.heap.size w o:=by rw [←i];exact (br w).alloc (EM _) _
 have t0:=fun x q=>bx2 (sb O x q)
 obtain ⟨D,u⟩:=ab i y;clear i O y
 have I:Hid (cG (lo,h) k=shR lo (eh (h-lo) k)):=Lib.hid rfl
 have U:(h:Int)-lo=((h-lo:Nat):Int):=by omega
 have Y:IntKind.i64.wrap ((h-lo:Nat):Int)=((h-lo:Nat):Int):=ER _ (by omega)
 go_enter Tryz.func184,Tryz.ntmps184
 have L:=br o
 go_wp2_with fail
 rw [D.out]
 refine HA.g (fun x:World=>Below o.heap.size o x) ?_
 refine HA.t ?_ [0,1,2,3,4,5,7,8] L.drew ?_
 refine HA.c 6 (xq (h-lo) k _ Q N (by omega)) ?_
 rintro e Z ⟨v2,rfl,H,R⟩
 obtain ⟨A,c,rfl,_⟩:=av H
 have C:=bt L.drew R
 refine ⟨_,rfl,C,fun _=>?_⟩
 refine HA.c 9 (pn A (eh (h-lo) k) k c lo Z (Rd.own H) (dy _ _) N (by omega) (nL Q (by omega))) ?_
 rintro e w4 ⟨v4,rfl,J,T⟩
 have B:=bt C T
 refine ⟨_,rfl,B,fun _=>?_⟩
 refine HA.t ?_ [10] B ?_
 refine HA.d ?_
 have hB:=aa (u.out.trans (B.mono u.out.size))
 rw [←I.out] at J
 have V:=aa (aA (base':=w.heap.size) J (ES u.out.size C.size));clear J H R T C B t0
 go_wp2_with fail
 go_ret
 exact ⟨_,rfl,V.out,hB.out⟩
theorem xy (lo h k:Nat) (w:World) (V:1≤k) (U:k≤1048576) (h3:lo≤h) (h4:h≤1048576):
  Calls Tryz.prog 183 #[.agg #[FQ lo,FQ h],FQ k] w fun e x=>∃v,e=.returned v∧x.ownsRow w.heap.size 187 2 v (chR (lo,h) k).length (az (chR (lo,h) k))∧Below w.heap.size w x:=by
 obtain ⟨o,i⟩:∃o,w.alloc (.cells #[FQ lo,FQ h] 187)=o:=⟨_,rfl⟩
 have Q:o.heap[w.heap.size]?=some (.cells #[FQ lo,FQ h] 187 (0,0)):=by rw [←i];exact EN w _
 have y:Below w.heap.size w o:=by rw [←i];exact (br w).alloc (EM _) _
 have t0:=fun x q=>bx2 (sb Q x q)
 obtain ⟨H,u⟩:=ab i y;clear i Q y
 have B:Hid (chR (lo,h) k=shR lo (dA (h-lo) k)):=Lib.hid rfl
 have Y:(h:Int)-lo=((h-lo:Nat):Int):=by omega
 have a0:IntKind.i64.wrap ((h-lo:Nat):Int)=((h-lo:Nat):Int):=ER _ (by omega)
 have N:=dR (h-lo) k
 rw [←cY] at N
 go_enter Tryz.func183,Tryz.ntmps183
 have O:=br o
 go_wp2_with fail
 rw [H.out]
 refine HA.g (fun x:World=>Below o.heap.size o x) ?_
 refine HA.t ?_ [0,1,2,3,4,5,7,8] O.drew ?_
 refine HA.c 6 (m6 (h-lo) k _ (by omega) V U) ?_
 rintro e w2 ⟨v2,rfl,I,R⟩
 obtain ⟨A,c,rfl,_⟩:=av I
 have D:=bt O.drew R
 refine ⟨_,rfl,D,fun _=>?_⟩
 refine HA.c 9 (pn A (dA (h-lo) k) _ c lo w2 (Rd.own I) rfl (by omega) (by omega) (wn (by omega))) ?_
 rintro e w4 ⟨v4,rfl,J,T⟩
 have C:=bt D T
 refine ⟨_,rfl,C,fun _=>?_⟩
 refine HA.t ?_ [10] C ?_
 refine HA.d ?_
 have hB:=aa (u.out.trans (C.mono u.out.size))
 have L:(chR (lo,h) k).length=(dA (h-lo) k).length:=by rw [B.out,iG]
 rw [←B.out,←L] at J
 have Z:=aa (aA (base':=w.heap.size) J (ES u.out.size D.size));clear J I R T D C t0
 go_wp2_with fail
 go_ret
 exact ⟨_,rfl,Z.out,hB.out⟩
end Go.Proofs.YtgmajkppbhiopaaGreat
