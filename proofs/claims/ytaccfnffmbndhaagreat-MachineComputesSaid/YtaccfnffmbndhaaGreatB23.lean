/- A machine in memory; what it says of itself. A machine's Next, Count, Gradient and Open. Regions that draw their order, where two or three steps may come up. No condition. -/
import Derived.Test.YtaccfnffmbndhaaGreatB02
import Derived.Test.YtaccfnffmbndhaaGreatB11
import Derived.Test.YtaccfnffmbndhaaGreatB22
import Derived.Test.YtaccfnffmbndhaaGreatB04
set_option linter.unusedSimpArgs false
set_option linter.unusedVariables false
namespace Go.Proofs.YtaccfnffmbndhaaGreat
open Go.RowKit
theorem bx19 {w:World} {b:Nat} {t:TypeId} {v0 v1 v2 v3 v4 v5 v6 v7 v8 v9 v10 v11 v12 v13 v14 v15 v16 v17 v18:Value} (h:w.heap[b]? = some (.cells #[v0,v1,v2,v3,v4,v5,v6,v7,v8,v9,v10,v11,v12,v13,v14,v15,v16,v17,v18] t (0,0))):(w.cell? ⟨b,0,none⟩ = some v0 ∧ w.cell? ⟨b,1,none⟩ = some v1 ∧ w.cell? ⟨b,2,none⟩ = some v2 ∧ w.cell? ⟨b,3,none⟩ = some v3 ∧ w.cell? ⟨b,4,none⟩ = some v4 ∧ w.cell? ⟨b,5,none⟩ = some v5 ∧ w.cell? ⟨b,6,none⟩ = some v6 ∧ w.cell? ⟨b,7,none⟩ = some v7 ∧ w.cell? ⟨b,8,none⟩ = some v8 ∧ w.cell? ⟨b,9,none⟩ = some v9 ∧ w.cell? ⟨b,10,none⟩ = some v10 ∧ w.cell? ⟨b,11,none⟩ = some v11 ∧ w.cell? ⟨b,12,none⟩ = some v12 ∧ w.cell? ⟨b,13,none⟩ = some v13 ∧ w.cell? ⟨b,14,none⟩ = some v14 ∧ w.cell? ⟨b,15,none⟩ = some v15 ∧ w.cell? ⟨b,16,none⟩ = some v16 ∧ w.cell? ⟨b,17,none⟩ = some v17 ∧ w.cell? ⟨b,18,none⟩ = some v18) ∧ ∀ j,w.frozen? ⟨b,j,none⟩ = false:=by
  have:=bx (vs:=[v0,v1,v2,v3,v4,v5,v6,v7,v8,v9,v10,v11,v12,v13,v14,v15,v16,v17,v18]) h;simp only [Bx,Cs,Nat.reduceAdd,and_true] at this;exact ⟨this.1,this.2.2⟩
theorem ext_shape {T:TypeId} {u v:World} {b:Nat} {sz:List Int} (h:ShapeAt T u b sz) (hv:Ext u v):ShapeAt T v b sz:=by
  obtain ⟨A1,c1,A2,c2,A3,c3,h0,h1,h2,h3⟩:=h
  exact ⟨A1,c1,A2,c2,A3,c3,ext_heap (xs:=[_,_,_]) h0 hv,ext_rd h1 hv,ext_rd h2 hv,ext_rd h3 hv⟩
theorem ext_samp {u v:World} {S n batch steps:Nat} {l:List Int} (h:SampAt u S n batch steps l) (hv:Ext u v):SampAt v S n batch steps l:=by
  obtain ⟨Ab,cb,Ao,co,vs,h1,h2,h3,h4,h5⟩:=h
  exact ⟨Ab,cb,Ao,co,vs,ext_heap (xs:=[_,_,_]) h1 hv,ext_rd h2 hv,ext_rd h3 hv,h4,fun j hj => by
    obtain ⟨A',c',k1,k2,k3⟩:=h5 j hj
    exact ⟨A',c',k1,k2,ext_rd k3 hv⟩⟩
theorem exts_ex:Exts rEx:=fun ⟨A1,c1,A2,c2,e,k1,k2⟩ hv => ⟨A1,c1,A2,c2,e,⟨k1.hc,k1.hl,ext_rd k1.hr hv,k1.hw⟩,⟨k2.hc,k2.hl,ext_rd k2.hr hv,k2.hw⟩⟩
theorem ext_plan {u v:World} {P:Nat} {p:Pln} {a0 a1 a2 a3 a5 a7 a11:Value} (h:PlanAt u P p a0 a1 a2 a3 a5 a7 a11) (hb:Ext u v):PlanAt v P p a0 a1 a2 a3 a5 a7 a11:=by
  obtain ⟨BA,bc,GA,gc,LA,lc,h1,h2,h3,h4⟩:=h
  exact ⟨BA,bc,GA,gc,LA,lc,ext_heap (xs:=[_,_,_,_,_,_,_,_,_,_,_,_,_,_]) h1 hb,ext_rd h2 hb,ext_rd h3 hb,ext_rd h4 hb⟩
structure Mst where
  P:List Int
  M:List Int
  G:List Int
  rc:List Ex
  st:Nat
  nx:Nat
  op:List Nat
def plnI (i:Inp):Pln:=⟨i.cfg.workers.toNat,i.cfg.micros.toNat,i.cfg.bucket.toNat,i.cfg.chunk.toNat,i.cfg.window.toNat,i.start.length⟩
def intsN (l:List Nat):List Int:=l.map fun j:Nat => (j:Int)
structure SmIn (i:Inp):Prop where
  g:GoodIn i
  n:i.start.length ≤ 60
  w:i.cfg.workers ≤ 8
  m:i.cfg.micros ≤ 20
  s:i.cfg.steps ≤ 6
  d:i.data.length ≤ 40
theorem SmIn.ok {i:Inp} (h:SmIn i):PlnOk (plnI i):=by
  have h1:=h.g.c.w;have h2:=h.g.c.mi;have h3:=h.g.c.bu;have h4:=h.g.c.ch;have h5:=h.g.c.wi
  have k1:=h.n;have k2:=h.w;have k3:=h.m
  exact ⟨by simp only [plnI];omega,by simp only [plnI];omega,by simp only [plnI];omega,by simp only [plnI];omega,by simp only [plnI];omega,by simp only [plnI];omega,by simp only [plnI];omega,by simp only [plnI];omega⟩
theorem SmIn.n1 {i:Inp} (h:SmIn i):1 ≤ (plnI i).n:=by
  have:=cnt_pos h.g.c.z
  have:=h.g.s
  simp only [plnI];omega
def curL (i:Inp) (x st:Nat):List Itm:=if st < i.cfg.steps.toNat then itemsL (plnI i) x st else []
structure MAd where
  F:Nat
  E:Option Addr
  ce:Nat
  S:Nat
  PP:Nat
  BA:Option Addr
  bc:Nat
  bp:Nat
  cp:Nat
  bm:Nat
  cm:Nat
  bg:Nat
  cg:Nat
  rb:Nat
  rc:Nat
  IA:Option Addr
  ic:Nat
  ov:Value
def doneN (i:Inp) (x:Nat) (m:Mst):Nat:=m.st * (itemsL (plnI i) x 0).length + m.nx
def Mut (b:Nat) (a:MAd) (k:Nat):Prop:=k = b ∨ k = a.bp ∨ k = a.bm ∨ k = a.bg ∨ k = a.rb ∨ a.ov.ownBlock = some k
abbrev mutH (H:Nat → Prop) (b:Nat) (a:MAd):Nat → Prop:=fun k => Mut b a k ∨ H k
def RecAt (V w:World) (v:Value) (l:List Ex):Prop:=∃ rows:List (List Value),w.ownsRow 0 68 2 v l.length (List.flatten rows) ∧ rows.length = l.length ∧ (∀ r ∈ rows,r.length = 2) ∧ ∀ j x,l[j]? = some x → rEx V (rowOf rows j) x
structure MachAt (H:Nat → Prop) (w:World) (b:Nat) (i:Inp) (x:Nat) (a:MAd) (m:Mst):Prop where
  blk:w.heap[b]? = some (.cells #[.int .i64 (x:Nat),.int .i64 i.cfg.workers,.int .i64 i.cfg.micros,.pointer (some ⟨a.F,0,none⟩),.slice a.E i.data.length a.ce,.pointer (some ⟨a.S,0,none⟩),.pointer (some ⟨a.PP,0,none⟩),.slice a.BA (plnI i).buks.length a.bc,.int .i64 i.cfg.rate,.int .i64 i.cfg.mom,.int .i64 i.cfg.shift,.slice (some ⟨a.bp,0,none⟩) i.start.length a.cp,.slice (some ⟨a.bm,0,none⟩) i.start.length a.cm,.slice (some ⟨a.bg,0,none⟩) i.start.length a.cg,.slice (some ⟨a.rb,0,none⟩) m.rc.length a.rc,.slice a.IA (curL i x m.st).length a.ic,.int .i64 (m.nx:Nat),.int .i64 (doneN i x m:Nat),a.ov] 130 (0,0))
  sh:ShapeAt 186 (hideW (mutH H b a) w) a.F i.cfg.sizes
  ex:SlRd rEx 2 (hideW (mutH H b a) w) a.E i.data
  sa:SampAt (hideW (mutH H b a) w) a.S i.data.length i.cfg.batch.toNat i.cfg.steps.toNat i.draws
  pl:∃ a0 a1 a2 a3 a5 a11,PlanAt (hideW (mutH H b a) w) a.PP (plnI i) a0 a1 a2 a3 a5 (.int .i64 (i.cfg.steps.toNat:Nat)) a11
  bu:Rd (hideW (mutH H b a) w) a.BA (rgVals (plnI i).buks)
  it:Rd (hideW (mutH H b a) w) a.IA (itVals (curL i x m.st))
  re:RecAt (hideW (mutH H b a) w) w (.slice (some ⟨a.rb,0,none⟩) m.rc.length a.rc) m.rc
  oP:w.ownsRow 0 2 1 (.slice (some ⟨a.bp,0,none⟩) i.start.length a.cp) i.start.length (nums .i64 m.P)
  oM:w.ownsRow 0 2 1 (.slice (some ⟨a.bm,0,none⟩) i.start.length a.cm) i.start.length (nums .i64 m.M)
  oG:w.ownsRow 0 2 1 (.slice (some ⟨a.bg,0,none⟩) i.start.length a.cg) i.start.length (nums .i64 m.G)
  oO:w.ownsRow 0 3 1 a.ov m.op.length (nums .i64 (intsN m.op))
  dj:a.bp ≠ a.bm ∧ a.bp ≠ a.bg ∧ a.bm ≠ a.bg
  hH:∀ k,k < w.heap.size → Mut b a k → ¬ H k
  wP:m.P.length = i.start.length ∧ W64 m.P
  wM:m.M.length = i.start.length ∧ W64 m.M
  wG:m.G.length = i.start.length ∧ W64 m.G
  ox:m.nx < (curL i x m.st).length ∨ (m.nx = 0 ∧ i.cfg.steps.toNat ≤ m.st)
  xw:x < (plnI i).W
theorem RecAt.ext {V V' w w':World} {v:Value} {l:List Ex} (h:RecAt V w v l) (he:Ext V V') (ho:∀ e size n xs,w.ownsRow 0 e size v n xs → w'.ownsRow 0 e size v n xs):RecAt V' w' v l:=by
  obtain ⟨rows,h1,h2,h3,h4⟩:=h
  exact ⟨rows,ho _ _ _ _ h1,h2,h3,fun j x hx => exts_ex (h4 j x hx) he⟩
theorem MachAt.step {H H':Nat → Prop} {w w':World} {b x:Nat} {i:Inp} {a:MAd} {m:Mst} (h:MachAt H w b i x a m) (hk:Keep H w w') (hs:∀ k,k < w.heap.size → H' k → H k) (hn:∀ k,Mut b a k → ¬ H' k):MachAt H' w' b i x a m:=by
  have he:Ext (hideW (mutH H b a) w) (hideW (mutH H' b a) w'):=ext_step (hk.mono fun k _ h => .inr h) (fun k hl hS => hS.imp id (hs k hl))
  have hb:∀ k,k < w.heap.size → Mut b a k → w'.heap[k]? = w.heap[k]?:=fun k hl hm => hk.block k hl (h.hH k hl hm)
  have ho:∀ (v:Value) e size n xs,(∀ k,v.ownBlock = some k → Mut b a k) → w.ownsRow 0 e size v n xs → w'.ownsRow 0 e size v n xs:=fun v e size n xs hv ho => hk.own ho fun k hk' => h.hH k (ho.lt k hk').2 (hv k hk')
  have bp:∀ k,(Value.slice (some ⟨a.bp,0,none⟩) i.start.length a.cp).ownBlock = some k → Mut b a k:=fun k e => by cases e;exact .inr (.inl rfl)
  have bm:∀ k,(Value.slice (some ⟨a.bm,0,none⟩) i.start.length a.cm).ownBlock = some k → Mut b a k:=fun k e => by cases e;exact .inr (.inr (.inl rfl))
  have bg:∀ k,(Value.slice (some ⟨a.bg,0,none⟩) i.start.length a.cg).ownBlock = some k → Mut b a k:=fun k e => by cases e;exact .inr (.inr (.inr (.inl rfl)))
  have rb:∀ k,(Value.slice (some ⟨a.rb,0,none⟩) m.rc.length a.rc).ownBlock = some k → Mut b a k:=fun k e => by cases e;exact .inr (.inr (.inr (.inr (.inl rfl))))
  have ov:∀ k,a.ov.ownBlock = some k → Mut b a k:=fun k e => .inr (.inr (.inr (.inr (.inr e))))
  obtain ⟨a0,a1,a2,a3,a5,a11,hp⟩:=h.pl
  exact ⟨(hb b (lt_of_block h.blk) (.inl rfl)).trans h.blk,ext_shape h.sh he,ext_sl exts_ex h.ex he,ext_samp h.sa he,⟨a0,a1,a2,a3,a5,a11,ext_plan hp he⟩,ext_rd h.bu he,ext_rd h.it he,
    h.re.ext he (fun e size n xs => ho _ e size n xs rb),ho _ _ _ _ _ bp h.oP,ho _ _ _ _ _ bm h.oM,ho _ _ _ _ _ bg h.oG,ho _ _ _ _ _ ov h.oO,h.dj,fun k _ hm => hn k hm,h.wP,h.wM,h.wG,h.ox,h.xw⟩
theorem MachAt.below {H:Nat → Prop} {w w':World} {b x:Nat} {i:Inp} {a:MAd} {m:Mst} (h:MachAt H w b i x a m) (hb:Below w.heap.size w w') (hn:∀ k,Mut b a k → ¬ H k):MachAt H w' b i x a m:=h.step (Keep.below hb) (fun _ _ h => h) hn
end Go.Proofs.YtaccfnffmbndhaaGreat
namespace Go.Proofs.YtaccfnffmbndhaaGreat
open Go.RowKit
theorem ss12 {w:World} {b:Nat} {t:TypeId} {z0 z1 z2 z3 z4 z5 z6 z7 z8 z9 z10 z11 v0 v1 v2 v3 v4 v5 v6 v7 v8 v9 v10 v11:Value} (h:w.heap[b]? = some (.cells #[z0,z1,z2,z3,z4,z5,z6,z7,z8,z9,z10,z11] t (0,0))) :
    ((((((((((((w.setCell ⟨b,0,none⟩ v0).setCell ⟨b,1,none⟩ v1).setCell ⟨b,2,none⟩ v2).setCell ⟨b,3,none⟩ v3).setCell ⟨b,4,none⟩ v4).setCell ⟨b,5,none⟩ v5).setCell ⟨b,6,none⟩ v6).setCell ⟨b,7,none⟩ v7).setCell ⟨b,8,none⟩ v8).setCell ⟨b,9,none⟩ v9).setCell ⟨b,10,none⟩ v10).setCell ⟨b,11,none⟩ v11).heap[b]? = some (.cells #[v0,v1,v2,v3,v4,v5,v6,v7,v8,v9,v10,v11] t (0,0)):=ss (ss (ss (ss (ss (ss (ss (ss (ss (ss (ss (ss h rfl) rfl) rfl) rfl) rfl) rfl) rfl) rfl) rfl) rfl) rfl) (by simp)
theorem it_len (x:Itm):(itCells x).length = 12:=by
  rcases x with ⟨k,s,n,a⟩
  cases a <;> rfl
theorem it_cell {w:World} {A:Option Addr} {l:List Itm} (h:Rd w A (itVals l)) {i:Nat} {y:Itm} (hi:l[i]? = some y):∃ b o,A = some ⟨b,o,none⟩ ∧ ∀ f,f < 12 → w.cell? ⟨b,o + (i * 12 + f),none⟩ = (itCells y)[f]?:=by
  have h0:=flat_at it_len hi 0 (by omega)
  obtain ⟨b,o,e,_⟩:=h _ ((itCells y)[0]'(by rw [it_len];omega)) (h0.trans (List.getElem?_eq_getElem _))
  refine ⟨b,o,e,fun f hf => ?_⟩
  have h1:=flat_at it_len hi f hf
  have h2:(itCells y)[f]? = some ((itCells y)[f]'(by rw [it_len];exact hf)):=List.getElem?_eq_getElem _
  obtain ⟨b',o',e',c⟩:=h _ _ (h1.trans h2)
  rw [e] at e'
  injection e' with e'
  injection e' with e1 e2 _
  subst e1;subst e2
  rw [c,h2]
set_option maxRecDepth 100000 in
set_option maxHeartbeats 1000000 in
theorem next_of (b nx il ic ia io:Nat) (c0 c1 c2 c3 c4 c5 c6 c7 c8 c9 c10 c11 c12 c13 c14 c17 c18:Value) (k0 k1 k2:Int) (b0 b1:Bool) (i0 i1 i2 i3 i4 i5 i6:Int) (w:World)
    (hb:w.heap[b]? = some (.cells #[c0,c1,c2,c3,c4,c5,c6,c7,c8,c9,c10,c11,c12,c13,c14,.slice (some ⟨ia,io,none⟩) il ic,.int .i64 (nx:Nat),c17,c18] 130 (0,0))) (hx:nx < il)
    (hc:w.cell? ⟨ia,io + nx * 12,none⟩ = some (.int .i64 k0) ∧ w.cell? ⟨ia,io + nx * 12 + 1,none⟩ = some (.int .i64 k1) ∧ w.cell? ⟨ia,io + nx * 12 + 2,none⟩ = some (.int .i64 k2) ∧ w.cell? ⟨ia,io + nx * 12 + 3,none⟩ = some (.bool b0) ∧ w.cell? ⟨ia,io + nx * 12 + 4,none⟩ = some (.bool b1) ∧ w.cell? ⟨ia,io + nx * 12 + 5,none⟩ = some (.int .i64 i0) ∧ w.cell? ⟨ia,io + nx * 12 + 6,none⟩ = some (.int .i64 i1) ∧ w.cell? ⟨ia,io + nx * 12 + 7,none⟩ = some (.int .i64 i2) ∧ w.cell? ⟨ia,io + nx * 12 + 8,none⟩ = some (.int .i64 i3) ∧ w.cell? ⟨ia,io + nx * 12 + 9,none⟩ = some (.int .i64 i4) ∧ w.cell? ⟨ia,io + nx * 12 + 10,none⟩ = some (.int .i64 i5) ∧ w.cell? ⟨ia,io + nx * 12 + 11,none⟩ = some (.int .i64 i6)) :
    Calls Tryz.prog 16 #[.pointer (some ⟨b,0,none⟩)] w fun e w' => e = .returned (.tuple #[.agg #[.int .i64 k0,.int .i64 k1,.int .i64 k2,.bool b0,.bool b1,.int .i64 i0,.int .i64 i1,.int .i64 i2,.int .i64 i3,.int .i64 i4,.int .i64 i5,.int .i64 i6],.bool true]) ∧ Below w.heap.size w w':=by
  obtain ⟨W0,hW0⟩:∃ W0,w.alloc (.cells #[.int .i64 0,.int .i64 0,.int .i64 0,.bool false,.bool false,.int .i64 0,.int .i64 0,.int .i64 0,.int .i64 0,.int .i64 0,.int .i64 0,.int .i64 0] 56) = W0:=⟨_,rfl⟩
  have g0:W0.heap[w.heap.size]? = some (.cells #[.int .i64 0,.int .i64 0,.int .i64 0,.bool false,.bool false,.int .i64 0,.int .i64 0,.int .i64 0,.int .i64 0,.int .i64 0,.int .i64 0,.int .i64 0] 56 (0,0)):=by rw [← hW0];exact heap_alloc_new w _
  have hB0:Below w.heap.size w W0:=by rw [← hW0];exact (br w).alloc (Nat.le_refl _) _
  have hs:=lt_of_block hb
  have kb:=fun w' (q:Keep (fun j => j = w.heap.size) W0 w') => (q.block b (by have:=hB0.size;omega) (by omega)).trans (sb hb W0 hB0)
  have tb:=fun w' q => bx19 (kb w' q)
  obtain ⟨h0,h1,h2,h3,h4,h5,h6,h7,h8,h9,h10,h11⟩:=hc
  have hil:ia < w.heap.size:=lt_of_cell h0
  have ni:¬ ia = w.heap.size:=by omega
  have d0:=fun w' (q:Keep (fun j => j = w.heap.size) W0 w') => q.cell (cell_below hB0 h0) ni
  have d1:=fun w' (q:Keep (fun j => j = w.heap.size) W0 w') => q.cell (cell_below hB0 h1) ni
  have d2:=fun w' (q:Keep (fun j => j = w.heap.size) W0 w') => q.cell (cell_below hB0 h2) ni
  have d3:=fun w' (q:Keep (fun j => j = w.heap.size) W0 w') => q.cell (cell_below hB0 h3) ni
  have d4:=fun w' (q:Keep (fun j => j = w.heap.size) W0 w') => q.cell (cell_below hB0 h4) ni
  have d5:=fun w' (q:Keep (fun j => j = w.heap.size) W0 w') => q.cell (cell_below hB0 h5) ni
  have d6:=fun w' (q:Keep (fun j => j = w.heap.size) W0 w') => q.cell (cell_below hB0 h6) ni
  have d7:=fun w' (q:Keep (fun j => j = w.heap.size) W0 w') => q.cell (cell_below hB0 h7) ni
  have d8:=fun w' (q:Keep (fun j => j = w.heap.size) W0 w') => q.cell (cell_below hB0 h8) ni
  have d9:=fun w' (q:Keep (fun j => j = w.heap.size) W0 w') => q.cell (cell_below hB0 h9) ni
  have d10:=fun w' (q:Keep (fun j => j = w.heap.size) W0 w') => q.cell (cell_below hB0 h10) ni
  have d11:=fun w' (q:Keep (fun j => j = w.heap.size) W0 w') => q.cell (cell_below hB0 h11) ni
  have q0:Keep (fun j => j = w.heap.size) W0 W0:=Keep.refl _ _
  have hxI:(nx:Int) < il:=by omega
  have hxJ:¬ ((il:Int) ≤ nx):=by omega
  have HW0:=Lib.hid hW0;have HB0:=Lib.hid hB0;have G0:=Lib.hid g0
  clear hW0 hB0 g0 kb hb h0 h1 h2 h3 h4 h5 h6 h7 h8 h9 h10 h11
  go_enter Tryz.func16,Tryz.ntmps16
  go_wp2_with fail
  rw [HW0.out]
  refine HA.g (fun w':World => Keep (fun j => j = w.heap.size) W0 w') ?_
  refine HA.t ?_ [0,1,2,3,4,5,6,7,8,9,10,11,12,13] q0.drew ?_
  refine HA.d ?_
  try simp only [Exit.then]
  have q1:=q0.drew
  go_wp2_with fail
  refine HA.g (fun w':World => Keep (fun j => j = w.heap.size) W0 w') ?_
  refine HA.t ?_ [0,1,2,3,4,5,6,7,8,9] q1.drew ?_
  obtain ⟨W1,hW1⟩:∃ W1,W0.drew.drew = W1:=⟨_,rfl⟩
  have g1:W1.heap[w.heap.size]? = some (.cells #[.int .i64 0,.int .i64 0,.int .i64 0,.bool false,.bool false,.int .i64 0,.int .i64 0,.int .i64 0,.int .i64 0,.int .i64 0,.int .i64 0,.int .i64 0] 56 (0,0)):=by rw [← hW1];exact G0.out
  have q2:Keep (fun j => j = w.heap.size) W0 W1:=by rw [← hW1];exact q0.drew.drew
  have hb1:Below w.heap.size w W1:=by rw [← hW1];exact (HB0.out.drew).drew
  rw [hW1]
  clear hW1
  have e12:=ss12 (v0:=(.int .i64 k0)) (v1:=(.int .i64 k1)) (v2:=(.int .i64 k2)) (v3:=(.bool b0)) (v4:=(.bool b1)) (v5:=(.int .i64 i0)) (v6:=(.int .i64 i1)) (v7:=(.int .i64 i2)) (v8:=(.int .i64 i3)) (v9:=(.int .i64 i4)) (v10:=(.int .i64 i5)) (v11:=(.int .i64 i6)) g1
  obtain ⟨W9,hW9⟩:∃ W9,((((((((((((W1.setCell ⟨w.heap.size,0,none⟩ (.int .i64 k0)).setCell ⟨w.heap.size,1,none⟩ (.int .i64 k1)).setCell ⟨w.heap.size,2,none⟩ (.int .i64 k2)).setCell ⟨w.heap.size,3,none⟩ (.bool b0)).setCell ⟨w.heap.size,4,none⟩ (.bool b1)).setCell ⟨w.heap.size,5,none⟩ (.int .i64 i0)).setCell ⟨w.heap.size,6,none⟩ (.int .i64 i1)).setCell ⟨w.heap.size,7,none⟩ (.int .i64 i2)).setCell ⟨w.heap.size,8,none⟩ (.int .i64 i3)).setCell ⟨w.heap.size,9,none⟩ (.int .i64 i4)).setCell ⟨w.heap.size,10,none⟩ (.int .i64 i5)).setCell ⟨w.heap.size,11,none⟩ (.int .i64 i6)) = W9:=⟨_,rfl⟩
  have k9:Keep (fun j => j = w.heap.size) W1 W9:=by rw [← hW9];exact Keep.setCell (S:=fun j => j = w.heap.size) (Keep.setCell (S:=fun j => j = w.heap.size) (Keep.setCell (S:=fun j => j = w.heap.size) (Keep.setCell (S:=fun j => j = w.heap.size) (Keep.setCell (S:=fun j => j = w.heap.size) (Keep.setCell (S:=fun j => j = w.heap.size) (Keep.setCell (S:=fun j => j = w.heap.size) (Keep.setCell (S:=fun j => j = w.heap.size) (Keep.setCell (S:=fun j => j = w.heap.size) (Keep.setCell (S:=fun j => j = w.heap.size) (Keep.setCell (S:=fun j => j = w.heap.size) (Keep.setCell (S:=fun j => j = w.heap.size) (Keep.refl _ _) _ (.inr rfl) _) _ (.inr rfl) _) _ (.inr rfl) _) _ (.inr rfl) _) _ (.inr rfl) _) _ (.inr rfl) _) _ (.inr rfl) _) _ (.inr rfl) _) _ (.inr rfl) _) _ (.inr rfl) _) _ (.inr rfl) _) _ (.inr rfl) _
  rw [hW9] at e12
  have u0:=bx12 g1
  have lu:=lt_of_block g1
  refine HA.s 10 W9 (q2.trans k9) ?_ (he:=by subst hW9;go_simp)
  refine HA.t ?_ [11] (q2.trans k9) ?_
  refine HA.d ?_
  obtain ⟨⟨r0,r1,r2,r3,r4,r5,r6,r7,r8,r9,r10,r11⟩,rf⟩:=bx12 e12
  have HB:=Lib.hid (hb1.trans (k9.toBelow hb1.size (fun j hj => by omega)))
  have hl9:=lt_of_block e12
  clear e12 k9 g1 u0 lu q0 q1 q2 tb hW9 d0 d1 d2 d3 d4 d5 d6 d7 d8 d9 d10 d11
  go_wp2_with fail
  exact bodyPost_ret (v:=.tuple #[.agg #[.int .i64 k0,.int .i64 k1,.int .i64 k2,.bool b0,.bool b1,.int .i64 i0,.int .i64 i1,.int .i64 i2,.int .i64 i3,.int .i64 i4,.int .i64 i5,.int .i64 i6],.bool true]) (by simp [results,Tryz.results16,go_sem,r0,r1,r2,r3,r4,r5,r6,r7,r8,r9,r10,r11]) rfl ⟨rfl,HB.out⟩
theorem next_some {H:Nat → Prop} {w:World} {b x:Nat} {i:Inp} {a:MAd} {m:Mst} (h:MachAt H w b i x a m) {y:Itm} (hy:(curL i x m.st)[m.nx]? = some y) :
    Calls Tryz.prog 16 #[.pointer (some ⟨b,0,none⟩)] w fun e w' => e = .returned (.tuple #[.agg (itCells y).toArray,.bool true]) ∧ Below w.heap.size w w':=by
  have hl:m.nx < (curL i x m.st).length:=(List.getElem?_eq_some_iff.1 hy).1
  obtain ⟨ia,io,e,hc⟩:=it_cell (ext_rd h.it (ext_hide _ w)) hy
  have hb:=h.blk
  rw [e] at hb
  have hf:∀ f,f < 12 → w.cell? ⟨ia,io + m.nx * 12 + f,none⟩ = (itCells y)[f]?:=fun f hf => by rw [Nat.add_assoc];exact hc f hf
  rcases y with ⟨kd,st,n,ac⟩
  cases ac with
  | none =>
    exact next_of b m.nx _ _ ia io _ _ _ _ _ _ _ _ _ _ _ _ _ _ _ _ _ _ _ _ _ _ _ _ _ _ _ _ _ w hb hl ⟨hf 0 (by omega),hf 1 (by omega),hf 2 (by omega),hf 3 (by omega),hf 4 (by omega),hf 5 (by omega),hf 6 (by omega),hf 7 (by omega),hf 8 (by omega),hf 9 (by omega),hf 10 (by omega),hf 11 (by omega)⟩
  | some ac =>
    exact next_of b m.nx _ _ ia io _ _ _ _ _ _ _ _ _ _ _ _ _ _ _ _ _ _ _ _ _ _ _ _ _ _ _ _ _ w hb hl ⟨hf 0 (by omega),hf 1 (by omega),hf 2 (by omega),hf 3 (by omega),hf 4 (by omega),hf 5 (by omega),hf 6 (by omega),hf 7 (by omega),hf 8 (by omega),hf 9 (by omega),hf 10 (by omega),hf 11 (by omega)⟩
set_option maxRecDepth 100000 in
theorem next_no {H:Nat → Prop} {w:World} {b x:Nat} {i:Inp} {a:MAd} {m:Mst} (h:MachAt H w b i x a m) (hn:(curL i x m.st).length ≤ m.nx) :
    Calls Tryz.prog 16 #[.pointer (some ⟨b,0,none⟩)] w fun e w' => e = .returned (.tuple #[.agg #[.int .i64 0,.int .i64 0,.int .i64 0,.bool false,.bool false,.int .i64 0,.int .i64 0,.int .i64 0,.int .i64 0,.int .i64 0,.int .i64 0,.int .i64 0],.bool false]) ∧ Below w.heap.size w w':=by
  obtain ⟨il,hil⟩:∃ il,(curL i x m.st).length = il:=⟨_,rfl⟩
  have hb:=h.blk
  rw [hil] at hb hn
  obtain ⟨W0,hW0⟩:∃ W0,w.alloc (.cells #[.int .i64 0,.int .i64 0,.int .i64 0,.bool false,.bool false,.int .i64 0,.int .i64 0,.int .i64 0,.int .i64 0,.int .i64 0,.int .i64 0,.int .i64 0] 56) = W0:=⟨_,rfl⟩
  have g0:W0.heap[w.heap.size]? = some (.cells #[.int .i64 0,.int .i64 0,.int .i64 0,.bool false,.bool false,.int .i64 0,.int .i64 0,.int .i64 0,.int .i64 0,.int .i64 0,.int .i64 0,.int .i64 0] 56 (0,0)):=by rw [← hW0];exact heap_alloc_new w _
  have hB0:Below w.heap.size w W0:=by rw [← hW0];exact (br w).alloc (Nat.le_refl _) _
  have tb:=fun w' q => bx19 (sb (sb hb W0 hB0) w' q)
  obtain ⟨n,hn0⟩:∃ n,m.nx = n:=⟨_,rfl⟩
  rw [hn0] at tb hn
  have hxJ:(il:Int) ≤ n:=by omega
  have q0:=br W0
  have HW0:=Lib.hid hW0;have HB0:=Lib.hid hB0;have G0:=Lib.hid g0
  clear hW0 hB0 g0 hb h hil hn0
  go_enter Tryz.func16,Tryz.ntmps16
  go_wp2_with fail
  rw [HW0.out]
  refine HA.g (fun w':World => Below W0.heap.size W0 w') ?_
  refine HA.t ?_ [0,1,2,3,4,5,6,7,8,9,10,11,12,13] q0.drew ?_
  refine HA.d ?_
  try simp only [Exit.then]
  obtain ⟨W1,hW1⟩:∃ W1,W0.drew = W1:=⟨_,rfl⟩
  have g1:W1.heap[w.heap.size]? = some (.cells #[.int .i64 0,.int .i64 0,.int .i64 0,.bool false,.bool false,.int .i64 0,.int .i64 0,.int .i64 0,.int .i64 0,.int .i64 0,.int .i64 0,.int .i64 0] 56 (0,0)):=by rw [← hW1];exact G0.out
  have hb1:Below w.heap.size w W1:=by rw [← hW1];exact HB0.out.drew
  rw [hW1]
  clear hW1 q0 tb
  obtain ⟨⟨u0,u1,u2,u3,u4,u5,u6,u7,u8,u9,u10,u11⟩,uf⟩:=bx12 g1
  have lu:=lt_of_block g1
  have e12:=ss12 (v0:=.int .i64 0) (v1:=.int .i64 0) (v2:=.int .i64 0) (v3:=.bool false) (v4:=.bool false) (v5:=.int .i64 0) (v6:=.int .i64 0) (v7:=.int .i64 0) (v8:=.int .i64 0) (v9:=.int .i64 0) (v10:=.int .i64 0) (v11:=.int .i64 0) g1
  have E12:=Lib.hid e12
  have kk:Keep (fun j => j = w.heap.size) W1 (((((((((((((W1.setCell ⟨w.heap.size,0,none⟩ (.int .i64 0)).setCell ⟨w.heap.size,1,none⟩ (.int .i64 0)).setCell ⟨w.heap.size,2,none⟩ (.int .i64 0)).setCell ⟨w.heap.size,3,none⟩ (.bool false)).setCell ⟨w.heap.size,4,none⟩ (.bool false)).setCell ⟨w.heap.size,5,none⟩ (.int .i64 0)).setCell ⟨w.heap.size,6,none⟩ (.int .i64 0)).setCell ⟨w.heap.size,7,none⟩ (.int .i64 0)).setCell ⟨w.heap.size,8,none⟩ (.int .i64 0)).setCell ⟨w.heap.size,9,none⟩ (.int .i64 0)).setCell ⟨w.heap.size,10,none⟩ (.int .i64 0)).setCell ⟨w.heap.size,11,none⟩ (.int .i64 0))):=Keep.setCell (S:=fun j => j = w.heap.size) (Keep.setCell (S:=fun j => j = w.heap.size) (Keep.setCell (S:=fun j => j = w.heap.size) (Keep.setCell (S:=fun j => j = w.heap.size) (Keep.setCell (S:=fun j => j = w.heap.size) (Keep.setCell (S:=fun j => j = w.heap.size) (Keep.setCell (S:=fun j => j = w.heap.size) (Keep.setCell (S:=fun j => j = w.heap.size) (Keep.setCell (S:=fun j => j = w.heap.size) (Keep.setCell (S:=fun j => j = w.heap.size) (Keep.setCell (S:=fun j => j = w.heap.size) (Keep.setCell (S:=fun j => j = w.heap.size) (Keep.refl _ _) _ (.inr rfl) _) _ (.inr rfl) _) _ (.inr rfl) _) _ (.inr rfl) _) _ (.inr rfl) _) _ (.inr rfl) _) _ (.inr rfl) _) _ (.inr rfl) _) _ (.inr rfl) _) _ (.inr rfl) _) _ (.inr rfl) _) _ (.inr rfl) _
  have KK:=Lib.hid kk;have Hb1:=Lib.hid hb1
  clear e12 kk g1 hb1
  go_wp2_with fail
  obtain ⟨W9,hW9⟩:∃ W9,((((((((((((W1.setCell ⟨w.heap.size,0,none⟩ (.int .i64 0)).setCell ⟨w.heap.size,1,none⟩ (.int .i64 0)).setCell ⟨w.heap.size,2,none⟩ (.int .i64 0)).setCell ⟨w.heap.size,3,none⟩ (.bool false)).setCell ⟨w.heap.size,4,none⟩ (.bool false)).setCell ⟨w.heap.size,5,none⟩ (.int .i64 0)).setCell ⟨w.heap.size,6,none⟩ (.int .i64 0)).setCell ⟨w.heap.size,7,none⟩ (.int .i64 0)).setCell ⟨w.heap.size,8,none⟩ (.int .i64 0)).setCell ⟨w.heap.size,9,none⟩ (.int .i64 0)).setCell ⟨w.heap.size,10,none⟩ (.int .i64 0)).setCell ⟨w.heap.size,11,none⟩ (.int .i64 0)) = W9:=⟨_,rfl⟩
  rw [hW9]
  have e9:=E12.out
  rw [hW9] at e9
  obtain ⟨⟨r0,r1,r2,r3,r4,r5,r6,r7,r8,r9,r10,r11⟩,rf⟩:=bx12 e9
  have k9:=KK.out
  rw [hW9] at k9
  have HB:=Hb1.out.trans (k9.toBelow Hb1.out.size (fun j hj => by omega))
  exact bodyPost_ret (v:=.tuple #[.agg #[.int .i64 0,.int .i64 0,.int .i64 0,.bool false,.bool false,.int .i64 0,.int .i64 0,.int .i64 0,.int .i64 0,.int .i64 0,.int .i64 0,.int .i64 0],.bool false]) (by simp [results,Tryz.results16,go_sem,r0,r1,r2,r3,r4,r5,r6,r7,r8,r9,r10,r11]) rfl ⟨rfl,HB⟩
theorem mcount_any {H:Nat → Prop} {w:World} {b x:Nat} {i:Inp} {a:MAd} {m:Mst} (h:MachAt H w b i x a m) :
    Calls Tryz.prog 19 #[.pointer (some ⟨b,0,none⟩)] w fun e w' => e = .returned (.int .i64 (doneN i x m:Nat)) ∧ w = w':=by
  obtain ⟨n,hn⟩:∃ n,doneN i x m = n:=⟨_,rfl⟩
  have hb:=h.blk
  rw [hn] at hb ⊢
  have tb:=bx19 hb
  clear h hb hn
  go_enter Tryz.func19,Tryz.ntmps19
  go_wp2
  go_ret
  exact ⟨rfl,rfl⟩
theorem mgrad_any {H:Nat → Prop} {w:World} {b x:Nat} {i:Inp} {a:MAd} {m:Mst} (h:MachAt H w b i x a m) (hn:i.start.length ≤ 60) :
    Calls Tryz.prog 21 #[.pointer (some ⟨b,0,none⟩)] w fun e w' => ∃ A' c',e = .returned (.slice A' i.start.length c') ∧ i.start.length ≤ c' ∧ w'.ownsRow w.heap.size 2 1 (.slice A' i.start.length c') i.start.length (nums .i64 m.G) ∧ Below w.heap.size w w':=by
  have hc:=vclone_any (some ⟨a.bg,0,none⟩) m.G a.cg w (Rd.own h.oG) (by rw [h.wG.1];omega)
  rw [h.wG.1] at hc
  have tb:=bx19 h.blk
  obtain ⟨n,hn'⟩:∃ n,i.start.length = n:=⟨_,rfl⟩
  rw [hn'] at hc tb ⊢
  have Hc:=Lib.hid hc
  clear h hc hn' hn
  go_enter Tryz.func21,Tryz.ntmps21
  go_wp2_with fail
  refine Hc.out.mono ?_
  rintro e w1 ⟨A1,c1,rfl,hc1,o1,k1⟩
  have O1:=Lib.hid o1;have K1:=Lib.hid k1
  clear o1 k1
  go_wp2_with fail
  go_ret
  exact ⟨_,_,rfl,hc1,O1.out,K1.out⟩
end Go.Proofs.YtaccfnffmbndhaaGreat
namespace Go.Proofs.YtaccfnffmbndhaaGreat
section
variable {P:Program} {ops:Array Oper} {Q:Exit → Act → World → Prop} {S:World → Prop}
structure HAS (P:Program) (ops:Array Oper) (Q:Exit → Act → World → Prop) (S:World → Prop) (i:Nat) (L:List Nat) (a:Act) (w:World):Prop where
  out:∃ o,ops[i]? = some o ∧ ∀ K':Act → World → Prop,Shut (∀ a w,S w → (S w → HA P ops Q S (i :: L) a w) → K' a w) → if Region.wanted o (yielded ops a.tmps) = true then Oper.wp P o a w K' Q else K' (a.put o.dst undef) w
theorem HAS.c {L:List Nat} {a:Act} {w:World} {i:Nat} {f:FuncId} {args:Array Value} {R:Ending → World → Prop} {o:Oper} (hc:Calls P f args w R)
    (k:∀ e w',R e w' → ∃ v,e = .returned v ∧ S w' ∧ (S w' → HA P ops Q S (i :: L) (a.put o.dst v) w')) (ho:ops[i]? = some o:=by (simp only [List.getElem?_toArray,List.getElem?_cons_succ,List.getElem?_cons_zero];rfl))
    (hw:Region.wanted o (yielded ops a.tmps) = true:=by rfl) (he:(execOp a.eval o).run P w = .ok (.enter f args) w:=by go_simp):HAS P ops Q S i L a w:=by
  refine ⟨o,ho,fun K' hK => ?_⟩
  rw [if_pos hw]
  unfold Oper.wp
  rw [he]
  refine hc.mono fun e w' hR => ?_
  obtain ⟨v,rfl,hS,h⟩:=k e w' hR
  exact hK.out _ _ hS h
theorem HAS.v {L:List Nat} {a:Act} {w:World} {i:Nat} {o:Oper} (w':World) (v:Value) (hS:S w') (k:HA P ops Q S (i :: L) (a.put o.dst v) w') (ho:ops[i]? = some o:=by (simp only [List.getElem?_toArray,List.getElem?_cons_succ,List.getElem?_cons_zero];rfl))
    (hw:Region.wanted o (yielded ops a.tmps) = true:=by rfl) (he:(execOp a.eval o).run P w = .ok (.value v) w':=by go_simp):HAS P ops Q S i L a w:=by
  refine ⟨o,ho,fun K' hK => ?_⟩
  rw [if_pos hw]
  unfold Oper.wp
  rw [he]
  exact hK.out _ _ hS fun _ => k
theorem HA.two {L:List Nat} {a:Act} {w:World} (i j:Nat) (hi:HAS P ops Q S i L a w) (hj:HAS P ops Q S j L a w) (hr:readyF ops L = [i,j]:=by decide +kernel):HA P ops Q S L a w:=by
  obtain ⟨oi,hoi,hi⟩:=hi
  obtain ⟨oj,hoj,hj⟩:=hj
  have ei:unl (marked ops.size L) = unl (marked ops.size (i :: L)) + 1:=marked_ready (by rw [hr];simp)
  have ej:unl (marked ops.size L) = unl (marked ops.size (j :: L)) + 1:=marked_ready (by rw [hr];simp)
  have ee:unl (marked ops.size (j :: L)) = unl (marked ops.size (i :: L)):=by omega
  refine ⟨?_⟩
  rw [ei]
  refine wpAnyH_ready (by rw [readyF_eq];exact hr) (by simp) (AllReadyH.cons hoi (fun K' hK => hi K' fun a w hS hw => hK.out a w hS fun hS' => (hw hS').out) (AllReadyH.cons hoj (fun K' hK => hj K' fun a w hS hw => hK.out a w hS fun hS' => ?_) AllReadyH.nil))
  have:=(hw hS').out
  rw [ee] at this
  exact this
theorem HA.three {L:List Nat} {a:Act} {w:World} (i j k:Nat) (hi:HAS P ops Q S i L a w) (hj:HAS P ops Q S j L a w) (hk:HAS P ops Q S k L a w) (hr:readyF ops L = [i,j,k]:=by decide +kernel):HA P ops Q S L a w:=by
  obtain ⟨oi,hoi,hi⟩:=hi
  obtain ⟨oj,hoj,hj⟩:=hj
  obtain ⟨ok,hok,hk⟩:=hk
  have ei:unl (marked ops.size L) = unl (marked ops.size (i :: L)) + 1:=marked_ready (by rw [hr];simp)
  have ej:unl (marked ops.size L) = unl (marked ops.size (j :: L)) + 1:=marked_ready (by rw [hr];simp)
  have ek:unl (marked ops.size L) = unl (marked ops.size (k :: L)) + 1:=marked_ready (by rw [hr];simp)
  have e1:unl (marked ops.size (j :: L)) = unl (marked ops.size (i :: L)):=by omega
  have e2:unl (marked ops.size (k :: L)) = unl (marked ops.size (i :: L)):=by omega
  refine ⟨?_⟩
  rw [ei]
  refine wpAnyH_ready (by rw [readyF_eq];exact hr) (by simp) (AllReadyH.cons hoi (fun K' hK => hi K' fun a w hS hw => hK.out a w hS fun hS' => (hw hS').out) (AllReadyH.cons hoj (fun K' hK => hj K' fun a w hS hw => hK.out a w hS fun hS' => ?_) (AllReadyH.cons hok (fun K' hK => hk K' fun a w hS hw => hK.out a w hS fun hS' => ?_) AllReadyH.nil)))
  · have:=(hw hS').out
    rw [e1] at this
    exact this
  · have:=(hw hS').out
    rw [e2] at this
    exact this
end
end Go.Proofs.YtaccfnffmbndhaaGreat
