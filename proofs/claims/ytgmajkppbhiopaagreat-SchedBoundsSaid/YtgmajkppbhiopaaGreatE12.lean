/- No condition. -/
import Derived.Test.YtgmajkppbhiopaaGreatE11
set_option linter.unusedSimpArgs false
set_option linter.unusedVariables false
set_option maxRecDepth 100000
set_option maxHeartbeats 4000000
namespace Go.Proofs.YtgmajkppbhiopaaGreat
open Go.RowKit
open Tryz
theorem bP:cW prog 75 4:=⟨⟨_,underlying75,rfl⟩,by kernel_rfl⟩
theorem yF:cW prog 24 12:=⟨⟨_,underlying24,rfl⟩,by kernel_rfl⟩
theorem ke:cW prog 103 2:=⟨⟨_,underlying103,rfl⟩,by kernel_rfl⟩
theorem fP:cW prog 187 2:=⟨⟨_,underlying187,rfl⟩,by kernel_rfl⟩
theorem wA (w:World) (X Y Z p i o:Array Value) (t u:TypeId):∃W0,(((((w.alloc (.cells X t)).alloc (.cells Y u)).alloc (.cells Z u)).alloc (.cells p t)).alloc (.cells i u)).alloc (.cells o u)=W0/\
  W0.heap[w.heap.size]?=some (.cells X t (0,0))/\W0.heap[w.heap.size+1]?=some (.cells Y u (0,0))/\W0.heap[w.heap.size+1+1]?=some (.cells Z u (0,0))/\W0.heap[w.heap.size+1+1+1]?=some (.cells p t (0,0))/\W0.heap[w.heap.size+1+1+1+1]?=some (.cells i u (0,0))/\
  W0.heap[w.heap.size+1+1+1+1+1]?=some (.cells o u (0,0))/\aq w W0:=by
 refine ⟨_,rfl,?_⟩
 have h:=eP [.cells X t,.cells Y u,.cells Z u,.cells p t,.cells i u,.cells o u] w
 exact ⟨bZ [.cells X t,.cells Y u,.cells Z u,.cells p t,.cells i u,.cells o u] w 0 rfl,bZ [.cells X t,.cells Y u,.cells Z u,.cells p t,.cells i u,.cells o u] w 1 rfl,bZ [.cells X t,.cells Y u,.cells Z u,.cells p t,.cells i u,.cells o u] w 2 rfl,
  bZ [.cells X t,.cells Y u,.cells Z u,.cells p t,.cells i u,.cells o u] w 3 rfl,bZ [.cells X t,.cells Y u,.cells Z u,.cells p t,.cells i u,.cells o u] w 4 rfl,bZ [.cells X t,.cells Y u,.cells Z u,.cells p t,.cells i u,.cells o u] w 5 rfl,h⟩
def RL (w:World) (v:Array Value) (s:LSt):Prop:=∃B c,v=#[MO (s.cap:Nat),.slice B s.msgs.length c,MO (s.recv:Nat),MO (s.peak:Nat)]/\iO w B s.msgs/\s.msgs.length<=c
section
variable {u v:World}
theorem bH {A:Option Addr} {l:List Int} {c:Nat} (h:cH u A l c) (i:Ext u v):cH v A l c:=⟨h.hc,h.hl,aV h.hr i,h.hw⟩
theorem fu {A:Option Addr} {c:Nat} {D T R:Option Addr} {ct:Nat} {i:Inp} (h:ge u A c D T ct R i) (o:Ext u v):ge v A c D T ct R i:=
 ⟨⟨h.c.hc,h.c.hm,h.c.hl,aV h.c.hr o⟩,eA cJ h.d o,h.dl,bH h.t o,h.tl,aV h.r o,h.rl,h.ru,h.ra,h.rm⟩
theorem ky {vs:Array Value} {i:Inp} {x:Nat} {m:Mst} (h:fY u vs i x m) (hb:Ext u v):fY v vs i x m:=by
 obtain ⟨A,c,D,cd,T,ct,R,cr,PA,pc,MA,mc,GA,gc,SA,sc,IA,ic,H,h1,p,I,y,C,o,B⟩:=h
 exact ⟨A,c,D,cd,T,ct,R,cr,PA,pc,MA,mc,GA,gc,SA,sc,IA,ic,H,fu h1 hb,bH p hb,bH I hb,bH y hb,eA cJ C hb,aV o hb,B⟩
theorem cV {A:Option Addr} {ms:List Msg} (h:iO u A ms) (hb:Ext u v):iO v A ms:=by
 obtain ⟨rows,h1,o,y,p⟩:=h
 exact ⟨rows,aV h1 hb,o,y,fun j i=>by obtain ⟨B,x,e,hr⟩:=p j i;exact ⟨B,x,e,aV hr hb⟩⟩
theorem rL {V:World} {A:Option Addr} {ms:List Msg} (h:fz V u A ms) (hb:Ext u v):fz V v A ms:=by
 obtain ⟨rows,h1,i,p,o⟩:=h
 exact ⟨rows,aV h1 hb,i,p,o⟩
theorem lD {x:Array Value} {s:LSt} (h:RL u x s) (hb:Ext u v):RL v x s:=by
 obtain ⟨B,c,h1,i,o⟩:=h
 exact ⟨B,c,h1,cV i hb,o⟩
end
theorem DE (S:Nat->Prop) (w:World):Keep S w (aF S w):=⟨rfl,rfl,rfl,Nat.le_of_eq (mR S w).symm,fun _ _ hs=>gD hs⟩
theorem iE {S:Nat->Prop} {w:World} {base:Nat} {e:TypeId} {n c:Nat} {A:Option Addr} {xs:List Value} (h:w.ownsRow base e 1 (.slice A n c) n xs) (p:∀k,S k->k<base):Rd (aF S w) A xs:=by
 refine lh (Rd.own h) fun y i hs=>?_
 rcases h.2 with ⟨o,_⟩ | ⟨g,_,_,o,hb,_⟩
 ·injection o with e1;rw [e1] at i;cases i
 ·injection o with e1;rw [e1] at i;cases i;have u:g<base:=p _ hs;omega
theorem fk {P:Program} {f:Func} {x y z q:Tmp} {Q o i:TypeId} (h:f.results=#[.cell x Q,.cell y o,.cell z i,.tmp q]) {tmps:Array Value} {w:World} {b A b3:Nat} {xs ys zs:Array Value} {t t2 t3:TypeId} {fr H B:Nat×Nat} (hx:tmps.getD x undef=(au b)) (hy:tmps.getD y undef=(au A)) (hz:tmps.getD z undef=(au b3))
  (hb:w.heap[b]?=some (.cells xs t fr)) (R:w.heap[A]?=some (.cells ys t2 H)) (V:w.heap[b3]?=some (.cells zs t3 B)) (hr:cW P Q xs.size) (D:cW P o ys.size) (T:cW P i zs.size):(results f tmps).run P w=.ok (.tuple #[.agg xs,.agg ys,.agg zs,tmps.getD q undef]) w:=by
 obtain ⟨⟨d,h1,h2⟩,h3⟩:=hr
 obtain ⟨⟨d',L,I⟩,O⟩:=D
 obtain ⟨⟨J,p,u⟩,v⟩:=T
 have Z:=run_loadVar_mid (P:=P) w b 0 Q xs.toList d (eI hb 0 (by rw [Mn,Mz])) h1 h2 (by simpa using h3)
 have Y:=run_loadVar_mid (P:=P) w A 0 o ys.toList d' (eI R 0 (by rw [Mn,Mz])) L I (by simpa using O)
 have e3:=run_loadVar_mid (P:=P) w b3 0 i zs.toList J (eI V 0 (by rw [Mn,Mz])) p u (by simpa using v)
 rw [Array.toArray_toList] at Z Y e3
 have C:tmps[x]?.getD undef=(au b):=by simpa using hx
 have N:tmps[y]?.getD undef=(au A):=by simpa using hy
 have U:tmps[z]?.getD undef=(au b3):=by simpa using hz
 simp [results,h,C,N,U,asAddr,Z,Y,e3]
def nj (S:Nat->Prop) (i:Inp) (x:Nat) (m:Mst) (s t:LSt) (C:Int) (w:World) (e:Ending) (h:World):Prop:=∃vs u v,e=.returned (.tuple #[.agg vs,.agg u,.agg v,MO C])/\vs.size=22/\(vs.toList.all (·.oneCell')=true)/\fY (aF S h) vs i x m/\RL (aF S h) u s/\RL (aF S h) v t/\aq w h
structure RdF (S:Nat->Prop) (w W0:World) (i:Inp) (x:Nat) (m:Mst) (s t:LSt) (y:Itm) (A:Option Addr) (c:Nat) (D:Option Addr) (cd:Nat) (T:Option Addr) (ct:Nat) (R:Option Addr) (cr:Nat) (PA:Option Addr) (pc:Nat) (MA:Option Addr) (mc:Nat) (GA:Option Addr) (gc:Nat) (SA:Option Addr) (sc bI oI ic:Nat) (B1:Option Addr) (c1:Nat) (B2:Option Addr) (c2 dn il:Nat):Prop where
 eW:(((((w.alloc (.cells #[.slice A i.cfg.sizes.length c,MO i.cfg.shift,MO i.cfg.rate,MO i.cfg.mom,MO i.cfg.workers,MO i.cfg.batch,MO i.cfg.micros,MO i.cfg.steps,MO i.cfg.bucket,MO i.cfg.chunk,MO i.cfg.window,MO i.cfg.cap,.slice D i.data.length cd,.slice T i.start.length ct,.slice R i.draws.length cr,MO (x:Nat),.slice PA i.start.length pc,.slice MA i.start.length mc,.slice GA i.start.length gc,.slice SA m.rc.length sc,.slice (some (ar bI oI)) il ic,MO (dn:Nat)] 106)).alloc (.cells #[MO (s.cap:Nat),.slice B1 s.msgs.length c1,MO (s.recv:Nat),MO (s.peak:Nat)] 75)).alloc (.cells #[MO (t.cap:Nat),.slice B2 t.msgs.length c2,MO (t.recv:Nat),MO (t.peak:Nat)] 75)).alloc (.cells MR 106)).alloc (.cells #[MO 0,MP,MO 0,MO 0] 75)).alloc (.cells #[MO 0,MP,MO 0,MO 0] 75)=W0
 bx:∀w',aq W0 w'->w'.heap[w.heap.size]?=some (.cells #[.slice A i.cfg.sizes.length c,MO i.cfg.shift,MO i.cfg.rate,MO i.cfg.mom,MO i.cfg.workers,MO i.cfg.batch,MO i.cfg.micros,MO i.cfg.steps,MO i.cfg.bucket,MO i.cfg.chunk,MO i.cfg.window,MO i.cfg.cap,.slice D i.data.length cd,.slice T i.start.length ct,.slice R i.draws.length cr,MO (x:Nat),.slice PA i.start.length pc,.slice MA i.start.length mc,.slice GA i.start.length gc,.slice SA m.rc.length sc,.slice (some (ar bI oI)) il ic,MO (dn:Nat)] 106 (0,0))/\w'.heap[w.heap.size+1]?=some (.cells #[MO (s.cap:Nat),.slice B1 s.msgs.length c1,MO (s.recv:Nat),MO (s.peak:Nat)] 75 (0,0))/\w'.heap[w.heap.size+1+1]?=some (.cells #[MO (t.cap:Nat),.slice B2 t.msgs.length c2,MO (t.recv:Nat),MO (t.peak:Nat)] 75 (0,0))/\w'.heap[w.heap.size+1+1+1]?=some (.cells MR 106 (0,0))/\w'.heap[w.heap.size+1+1+1+1]?=some (.cells #[MO 0,MP,MO 0,MO 0] 75 (0,0))/\w'.heap[w.heap.size+1+1+1+1+1]?=some (.cells #[MO 0,MP,MO 0,MO 0] 75 (0,0))
 K:aq w W0
 I0:ge (aF S w) A c D T ct R i
 P0:cH (aF S w) PA m.P pc
 M0:cH (aF S w) MA m.M mc
 G0:cH (aF S w) GA m.G gc
 R0:dA rEx 2 (aF S w) SA m.rc
 It0:Rd (aF S w) (some (ar bI oI)) (cu (dQ i x))
 Pl:m.P.length=i.start.length
 Ml:m.M.length=i.start.length
 Gl:m.G.length=i.start.length
 s0:iO (aF S w) B1 s.msgs
 t0:iO (aF S w) B2 t.msgs
 s2:s.msgs.length<=c1
 t2:t.msgs.length<=c2
 il':(dQ i x).length=il
 dn':bD i x m=dn
 s':cK i
 rw':W0.rangeAt bI (oI+dn*12) (bq y)
 S':∀k,S k->k<w.heap.size
 wd:IntKind.i64.wrap ((dn:Int)+1)=((dn:Int)+1)
 loc:(∀w',aq W0 w'->w'.cell? (ar w.heap.size 20)=some (.slice (some (ar bI oI)) il ic))/\(∀w',aq W0 w'->w'.cell? (ar w.heap.size 21)=some (MO (dn:Nat)))/\(∀w',aq W0 w'->w.heap.size<w'.heap.size)/\(dn:Int)<il/\¬(il:Int)<=dn/\¬(dn:Int)<0/\¬il<=dn
section
variable {S:Nat->Prop} {w W0:World} {i:Inp} {x:Nat} {m:Mst} {s t:LSt} {y:Itm} {A:Option Addr} {c:Nat} {D:Option Addr} {cd:Nat} {T:Option Addr} {ct:Nat} {R:Option Addr} {cr:Nat} {PA:Option Addr} {pc:Nat} {MA:Option Addr} {mc:Nat} {GA:Option Addr} {gc:Nat} {SA:Option Addr} {sc bI oI ic:Nat} {B1:Option Addr} {c1:Nat} {B2:Option Addr} {c2 dn il:Nat}
variable (h:RdF S w W0 i x m s t y A c D cd T ct R cr PA pc MA mc GA gc SA sc bI oI ic B1 c1 B2 c2 dn il)
include h
theorem RdF.hI:ge w A c D T ct R i:=fu h.I0 (eC S w)
theorem RdF.hP:cH w PA m.P pc:=bH h.P0 (eC S w)
theorem RdF.hM:cH w MA m.M mc:=bH h.M0 (eC S w)
theorem RdF.hG:cH w GA m.G gc:=bH h.G0 (eC S w)
end
theorem jW {S:Nat->Prop} {w:World} {vs u v:Array Value} {i:Inp} {x:Nat} {m:Mst} {s t:LSt} {y:Itm} (hS:∀k,S k->k<w.heap.size) (h:fY (aF S w) vs i x m) (hu:RL (aF S w) u s) (hv:RL (aF S w) v t) (hs:cK i) (hy:(dQ i x)[bD i x m]?=some y):
  ∃A c D cd T ct R cr PA pc MA mc GA gc SA sc bI oI ic B1 c1 B2 c2 dn il W0,vs=#[.slice A i.cfg.sizes.length c,MO i.cfg.shift,MO i.cfg.rate,MO i.cfg.mom,MO i.cfg.workers,MO i.cfg.batch,MO i.cfg.micros,MO i.cfg.steps,MO i.cfg.bucket,MO i.cfg.chunk,MO i.cfg.window,MO i.cfg.cap,.slice D i.data.length cd,.slice T i.start.length ct,.slice R i.draws.length cr,MO (x:Nat),.slice PA i.start.length pc,.slice MA i.start.length mc,.slice GA i.start.length gc,.slice SA m.rc.length sc,.slice (some (ar bI oI)) il ic,MO (dn:Nat)]/\u=#[MO (s.cap:Nat),.slice B1 s.msgs.length c1,MO (s.recv:Nat),MO (s.peak:Nat)]/\v=#[MO (t.cap:Nat),.slice B2 t.msgs.length c2,MO (t.recv:Nat),MO (t.peak:Nat)]/\RdF S w W0 i x m s t y A c D cd T ct R cr PA pc MA mc GA gc SA sc bI oI ic B1 c1 B2 c2 dn il:=by
 obtain ⟨A,c,D,cd,T,ct,R,cr,PA,pc,MA,mc,GA,gc,SA,sc,IA,ic,rfl,Y,U,a0,O,Z,p,V,a3,L⟩:=h
 obtain ⟨B1,c1,rfl,N,a1⟩:=hu
 obtain ⟨B2,c2,rfl,a5,a2⟩:=hv
 have a4:(dQ i x).length<=48000000:=vC hs x (LO _)
 obtain ⟨bI,oI,rfl,B⟩:=Gj (aV p (eC S w)) hy
 have I:=(Mp.1 hy).1
 obtain ⟨dn,C⟩:∃dn,bD i x m=dn:=⟨_,rfl⟩
 obtain ⟨il,H⟩:∃il,(dQ i x).length=il:=⟨_,rfl⟩
 rw [C] at B I
 rw [H] at a4 I
 obtain ⟨W0,Q,J,g1,g2,g3,g4,g5,k0⟩:=wA w #[.slice A i.cfg.sizes.length c,MO i.cfg.shift,MO i.cfg.rate,MO i.cfg.mom,MO i.cfg.workers,MO i.cfg.batch,MO i.cfg.micros,MO i.cfg.steps,MO i.cfg.bucket,MO i.cfg.chunk,MO i.cfg.window,MO i.cfg.cap,.slice D i.data.length cd,.slice T i.start.length ct,.slice R i.draws.length cr,MO (x:Nat),.slice PA i.start.length pc,.slice MA i.start.length mc,.slice GA i.start.length gc,.slice SA m.rc.length sc,.slice (some (ar bI oI)) il ic,MO (dn:Nat)] #[MO (s.cap:Nat),.slice B1 s.msgs.length c1,MO (s.recv:Nat),MO (s.peak:Nat)] #[MO (t.cap:Nat),.slice B2 t.msgs.length c2,MO (t.recv:Nat),MO (t.peak:Nat)] MR #[MO 0,MP,MO 0,MO 0] #[MO 0,MP,MO 0,MO 0] 106 75
 exact ⟨A,c,D,cd,T,ct,R,cr,PA,pc,MA,mc,GA,gc,SA,sc,bI,oI,ic,B1,c1,B2,c2,dn,il,W0,by rw [C,H],rfl,rfl,Q,fun o q=>⟨sb J o q,sb g1 o q,sb g2 o q,sb g3 o q,sb g4 o q,sb g5 o q⟩,k0,Y,U,a0,O,Z,p,V,a3,L,N,a5,a1,a2,H,C,hs,fun k u hu=>aw k0 (B k u hu),hS,by rw [LT _ ap],
  fun o q=>LQ o w.heap.size 20 _ _ _ (sb J o q),fun o q=>LQ o w.heap.size 21 _ _ _ (sb J o q),sl J,by omega,by omega,by omega,by omega⟩
theorem uj {V h:World} {X:Nat} {B A i y o:Obj} (k:Keep (fun k=>k=X) V h) (h1:V.heap[X+1]?=some B) (p:V.heap[X+1+1]?=some A) (x:V.heap[X+1+1+1]?=some i) (u:V.heap[X+1+1+1+1]?=some y) (v:V.heap[X+1+1+1+1+1]?=some o):
  h.heap[X+1]?=some B/\h.heap[X+1+1]?=some A/\h.heap[X+1+1+1]?=some i/\h.heap[X+1+1+1+1]?=some y/\h.heap[X+1+1+1+1+1]?=some o:=
 ⟨(k.block _ (LN h1) ap).trans h1,(k.block _ (LN p) ap).trans p,(k.block _ (LN x) ap).trans x,(k.block _ (LN u) ap).trans u,(k.block _ (LN v) ap).trans v⟩
abbrev KB3 (X:Nat) (V w:World):Prop:=Keep (fun k=>k=X+1+1+1\/k=X+1+1+1+1\/k=X+1+1+1+1+1) V w
section
variable {P:Program} {ops:Array Oper} {Q:Exit->Act->World->Prop} {X:Nat} {V:World}
theorem HA.ld3 {L:List Nat} {a:Act} {w:World} {vs u v:Array Value} {t1 t2 T:TypeId} {i o p:Oper} {D R H:TypeId} {A O N:Operand} (I:V.heap[X]?=some (.cells vs t1 (0,0))) (B:V.heap[X+1]?=some (.cells u t2 (0,0))) (J:V.heap[X+1+1]?=some (.cells v T (0,0))) (Y:cW P D vs.size) (U:cW P R u.size) (Z:cW P H v.size) (y:KB3 X V w)
  (k:HA P ops Q (KB3 X V) (2::1::0::L) (((a.put i.dst (.agg vs)).put o.dst (.agg u)).put p.dst (.agg v)) w)
  (x:ops[0]?=some i:=by (simp only [Mi,Mj,Mk];rfl)) (ho1:ops[1]?=some o:=by (simp only [Mi,Mj,Mk];rfl)) (ho2:ops[2]?=some p:=by (simp only [Mi,Mj,Mk];rfl))
  (hp0:i.op=.load D A:=by rfl) (hp1:o.op=.load R O:=by rfl) (hp2:p.op=.load H N:=by rfl) (hx0:a.eval A=(au X):=by rfl) (hx1:(a.put i.dst (.agg vs)).eval O=(au (X+1)):=by rfl) (hx2:((a.put i.dst (.agg vs)).put o.dst (.agg u)).eval N=(au (X+1+1)):=by rfl)
  (g0:Region.wanted i (yielded ops a.tmps)=true:=by rfl) (g1:Region.wanted o (yielded ops (a.put i.dst (.agg vs)).tmps)=true:=by rfl) (g2:Region.wanted p (yielded ops ((a.put i.dst (.agg vs)).put o.dst (.agg u)).tmps)=true:=by rfl)
  (hs:Region.noSelect ops=true:=by decide +kernel) (hQ:∀c a w d v,Q (.panic c) (Act.put a d v) w->Q (.panic c) a w:=by (intro _ _ _ d _ h;cases d<;>exact h)) (c0:kQ ops L [0]=true:=by decide +kernel) (c1:kQ ops (0::L) [1]=true:=by decide +kernel) (c2:kQ ops (1::0::L) [2]=true:=by decide +kernel):HA P ops Q (KB3 X V) L a w:=
 HA.ld 0 vs (fun C q=>(q.block _ (LN I) ap).trans I) Y y (HA.ld 1 u (fun C q=>(q.block _ (LN B) ap).trans B) U y (HA.ld 2 v (fun C q=>(q.block _ (LN J) ap).trans J) Z y k ho2 hp2 hx2 (by rw [Mn,Mz]) g2 hs hQ c2) ho1 hp1 hx1 (by rw [Mn,Mz]) g1 hs hQ c1) x hp0 hx0 (by rw [Mn,Mz]) g0 hs hQ c0
theorem HA.st3 {L:List Nat} {a:Act} {w:World} {vs u v z1 T z3:Array Value} {t1 t2 I:TypeId} {h o y:Oper} {R y2 Z:TypeId} {H x1 x2 v0 v1 v2:Operand} {n1 n2 O:Nat} (i j l:Nat) (b3:V.heap[X+1+1+1]?=some (.cells z1 t1 (0,0))) (b4:V.heap[X+1+1+1+1]?=some (.cells T t2 (0,0))) (b5:V.heap[X+1+1+1+1+1]?=some (.cells z3 I (0,0))) (r0:cW P R n1) (r1:cW P y2 n2) (r2:cW P Z O) (hw:aq V w)
  (k:∀p,p.heap[X+1+1+1]?=some (.cells vs t1 (0,0))->p.heap[X+1+1+1+1]?=some (.cells u t2 (0,0))->p.heap[X+1+1+1+1+1]?=some (.cells v I (0,0))->KB3 X V p->HA P ops Q (KB3 X V) (l::j::i::L) (((a.put h.dst undef).put o.dst undef).put y.dst undef) p)
  (A:ops[i]?=some h:=by (simp only [Mi,Mj,Mk];rfl)) (ho1:ops[j]?=some o:=by (simp only [Mi,Mj,Mk];rfl)) (ho2:ops[l]?=some y:=by (simp only [Mi,Mj,Mk];rfl))
  (hp0:h.op=.store R H v0:=by rfl) (hp1:o.op=.store y2 x1 v1:=by rfl) (hp2:y.op=.store Z x2 v2:=by rfl) (hx0:a.eval H=(au (X+1+1+1)):=by rfl) (hx1:(a.put h.dst undef).eval x1=(au (X+1+1+1+1)):=by rfl) (hx2:((a.put h.dst undef).put o.dst undef).eval x2=(au (X+1+1+1+1+1)):=by rfl)
  (hv0:a.eval v0=.agg vs:=by rfl) (hv1:(a.put h.dst undef).eval v1=.agg u:=by rfl) (hv2:((a.put h.dst undef).put o.dst undef).eval v2=.agg v:=by rfl)
  (e0:vs.size=n1:=by rfl) (e1:u.size=n2:=by rfl) (e2:v.size=O:=by rfl) (f0:z1.size=vs.size:=by rfl) (f1:T.size=u.size:=by rfl) (f2:z3.size=v.size:=by rfl) (l0:vs.toList.all (·.oneCell')=true:=by rfl) (l1:u.toList.all (·.oneCell')=true:=by rfl) (l2:v.toList.all (·.oneCell')=true:=by rfl)
  (d0:cZ ops L=[i]:=by decide +kernel) (d1:cZ ops (i::L)=[j]:=by decide +kernel) (d2:cZ ops (j::i::L)=[l]:=by decide +kernel)
  (g0:Region.wanted h (yielded ops a.tmps)=true:=by rfl) (g1:Region.wanted o (yielded ops (a.put h.dst undef).tmps)=true:=by rfl) (g2:Region.wanted y (yielded ops ((a.put h.dst undef).put o.dst undef).tmps)=true:=by rfl):HA P ops Q (KB3 X V) L a w:=by
 have q:KB3 X V w:=Keep.below hw
 refine HA.st i (sb b3 w hw) r0 (fun w6 Y D=>?_) A hp0 hx0 hv0 e0 f0 l0 d0 g0
 have U:KB3 X V w6:=q.trans (D.mono fun k _ e=>.inl e)
 refine ⟨U,HA.st j ((D.block _ (LN (sb b4 w hw)) ap).trans (sb b4 w hw)) r1 (fun w7 N C=>?_) ho1 hp1 hx1 hv1 e1 f1 l1 d1 g1⟩
 have J:KB3 X V w7:=U.trans (C.mono fun k _ e=>.inr (.inl e))
 have x:=(D.block _ (LN (sb b5 w hw)) ap).trans (sb b5 w hw)
 refine ⟨J,HA.st l ((C.block _ (LN x) ap).trans x) r2 (fun w8 e8 B=>?_) ho2 hp2 hx2 hv2 e2 f2 l2 d2 g2⟩
 have q8:KB3 X V w8:=J.trans (B.mono fun k _ e=>.inr (.inr e))
 have c3:=(C.block _ (LN Y) ap).trans Y
 exact ⟨q8,k w8 ((B.block _ (LN c3) ap).trans c3) ((B.block _ (LN N) ap).trans N) e8 q8⟩
end
theorem jV {w V o i:World} (p:Keep (fun k=>k=w.heap.size) V o) (v:KB3 w.heap.size o i) (h:aq w V):Keep (fun k=>w.heap.size<=k/\k<w.heap.size+6) V i/\aq w i:=
 have k:Keep (fun k=>w.heap.size<=k/\k<w.heap.size+6) V i:=(p.mono fun k _ e=>ap).trans (v.mono fun k _ e=>by rcases e with e | e | e<;>omega)
 ⟨k,h.trans (k.toBelow h.size (fun j u=>u.1))⟩
theorem zb {w:World} {vs:Array Value} {i:Inp} {x:Nat} {m:Mst} {s t:LSt} {u v:Array Value} {S:Nat->Prop} (hS:∀k,S k->k<w.heap.size) (h:fY (aF S w) vs i x m) (hu:RL (aF S w) u s) (hv:RL (aF S w) v t) (hs:cK i) {y:Itm} (hy:(dQ i x)[bD i x m]?=some y) (k1 k2:Int) (b0 b1:Bool) (i0 i1 i2 i3 i4 i5 i6:Int) (a3:bq y=[MO 2,MO k1,MO k2,.bool b0,.bool b1,MO i0,MO i1,MO i2,MO i3,MO i4,MO i5,MO i6])
  (m1:Mst) (h1:m1.P=m.P/\m1.M=m.M/\m1.G=m.G/\m1.rc=m.rc) (L:bD i x m1=bD i x m+1):
  Calls prog 89 #[.agg vs,.agg u,.agg v] w (fun e w'=>nj S i x m1 (s) (t) 0 w e w'):=by
 obtain ⟨A,c,D,cd,T,ct,R,cr,PA,pc,MA,mc,GA,gc,SA,sc,bI,oI,ic,B1,c1,B2,c2,dn,il,W0,rfl,rfl,rfl,H⟩:=jW hS h hu hv hs hy
 have J:=H.rw'
 rw [a3] at J
 rw [H.dn'] at L
 obtain ⟨ao,H1,a7⟩:=af J h1 L
 obtain ⟨b9,b8,tl,aR,a8,b7,ab⟩:=H.loc
 have q0:=br W0
 clear h hu hv hs hy a3 hS h1 L J
 go_enter func89,ntmps89
 go_upto_region 1 with (fail)
 rw [H.eW]
 go_upto_region 4 with (first | (refine jN ao.o iR rfl rfl rfl ?_) | (refine aJ (LP _ _) iR rfl rfl rfl rfl rfl rfl rfl ?_;intro W3 e3 k3;obtain ⟨E3,K3⟩:=ae e3 (aU k3);clear e3 k3))
 clear b9 b8 tl q0 aR a8 b7 ab
 go_upto_region 5 with (first | (refine aS #[MO i5,MO i6] (b:=W0.heap.size) E3.o fP rfl rfl rfl rfl ?_) | (refine aJ (LP _ _) fP rfl rfl rfl rfl rfl rfl rfl ?_;intro W4 e4 k4;obtain ⟨E4,K4⟩:=ae e4 (aU k4);clear e4 k4))
 have y0:W4.cell? (ar W0.heap.size 0)=some (MO 2):=LQ W4 _ 0 _ _ _ (sb E3.o _ K4.o)
 have a4:=aa (bt K3.o K4.o)
 go_upto_region 28 with (fail)
 obtain ⟨p,I,Q,C,N,U⟩:=H.bx _ a4.o
 have O:=H.K.trans (a4.o.mono H.K.size)
 obtain ⟨V,hV⟩:∃V,W4=V:=⟨_,rfl⟩
 rw [hV] at p I Q C N U O ⊢
 clear hV y0
 have aG:=LQ V w.heap.size 21 _ _ _ p
 have a6:=LX V w.heap.size 21 _ _ p
 have lM:=LN p
 have aM:=H.wd
 have e9:=ss (i:=21) (v:=MO ((dn:Int)+1)) p rfl
 have k9:Keep (fun k=>k=w.heap.size) V (V.setCell (ar w.heap.size 21) (MO ((dn:Int)+1))):=Keep.setCell (S:=fun k=>k=w.heap.size) (Keep.refl _ _) _ (.inr rfl) _
 obtain ⟨E9,K9,ad,av,b6,aP,a9,bb⟩:=ak e9 k9 I Q C N U O;clear e9 k9 I Q C N U O p
 go_upto_region 29 with (fail)
 obtain ⟨Y,a0⟩:∃Y,V.setCell (ar w.heap.size 21) (MO ((dn:Int)+1))=Y:=⟨_,rfl⟩
 rw [a0] at E9 K9 ⊢
 clear a0 aG a6 lM aM
 obtain ⟨b1,b2,b3,b4,b5⟩:=uj K9.o ad.o av.o b6.o aP.o a9.o
 have hq:aq Y Y.drew:=(br Y).drew
 refine HA.g (KB3 w.heap.size Y) ?_
 refine HA.ld3 (vs:=#[.slice A i.cfg.sizes.length c,MO i.cfg.shift,MO i.cfg.rate,MO i.cfg.mom,MO i.cfg.workers,MO i.cfg.batch,MO i.cfg.micros,MO i.cfg.steps,MO i.cfg.bucket,MO i.cfg.chunk,MO i.cfg.window,MO i.cfg.cap,.slice D i.data.length cd,.slice T i.start.length ct,.slice R i.draws.length cr,MO (x:Nat),.slice PA i.start.length pc,.slice MA i.start.length mc,.slice GA i.start.length gc,.slice SA m.rc.length sc,.slice (some (ar bI oI)) il ic,MO (dn+1)]) E9.o b1 b2 dO bP bP (Keep.below hq) ?_
 refine HA.st3 3 4 5 b3 b4 b5 dO bP bP hq (fun w8 r3 r4 e8 q8=>?_)
 refine HA.t ?_ [6] q8 ?_
 refine HA.d ?_
 obtain ⟨R3,R4,R5⟩:=af r3 r4 e8
 have F:=jV K9.o q8 bb.o
 obtain ⟨bd,QW⟩:=ae F.1 F.2;clear b1 b2 b3 b4 b5 e8 q8 r3 r4 hq F
 go_wp2_with fail
 refine L7 (fk rfl rfl rfl rfl R3.o R4.o R5.o dO bP bP) rfl ?_
 have B:Ext (aF S w) (aF S w8):=bE (Keep.below QW.o) (fun _ _ h=>h)
 obtain ⟨Z,a2,a5,a1⟩:=H1.o
 exact ⟨_,_,_,rfl,rfl,rfl,⟨A,c,D,cd,T,ct,R,cr,PA,pc,MA,mc,GA,gc,SA,sc,some (ar bI oI),ic,by rw [H.il',a7.o,a1];push_cast;rfl,fu H.I0 B,by rw [Z];exact bH H.P0 B,by rw [a2];exact bH H.M0 B,by rw [a5];exact bH H.G0 B,by rw [a1];exact eA cJ H.R0 B,aV H.It0 B,by rw [Z];exact H.Pl,by rw [a2];exact H.Ml,by rw [a5];exact H.Gl⟩,⟨B1,c1,rfl,cV H.s0 B,H.s2⟩,⟨B2,c2,rfl,cV H.t0 B,H.t2⟩,QW.o⟩
theorem AK:cW prog 128 4:=⟨⟨_,underlying128,rfl⟩,by kernel_rfl⟩
theorem rk (A:Option Addr) (l:List Int) (c k i:Nat) (w:World) (hA:Rd w A (aA .i64 l)) (hc:l.length<=c) (hl:l.length<=1048576) (hn:0<l.length) (hk:1<=k) (O:k<=1048576) (N:i<k):
  Calls prog 163 #[.slice A l.length c,MO i,MO k] w (yh (cU l k i) (cU l k i).length w):=by
 have u:=tE l.length k w hk O hl
 obtain ⟨b,o,rfl,_⟩:=hA.num hn
 have x:=jt l hk N
 have L:cU l k i=(l.drop (bdN l.length k i)).take (bdN l.length k (i+1)-bdN l.length k i):=rfl
 have h1:=pt l.length k (Nat.le_succ i)
 have Y:=fN l.length k (i+1) hk N
 have hg:=dY (l:=fK l.length k) (j:=i) (by rw [fD];exact N)
 have hr:aL (fK l.length k) i=(bdN l.length k i,bdN l.length k (i+1)):=by
  rw [cN _ _ (by rw [fD];exact N)];simp [fK]
 rw [hr] at hg
 rw [x]
 obtain ⟨P,hP⟩:∃P,cU l k i=P:=⟨_,rfl⟩
 obtain ⟨lo,H⟩:∃lo,bdN l.length k i=lo:=⟨_,rfl⟩
 obtain ⟨h,y⟩:∃h,bdN l.length k (i+1)=h:=⟨_,rfl⟩
 simp only [Nat.succ_eq_add_one] at h1
 rw [hP] at L ⊢
 rw [H,y] at L h1 hg ⊢
 rw [y] at Y
 obtain ⟨V,hV⟩:∃V,aN (fK l.length k)=V:=⟨_,rfl⟩
 rw [hV] at u hg
 obtain ⟨n,D⟩:∃n,l.length=n:=⟨_,rfl⟩
 rw [D] at u hc hl hn Y ⊢
 have a4:(i:Int)<k:=ap
 have a3:¬(i:Int)<0:=ap
 obtain ⟨R,Q,Z,HP⟩:=ag u hA hg L;clear u hA hg L hr x hP H y D hV
 go_enter func163,ntmps163
 go_wp2_with fail
 refine R.o.mono ?_
 rintro e C ⟨v,rfl,ov,U⟩
 obtain ⟨g,cv,rfl,_⟩:=ov.form ap
 have c0:=ov.cellAt (i*2) ap
 have c1:=ov.cellAt (i*2+1) ap
 rw [Z.o.1] at c0
 rw [Z.o.2] at c1
 have lg:=(ov.lt g rfl).2
 have t0:∀p,aq C p->p.cell? (ar g (i*2))=some (MO (lo:Nat)):=fun p q=>aw q c0
 have t1:∀p,aq C p->p.cell? (ar g (i*2+1))=some (MO (h:Nat)):=fun p q=>aw q c1
 have J:=aa U
 have B:=(br C).drew
 have a5:(lo:Int)<=h:=ap
 have a6:(h:Int)<=c:=ap
 have a0:lo<=h:=ap
 have a1:h<=c:=ap
 have a2:¬(k:Int)<=i:=ap
 clear ov U c0 c1
 go_upto_region 4 with (fail)
 by_cases T:c=lo
 ·subst T
  obtain rfl:h=c:=ap
  refine HA.g (fun p:World=>aq C p) ?_
  refine HA.t ?_ [0,1,2,3,4,5,6,7,8,9,10,11,12] B ?_
  refine HA.d ?_
  have I:=aa (J.o.trans (B.mono J.o.size));clear B t0 t1
  go_wp2_with fail
  go_ret
  refine ⟨some (ar b o),0,by rw [Nat.sub_self];rfl,by omega,?_,I.o⟩
  rw [HP.o,Nat.sub_self,List.take_zero]
  exact Rd.nil _ _
 ·refine HA.g (fun p:World=>aq C p) ?_
  refine HA.t ?_ [0,1,2,3,4,5,6,7,8,9,10,11,12] B ?_
  refine HA.d ?_
  have I:=aa (J.o.trans (B.mono J.o.size));clear B t0 t1
  go_wp2_with fail
  go_ret
  refine ⟨_,_,rfl,by omega,?_,I.o⟩
  have:=((Q.o.below I.o).drop lo).take (h-lo)
  rwa [dm,de,<-HP.o] at this
theorem yI (n b steps t W x E c:Nat) (A:Option Addr) (l:List Int) (w:World) (hA:dA zg 1 w A (iS l n E)) (Y:E=epN n b steps) (hb:1<=b) (C:b<=n) (hn:n<=1048576) (J:steps<=1048576) (ht:t<steps) (hW:1<=W) (a0:W<=b) (hx:x<W):
  Calls prog 164 #[.agg #[MO n,MO b,MO steps,.slice A E c],MO t,MO x,MO W] w (yh (cU (dx l n b t) W x) (cU (dx l n b t) W x).length w):=by
 have i:=ip l (t:=t) (Nat.div_pos C hb)
 have p:=fun v (q:aq w v)=>zd n b steps t E c A l v (hA.below tt q) hb C hn J ht Y
 obtain ⟨B,hB⟩:∃B,dx l n b t=B:=⟨_,rfl⟩
 rw [hB] at i p ⊢
 have h:=fun A c v (hA:Rd v A (aA .i64 B)) (hc:B.length<=c)=>rk A B c W x v hA hc ap ap hW ap hx
 obtain ⟨Q,T⟩:∃Q,cU B W x=Q:=⟨_,rfl⟩
 rw [T] at h ⊢
 rw [i] at h
 obtain ⟨H,u⟩:∃H,Q.length=H:=⟨_,rfl⟩
 rw [u] at h ⊢
 have U:=LP w (.cells #[MO n,MO b,MO steps,.slice A E c] 128)
 have L:=(br w).alloc (LO _) (.cells #[MO n,MO b,MO steps,.slice A E c] 128)
 obtain ⟨N,I,G0,V⟩:=ag (p _ L) h U L;clear p h U L hA u T hB i Y
 go_enter func164,ntmps164
 go_wp2_with (refine aS #[MO n,MO b,MO steps,.slice A E c] (b:=w.heap.size) G0.o AK rfl rfl rfl rfl ?_)
 refine N.o.mono ?_
 rintro e w1 ⟨A1,c1,rfl,D,R,O⟩
 obtain ⟨H1,K1⟩:=ae (I.o A1 c1 w1 R D) (V.o.trans (O.mono V.o.size));clear D R O
 go_wp2_with fail
 refine H1.o.mono ?_
 rintro e w2 ⟨A2,c2,rfl,y,Z,k2⟩
 have HF:=aa (⟨A2,c2,rfl,y,Z,bt K1.o k2⟩:yh Q H w (.returned (.slice A2 H c2)) w2);clear y Z k2
 go_wp2_with fail
 go_ret
 exact HF.o
theorem yQ (n b steps t W x mi a E c:Nat) (A:Option Addr) (l:List Int) (w:World) (hA:dA zg 1 w A (iS l n E)) (hE:E=epN n b steps) (hb:1<=b) (I:b<=n) (hn:n<=1048576) (R:steps<=1048576) (ht:t<steps) (T:1<=W) (a0:W<=b) (hx:x<W) (hm:1<=mi) (V:mi<=1048576) (ha:a<mi):
  Calls prog 133 #[.agg #[MO n,MO b,MO steps,.slice A E c],MO t,MO x,MO W,MO a,MO mi] w (yh (ij (dx l n b t) W x mi a) (ij (dx l n b t) W x mi a).length w):=by
 have a1:1<=n/b:=Nat.div_pos I hb
 have u:=ip l (t:=t) a1
 have i:=fun v (q:aq w v)=>yI n b steps t W x E c A l v (hA.below tt q) hE hb I hn R ht T a0 hx
 obtain ⟨B,hB⟩:∃B,dx l n b t=B:=⟨_,rfl⟩
 rw [hB] at u i ⊢
 have hP:=jt B T hx
 have N:bdN B.length W x+1<=bdN B.length W (x+1):=by
  rw [pr]
  have:1<=B.length/W:=Nat.div_pos ap ap
  unfold szE
  omega
 obtain ⟨Q,O⟩:∃Q,cU B W x=Q:=⟨_,rfl⟩
 have C:ij B W x mi a=cU Q mi a:=by unfold ij;rw [O]
 rw [O] at hP i
 have y:Q.length<=1048576:=by have:=fN B.length W (x+1) T hx;omega
 have h:=fun A c v (hA:Rd v A (aA .i64 Q)) (hc:Q.length<=c)=>rk A Q c mi a v hA hc y ap hm V ha
 rw [C]
 obtain ⟨M,hM⟩:∃M,cU Q mi a=M:=⟨_,rfl⟩
 rw [hM] at h ⊢
 obtain ⟨qn,p⟩:∃qn,Q.length=qn:=⟨_,rfl⟩
 rw [p] at i h
 obtain ⟨L,H⟩:∃L,M.length=L:=⟨_,rfl⟩
 rw [H] at h ⊢
 have g0:=LP w (.cells #[MO n,MO b,MO steps,.slice A E c] 128)
 have U:=(br w).alloc (LO _) (.cells #[MO n,MO b,MO steps,.slice A E c] 128)
 obtain ⟨Z,Y,G0,B0⟩:=ag (i _ U) h g0 U;clear h i g0 U hA hE H p hM C O hB y N hP u
 go_enter func133,ntmps133
 go_wp2_with (refine aS #[MO n,MO b,MO steps,.slice A E c] (b:=w.heap.size) G0.o AK rfl rfl rfl rfl ?_)
 refine Z.o.mono ?_
 rintro e w1 ⟨A1,c1,rfl,J,r1,k1⟩
 obtain ⟨H1,K1⟩:=ae (Y.o A1 c1 w1 r1 J) (B0.o.trans (k1.mono B0.o.size));clear J r1 k1
 go_wp2_with fail
 refine H1.o.mono ?_
 rintro e w2 ⟨A2,c2,rfl,D,r2,k2⟩
 have HF:=aa (⟨A2,c2,rfl,D,r2,bt K1.o k2⟩:yh M L w (.returned (.slice A2 L c2)) w2);clear D r2 k2
 go_wp2_with fail
 go_ret
 exact HF.o
theorem wC (A B:Option Addr) (G v:List Int) (n m cg cv lo:Nat) (add:Bool) (w:World) (hA:Rd w A (aA .i64 G)) (hB:Rd w B (aA .i64 v)) (hn:G.length=n) (hm:v.length=m) (hb:n<=1048576) (a6:lo+m<=n):
  Calls prog 134 #[.slice A n cg,MO (lo:Nat),.slice B m cv,.bool add] w fun e C=>∃A' Z,e=.returned (.slice A' n Z)/\C.ownsRow w.heap.size 2 1 (.slice A' n Z) n (aA .i64 (kh G lo v add))/\aq w C:=by
 have u:=nu A G cg w hA ap
 rw [hn] at u
 unfold kh
 rw [hm]
 obtain ⟨N,HB,Hn,Hm⟩:=ag u hB hn hm;clear u hA hB hn hm
 go_enter func134,ntmps134
 go_wp2_with fail
 refine N.o.mono ?_
 rintro e w1 ⟨A1,c1,rfl,o1,J⟩
 obtain ⟨T,Y,K1⟩:=af (HB.o.below J) o1 J;clear o1 J
 go_wp2_with fail
 go_loopw [10] (fun z wr=>∃k:Nat,k<=m/\z=MO k/\wr.ownsRow w.heap.size 2 1 (.slice A1 n c1) n (aA .i64 (ta G lo v add k))/\Keep (fun j=>(Value.slice A1 n c1).ownBlock=some j) w1 wr) (fun z _=>m-(intOf z).toNat)
 case atStart=>exact ⟨0,LS _,rfl,by rw [uz];exact Y.o,Keep.refl _ _⟩
 case round=>
  obtain ⟨k,hk,rfl,o,y⟩:=hrel
  by_cases x:k<m
  ·obtain ⟨g,d,hv,hg,a7⟩:=o.form ap
   simp only [MC] at hv
   obtain ⟨rfl,O,rfl⟩:=hv
   clear O
   have i:lo+k<G.length:=by rw [Hn.o];omega
   have Q:=cE o (show lo+k<n by omega)
   rw [pd _ _ _ _ i,if_neg ap] at Q
   have f1:=o.frozenAt (lo+k)
   have H:=T.o
   obtain ⟨R,o2,rfl,p0⟩:=H.num (show k<v.length by rw [Hm.o];exact x)
   have U:R≠g:=fun e=>by
    have h1:w.heap.size<=g:=(Y.o.lt g rfl).1
    obtain ⟨b3,o3,e3,p3⟩:=HB.o.num (show k<v.length by rw [Hm.o];exact x)
    have h3:b3<w.heap.size:=az p3
    cases e3
    omega
   have p2:wr.cell? (ar R (o2+k))=some (MO (nth v k)):=y.cell p0 (by simp [Value.ownBlock];exact fun e=>U e.symm)
   have p:=xX G lo v add i
   have L:(k:Int)<m:=ap
   obtain ⟨j,V⟩:∃j,lo+k=j:=⟨_,rfl⟩
   rw [V] at Q f1 p i
   have a1:(lo:Int)+k=(j:Int):=ap
   have a2:j<n:=ap
   have a0:(j:Int)<n:=ap
   have a5:¬(j:Int)<0:=ap
   have a4:IntKind.i64.wrap (j:Int)=j:=LT _ ap
   have a3:IntKind.i64.wrap ((k:Int)+1)=((k+1:Nat):Int):=by rw [LT _ ap];push_cast;rfl
   obtain ⟨I,D,h⟩:=af y o p;clear y o p i p0 H
   cases add with
   | true=>
    rw [if_pos rfl] at h
    go_upto_region 6 with (fail)
    refine XA.g 16 (fun C:World=>C.cell? (ar g j)=some (MO (nth G j))/\C.cell? (ar R (o2+k))=some (MO (nth v k))) ?_
    refine XA.t ?_ [0,1,2,3,4,5,6,7,8,9,10,11,12,13,14,15] ⟨Q,p2⟩ ?_
    refine XA.e ?_
    simp only [Mm,Mn]
    go_wp2_with fail
    go_roundw
    case rel=>
     refine ⟨k+1,by omega,by go_num,?_,?_⟩
     ·rw [<-h.o];exact dS (bT D.o 1) j _
     ·exact Keep.setCell (I.o.drewN 1) (ar g j) (.inr rfl) _
    case measure=>simp [intOf];omega
   | false=>
    rw [if_neg (by decide)] at h
    go_wp2_with fail
    go_roundw
    case rel=>
     refine ⟨k+1,by omega,by go_num,?_,?_⟩
     ·rw [<-h.o];exact dS D.o j _
     ·exact Keep.setCell I.o (ar g j) (.inr rfl) _
    case measure=>simp [intOf];omega
  ·obtain rfl:k=m:=ap
   have L:¬(k:Int)<k:=ap
   obtain ⟨HO,I⟩:=ae o (K1.o.trans (y.toBelow K1.o.size (fun j V=>(Y.o.lt j V).1)));clear o y
   go_wp2_with fail
   go_ret
   exact ⟨_,_,rfl,HO.o,I.o⟩
theorem Ai {a b c:List Int} (h:b.length=a.length):fj (fj a b) c=fj a (fj b c):=by
 have e:(fj a b).length=a.length:=iI _ _
 unfold fj at e ⊢
 rw [e]
 refine eK fun k hk=>?_
 rw [bS _ hk,bS _ ap]
 unfold wrap64;omega
theorem Ah {a:List Int} (h:W64 a) (n:Nat):fj a (List.replicate n 0)=a:=by
 refine (fv rfl fun k hk=>?_).symm
 have e:nth (List.replicate n (0:Int)) k=0:=by
  simp only [nth,List.getD_eq_getElem?_getD,List.getElem?_replicate]
  split<;>rfl
 have:=h k hk
 rw [e,Int.add_zero]
 unfold wrap64;omega
theorem Jd {i:Inp} (hg:lL i) (x st a:Nat):(oN i x st a).length<=1048576:=by
 have o:=ip i.draws (n:=i.data.length) (b:=i.cfg.batch.toNat) (t:=st) (Nat.div_pos (by have:=hg.b.1;omega) (by have:=hg.c.ba;have:=hg.c.w;omega))
 have h1:∀(l:List Int) (k j:Nat),(cU l k j).length<=l.length:=fun l k j=>by simp only [cU,Mt,Mw];omega
 have h:=h1 (cU (dx i.draws i.data.length i.cfg.batch.toNat st) i.cfg.workers.toNat x) i.cfg.micros.toNat a
 have p:=h1 (dx i.draws i.data.length i.cfg.batch.toNat st) i.cfg.workers.toNat x
 have:=hg.c.ba
 unfold oN ij
 omega
theorem zM {i:Inp} {P G:List Int} (o:W64 G) (hl:G.length=cnt i) (l:List Ex):ez i P G l=fj G (eg i P l):=by
 have h:∀(l:List Ex) (A:List Int),A.length=G.length->ez i P (fj G A) l=fj G (l.foldl (fun a x=>fj a (gS i.cfg.sizes P i.cfg.shift x.1 x.2)) A):=by
  intro l
  induction l with
  | nil=>intro A _;rfl
  | cons x l ih=>
   intro A hA
   show ez i P (fj (fj G A) _) l=_
   rw [Ai hA,List.foldl_cons]
   exact ih _ (by rw [iI];exact hA)
 have:=h l (List.replicate (cnt i) 0) (by rw [Mv,hl])
 rw [Ah o] at this
 exact this
theorem Dd {ra h q:Int} {ps ms g:List Int} {lo n k:Nat} (hk:k<n) (i:lo+n<=ps.length) (hm:lo+n<=ms.length):nth (rJ ra h q ((ps.drop lo).take n) ((ms.drop lo).take n) g) k=lO ra q (nth ps (lo+k)) (eT h q (nth ms (lo+k)) (nth g k)):=by
 unfold rJ
 rw [bS _ (by simp only [Mt,Mw];omega),ff hk,ff hk,fg,fg]
theorem ud {h q:Int} {ms g:List Int} {lo n k:Nat} (hk:k<n) (hm:lo+n<=ms.length):nth (rK h q ((ms.drop lo).take n) g) k=eT h q (nth ms (lo+k)) (nth g k):=by
 unfold rK
 rw [bS _ (by simp only [Mt,Mw];omega),ff hk,fg]
theorem Fl {w:World} {vs:Array Value} {i:Inp} {x:Nat} {m:Mst} {s t:LSt} {u v:Array Value} {S:Nat->Prop} (hS:∀k,S k->k<w.heap.size) (h:fY (aF S w) vs i x m) (hu:RL (aF S w) u s) (hv:RL (aF S w) v t) (hs:cK i) {y:Itm} (hy:(dQ i x)[bD i x m]?=some y) (k1 k2:Int) (b0 b1:Bool) (i0 i1 i2 i3 i4 i5 i6:Int) (bo:bq y=[MO 1,MO k1,MO k2,.bool b0,.bool b1,MO i0,MO i1,MO i2,MO i3,MO i4,MO i5,MO i6]) (st a:Nat) (bv:k1=(st:Nat)) (b8:k2=(a:Nat)) (cO:st<i.cfg.steps.toNat) (ha:a<i.cfg.micros.toNat) (dk:x<i.cfg.workers.toNat)
  (m1:Mst) (h1:m1.P=m.P/\m1.M=m.M/\m1.G=ez i m.P m.G (dK i.data (oN i x st a))/\m1.rc=m.rc) (aG:bD i x m1=bD i x m+1):
  Calls prog 89 #[.agg vs,.agg u,.agg v] w (fun e p=>nj S i x m1 (s) (t) 0 w e p):=by
 obtain ⟨d8,dG⟩:=ae bv b8;clear bv b8
 obtain ⟨A,c,D,cd,T,ct,R,cr,PA,pc,MA,mc,GA,gc,SA,sc,bI,oI,ic,B1,c1,B2,c2,dn,il,L,rfl,rfl,rfl,H⟩:=jW hS h hu hv hs hy
 have ad:=H.rw'
 rw [bo] at ad
 rw [H.dn'] at aG
 obtain ⟨cM,H1,cb⟩:=af ad h1 aG
 obtain ⟨ds,dp,tl,d2,cj,da,cs⟩:=H.loc
 have q0:=br L
 clear h hu hv hs hy bo hS h1 aG ad
 go_enter func89,ntmps89
 go_upto_region 1 with (fail)
 rw [H.eW]
 go_upto_region 4 with (first | (refine jN cM.o iR rfl rfl rfl ?_) | (refine aJ (LP _ _) iR rfl rfl rfl rfl rfl rfl rfl ?_;intro W3 e3 k3;obtain ⟨E3,K3⟩:=ae e3 (aU k3);clear e3 k3))
 clear ds dp tl q0 d2 cj da cs
 go_upto_region 5 with (first | (refine aS #[MO i5,MO i6] (b:=L.heap.size) E3.o fP rfl rfl rfl rfl ?_) | (refine aJ (LP _ _) fP rfl rfl rfl rfl rfl rfl rfl ?_;intro W4 e4 k4;obtain ⟨E4,K4⟩:=ae e4 (aU k4);clear e4 k4))
 have y0:W4.cell? (ar L.heap.size 0)=some (MO 1):=LQ W4 _ 0 _ _ _ (sb E3.o _ K4.o)
 have bs:=aa (bt K3.o K4.o);have bf:=aa (H.bx _ bs.o).1;have dc:=aa (sb E3.o _ K4.o)
 go_upto_region 8 with (first | (refine aS #[.slice A i.cfg.sizes.length c,MO i.cfg.shift,MO i.cfg.rate,MO i.cfg.mom,MO i.cfg.workers,MO i.cfg.batch,MO i.cfg.micros,MO i.cfg.steps,MO i.cfg.bucket,MO i.cfg.chunk,MO i.cfg.window,MO i.cfg.cap] (b:=w.heap.size) bf.o yF rfl rfl rfl rfl ?_) | (refine aJ (LP _ _) yF rfl rfl rfl rfl rfl rfl rfl ?_;intro O e5 k5;obtain ⟨E5,K5⟩:=ae e5 (aU k5);clear e5 k5))
 have a9:=aa (bt bs.o K5.o)
 have a2:=H.K.trans (a9.o.mono H.K.size)
 have q5:=(br O).drew
 have kM:=fun p (q:aq O p)=>sb (sb bf.o _ K5.o) p q
 have kX:=fun p (q:aq O p)=>sb (sb dc.o _ K5.o) p q
 have cy:∀p,aq O p->p.cell? (ar w.heap.size 15)=some (MO (x:Nat)):=fun p q=>LQ p _ 15 _ _ _ (kM p q)
 have x1:∀p,aq O p->p.cell? (ar L.heap.size 1)=some (MO (st:Nat)):=fun p q=>by rw [<-d8.o];exact LQ p _ 1 _ _ _ (kX p q)
 have x2:∀p,aq O p->p.cell? (ar L.heap.size 2)=some (MO (a:Nat)):=fun p q=>by rw [<-dG.o];exact LQ p _ 2 _ _ _ (kX p q)
 have c4:∀p,aq O p->p.cell? (ar W4.heap.size 4)=some (MO i.cfg.workers):=fun p q=>LQ p _ 4 _ _ _ (sb E5.o p q)
 have c6:∀p,aq O p->p.cell? (ar W4.heap.size 6)=some (MO i.cfg.micros):=fun p q=>LQ p _ 6 _ _ _ (sb E5.o p q)
 have hg:=H.s'.g
 have ee:1<=i.cfg.batch:=by have:=hg.c.w;have:=hg.c.ba;omega
 have eW:((i.cfg.workers.toNat:Nat):Int)=i.cfg.workers:=by have:=hg.c.w;omega
 have eM:((i.cfg.micros.toNat:Nat):Int)=i.cfg.micros:=by have:=hg.c.mi;omega
 have eB:((i.cfg.batch.toNat:Nat):Int)=i.cfg.batch:=ap
 have eS:((i.cfg.steps.toNat:Nat):Int)=i.cfg.steps:=by have:=hg.c.st;omega
 have U:=fun p (q:aq O p)=>H.hI.below (a2.trans (q.mono a2.size))
 have bn:=fun p (q:aq O p)=>vW A c D cd T ct R cr i p hg (U p q).r (U p q).rl (U p q).ru
 have Z:=fun p A' c' (hA:dA zg 1 p A' (iS i.draws i.data.length (epI i)))=>yQ i.data.length i.cfg.batch.toNat i.cfg.steps.toNat st i.cfg.workers.toNat x i.cfg.micros.toNat a (epI i) c' A' i.draws p hA rfl ap (by have:=hg.b;omega) hg.b.2 (by have:=hg.c.st;omega) cO (by have:=hg.c.w;omega) (by have:=hg.c.ba;omega) dk (by have:=hg.c.mi;omega) (by have:=hg.c.mi;omega) ha
 rw [eW,eM,eB,eS] at Z
 have C:=xj hg x st a
 have a5:ij (dx i.draws i.data.length i.cfg.batch.toNat st) i.cfg.workers.toNat x i.cfg.micros.toNat a=oN i x st a:=rfl
 rw [a5] at Z
 have Q:=Jd hg x st a
 obtain ⟨B,I⟩:∃B,oN i x st a=B:=⟨_,rfl⟩
 rw [I] at Z C Q
 obtain ⟨dT,cw,av,bh,dr,aR,KM,N⟩:=ak bn Z C I U Q kM a2;clear bn Z C I a5 U Q kM kX eW eM eB eS a2 y0
 refine HA.g (fun p:World=>aq O p) ?_
 refine HA.t ?_ [0,3,4,5,6,7,8,9,10,11,12] q5 ?_
 refine HA.ld 1 (aO A c D cd T ct R cr i) (fun p q=>KM.o p q) ib q5 ?_
 refine HA.c 2 (dT.o _ q5) ?_
 rintro e w6 ⟨A6,cn,rfl,⟨ec,o6⟩,k6⟩
 have q6:=q5.trans (k6.mono q5.size)
 refine ⟨_,rfl,q6,fun _=>?_⟩
 refine HA.c 13 (cw.o w6 A6 cn (o6.rd hg.b.2)) ?_
 rintro e w7 ⟨A7,c7,rfl, -,r7,k7⟩
 have q7:=q6.trans (k7.mono q6.size)
 refine ⟨_,rfl,q7,fun _=>?_⟩
 refine HA.t ?_ [14] q7 ?_
 refine HA.d ?_
 have q8:aq O w7.drew:=q7.drew
 have a1:=dr.o w7 q7
 have a4:=N.o.trans (q7.mono N.o.size)
 have ao:=H.hP.below a4
 have bN:=wg A c D cd T ct R cr i PA A7 m.P B i.start.length pc c7 w7 a1.c.hr (by have:=a1.c;exact this.hc) a1.d hg ao.hr H.Pl hg.s.symm ao.hw r7 (by have:=aR.o;omega)
 have a3:=KM.o w7 q7
 have d5:=LQ w7 w.heap.size 16 _ _ _ a3
 have e6:=LN a3
 obtain ⟨cv,bM,Q7⟩:=af bN a3 q7;clear q5 q6 q7 q8 k6 k7 o6 r7 cy x1 x2 c4 c6 bN a3 a1 ao a4
 go_wp2_with (refine aS (aO A c D cd T ct R cr i) (b:=w.heap.size) bM.o ib rfl rfl rfl rfl ?_)
 refine cv.o.mono ?_
 rintro e w8 ⟨k8,⟨-,v8,rfl,o8⟩ | ⟨cA, -⟩⟩
 rotate_left
 ·exact absurd av.o cA
 obtain ⟨A8,c8,rfl, -⟩:=aD o8
 have a0:=sb bM.o _ k8
 have cx:=LQ w8 w.heap.size 18 _ _ _ a0
 have bl:=LX w8 w.heap.size 18 _ _ a0
 have d4:=LN a0
 have q8:=Q7.o.trans (k8.mono Q7.o.size)
 have a7:=N.o.trans (q8.mono N.o.size)
 have ab:(eg i m.P (dK i.data B)).length=i.start.length:=by rw [iG,hg.s]
 rw [<-hg.s] at o8 ⊢
 have aM:=wC GA A8 m.G (eg i m.P (dK i.data B)) i.start.length i.start.length gc c8 0 true w8 (H.hG.below a7).hr (Rd.own o8) H.Gl ab (by have:=H.s'.n;omega) ap
 rw [show ((0:Nat):Int)=0 from rfl] at aM
 obtain ⟨d9,d7,Q8,e1⟩:=ag aM a0 q8 ab;clear aM a0 o8 k8 q8 a7 d5 e6 ab
 go_wp2_with fail
 refine d9.o.mono ?_
 rintro e w9 ⟨A9,c9,rfl,o9,k9⟩
 have Y:=sb d7.o _ k9
 have cf:=LQ w9 w.heap.size 18 _ _ _ Y
 have bl:=LX w9 w.heap.size 18 _ _ Y
 have e0:=LN Y
 have aP:=Q8.o.trans (k9.mono Q8.o.size)
 have a6:=N.o.trans (aP.mono N.o.size)
 have bO:=a6
 have eG:kh m.G 0 (eg i m.P (dK i.data B)) true=ez i m.P m.G (dK i.data B):=by rw [HE (by rw [e1.o,H.Gl]),zM H.hG.hw (by rw [H.Gl,hg.s])]
 rw [eG] at o9
 obtain ⟨O9,d3,bb,e2,e7⟩:=ah o9 Y bO aP eG;clear o9 Y bO a6 cx d4 k9 aP eG
 go_upto_region 28 with (fail)
 have J:=ss (i:=18) (v:=.slice A9 i.start.length c9) d3.o rfl
 have kk:Keep (fun k=>k=w.heap.size) w9 (w9.setCell (ar w.heap.size 18) (.slice A9 i.start.length c9)):=Keep.setCell (S:=fun k=>k=w.heap.size) (Keep.refl _ _) _ (.inr rfl) _
 obtain ⟨V,hV⟩:∃V,w9.setCell (ar w.heap.size 18) (.slice A9 i.start.length c9)=V:=⟨_,rfl⟩
 rw [hV] at J kk ⊢
 have a8:=bt a9.o e2.o
 have hb:=fun {b:Nat} {o:Obj} (h:L.heap[b]?=some o) (hne:b≠w.heap.size)=>(kk.block b (LN (sb h _ a8)) hne).trans (sb h _ a8)
 have bd:=hb (H.bx _ (br L)).2.1 ap
 have bG:=hb (H.bx _ (br L)).2.2.1 ap
 have b9:=hb (H.bx _ (br L)).2.2.2.1 ap
 have bz:=hb (H.bx _ (br L)).2.2.2.2.1 ap
 have bV:=hb (H.bx _ (br L)).2.2.2.2.2 ap
 have bA:=bb.o.trans (kk.toBelow bb.o.size (fun j hj=>by rw [hj];exact LO _))
 have cc:=aa kk
 have ea:w.heap.size+6<=L.heap.size:=by have:=LN (H.bx _ (br L)).2.2.2.2.2;omega
 have HO:=aa (aE O9.o (show w.heap.size+6<=w8.heap.size by have:=a9.o.size;have:=Q8.o.size;omega));clear hV cf bl e0 kk hb a8
 have cY:=LQ V w.heap.size 21 _ _ _ J
 have bX:=LX V w.heap.size 21 _ _ J
 have lM:=LN J
 have d0:=H.wd
 have e9:=ss (i:=21) (v:=MO ((dn:Int)+1)) J rfl
 have k9:Keep (fun k=>k=w.heap.size) V (V.setCell (ar w.heap.size 21) (MO ((dn:Int)+1))):=Keep.setCell (S:=fun k=>k=w.heap.size) (Keep.refl _ _) _ (.inr rfl) _
 obtain ⟨E9,K9,cL,cP,d6,d1,cl,dv⟩:=ak e9 k9 bd bG b9 bz bV bA;clear e9 k9 bd bG b9 bz bV bA J
 go_upto_region 29 with (fail)
 obtain ⟨V9,b7⟩:∃V9,V.setCell (ar w.heap.size 21) (MO ((dn:Int)+1))=V9:=⟨_,rfl⟩
 rw [b7] at E9 K9 ⊢
 clear b7 cY bX lM d0
 obtain ⟨b1,b2,b3,b4,b5⟩:=uj K9.o cL.o cP.o d6.o d1.o cl.o
 have hq:aq V9 V9.drew:=(br V9).drew
 refine HA.g (KB3 w.heap.size V9) ?_
 refine HA.ld3 (vs:=#[.slice A i.cfg.sizes.length c,MO i.cfg.shift,MO i.cfg.rate,MO i.cfg.mom,MO i.cfg.workers,MO i.cfg.batch,MO i.cfg.micros,MO i.cfg.steps,MO i.cfg.bucket,MO i.cfg.chunk,MO i.cfg.window,MO i.cfg.cap,.slice D i.data.length cd,.slice T i.start.length ct,.slice R i.draws.length cr,MO (x:Nat),.slice PA i.start.length pc,.slice MA i.start.length mc,.slice A9 i.start.length c9,.slice SA m.rc.length sc,.slice (some (ar bI oI)) il ic,MO (dn+1)]) E9.o b1 b2 dO bP bP (Keep.below hq) ?_
 refine HA.st3 3 4 5 b3 b4 b5 dO bP bP hq (fun w8 r3 r4 e8 q8=>?_)
 refine HA.t ?_ [6] q8 ?_
 refine HA.d ?_
 obtain ⟨R3,R4,R5⟩:=af r3 r4 e8
 have F:=jV K9.o q8 dv.o
 obtain ⟨co,QW⟩:=ae F.1 F.2;clear b1 b2 b3 b4 b5 e8 q8 r3 r4 hq F
 go_wp2_with fail
 refine L7 (fk rfl rfl rfl rfl R3.o R4.o R5.o dO bP bP) rfl ?_
 have oF:=co.o.own (cc.o.own HO.o (fun j hj e=>by have:=(HO.o.lt j hj).1;omega)) (fun j hj e=>by have:=(HO.o.lt j hj).1;omega)
 have ci:=aD oF
 have dw:cH (aF S w8) A9 (ez i m.P m.G (dK i.data B)) c9:=by
  obtain ⟨A',c',e',eb⟩:=ci
  simp only [MC] at e'
  have hl:=lC (i:=i) (P:=m.P) (n:=i.start.length) (dK i.data B) m.G H.Gl
  have:=H.s'.n
  exact ⟨by omega,by omega,iE oF (fun k hk=>by have:=H.S' k hk;omega),rY _ _ _ H.hG.hw _⟩
 have hX:Ext (aF S w) (aF S w8):=bE (Keep.below QW.o) (fun _ _ h=>h)
 obtain ⟨b6,bi,bw,be⟩:=H1.o
 exact ⟨_,_,_,rfl,rfl,rfl,⟨A,c,D,cd,T,ct,R,cr,PA,pc,MA,mc,A9,c9,SA,sc,some (ar bI oI),ic,by rw [H.il',cb.o,be];push_cast;rfl,fu H.I0 hX,by rw [b6];exact bH H.P0 hX,by rw [bi];exact bH H.M0 hX,by rw [bw];exact bh.o▸dw,by rw [be];exact eA cJ H.R0 hX,aV H.It0 hX,by rw [b6];exact H.Pl,by rw [bi];exact H.Ml,by rw [bw];exact (lC (i:=i) (P:=m.P) (n:=i.start.length) _ m.G H.Gl)⟩,⟨B1,c1,rfl,cV H.s0 hX,H.s2⟩,⟨B2,c2,rfl,cV H.t0 hX,H.t2⟩,QW.o⟩
theorem iO.at_ {w:World} {A:Option Addr} {ms:List Msg} (h:iO w A ms) (j:Nat) (B:j<ms.length):
  ∃b o i p,A=some (ar b o)/\qb w b (o+j*6) (aK ms j).tag (.slice i (aK ms j).vals.length p)/\Rd w i (aA .i64 (aK ms j).vals):=by
 obtain ⟨rows,h1,I,H,C⟩:=h
 obtain ⟨i,p,e,hr⟩:=C j B
 have y:∀t,t<6->(List.flatten rows)[j*6+t]?=((aK ms j).tag.cells++[Value.slice i (aK ms j).vals.length p])[t]?:=fun t v=>by
  rw [mr H j t ap v,e]
 obtain ⟨b,o,rfl,c0⟩:=h1 (j*6+0) _ (y 0 ap)
 have hc:∀t u,t<6->((aK ms j).tag.cells++[Value.slice i (aK ms j).vals.length p])[t]?=some u->w.cell? (ar b (o+j*6+t))=some u:=fun t u v D=>by
  obtain ⟨J,L,x,c⟩:=h1 (j*6+t) u ((y t v).trans D)
  injection x with x;injection x with e1 e2 _
  subst e1;subst e2
  rw [MG];exact c
 exact ⟨b,o,i,p,rfl,⟨hc 0 _ ap rfl,hc 1 _ ap rfl,hc 2 _ ap rfl,hc 3 _ ap rfl,hc 4 _ ap rfl,hc 5 _ ap rfl⟩,hr⟩
theorem fz.at_ {V w:World} {A:Option Addr} {ms:List Msg} (h:fz V w A ms) (j:Nat) (B:j<ms.length):
  ∃b o i p,A=some (ar b o)/\qb w b (o+j*6) (aK ms j).tag (.slice i (aK ms j).vals.length p)/\Rd V i (aA .i64 (aK ms j).vals):=by
 obtain ⟨rows,h1,I,H,C⟩:=h
 obtain ⟨i,p,e,hr⟩:=C j B
 have y:∀t,t<6->(List.flatten rows)[j*6+t]?=((aK ms j).tag.cells++[Value.slice i (aK ms j).vals.length p])[t]?:=fun t v=>by
  rw [mr H j t ap v,e]
 obtain ⟨b,o,rfl,c0⟩:=h1 (j*6+0) _ (y 0 ap)
 have hc:∀t u,t<6->((aK ms j).tag.cells++[Value.slice i (aK ms j).vals.length p])[t]?=some u->w.cell? (ar b (o+j*6+t))=some u:=fun t u v D=>by
  obtain ⟨J,L,x,c⟩:=h1 (j*6+t) u ((y t v).trans D)
  injection x with x;injection x with e1 e2 _
  subst e1;subst e2
  rw [MG];exact c
 exact ⟨b,o,i,p,rfl,⟨hc 0 _ ap rfl,hc 1 _ ap rfl,hc 2 _ ap rfl,hc 3 _ ap rfl,hc 4 _ ap rfl,hc 5 _ ap rfl⟩,hr⟩
theorem vd (cap:Nat) (A:Option Addr) (n c r:Nat) (pk:Int) (x:Array Value) (w:World) (hr:r<=n) (hn:n<=100000000000) (u:r+cap<=n):
  Calls prog 135 #[.agg #[MO cap,.slice A n c,MO r,MO pk],.agg x] w fun e i=>e=.returned (.tuple #[.agg #[MO cap,.slice A n c,MO r,MO pk],MO 11])/\aq w i:=by
 have h:=fun W=>pL cap A n c r pk W ap ap
 have p:=aa h;clear h
 go_enter func135,ntmps135
 go_wp2_with fail
 go_region_held3 (fun i=>i.cell? ⟨w.heap.size,0,none⟩=some (MO (cap:Int))/\i.cell? ⟨w.heap.size,1,none⟩=some (.slice A n c)/\i.cell? ⟨w.heap.size,2,none⟩=some (MO (r:Int))/\i.cell? ⟨w.heap.size,3,none⟩=some (MO pk)) (simp [go_sem,World.cell?_alloc_past, *])
  ((go_at_call 166;refine (p.o _).mono ?_;rintro e i ⟨rfl,rfl⟩))
 go_wp2_with fail
 refine L7 (v:=.tuple #[.agg #[MO cap,.slice A n c,MO r,MO pk],MO 11]) (by simp [results,results135,go_sem,World.cell?_alloc_past]) rfl ⟨rfl,?_⟩
 exact am
theorem sU (cap:Int) (A:Option Addr) (n c:Nat) (pk:Int) (t:Tg) (w:World) (hn:n<=100000000000):
  Calls prog 136 #[.agg #[MO cap,.slice A n c,MO n,MO pk],.agg #[MO t.a,MO t.b,MO t.c,MO t.d,MO t.e]] w fun e p=>
   e=.returned (.tuple #[.agg #[MO cap,.slice A n c,MO n,MO pk],.agg MW,MO 12])/\aq w p:=by
 have h:=fun W=>pL cap A n c n pk W ap ap
 rw [Int.sub_self] at h
 have i:=aa h;clear h
 go_enter func136,ntmps136
 go_wp2_with fail
 refine (i.o _).mono ?_
 rintro e u ⟨rfl,rfl⟩
 go_wp2_with fail
 refine L7 (v:=.tuple #[.agg #[MO cap,.slice A n c,MO n,MO pk],.agg MW,MO 12]) (by simp [results,results136,go_sem,World.cell?_alloc_past]) rfl ⟨rfl,?_⟩
 exact am
theorem ww (cap:Int) (A:Option Addr) (ms:List Msg) (c r:Nat) (pk:Int) (t:Tg) (w:World) (h:iO w A ms) (u:r<ms.length) (hn:ms.length<=100000000000) (p:(aK ms r).tag≠t):
  Calls prog 136 #[.agg #[MO cap,.slice A ms.length c,MO r,MO pk],.agg #[MO t.a,MO t.b,MO t.c,MO t.d,MO t.e]] w fun e N=>
   e=.returned (.tuple #[.agg #[MO cap,.slice A ms.length c,MO r,MO pk],.agg MW,MO 10])/\aq w N:=by
 obtain ⟨t0,t1,t2,t3,t4⟩:=t
 obtain ⟨b,o,B,d,hA,Y,hB⟩:=h.at_ r u
 have i:=fun W=>pL cap A ms.length c r pk W ap ap
 obtain ⟨D,x⟩:∃D:Int,(ms.length:Int)-r=D:=⟨_,rfl⟩
 rw [x] at i
 have R:(D==0)=false:=by simp;omega
 generalize aK ms r=m at *
 obtain ⟨⟨u0,u1,u2,u3,u4⟩,zs⟩:=m
 obtain ⟨H,Q,O,I,L,J⟩:=Y
 dsimp only at H Q O I L J hB p ⊢
 have hb:b<w.heap.size:=az H
 have V:b<w.heap.size+1:=ap
 have T:b<w.heap.size+1+1:=ap
 have Z:b<w.heap.size+1+1+1:=ap
 have U:b<w.heap.size+1+1+1+1:=ap
 subst hA
 obtain ⟨C,HD⟩:=ae i x;clear i x h;have y:=aa p;clear p
 go_enter func136,ntmps136
 go_wp2_with fail
 refine (C.o _).mono ?_
 rintro e w1 ⟨rfl,rfl⟩
 go_wp2_with fail
 ·exact absurd (by simp only [*]) y.o
 all_goals
  refine L7 (v:=.tuple #[.agg #[MO cap,.slice (some (ar b o)) ms.length c,MO r,MO pk],.agg MW,MO 10]) (by simp [results,results136,go_sem,World.cell?_alloc_past]) rfl ⟨rfl,?_⟩
  exact am
theorem yY (V:World) (cap:Int) (A:Option Addr) (ms:List Msg) (c r:Nat) (pk:Int) (t:Tg) (w:World) (h:fz V w A ms) (p:r<ms.length) (hn:ms.length<=100000000000) (u:(aK ms r).tag=t):
  Calls prog 136 #[.agg #[MO cap,.slice A ms.length c,MO r,MO pk],.agg #[MO t.a,MO t.b,MO t.c,MO t.d,MO t.e]] w fun e N=>
   ∃C Q,e=.returned (.tuple #[.agg #[MO cap,.slice A ms.length c,MO ((r+1:Nat):Int),MO pk],.agg #[MO t.a,MO t.b,MO t.c,MO t.d,MO t.e,.slice C (aK ms r).vals.length Q],MO 0])/\Rd V C (aA .i64 (aK ms r).vals)/\aq w N:=by
 subst u
 obtain ⟨b,o,B,d,hA,x1,hB⟩:=h.at_ r p
 have i:=fun W=>pL cap A ms.length c r pk W ap ap
 obtain ⟨D,x⟩:∃D:Int,(ms.length:Int)-r=D:=⟨_,rfl⟩
 rw [x] at i
 have a0:(D==0)=false:=by simp;omega
 generalize aK ms r=m at *
 obtain ⟨⟨T,Y,R,Z,U⟩,zs⟩:=m
 obtain ⟨H,p1,O,I,L,J⟩:=x1
 dsimp only at H p1 O I L J hB ⊢
 have hb:b<w.heap.size:=az H
 have a3:b<w.heap.size+1:=ap
 have a1:b<w.heap.size+1+1:=ap
 have a4:b<w.heap.size+1+1+1:=ap
 have a2:b<w.heap.size+1+1+1+1:=ap
 subst hA
 obtain ⟨y,HD⟩:=ae i x;clear i x h
 go_enter func136,ntmps136
 go_wp2_with fail
 refine (y.o _).mono ?_
 rintro e w1 ⟨rfl,rfl⟩
 go_wp2_with fail
 go_region
 all_goals go_wp2_with fail
 all_goals
  refine L7 (v:=.tuple #[.agg #[MO cap,.slice (some (ar b o)) ms.length c,MO ((r:Int)+1),MO pk],.agg #[MO T,MO Y,MO R,MO Z,MO U,.slice B zs.length d],MO 0]) (by simp [results,results136,go_sem,World.cell?_alloc_past]) rfl ⟨B,d,by rw [Int.natCast_add];rfl,hB,?_⟩
  exact am
theorem Fi {w:World} {vs:Array Value} {i:Inp} {x:Nat} {m:Mst} {s t:LSt} {u v:Array Value} {S:Nat->Prop} (hS:∀k,S k->k<w.heap.size) (h:fY (aF S w) vs i x m) (hu:RL (aF S w) u s) (hv:RL (aF S w) v t) (hs:cK i) {y:Itm} (O:(dQ i x)[bD i x m]?=some y) (k1 k2:Int) (b0 b1:Bool) (i0 i1 i2 i3 i4 i5 i6:Int) (bn:bq y=[MO 3,MO k1,MO k2,.bool b0,.bool b1,MO i0,MO i1,MO i2,MO i3,MO i4,MO i5,MO i6]) (lo Q:Nat) (be:i5=(lo:Nat)) (bb:i6=(Q:Nat)) (d4:lo<Q) (d7:Q<=i.start.length) (aP:t.recv<=t.msgs.length) (a2:t.msgs.length<=100000000000) (a3:t.msgs.length<t.recv+t.cap)
  (m1:Mst) (h1:m1.P=m.P/\m1.M=m.M/\m1.G=m.G/\m1.rc=m.rc) (aM:bD i x m1=bD i x m+1):
  Calls prog 89 #[.agg vs,.agg u,.agg v] w (fun e p=>nj S i x m1 (s) (t.send ⟨⟨i0,i1,i2,i3,i4⟩,(m.G.drop lo).take (Q-lo)⟩) 0 w e p):=by
 obtain ⟨c7,bV⟩:=ae be bb;clear be bb
 obtain ⟨A,c,D,cd,T,ct,R,cr,PA,pc,MA,mc,GA,gc,SA,sc,bI,oI,ic,B1,c1,B2,c2,dn,il,W0,rfl,rfl,rfl,H⟩:=jW hS h hu hv hs O
 have av:=H.rw'
 rw [bn] at av
 rw [H.dn'] at aM
 obtain ⟨cj,H1,bO⟩:=af av h1 aM
 obtain ⟨cP,cO,tl,cv,c6,cM,cf⟩:=H.loc
 have q0:=br W0
 clear h hu hv hs O bn hS h1 aM av
 go_enter func89,ntmps89
 go_upto_region 1 with (fail)
 rw [H.eW]
 go_upto_region 4 with (first | (refine jN cj.o iR rfl rfl rfl ?_) | (refine aJ (LP _ _) iR rfl rfl rfl rfl rfl rfl rfl ?_;intro W3 e3 k3;obtain ⟨E3,K3⟩:=ae e3 (aU k3);clear e3 k3))
 clear cP cO tl q0 cv c6 cM cf
 go_upto_region 5 with (first | (refine aS #[MO i5,MO i6] (b:=W0.heap.size) E3.o fP rfl rfl rfl rfl ?_) | (refine aJ (LP _ _) fP rfl rfl rfl rfl rfl rfl rfl ?_;intro B e4 k4;obtain ⟨E4,K4⟩:=ae e4 (aU k4);clear e4 k4))
 have y0:B.cell? (ar W0.heap.size 0)=some (MO 3):=LQ B _ 0 _ _ _ (sb E3.o _ K4.o)
 have a6:=aa (bt K3.o K4.o)
 go_upto_region 12 with (fail)
 have cw:=aa (H.bx _ a6.o).1;have bi:=aa (H.bx _ a6.o).2.2.1;have cL:=aa (sb E3.o _ K4.o)
 have a7:=H.K.trans (a6.o.mono H.K.size)
 have d3:Q<=gc:=by have:=H.hG.hc;have:=H.Gl;omega
 obtain ⟨gb,go,rfl, -⟩:=H.hG.hr.num (show 0<m.G.length by have:=H.Gl;omega)
 have U:=(br B).drew
 have aG:∀p,aq B p->p.cell? (ar w.heap.size 18)=some (.slice (some (ar gb go)) i.start.length gc):=fun p q=>LQ p _ 18 _ _ _ (sb cw.o p q)
 have x0:∀p,aq B p->p.cell? (ar W3.heap.size 0)=some (MO (lo:Nat)):=fun p q=>by rw [<-c7.o];exact LQ p _ 0 _ _ _ (sb E4.o p q)
 have x1:∀p,aq B p->p.cell? (ar W3.heap.size 1)=some (MO (Q:Nat)):=fun p q=>by rw [<-bV.o];exact LQ p _ 1 _ _ _ (sb E4.o p q)
 have da:(lo:Int)<=Q:=ap
 have d9:(Q:Int)<=gc:=ap
 have d0:lo<=Q:=ap
 have d1:¬gc=lo:=ap
 have ad:((m.G.drop lo).take (Q-lo)).length=Q-lo:=by have:=H.Gl;rw [Mt,Mw];omega
 have b7:Rd (aF S w) (some (ar gb (go+lo))) (aA .i64 ((m.G.drop lo).take (Q-lo))):=by
  have:=(H.G0.hr.drop lo).take (Q-lo)
  rwa [dm,de] at this
 have a8:=fun p (q:aq B p)=>IV (aF S w) t.cap B2 t.msgs c2 t.recv t.peak ⟨i0,i1,i2,i3,i4⟩ (some (ar gb (go+lo))) ((m.G.drop lo).take (Q-lo)) (gc-lo) p aP a2 a3 (rL H.t0.in_ (gH (Keep.below (a7.trans (q.mono a7.size))))) b7
 rw [ad] at a8
 unfold BK at a8
 obtain ⟨bG,cx⟩:=ae a8 a7;clear a8 b7 ad a7 y0 aP a2 a3
 go_cut [16,17] (fun v cc wx=>∃J I c5,v=(au J)/\cc=MO 0/\wx.heap[J]?=some (.cells #[MO (t.cap:Nat),.slice I (t.msgs.length+1) c5,MO (t.recv:Nat),MO ((max t.peak (t.msgs.length+1-t.recv):Nat):Int)] 75 (0,0))/\fz (aF S w) wx I (t.msgs++[⟨⟨i0,i1,i2,i3,i4⟩,(m.G.drop lo).take (Q-lo)⟩])/\t.msgs.length+1<=c5/\(∀y,I=some y->B.heap.size<=y.block)/\aq B wx)
 case first=>
  refine HA.g (fun p:World=>aq B p) ?_
  refine HA.ld 0 #[MO (t.cap:Nat),.slice B2 t.msgs.length c2,MO (t.recv:Nat),MO (t.peak:Nat)] (fun p q=>sb bi.o p q) bP U ?_
  refine HA.t ?_ [1,2,4,5,6,7,8,9,10] U ?_
  refine HA.ld 3 #[MO i0,MO i1,MO i2,MO i3,MO i4] (fun p q=>sb cL.o p q) no U ?_
  refine HA.t ?_ [11] U ?_
  refine HA.two 12 16 ?_ ?_
  ·refine HAS.c (bG.o _ U) ?_
   rintro e w5 ⟨I,c5,P5,a1,rfl,⟨L,N,C⟩,k5⟩
   have Y:=U.trans (k5.mono U.size)
   refine ⟨_,rfl,Y,fun _=>?_⟩
   refine HA.t ?_ [13,14,15] Y ?_
   refine HA.v 16 (w5.alloc (.cells #[MO 0,MP,MO 0,MO 0] 75)) ((au w5.heap.size)) (Y.alloc Y.size _) ?_
   refine HA.st 17 (LP w5 _) bP (fun w6 e6 k6=>?_)
   have Z:=Y.trans ((aU k6).mono Y.size)
   refine ⟨Z,?_⟩
   refine HA.t ?_ [18] Z ?_
   refine HA.d ?_
   have a5:w6.heap[w5.heap.size]?=some (.cells #[MO (t.cap:Nat),.slice I (t.msgs.length+1) c5,MO (t.recv:Nat),MO ((max t.peak (t.msgs.length+1-t.recv):Nat):Int)] 75 (0,0)):=(by first | exact e6 | (rw [a1] at e6;simpa using e6))
   have HF:=aa (LW a5 (LW (show fz (aF S w) w6 I _ from by obtain ⟨rows,z1,z2,z3,z4⟩:=L;exact ⟨rows,z1.below (aU k6),z2,z3,z4⟩) (LW (show t.msgs.length+1<=c5 by simpa using N) (LW (show ∀y,I=some y->B.heap.size<=y.block from fun y O=>by have:=C y O;rwa [MB] at this) Z))));clear e6 a5 k6 Z Y U k5 L C N a1 aG x0 x1
   go_wp2_with fail
   go_meet
   exact ⟨_,I,c5,rfl,rfl,HF.o⟩
  ·refine HAS.v (B.drew.alloc (.cells #[MO 0,MP,MO 0,MO 0] 75)) ((au B.drew.heap.size)) (U.alloc U.size _) ?_
   have gA:=LP B.drew (.cells #[MO 0,MP,MO 0,MO 0] 75)
   have a4:=U.alloc U.size (.cells #[MO 0,MP,MO 0,MO 0] 75)
   have sA:(B.drew.alloc (.cells #[MO 0,MP,MO 0,MO 0] 75)).heap.size=B.drew.heap.size+1:=Mb _ _
   obtain ⟨wa,bA⟩:∃wa,B.drew.alloc (.cells #[MO 0,MP,MO 0,MO 0] 75)=wa:=⟨_,rfl⟩
   rw [bA] at gA a4 sA ⊢
   clear bA
   refine HA.c 12 (bG.o _ a4) ?_
   rintro e w5 ⟨I,c5,P5,a1,rfl,⟨L,N,C⟩,k5⟩
   have Y:=a4.trans (k5.mono a4.size)
   refine ⟨_,rfl,Y,fun _=>?_⟩
   refine HA.t ?_ [13,14,15] Y ?_
   have bf:=sb gA _ k5
   refine HA.st 17 bf bP (fun w6 e6 k6=>?_)
   have Z:=Y.trans (k6.toBelow Y.size (fun j hj=>by have e':j=B.drew.heap.size:=hj;rw [MB] at e';omega))
   refine ⟨Z,?_⟩
   refine HA.t ?_ [18] Z ?_
   refine HA.d ?_
   have a5:w6.heap[B.drew.heap.size]?=some (.cells #[MO (t.cap:Nat),.slice I (t.msgs.length+1) c5,MO (t.recv:Nat),MO ((max t.peak (t.msgs.length+1-t.recv):Nat):Int)] 75 (0,0)):=(by first | exact e6 | (rw [a1] at e6;simpa using e6))
   have HF:=aa (LW a5 (LW (L.keep k6 (fun y O hk=>by have:=C y O;have e':y.block=B.drew.heap.size:=hk;omega)) (LW (show t.msgs.length+1<=c5 by simpa using N) (LW (show ∀y,I=some y->B.heap.size<=y.block from fun y O=>by have:=C y O;rw [sA,MB] at this;omega) Z))));clear e6 a5 k6 Z Y U a4 k5 L C N a1 aG x0 x1 gA bf
   go_wp2_with fail
   go_meet
   exact ⟨_,I,c5,rfl,rfl,HF.o⟩
 case rest=>
 obtain ⟨J,I,c5,rfl,rfl,e6,L,N,C,Z⟩:=hcut
 obtain ⟨w6,rfl⟩:∃w6,w6=wc:=⟨_,rfl⟩
 obtain ⟨E6,Q6,bX,cb,cy⟩:=ah e6 Z L C N;clear e6 Z U L C N aG x0 x1
 have bs:=sb bi.o _ Q6.o
 go_upto_region 28 with (first | (refine aS #[MO (t.cap:Nat),.slice I (t.msgs.length+1) c5,MO (t.recv:Nat),MO ((max t.peak (t.msgs.length+1-t.recv):Nat):Int)] (b:=J) E6.o bP rfl rfl rfl rfl ?_) | (refine aJ bs bP rfl rfl rfl rfl rfl rfl rfl ?_;intro V eV kV;obtain ⟨EV,KV⟩:=ae eV kV;clear eV kV))
 have ab:=bt a6.o Q6.o
 have hb:=fun {b:Nat} {o:Obj} (h:W0.heap[b]?=some o) (hne:b≠w.heap.size+1+1)=>(KV.o.block b (LN (sb h _ ab)) hne).trans (sb h _ ab)
 have a0:=hb (H.bx _ (br W0)).1 ap
 have b9:=hb (H.bx _ (br W0)).2.1 ap
 have bz:=EV.o
 have b8:=hb (H.bx _ (br W0)).2.2.2.1 ap
 have bv:=hb (H.bx _ (br W0)).2.2.2.2.1 ap
 have bM:=hb (H.bx _ (br W0)).2.2.2.2.2 ap
 have a9:=H.K.trans (ab.mono H.K.size)
 have bw:=a9.trans (KV.o.toBelow a9.size (fun j hj=>ap))
 have d5:=aa a9;clear hb ab bs a9
 have cn:=LQ V w.heap.size 21 _ _ _ a0
 have bN:=LX V w.heap.size 21 _ _ a0
 have lM:=LN a0
 have co:=H.wd
 have e9:=ss (i:=21) (v:=MO ((dn:Int)+1)) a0 rfl
 have k9:Keep (fun k=>k=w.heap.size) V (V.setCell (ar w.heap.size 21) (MO ((dn:Int)+1))):=Keep.setCell (S:=fun k=>k=w.heap.size) (Keep.refl _ _) _ (.inr rfl) _
 obtain ⟨E9,K9,ci,cl,cA,cs,c8,cY⟩:=ak e9 k9 b9 bz b8 bv bM bw;clear e9 k9 b9 bz b8 bv bM bw a0
 go_upto_region 29 with (fail)
 obtain ⟨V9,b6⟩:∃V9,V.setCell (ar w.heap.size 21) (MO ((dn:Int)+1))=V9:=⟨_,rfl⟩
 rw [b6] at E9 K9 ⊢
 clear b6 cn bN lM co
 obtain ⟨b1,b2,b3,b4,b5⟩:=uj K9.o ci.o cl.o cA.o cs.o c8.o
 have hq:aq V9 V9.drew:=(br V9).drew
 refine HA.g (KB3 w.heap.size V9) ?_
 refine HA.ld3 (vs:=#[.slice A i.cfg.sizes.length c,MO i.cfg.shift,MO i.cfg.rate,MO i.cfg.mom,MO i.cfg.workers,MO i.cfg.batch,MO i.cfg.micros,MO i.cfg.steps,MO i.cfg.bucket,MO i.cfg.chunk,MO i.cfg.window,MO i.cfg.cap,.slice D i.data.length cd,.slice T i.start.length ct,.slice R i.draws.length cr,MO (x:Nat),.slice PA i.start.length pc,.slice MA i.start.length mc,.slice (some (ar gb go)) i.start.length gc,.slice SA m.rc.length sc,.slice (some (ar bI oI)) il ic,MO (dn+1)]) E9.o b1 b2 dO bP bP (Keep.below hq) ?_
 refine HA.st3 3 4 5 b3 b4 b5 dO bP bP hq (fun w8 r3 r4 e8 q8=>?_)
 refine HA.t ?_ [6] q8 ?_
 refine HA.d ?_
 obtain ⟨R3,R4,R5⟩:=af r3 r4 e8
 have F:=jV K9.o q8 cY.o
 obtain ⟨c9,QW⟩:=ae F.1 F.2;clear b1 b2 b3 b4 b5 e8 q8 r3 r4 hq F
 go_wp2_with fail
 refine L7 (fk rfl rfl rfl rfl R3.o R4.o R5.o dO bP bP) rfl ?_
 have hX:Ext (aF S w) (aF S w8):=bE (Keep.below QW.o) (fun _ _ h=>h)
 have d6:=Q6.o.size
 have d8:=cx.o.size
 have d2:=KV.o.size
 have bl:iO (aF S w8) I (t.msgs++[⟨⟨i0,i1,i2,i3,i4⟩,(m.G.drop lo).take (Q-lo)⟩]):=by
  obtain ⟨rows,z1,z2,z3,z4⟩:=bX.o
  have ao:∀y,I=some y->w.heap.size+6<=y.block:=fun y O=>by have:=cb.o y O;have:=LN (H.bx _ (br W0)).2.2.2.2.2;have:=a6.o.size;omega
  have zV:Rd w8 I (List.flatten rows):=c9.o.rd (KV.o.rd z1 (fun y O e=>by have:=ao y O;omega)) (fun y O e=>by have:=ao y O;omega)
  exact ⟨rows,lh zV (fun y O hs=>by have:=ao y O;have:=H.S' _ hs;omega),z2,z3,fun j hj=>by obtain ⟨A',c',e',r'⟩:=z4 j hj;exact ⟨A',c',e',aV r' hX⟩⟩
 have hX:Ext (aF S w) (aF S w8):=bE (Keep.below QW.o) (fun _ _ h=>h)
 obtain ⟨aR,bh,bo,bd⟩:=H1.o
 exact ⟨_,_,_,rfl,rfl,rfl,⟨A,c,D,cd,T,ct,R,cr,PA,pc,MA,mc,some (ar gb go),gc,SA,sc,some (ar bI oI),ic,by rw [H.il',bO.o,bd];push_cast;rfl,fu H.I0 hX,by rw [aR];exact bH H.P0 hX,by rw [bh];exact bH H.M0 hX,by rw [bo];exact bH H.G0 hX,by rw [bd];exact eA cJ H.R0 hX,aV H.It0 hX,by rw [aR];exact H.Pl,by rw [bh];exact H.Ml,by rw [bo];exact H.Gl⟩,⟨B1,c1,rfl,cV H.s0 hX,H.s2⟩,⟨I,c5,by simp [LSt.send],bl,(by have:=cy.o;simpa [LSt.send] using this)⟩,QW.o⟩
theorem Fk {w:World} {vs:Array Value} {i:Inp} {x:Nat} {m:Mst} {s t:LSt} {u v:Array Value} {S:Nat->Prop} (hS:∀k,S k->k<w.heap.size) (h:fY (aF S w) vs i x m) (hu:RL (aF S w) u s) (hv:RL (aF S w) v t) (hs:cK i) {y:Itm} (hy:(dQ i x)[bD i x m]?=some y) (k1 k2:Int) (b0 b1:Bool) (i0 i1 i2 i3 i4 i5 i6:Int) (b8:bq y=[MO 3,MO k1,MO k2,.bool b0,.bool b1,MO i0,MO i1,MO i2,MO i3,MO i4,MO i5,MO i6]) (lo Q:Nat) (b6:i5=(lo:Nat)) (aP:i6=(Q:Nat)) (c6:lo<Q) (c7:Q<=i.start.length) (ad:t.recv<=t.msgs.length) (N:t.msgs.length<=100000000000) (O:t.recv+t.cap<=t.msgs.length)
  (m1:Mst) (h1:m1.P=m.P/\m1.M=m.M/\m1.G=m.G/\m1.rc=m.rc) (a5:bD i x m1=bD i x m):
  Calls prog 89 #[.agg vs,.agg u,.agg v] w (fun e p=>nj S i x m1 (s) (t) 11 w e p):=by
 obtain ⟨bi,bf⟩:=ae b6 aP;clear b6 aP
 obtain ⟨A,c,D,cd,T,ct,R,cr,PA,pc,MA,mc,GA,gc,SA,sc,bI,oI,ic,B1,c1,B2,c2,dn,il,W0,rfl,rfl,rfl,H⟩:=jW hS h hu hv hs hy
 have a3:=H.rw'
 rw [b8] at a3
 rw [H.dn'] at a5
 obtain ⟨bn,H1,be⟩:=af a3 h1 a5
 obtain ⟨bG,bA,tl,bo,bh,bw,bl⟩:=H.loc
 have q0:=br W0
 clear h hu hv hs hy b8 hS h1 a5 a3
 go_enter func89,ntmps89
 go_upto_region 1 with (fail)
 rw [H.eW]
 go_upto_region 4 with (first | (refine jN bn.o iR rfl rfl rfl ?_) | (refine aJ (LP _ _) iR rfl rfl rfl rfl rfl rfl rfl ?_;intro W3 e3 k3;obtain ⟨E3,K3⟩:=ae e3 (aU k3);clear e3 k3))
 clear bG bA tl q0 bo bh bw bl
 go_upto_region 5 with (first | (refine aS #[MO i5,MO i6] (b:=W0.heap.size) E3.o fP rfl rfl rfl rfl ?_) | (refine aJ (LP _ _) fP rfl rfl rfl rfl rfl rfl rfl ?_;intro B e4 k4;obtain ⟨E4,K4⟩:=ae e4 (aU k4);clear e4 k4))
 have y0:B.cell? (ar W0.heap.size 0)=some (MO 3):=LQ B _ 0 _ _ _ (sb E3.o _ K4.o)
 have Y:=aa (bt K3.o K4.o)
 go_upto_region 12 with (fail)
 have bs:=aa (H.bx _ Y.o).1;have bv:=aa (H.bx _ Y.o).2.2.1;have bz:=aa (sb E3.o _ K4.o)
 have aG:=H.K.trans (Y.o.mono H.K.size)
 have bV:Q<=gc:=by have:=H.hG.hc;have:=H.Gl;omega
 obtain ⟨gb,go,rfl, -⟩:=H.hG.hr.num (show 0<m.G.length by have:=H.Gl;omega)
 have I:=(br B).drew
 have a4:∀p,aq B p->p.cell? (ar w.heap.size 18)=some (.slice (some (ar gb go)) i.start.length gc):=fun p q=>LQ p _ 18 _ _ _ (sb bs.o p q)
 have x0:∀p,aq B p->p.cell? (ar W3.heap.size 0)=some (MO (lo:Nat)):=fun p q=>by rw [<-bi.o];exact LQ p _ 0 _ _ _ (sb E4.o p q)
 have x1:∀p,aq B p->p.cell? (ar W3.heap.size 1)=some (MO (Q:Nat)):=fun p q=>by rw [<-bf.o];exact LQ p _ 1 _ _ _ (sb E4.o p q)
 have c9:(lo:Int)<=Q:=ap
 have cb:(Q:Int)<=gc:=ap
 have bN:lo<=Q:=ap
 have bO:¬gc=lo:=ap
 have ao:((m.G.drop lo).take (Q-lo)).length=Q-lo:=by have:=H.Gl;rw [Mt,Mw];omega
 have aM:=fun p=>vd t.cap B2 t.msgs.length c2 t.recv t.peak #[MO i0,MO i1,MO i2,MO i3,MO i4,.slice (some (ar gb (go+lo))) (Q-lo) (gc-lo)] p ad N O
 obtain ⟨bd,c8⟩:=ae aM aG;clear aM ao aG y0 ad N O
 go_cut [16,17] (fun v cc wx=>∃J,v=(au J)/\cc=MO 11/\aq B wx)
 case first=>
  refine HA.g (fun p:World=>aq B p) ?_
  refine HA.ld 0 #[MO (t.cap:Nat),.slice B2 t.msgs.length c2,MO (t.recv:Nat),MO (t.peak:Nat)] (fun p q=>sb bv.o p q) bP I ?_
  refine HA.t ?_ [1,2,4,5,6,7,8,9,10] I ?_
  refine HA.ld 3 #[MO i0,MO i1,MO i2,MO i3,MO i4] (fun p q=>sb bz.o p q) no I ?_
  refine HA.t ?_ [11] I ?_
  refine HA.two 12 16 ?_ ?_
  ·refine HAS.c (bd.o _) ?_
   rintro e w5 ⟨rfl,k5⟩
   have C:=I.trans (k5.mono I.size)
   refine ⟨_,rfl,C,fun _=>?_⟩
   refine HA.t ?_ [13,14,15] C ?_
   refine HA.v 16 (w5.alloc (.cells #[MO 0,MP,MO 0,MO 0] 75)) ((au w5.heap.size)) (C.alloc C.size _) ?_
   refine HA.st 17 (LP w5 _) bP (fun w6 e6 k6=>?_)
   have L:=C.trans ((aU k6).mono C.size)
   refine ⟨L,?_⟩
   refine HA.t ?_ [18] L ?_
   refine HA.d ?_
   have HF:=aa L;clear e6 k6 L C I k5 a4 x0 x1
   go_wp2_with fail
   go_meet
   exact ⟨_,rfl,rfl,HF.o⟩
  ·refine HAS.v (B.drew.alloc (.cells #[MO 0,MP,MO 0,MO 0] 75)) ((au B.drew.heap.size)) (I.alloc I.size _) ?_
   have gA:=LP B.drew (.cells #[MO 0,MP,MO 0,MO 0] 75)
   have U:=I.alloc I.size (.cells #[MO 0,MP,MO 0,MO 0] 75)
   obtain ⟨wa,bb⟩:∃wa,B.drew.alloc (.cells #[MO 0,MP,MO 0,MO 0] 75)=wa:=⟨_,rfl⟩
   rw [bb] at gA U ⊢
   clear bb
   refine HA.c 12 (bd.o _) ?_
   rintro e w5 ⟨rfl,k5⟩
   have C:=U.trans (k5.mono U.size)
   refine ⟨_,rfl,C,fun _=>?_⟩
   refine HA.t ?_ [13,14,15] C ?_
   refine HA.st 17 (sb gA _ k5) bP (fun w6 e6 k6=>?_)
   have L:=C.trans (k6.toBelow C.size (fun j hj=>by have e':j=B.drew.heap.size:=hj;rw [MB] at e';omega))
   refine ⟨L,?_⟩
   refine HA.t ?_ [18] L ?_
   refine HA.d ?_
   have HF:=aa L;clear e6 k6 L C I U k5 a4 x0 x1 gA
   go_wp2_with fail
   go_meet
   exact ⟨_,rfl,rfl,HF.o⟩
 case rest=>
 obtain ⟨J,rfl,rfl,L⟩:=hcut
 obtain ⟨w6,rfl⟩:∃w6,w6=wc:=⟨_,rfl⟩
 have Q6:=aa L;clear L I a4 x0 x1
 go_upto_region 14 with (fail)
 have a6:=bt Y.o Q6.o
 obtain ⟨a0,a2,a9,a1,a7,ab⟩:=H.bx _ a6
 have a8:=H.K.trans (a6.mono H.K.size)
 obtain ⟨V,hV⟩:∃V,w6=V:=⟨_,rfl⟩
 rw [hV] at a0 a2 a9 a1 a7 ab a8 ⊢
 clear hV a6
 obtain ⟨E9,bM,K9⟩:=af a0 a8 (Keep.refl (fun k=>k=w.heap.size) V);clear a0 a8
 have b1:=a2
 have b2:=a9
 have b3:=a1
 have b4:=a7
 have b5:=ab
 clear a2 a9 a1 a7 ab
 have hq:aq V V.drew:=(br V).drew
 refine HA.g (KB3 w.heap.size V) ?_
 refine HA.ld3 (vs:=#[.slice A i.cfg.sizes.length c,MO i.cfg.shift,MO i.cfg.rate,MO i.cfg.mom,MO i.cfg.workers,MO i.cfg.batch,MO i.cfg.micros,MO i.cfg.steps,MO i.cfg.bucket,MO i.cfg.chunk,MO i.cfg.window,MO i.cfg.cap,.slice D i.data.length cd,.slice T i.start.length ct,.slice R i.draws.length cr,MO (x:Nat),.slice PA i.start.length pc,.slice MA i.start.length mc,.slice (some (ar gb go)) i.start.length gc,.slice SA m.rc.length sc,.slice (some (ar bI oI)) il ic,MO (dn:Nat)]) E9.o b1 b2 dO bP bP (Keep.below hq) ?_
 refine HA.t ?_ [3] (Keep.below hq) ?_
 refine HA.st3 4 5 6 b3 b4 b5 dO bP bP hq (fun w8 r3 r4 e8 q8=>?_)
 refine HA.t ?_ [7] q8 ?_
 refine HA.d ?_
 obtain ⟨R3,R4,R5⟩:=af r3 r4 e8
 have F:=jV K9.o q8 bM.o
 obtain ⟨bX,QW⟩:=ae F.1 F.2;clear b1 b2 b3 b4 b5 e8 q8 r3 r4 hq F
 go_wp2_with fail
 refine L7 (fk rfl rfl rfl rfl R3.o R4.o R5.o dO bP bP) rfl ?_
 have Z:Ext (aF S w) (aF S w8):=bE (Keep.below QW.o) (fun _ _ h=>h)
 obtain ⟨av,b7,b9,aR⟩:=H1.o
 exact ⟨_,_,_,rfl,rfl,rfl,⟨A,c,D,cd,T,ct,R,cr,PA,pc,MA,mc,some (ar gb go),gc,SA,sc,some (ar bI oI),ic,by rw [H.il',be.o,aR],fu H.I0 Z,by rw [av];exact bH H.P0 Z,by rw [b7];exact bH H.M0 Z,by rw [b9];exact bH H.G0 Z,by rw [aR];exact eA cJ H.R0 Z,aV H.It0 Z,by rw [av];exact H.Pl,by rw [b7];exact H.Ml,by rw [b9];exact H.Gl⟩,⟨B1,c1,rfl,cV H.s0 Z,H.s2⟩,⟨B2,c2,rfl,cV H.t0 Z,H.t2⟩,QW.o⟩
theorem Fj {w:World} {vs:Array Value} {i:Inp} {x:Nat} {m:Mst} {s t:LSt} {u v:Array Value} {S:Nat->Prop} (hS:∀k,S k->k<w.heap.size) (h:fY (aF S w) vs i x m) (hu:RL (aF S w) u s) (hv:RL (aF S w) v t) (hs:cK i) {y:Itm} (hy:(dQ i x)[bD i x m]?=some y) (k1 k2:Int) (b0 b1:Bool) (i0 i1 i2 i3 i4 i5 i6:Int) (bz:bq y=[MO 4,MO k1,MO k2,.bool b0,.bool b1,MO i0,MO i1,MO i2,MO i3,MO i4,MO i5,MO i6]) (lo hi:Nat) (bn:i5=(lo:Nat)) (dT:lo<=hi) (e1:hi<=i.start.length) (L:s.msgs.length<=100000000000) (a5:s.recv<s.msgs.length) (bl:(aK s.msgs s.recv).tag=⟨i0,i1,i2,i3,i4⟩) (J:(aK s.msgs s.recv).vals.length=hi-lo) (a2:W64 (aK s.msgs s.recv).vals)
  (m1:Mst) (h1:m1.P=m.P/\m1.M=m.M/\m1.G=kh m.G lo (aK s.msgs s.recv).vals b1/\m1.rc=m.rc) (ad:bD i x m1=bD i x m+1):
  Calls prog 89 #[.agg vs,.agg u,.agg v] w (fun e w'=>nj S i x m1 ({s with recv:=s.recv+1}) (t) 0 w e w'):=by
 obtain ⟨co,bs⟩:=ae bn a2;clear bn a2
 obtain ⟨A,c,D,cd,T,ct,R,cr,PA,pc,MA,mc,GA,gc,SA,sc,bI,oI,ic,B1,c1,B2,c2,dn,il,O,rfl,rfl,rfl,H⟩:=jW hS h hu hv hs hy
 have a7:=H.rw'
 rw [bz] at a7
 rw [H.dn'] at ad
 obtain ⟨cA,H1,cb⟩:=af a7 h1 ad
 obtain ⟨dp,dk,tl,d0,cl,dc,cw⟩:=H.loc
 have q0:=br O
 clear h hu hv hs hy bz hS h1 ad a7
 go_enter func89,ntmps89
 go_upto_region 1 with (fail)
 rw [H.eW]
 go_upto_region 4 with (first | (refine jN cA.o iR rfl rfl rfl ?_) | (refine aJ (LP _ _) iR rfl rfl rfl rfl rfl rfl rfl ?_;intro W3 e3 k3;obtain ⟨E3,K3⟩:=ae e3 (aU k3);clear e3 k3))
 clear dp dk tl q0 d0 cl dc cw
 go_upto_region 5 with (first | (refine aS #[MO i5,MO i6] (b:=O.heap.size) E3.o fP rfl rfl rfl rfl ?_) | (refine aJ (LP _ _) fP rfl rfl rfl rfl rfl rfl rfl ?_;intro W4 e4 k4;obtain ⟨E4,K4⟩:=ae e4 (aU k4);clear e4 k4))
 have y0:W4.cell? (ar O.heap.size 0)=some (MO 4):=LQ W4 _ 0 _ _ _ (sb E3.o _ K4.o)
 have B:=aa (bt K3.o K4.o)
 go_upto_region 17 with (fail)
 have d2:=aa (H.bx _ B.o).1;have bX:=aa (H.bx _ B.o).2.1;have bv:=aa (sb E3.o _ K4.o)
 have a6:=H.K.trans (B.o.mono H.K.size)
 have a8:=yY (aF S w) s.cap B1 s.msgs c1 s.recv s.peak ⟨i0,i1,i2,i3,i4⟩ W4 (rL H.s0.in_ (gH (Keep.below a6))) a5 L bl
 rw [J] at a8
 obtain ⟨cn,a9,bN,e5⟩:=ag a8 a6 J a5;clear a8 a6 J bl L a5 y0
 go_wp2_with (first | (refine aS #[MO (s.cap:Nat),.slice B1 s.msgs.length c1,MO (s.recv:Nat),MO (s.peak:Nat)] (b:=w.heap.size+1) bX.o bP rfl rfl rfl rfl ?_) | (refine aS #[MO i0,MO i1,MO i2,MO i3,MO i4] (b:=O.heap.size) bv.o no rfl rfl rfl rfl ?_))
 refine cn.o.mono ?_
 rintro e w5 ⟨A5,c5,rfl,r5,k5⟩
 obtain ⟨K5,cO⟩:=ae k5 r5;clear k5 r5
 obtain ⟨Wa,Wb,b8,bh,ga,gb,bG, -⟩:=fQ w5 #[MO 0,MP,MO 0,MO 0] MW 75 79
 obtain ⟨b6,aR,Ga,Gb,ab⟩:=ah b8 bh ga gb bG;clear b8 bh ga gb bG
 go_upto_region 18 with (first | (refine aJ (b:=w5.heap.size) (xs:=#[MO 0,MP,MO 0,MO 0]) (by rw [b6.o,aR.o];exact Ga.o) bP rfl rfl rfl rfl rfl rfl rfl ?_;intro w6 e6 k6;rw [b6.o,aR.o] at k6;obtain ⟨E6,K6⟩:=ae e6 k6;clear e6 k6) | (refine aJ (b:=w5.heap.size+1) (xs:=MW) ((K6.o.block _ (LN Gb.o) ap).trans Gb.o) uY rfl rfl rfl rfl rfl rfl rfl ?_;intro w7 e7 k7;obtain ⟨E7,K7⟩:=ae e7 k7;clear e7 k7))
 have aM:aq w5 w7:=ab.o.trans ((K6.o.toBelow ab.o.size (fun j U=>Nat.le_of_eq (Eq.symm U))).trans (K7.o.toBelow (LU ab.o.size K6.o.size) (fun j U=>LU (Nat.le_succ _) (Nat.le_of_eq (Eq.symm U)))))
 have bf:=(K7.o.block _ (LN E6.o) ap).trans E6.o
 have ao:aq W4 w7:=bt K5.o aM
 have be:=sb bX.o _ ao
 obtain ⟨d1,p⟩:=ae bf ao;clear aM bf ao
 go_upto_region 21 with (first | (refine aS #[MO (s.cap:Nat),.slice B1 s.msgs.length c1,MO ((s.recv+1:Nat):Int),MO (s.peak:Nat)] (b:=w5.heap.size) d1.o bP rfl rfl rfl rfl ?_) | (refine aJ be bP rfl rfl rfl rfl rfl rfl rfl ?_;intro I e8 k8;obtain ⟨E8,K8⟩:=ae e8 k8;clear e8 k8))
 have Y:=fun {b:Nat} {o:Obj} (h:W4.heap[b]?=some o) (hne:b≠w.heap.size+1)=>(K8.o.block b (LN (sb h _ p.o)) hne).trans (sb h _ p.o)
 have l4:=a9.o.size
 have e2:=LN (H.bx _ (br O)).2.2.2.2.2
 have dG:=K3.o.size
 have Q:=Y d2.o ap
 have aG:=Y bv.o ap
 have a4:=Y E4.o ap
 have av:=(K8.o.block _ (LN E7.o) (by have:=K5.o.size;have:=B.o.size;omega)).trans E7.o
 have d3:=LQ I w.heap.size 18 _ _ _ Q
 have x4:=LQ I O.heap.size 4 _ _ _ aG
 have c7:=LQ I W3.heap.size 0 _ _ _ a4
 have a0:I.cell? (ar W3.heap.size 0)=some (MO (lo:Nat)):=by rw [<-co.o];exact c7
 have y5:=LQ I (w5.heap.size+1) 5 _ _ _ av
 have d9:=LX I w.heap.size 18 _ _ Q
 have d5:=LN Q
 have d7:=LN aG
 have dw:=LN a4
 have cy:=LN av
 have a1:aq w I:=(a9.o.trans (p.o.mono a9.o.size)).trans (K8.o.toBelow (by have:=p.o.size;omega) (fun j U=>ap))
 have bw:=wC GA A5 m.G (aK s.msgs s.recv).vals i.start.length (hi-lo) gc c5 lo b1 I (bH H.G0 (gH (Keep.below a1))).hr (aV cO.o (gH (Keep.below a1))) H.Gl bN.o (by have:=H.s'.n;omega) ap
 obtain ⟨da,b9,d8⟩:=af bw a1 Q;clear Y aG a4 av c7 bw a1 Q be
 go_wp2_with fail
 refine da.o.mono ?_
 rintro e w9 ⟨A9,c9,rfl,o9,k9⟩
 have N:=sb d8.o _ k9
 have ci:=LQ w9 w.heap.size 18 _ _ _ N
 have cj:=LX w9 w.heap.size 18 _ _ N
 have dv:=LN N
 obtain ⟨O9,d4,Z⟩:=af o9 N k9;clear o9 N k9 d3 x4 a0 y5 d9 d5 d7 dw cy
 go_upto_region 28 with (fail)
 have C:=ss (i:=18) (v:=.slice A9 i.start.length c9) d4.o rfl
 have kk:Keep (fun k=>k=w.heap.size) w9 (w9.setCell (ar w.heap.size 18) (.slice A9 i.start.length c9)):=Keep.setCell (S:=fun k=>k=w.heap.size) (Keep.refl _ _) _ (.inr rfl) _
 obtain ⟨V,hV⟩:∃V,w9.setCell (ar w.heap.size 18) (.slice A9 i.start.length c9)=V:=⟨_,rfl⟩
 rw [hV] at C kk ⊢
 have hb:=fun {b:Nat} {o:Obj} (h:O.heap[b]?=some o) (h1:b≠w.heap.size) (h2:b≠w.heap.size+1)=>by
  have h8:=(K8.o.block b (LN (sb (sb h _ B.o) _ p.o)) h2).trans (sb (sb h _ B.o) _ p.o)
  have h9:=sb h8 _ Z.o
  exact (kk.block b (LN h9) h1).trans h9
 have bd:=(kk.block _ (LN (sb E8.o _ Z.o)) ap).trans (sb E8.o _ Z.o)
 have bV:=hb (H.bx _ (br O)).2.2.1 ap ap
 have bb:=hb (H.bx _ (br O)).2.2.2.1 ap ap
 have bM:=hb (H.bx _ (br O)).2.2.2.2.1 ap ap
 have c6:=hb (H.bx _ (br O)).2.2.2.2.2 ap ap
 have a3:=b9.o.trans (Z.o.mono b9.o.size)
 have bO:=a3.trans (kk.toBelow a3.size (fun j U=>by rw [U];exact LO _))
 obtain ⟨cc,HO⟩:=ae kk (aE O9.o (show w.heap.size+6<=I.heap.size by have:=p.o.size;have:=K8.o.size;have:=B.o.size;omega));clear hV ci cj dv kk hb a3
 have cM:=LQ V w.heap.size 21 _ _ _ C
 have c8:=LX V w.heap.size 21 _ _ C
 have lM:=LN C
 have cP:=H.wd
 have e9:=ss (i:=21) (v:=MO ((dn:Int)+1)) C rfl
 have k9:Keep (fun k=>k=w.heap.size) V (V.setCell (ar w.heap.size 21) (MO ((dn:Int)+1))):=Keep.setCell (S:=fun k=>k=w.heap.size) (Keep.refl _ _) _ (.inr rfl) _
 obtain ⟨E9,K9,cx,cL,d6,cY,cs,dr⟩:=ak e9 k9 bd bV bb bM c6 bO;clear e9 k9 bd bV bb bM c6 bO C
 go_upto_region 29 with (fail)
 obtain ⟨V9,b7⟩:∃V9,V.setCell (ar w.heap.size 21) (MO ((dn:Int)+1))=V9:=⟨_,rfl⟩
 rw [b7] at E9 K9 ⊢
 clear b7 cM c8 lM cP
 obtain ⟨b1,b2,b3,b4,b5⟩:=uj K9.o cx.o cL.o d6.o cY.o cs.o
 have hq:aq V9 V9.drew:=(br V9).drew
 refine HA.g (KB3 w.heap.size V9) ?_
 refine HA.ld3 (vs:=#[.slice A i.cfg.sizes.length c,MO i.cfg.shift,MO i.cfg.rate,MO i.cfg.mom,MO i.cfg.workers,MO i.cfg.batch,MO i.cfg.micros,MO i.cfg.steps,MO i.cfg.bucket,MO i.cfg.chunk,MO i.cfg.window,MO i.cfg.cap,.slice D i.data.length cd,.slice T i.start.length ct,.slice R i.draws.length cr,MO (x:Nat),.slice PA i.start.length pc,.slice MA i.start.length mc,.slice A9 i.start.length c9,.slice SA m.rc.length sc,.slice (some (ar bI oI)) il ic,MO (dn+1)]) E9.o b1 b2 dO bP bP (Keep.below hq) ?_
 refine HA.st3 3 4 5 b3 b4 b5 dO bP bP hq (fun I r3 r4 e8 q8=>?_)
 refine HA.t ?_ [6] q8 ?_
 refine HA.d ?_
 obtain ⟨R3,R4,R5⟩:=af r3 r4 e8
 have F:=jV K9.o q8 dr.o
 obtain ⟨cv,QW⟩:=ae F.1 F.2;clear b1 b2 b3 b4 b5 e8 q8 r3 r4 hq F
 go_wp2_with fail
 refine L7 (fk rfl rfl rfl rfl R3.o R4.o R5.o dO bP bP) rfl ?_
 have oF:=cv.o.own (cc.o.own HO.o (fun j U e=>by have:=(HO.o.lt j U).1;omega)) (fun j U e=>by have:=(HO.o.lt j U).1;omega)
 have cf:=aD oF
 have ds:cH (aF S I) A9 (kh m.G lo (aK s.msgs s.recv).vals b1) c9:=by
  obtain ⟨A',c',e',e0⟩:=cf
  simp only [MC] at e'
  have hl:=pq m.G lo (aK s.msgs s.recv).vals b1
  have:=H.Gl
  have:=H.s'.n
  exact ⟨by omega,by omega,iE oF (fun k hk=>by have:=H.S' k hk;omega),sG H.hG.hw bs.o⟩
 have hX:Ext (aF S w) (aF S I):=bE (Keep.below QW.o) (fun _ _ h=>h)
 obtain ⟨aP,bo,bA,bi⟩:=H1.o
 exact ⟨_,_,_,rfl,rfl,rfl,⟨A,c,D,cd,T,ct,R,cr,PA,pc,MA,mc,A9,c9,SA,sc,some (ar bI oI),ic,by rw [H.il',cb.o,bi];push_cast;rfl,fu H.I0 hX,by rw [aP];exact bH H.P0 hX,by rw [bo];exact bH H.M0 hX,by rw [bA];exact ds,by rw [bi];exact eA cJ H.R0 hX,aV H.It0 hX,by rw [aP];exact H.Pl,by rw [bo];exact H.Ml,by rw [bA];exact ((pq _ _ _ _).trans H.Gl)⟩,⟨B1,c1,rfl,cV H.s0 hX,H.s2⟩,⟨B2,c2,rfl,cV H.t0 hX,H.t2⟩,QW.o⟩
theorem rx {w:World} {vs:Array Value} {i:Inp} {x:Nat} {m:Mst} {s t:LSt} {u v:Array Value} {S:Nat->Prop} (hS:∀k,S k->k<w.heap.size) (h:fY (aF S w) vs i x m) (hu:RL (aF S w) u s) (hv:RL (aF S w) v t) (hs:cK i) {y:Itm} (hy:(dQ i x)[bD i x m]?=some y) (k1 k2:Int) (b0 b1:Bool) (i0 i1 i2 i3 i4 i5 i6:Int) (aG:bq y=[MO 4,MO k1,MO k2,.bool b0,.bool b1,MO i0,MO i1,MO i2,MO i3,MO i4,MO i5,MO i6]) (C:Int) (hC:C≠0) (p:∀(L:Option Addr) (c1:Nat) (w':World),iO w' L s.msgs->Calls prog 136 #[.agg #[MO (s.cap:Nat),.slice L s.msgs.length c1,MO (s.recv:Nat),MO (s.peak:Nat)],.agg #[MO i0,MO i1,MO i2,MO i3,MO i4]] w' fun e be=>e=.returned (.tuple #[.agg #[MO (s.cap:Nat),.slice L s.msgs.length c1,MO (s.recv:Nat),MO (s.peak:Nat)],.agg MW,MO C])/\aq w' be)
  (m1:Mst) (h1:m1.P=m.P/\m1.M=m.M/\m1.G=m.G/\m1.rc=m.rc) (Z:bD i x m1=bD i x m):
  Calls prog 89 #[.agg vs,.agg u,.agg v] w (fun e w'=>nj S i x m1 (s) (t) C w e w'):=by
 obtain ⟨A,c,D,cd,T,ct,R,cr,PA,pc,MA,mc,GA,gc,SA,sc,bI,oI,ic,L,c1,B2,c2,dn,il,W0,rfl,rfl,rfl,H⟩:=jW hS h hu hv hs hy
 have U:=H.rw'
 rw [aG] at U
 rw [H.dn'] at Z
 obtain ⟨b9,H1,aR⟩:=af U h1 Z
 obtain ⟨bl,bi,tl,bb,b6,bf,b8⟩:=H.loc
 have q0:=br W0
 clear h hu hv hs hy aG hS h1 Z U
 go_enter func89,ntmps89
 go_upto_region 1 with (fail)
 rw [H.eW]
 go_upto_region 4 with (first | (refine jN b9.o iR rfl rfl rfl ?_) | (refine aJ (LP _ _) iR rfl rfl rfl rfl rfl rfl rfl ?_;intro W3 e3 k3;obtain ⟨E3,K3⟩:=ae e3 (aU k3);clear e3 k3))
 clear bl bi tl q0 bb b6 bf b8
 go_upto_region 5 with (first | (refine aS #[MO i5,MO i6] (b:=W0.heap.size) E3.o fP rfl rfl rfl rfl ?_) | (refine aJ (LP _ _) fP rfl rfl rfl rfl rfl rfl rfl ?_;intro W4 e4 k4;obtain ⟨E4,K4⟩:=ae e4 (aU k4);clear e4 k4))
 have y0:W4.cell? (ar W0.heap.size 0)=some (MO 4):=LQ W4 _ 0 _ _ _ (sb E3.o _ K4.o)
 have B:=aa (bt K3.o K4.o)
 go_upto_region 17 with (fail)
 have bv:=aa (H.bx _ B.o).1;have bo:=aa (H.bx _ B.o).2.1;have bh:=aa (sb E3.o _ K4.o)
 have Q:=H.K.trans (B.o.mono H.K.size)
 have ao:=p L c1 W4 (cV H.s0 (gH (Keep.below Q)))
 obtain ⟨b7,bw,HC⟩:=af ao Q hC
 have bd:(C != 0)=true:=by rw [bne_iff_ne];exact hC
 clear ao Q p hC y0
 go_wp2_with (first | (refine aS #[MO (s.cap:Nat),.slice L s.msgs.length c1,MO (s.recv:Nat),MO (s.peak:Nat)] (b:=w.heap.size+1) bo.o bP rfl rfl rfl rfl ?_) | (refine aS #[MO i0,MO i1,MO i2,MO i3,MO i4] (b:=W0.heap.size) bh.o no rfl rfl rfl rfl ?_))
 refine b7.o.mono ?_
 rintro e w5 ⟨rfl,k5⟩
 have K5:=aa k5;clear k5
 obtain ⟨Wa,Wb,a9,ab,ga,gb,aP, -⟩:=fQ w5 #[MO 0,MP,MO 0,MO 0] MW 75 79
 obtain ⟨a8,a7,Ga,Gb,Y⟩:=ah a9 ab ga gb aP;clear a9 ab ga gb aP
 go_upto_region 19 with (first | (refine aJ (b:=w5.heap.size) (xs:=#[MO 0,MP,MO 0,MO 0]) (by rw [a8.o,a7.o];exact Ga.o) bP rfl rfl rfl rfl rfl rfl rfl ?_;intro w6 e6 k6;rw [a8.o,a7.o] at k6;obtain ⟨E6,K6⟩:=ae e6 k6;clear e6 k6) | (refine aJ (b:=w5.heap.size+1) (xs:=MW) ((K6.o.block _ (LN Gb.o) ap).trans Gb.o) uY rfl rfl rfl rfl rfl rfl rfl ?_;intro w7 e7 k7;obtain ⟨E7,K7⟩:=ae e7 k7;clear e7 k7))
 have a5:aq w5 w7:=Y.o.trans ((K6.o.toBelow Y.o.size (fun j hj=>Nat.le_of_eq (Eq.symm hj))).trans (K7.o.toBelow (LU Y.o.size K6.o.size) (fun j hj=>LU (Nat.le_succ _) (Nat.le_of_eq (Eq.symm hj)))))
 have a0:=bt B.o (bt K5.o a5)
 obtain ⟨J,O,a3,N,a1,a4⟩:=H.bx _ a0
 have a2:=H.K.trans (a0.mono H.K.size)
 obtain ⟨V,hV⟩:∃V,w7=V:=⟨_,rfl⟩
 rw [hV] at J O a3 N a1 a4 a2 ⊢
 clear hV a0 a5 bd
 obtain ⟨E9,bn,K9⟩:=af J a2 (Keep.refl (fun k=>k=w.heap.size) V);clear J a2
 have b1:=O
 have b2:=a3
 have b3:=N
 have b4:=a1
 have b5:=a4
 clear O a3 N a1 a4
 have hq:aq V V.drew:=(br V).drew
 refine HA.g (KB3 w.heap.size V) ?_
 refine HA.ld3 (vs:=#[.slice A i.cfg.sizes.length c,MO i.cfg.shift,MO i.cfg.rate,MO i.cfg.mom,MO i.cfg.workers,MO i.cfg.batch,MO i.cfg.micros,MO i.cfg.steps,MO i.cfg.bucket,MO i.cfg.chunk,MO i.cfg.window,MO i.cfg.cap,.slice D i.data.length cd,.slice T i.start.length ct,.slice R i.draws.length cr,MO (x:Nat),.slice PA i.start.length pc,.slice MA i.start.length mc,.slice GA i.start.length gc,.slice SA m.rc.length sc,.slice (some (ar bI oI)) il ic,MO (dn:Nat)]) E9.o b1 b2 dO bP bP (Keep.below hq) ?_
 refine HA.t ?_ [3] (Keep.below hq) ?_
 refine HA.st3 4 5 6 b3 b4 b5 dO bP bP hq (fun w8 r3 r4 e8 q8=>?_)
 refine HA.t ?_ [7] q8 ?_
 refine HA.d ?_
 obtain ⟨R3,R4,R5⟩:=af r3 r4 e8
 have F:=jV K9.o q8 bn.o
 obtain ⟨bs,QW⟩:=ae F.1 F.2;clear b1 b2 b3 b4 b5 e8 q8 r3 r4 hq F
 go_wp2_with fail
 refine L7 (fk rfl rfl rfl rfl R3.o R4.o R5.o dO bP bP) rfl ?_
 have I:Ext (aF S w) (aF S w8):=bE (Keep.below QW.o) (fun _ _ h=>h)
 obtain ⟨a6,av,aM,ad⟩:=H1.o
 exact ⟨_,_,_,rfl,rfl,rfl,⟨A,c,D,cd,T,ct,R,cr,PA,pc,MA,mc,GA,gc,SA,sc,some (ar bI oI),ic,by rw [H.il',aR.o,ad],fu H.I0 I,by rw [a6];exact bH H.P0 I,by rw [av];exact bH H.M0 I,by rw [aM];exact bH H.G0 I,by rw [ad];exact eA cJ H.R0 I,aV H.It0 I,by rw [a6];exact H.Pl,by rw [av];exact H.Ml,by rw [aM];exact H.Gl⟩,⟨L,c1,rfl,cV H.s0 I,H.s2⟩,⟨B2,c2,rfl,cV H.t0 I,H.t2⟩,QW.o⟩
theorem IQ:cW prog 136 3:=⟨⟨_,underlying136,rfl⟩,by kernel_rfl⟩
theorem Iq (w:World) (X Y Z U:Array Value) (t u v:TypeId):∃h,(((w.alloc (.cells X t)).alloc (.cells Y u)).alloc (.cells Z v)).alloc (.cells U u)=h/\
  h.heap[w.heap.size]?=some (.cells X t (0,0))/\h.heap[w.heap.size+1]?=some (.cells Y u (0,0))/\h.heap[w.heap.size+1+1]?=some (.cells Z v (0,0))/\h.heap[w.heap.size+1+1+1]?=some (.cells U u (0,0))/\aq w h:=
 ⟨_,rfl,bZ [.cells X t,.cells Y u,.cells Z v,.cells U u] w 0 rfl,bZ [.cells X t,.cells Y u,.cells Z v,.cells U u] w 1 rfl,bZ [.cells X t,.cells Y u,.cells Z v,.cells U u] w 2 rfl,bZ [.cells X t,.cells Y u,.cells Z v,.cells U u] w 3 rfl,eP [.cells X t,.cells Y u,.cells Z v,.cells U u] w⟩
def Lm (x v:List Int) (n:Nat) (w:World) (e:Ending) (h:World):Prop:=∃u o p i,e=.returned (.tuple #[.agg #[.slice u n o,.slice p n i],.bool true])/\n<=o/\n<=i/\h.ownsRow w.heap.size 2 1 (.slice u n o) n (aA .i64 x)/\h.ownsRow w.heap.size 2 1 (.slice p n i) n (aA .i64 v)/\aq w h
theorem ze (ra I q:Int) (A B G:Option Addr) (P M g:List Int) (n ca cb cg lo D L:Nat) (w:World) (hA:Rd w A (aA .i64 P)) (hB:Rd w B (aA .i64 M)) (hG:Rd w G (aA .i64 g)) (hP:P.length=n) (hM:M.length=n) (hg:g.length=L) (hL:D=lo+L) (bs:0<L) (hn:n<=1048576) (bv:D<=n) (cP:n<=ca) (dk:n<=cb) (wM:W64 M)
  (bN: -9223372036854775808<=ra/\ra<=9223372036854775807) (bz: -9223372036854775808<=I/\I<=9223372036854775807):
  Calls prog 137 #[.agg #[MO ra,MO I,MO q],.agg #[.slice A n ca,.slice B n cb],.agg #[MO (lo:Nat),MO (D:Nat)],.slice G L cg] w (Lm (apP ra I q P M g lo L) (apM I q M g lo L) n w):=by
 obtain ⟨y,bM,g0,g1,u,g3,k0⟩:=Iq w #[MO ra,MO I,MO q] #[.slice A n ca,.slice B n cb] #[MO (lo:Nat),MO (D:Nat)] #[MP,MP] 136 103 187
 obtain ⟨ab,ao,rfl, -⟩:=hA.num (show 0<P.length by omega)
 obtain ⟨bb,bo,rfl, -⟩:=hB.num (show 0<M.length by omega)
 have cO:IntKind.i64.wrap ((D:Int)-(lo:Int))=(L:Int):=by rw [LT _ ap];omega
 have h1:¬(lo:Int)<0:=ap
 have h2:¬(D:Int)<lo:=ap
 have h3:¬(n:Int)<D:=ap
 have h4:¬D<lo:=ap
 have h5:¬n<D:=ap
 have s0:∀h,aq y h->h.cell? (ar (w.heap.size+1) 0)=some (.slice (some (ar ab ao)) n ca):=fun h q=>LQ h _ 0 _ _ _ (sb g1 h q)
 have s1:∀h,aq y h->h.cell? (ar (w.heap.size+1) 1)=some (.slice (some (ar bb bo)) n cb):=fun h q=>LQ h _ 1 _ _ _ (sb g1 h q)
 have r0:∀h,aq y h->h.cell? (ar (w.heap.size+1+1) 0)=some (MO (lo:Nat)):=fun h q=>LQ h _ 0 _ _ _ (sb u h q)
 have r1:∀h,aq y h->h.cell? (ar (w.heap.size+1+1) 1)=some (MO (D:Nat)):=fun h q=>LQ h _ 1 _ _ _ (sb u h q)
 have tl:=sl u
 have cy:=sl g1
 have q0:=br y
 have dp:(lo:Int)<=D:=ap
 have cM:lo<=D:=ap
 have dr:(D:Int)<=ca:=ap
 have d9:(D:Int)<=cb:=ap
 have da:D<=ca:=ap
 have d8:D<=cb:=ap
 have cY:¬ca=lo:=ap
 have dn:¬cb=lo:=ap
 have cv:D-lo=L:=ap
 have bn:((P.drop lo).take L).length=L:=by rw [Mt,Mw];omega
 have bl:((M.drop lo).take L).length=L:=by rw [Mt,Mw];omega
 have rA:Rd w (some (ar ab (ao+lo))) (aA .i64 ((P.drop lo).take L)):=by have:=(hA.drop lo).take L;rwa [dm,de] at this
 have rB:Rd w (some (ar bb (bo+lo))) (aA .i64 ((M.drop lo).take L)):=by have:=(hB.drop lo).take L;rwa [dm,de] at this
 have bA:W64 ((M.drop lo).take L):=fun k hk=>by rw [bl] at hk;rw [ff hk,fg];exact wM _ ap
 have bw:=fun h (q':aq y h)=>vZ ra I q (some (ar ab (ao+lo))) (some (ar bb (bo+lo))) G ((P.drop lo).take L) ((M.drop lo).take L) g L (ca-lo) (cb-lo) cg h (rA.below (k0.trans (q'.mono k0.size))) (rB.below (k0.trans (q'.mono k0.size))) (hG.below (k0.trans (q'.mono k0.size))) bn bl hg ap bA bN bz
 have a6:=fun h (q':aq y h)=>nu (some (ar ab ao)) P ca h (hA.below (k0.trans (q'.mono k0.size))) ap
 have av:=fun h (q':aq y h)=>nu (some (ar bb bo)) M cb h (hB.below (k0.trans (q'.mono k0.size))) ap
 rw [hP] at a6
 rw [hM] at av
 obtain ⟨cA,G0,G1,G2,G3,K0,c9,b7⟩:=ak bM g0 g1 u g3 k0 bw a6;obtain ⟨ad,HP,HM,Hg,HL,a9,d5,Hn⟩:=ak av hP hM hg hL bv cv hn;clear bM g0 g1 u g3 k0 bw a6 av hP hM hg hL bv hA hB hG bn bl rA rB bA wM bN bz hn
 go_enter func137,ntmps137
 go_upto_region 1 with (fail)
 rw [cA.o]
 go_upto_region 3 with (fail)
 go_cut [10,11] (fun v cc wx=>∃bX A0 x0 B0 y0,v=(au bX)/\cc=.bool true/\wx.heap[bX]?=some (.cells #[.slice A0 L x0,.slice B0 L y0] 103 (0,0))/\wx.ownsRow y.heap.size 2 1 (.slice A0 L x0) L (aA .i64 (rJ ra I q ((P.drop lo).take L) ((M.drop lo).take L) g))/\wx.ownsRow y.heap.size 2 1 (.slice B0 L y0) L (aA .i64 (rK I q ((M.drop lo).take L) g))/\aq y wx)
 case first=>
  have q3:=q0.drew
  refine HA.g (fun h:World=>aq y h) ?_
  refine HA.ld 0 #[MO ra,MO I,MO q] (fun h q=>sb G0.o h q) IQ q3 ?_
  refine HA.t ?_ [1,2,3,4,5,6,7,8,9,10,11,12,13,14,15,16] q3 ?_
  refine HA.two 17 21 ?_ ?_
  ·refine HAS.c (c9.o _ q3) ?_
   rintro e w4 ⟨A0,x0,B0,y0,rfl,oP,oM,k4⟩
   have q4:=q3.trans (k4.mono q3.size)
   refine ⟨_,rfl,q4,fun _=>?_⟩
   refine HA.t ?_ [18,19,20] q4 ?_
   refine HA.v 21 (w4.alloc (.cells #[MP,MP] 103)) ((au w4.heap.size)) (q4.alloc q4.size _) ?_
   refine HA.st 22 (LP w4 _) ke (fun p e5 k5=>?_)
   have b5:=aU k5
   have C:=q4.trans (b5.mono q4.size)
   refine ⟨C,?_⟩
   refine HA.t ?_ [23] C ?_
   refine HA.d ?_
   have HF:=aa (LW e5 (LW (aE (ay oP b5) q3.size) (LW (aE (ay oM b5) q3.size) C)));clear e5 oP oM b5 k5 k4 q3 q4 C
   go_wp2_with fail
   go_meet
   exact ⟨_,A0,x0,B0,y0,rfl,rfl,HF.o⟩
  ·refine HAS.v (y.drew.alloc (.cells #[MP,MP] 103)) ((au y.drew.heap.size)) (q3.alloc (LO _) _) ?_
   have gA:=LP y.drew (.cells #[MP,MP] 103)
   have Q:=q3.alloc (LO y.heap.size) (.cells #[MP,MP] 103)
   obtain ⟨wa,H⟩:∃wa,y.drew.alloc (.cells #[MP,MP] 103)=wa:=⟨_,rfl⟩
   rw [H] at gA Q ⊢
   clear H
   refine HA.c 17 (c9.o _ Q) ?_
   rintro e w4 ⟨A0,x0,B0,y0,rfl,oP,oM,k4⟩
   have q4:=Q.trans (k4.mono Q.size)
   refine ⟨_,rfl,q4,fun _=>?_⟩
   refine HA.t ?_ [18,19,20] q4 ?_
   have b2:=sb gA _ k4
   refine HA.st 22 b2 ke (fun p e5 k5=>?_)
   have C:=q4.trans (k5.toBelow q4.size (fun j i=>Nat.le_of_eq (Eq.symm i)))
   refine ⟨C,?_⟩
   refine HA.t ?_ [23] C ?_
   refine HA.d ?_
   have HF:=aa (LW e5 (LW (aE (k5.own oP (fun j i e=>ax b2 (by decide) oP (by rw [i,e]))) Q.size) (LW (aE (k5.own oM (fun j i e=>ax b2 (by decide) oM (by rw [i,e]))) Q.size) C)))
   clear e5 oP oM k5 k4 q3 Q q4 C gA b2
   go_wp2_with fail
   go_meet
   exact ⟨_,A0,x0,B0,y0,rfl,rfl,HF.o⟩
 case rest=>
 obtain ⟨bX,A0,x0,B0,y0,rfl,rfl,e5,oP,oM,C⟩:=hcut
 obtain ⟨p,rfl⟩:∃p,p=wc:=⟨_,rfl⟩
 obtain ⟨E5,OP,OM,Q5⟩:=ag e5 oP oM C;clear e5 oP oM
 go_upto_region 4 with (fail)
 go_cut [12] (fun v wx=>∃U A1 c1 B1 N,v=(au U)/\wx.heap[U]?=some (.cells #[.slice A1 n c1,.slice B1 n N] 103 (0,0))/\p.heap.size<=U/\wx.ownsRow p.heap.size 2 1 (.slice A1 n c1) n (aA .i64 P)/\wx.ownsRow p.heap.size 2 1 (.slice B1 n N) n (aA .i64 M)/\(∀j,(Value.slice A1 n c1).ownBlock=some j->(Value.slice B1 n N).ownBlock≠some j)/\aq p wx)
 case first=>
  have q6:aq y p.drew:=C.drew
  have r6:aq p p.drew:=(br p).drew
  refine HA.g (fun h:World=>aq y h) ?_
  refine HA.t ?_ [0,1,3,4] q6 ?_
  refine HA.two 2 7 ?_ ?_
  ·refine HAS.c (b7.o _ q6) ?_
   rintro e w6 ⟨A1,c1,rfl,o1,k6⟩
   have T:=q6.trans (k6.mono q6.size)
   refine ⟨_,rfl,T,fun _=>?_⟩
   refine HA.two 5 7 ?_ ?_
   ·refine HAS.c (ad.o _ T) ?_
    rintro e w7 ⟨B1,N,rfl,o2,x⟩
    have J:=T.trans (x.mono T.size)
    refine ⟨_,rfl,J,fun _=>?_⟩
    refine HA.t ?_ [6] J ?_
    refine HA.v 7 (w7.alloc (.cells #[MP,MP] 103)) ((au w7.heap.size)) (J.alloc J.size _) ?_
    refine HA.st 8 (LP w7 _) ke (fun w8 Z Y=>?_)
    have b8:=aU Y
    refine ⟨J.trans (b8.mono J.size),HA.d ?_⟩
    have s6:=k6.size
    have s7:=x.size
    rw [MB] at s6
    have fa:=o1
    have fb:=ay (ay o1 x) b8
    have fc:=o2
    have fd:=ay o2 b8
    have fe:=bt (bt (r6.trans k6) x) b8
    have HF:=aa (LW Z (LW (show p.heap.size<=w7.heap.size by (try rw [MB]);omega) (LW (aE fb (show p.heap.size<=_ by (try rw [MB]);omega)) (LW (aE fd (show p.heap.size<=_ by (try rw [MB]);omega)) (LW (show ∀j,(Value.slice A1 n c1).ownBlock=some j->(Value.slice B1 n N).ownBlock≠some j from fun j h1 h2=>by have z1:=(fa.lt j h1).2;have z2:=(fc.lt j h2).1;omega) fe)))));clear Z Y o1 o2 k6 x r6 q6 fa fb fc fd fe;go_wp2_with fail;go_meet;exact ⟨_,A1,c1,B1,N,rfl,HF.o⟩
   ·refine HAS.v (w6.alloc (.cells #[MP,MP] 103)) ((au w6.heap.size)) (T.alloc T.size _) ?_
    have gA:=LP w6 (.cells #[MP,MP] 103)
    have ba:=(br w6).alloc (LO _) (.cells #[MP,MP] 103)
    have b3:=T.alloc T.size (.cells #[MP,MP] 103)
    have sA:(w6.alloc (.cells #[MP,MP] 103)).heap.size=w6.heap.size+1:=Mb _ _
    obtain ⟨wa,H⟩:∃wa,w6.alloc (.cells #[MP,MP] 103)=wa:=⟨_,rfl⟩
    rw [H] at gA b3 ba sA ⊢
    clear H
    refine HA.c 5 (ad.o _ b3) ?_
    rintro e w7 ⟨B1,N,rfl,o2,x⟩
    have J:=b3.trans (x.mono b3.size)
    refine ⟨_,rfl,J,fun _=>?_⟩
    refine HA.t ?_ [6] J ?_
    have R:=sb gA _ x
    refine HA.st 8 R ke (fun w8 Z Y=>?_)
    have s6:=k6.size
    have s7:=x.size
    rw [MB] at s6
    have a8:=ay (ay o1 ba) x
    have b8:aq p w8:=(bt (bt (r6.trans k6) ba) x).trans (Y.toBelow ap (fun j i=>by have O:j=w6.heap.size:=i;omega))
    refine ⟨J.trans (Y.toBelow J.size (fun j i=>by have O:j=w6.heap.size:=i;have:=T.size;omega)),HA.d ?_⟩
    have fa:=o1
    have fb:=Y.own a8 (fun j i e=>ax R (by decide) a8 (by rw [i,e]))
    have fc:=o2
    have fd:=Y.own o2 (fun j i e=>ax R (by decide) o2 (by rw [i,e]))
    have fe:=b8
    have HF:=aa (LW Z (LW (show p.heap.size<=w6.heap.size by (try rw [MB]);omega) (LW (aE fb (show p.heap.size<=_ by (try rw [MB]);omega)) (LW (aE fd (show p.heap.size<=_ by (try rw [MB]);omega)) (LW (show ∀j,(Value.slice A1 n c1).ownBlock=some j->(Value.slice B1 n N).ownBlock≠some j from fun j h1 h2=>by have z1:=(fa.lt j h1).2;have z2:=(fc.lt j h2).1;omega) fe)))));clear Z Y o1 o2 k6 x r6 q6 fa fb fc fd fe;go_wp2_with fail;go_meet;exact ⟨_,A1,c1,B1,N,rfl,HF.o⟩
  ·refine HAS.v (p.drew.alloc (.cells #[MP,MP] 103)) ((au p.drew.heap.size)) (q6.alloc q6.size _) ?_
   have gA:=LP p.drew (.cells #[MP,MP] 103)
   have aM:=q6.alloc q6.size (.cells #[MP,MP] 103)
   have ba:=(br p.drew).alloc (LO _) (.cells #[MP,MP] 103)
   have sA:(p.drew.alloc (.cells #[MP,MP] 103)).heap.size=p.drew.heap.size+1:=Mb _ _
   obtain ⟨wa,H⟩:∃wa,p.drew.alloc (.cells #[MP,MP] 103)=wa:=⟨_,rfl⟩
   rw [H] at gA aM ba sA ⊢
   clear H
   refine HA.c 2 (b7.o _ aM) ?_
   rintro e w6 ⟨A1,c1,rfl,o1,k6⟩
   have T:=aM.trans (k6.mono aM.size)
   refine ⟨_,rfl,T,fun _=>?_⟩
   refine HA.c 5 (ad.o _ T) ?_
   rintro e w7 ⟨B1,N,rfl,o2,x⟩
   have J:=T.trans (x.mono T.size)
   refine ⟨_,rfl,J,fun _=>?_⟩
   refine HA.t ?_ [6] J ?_
   have R:=sb (sb gA _ k6) _ x
   refine HA.st 8 R ke (fun w8 Z Y=>?_)
   have s6:=k6.size
   have s7:=x.size
   rw [MB] at sA
   have a8:=ay o1 x
   have b8:aq p w8:=(bt (bt (r6.trans ba) k6) x).trans (Y.toBelow ap (fun j i=>by have O:j=p.drew.heap.size:=i;rw [MB] at O;omega))
   refine ⟨J.trans (Y.toBelow J.size (fun j i=>by have O:j=p.drew.heap.size:=i;rw [MB] at O;have:=C.size;omega)),HA.d ?_⟩
   have fa:=o1
   have fb:=Y.own a8 (fun j i e=>ax R (by decide) a8 (by rw [i,e]))
   have fc:=o2
   have fd:=Y.own o2 (fun j i e=>ax R (by decide) o2 (by rw [i,e]))
   have fe:=b8
   have HF:=aa (LW Z (LW (show p.heap.size<=p.drew.heap.size by (try rw [MB]);omega) (LW (aE fb (show p.heap.size<=_ by (try rw [MB]);omega)) (LW (aE fd (show p.heap.size<=_ by (try rw [MB]);omega)) (LW (show ∀j,(Value.slice A1 n c1).ownBlock=some j->(Value.slice B1 n N).ownBlock≠some j from fun j h1 h2=>by have z1:=(fa.lt j h1).2;have z2:=(fc.lt j h2).1;omega) fe)))));clear Z Y o1 o2 k6 x r6 q6 fa fb fc fd fe;go_wp2_with fail;go_meet;exact ⟨_,A1,c1,B1,N,rfl,HF.o⟩
 case rest=>
 obtain ⟨U,A1,c1,B1,N,rfl,Z,nO,a3,a2,b6,a4⟩:=hcut
 obtain ⟨w8,rfl⟩:∃w8,w8=wc:=⟨_,rfl⟩
 have q9:=C.trans (a4.mono C.size)
 have bI:=sb E5.o _ a4
 have be:=ay OP.o a4
 have bh:=ay OM.o a4
 obtain ⟨g1,_,cl,_⟩:=a3.form ap
 obtain ⟨u,_,bV,_⟩:=a2.form ap
 obtain ⟨p1,_,c7,_⟩:=be.form bs
 obtain ⟨p2,_,cd,_⟩:=bh.form bs
 simp only [MC] at cl bV c7 cd
 obtain ⟨rfl,_,rfl⟩:=cl
 obtain ⟨rfl,_,rfl⟩:=bV
 obtain ⟨rfl,_,rfl⟩:=c7
 obtain ⟨rfl,_,rfl⟩:=cd
 have n1:p1<p.heap.size:=(OP.o.lt p1 rfl).2
 have n2:p2<p.heap.size:=(OM.o.lt p2 rfl).2
 have n3:p.heap.size<=g1:=(a3.lt g1 rfl).1
 have n4:p.heap.size<=u:=(a2.lt u rfl).1
 have n5:bX<p.heap.size:=LN E5.o
 have n6:g1≠u:=fun e=>b6 g1 rfl (by rw [e];rfl)
 have n7:=C.size
 have n8:U≠g1:=fun e=>ax Z (by decide) a3 (by rw [e];rfl)
 have d2:U≠u:=fun e=>ax Z (by decide) a2 (by rw [e];rfl)
 have n9:=LN G3.o
 have l8:=LN Z
 obtain ⟨O1,O2,E8,aP,cx,bG,Q9,C1⟩:=ak (aE a3 (show w.heap.size<=p.heap.size by have:=K0.o.size;omega)) (aE a2 (show w.heap.size<=p.heap.size by have:=K0.o.size;omega)) Z bI be bh q9 (aD a3);have C2:=aa (aD a2);clear Z a3 a2 bI be bh q9 C a4 b6 s0 s1 r0 r1 tl cy q0
 go_wp2_with fail
 go_loopw [13] (fun z wr=>∃k:Nat,k<=L/\z=MO k/\wr.ownsRow w.heap.size 2 1 (.slice (some (ar g1 0)) n c1) n (aA .i64 (apP ra I q P M g lo k))/\wr.ownsRow w.heap.size 2 1 (.slice (some (ar u 0)) n N) n (aA .i64 (apM I q M g lo k))/\Keep (fun j=>j=g1\/j=u) w8 wr) (fun z _=>L-(intOf z).toNat)
 case atStart=>exact ⟨0,LS _,rfl,by rw [x6];exact O1.o,by rw [ya];exact O2.o,Keep.refl _ _⟩
 case round=>
  obtain ⟨k,hk,rfl,r1,r2,kk⟩:=hrel
  have bo:=(kk.block U l8 ap).trans E8.o
  by_cases a0:k<L
  ·have bx:=(kk.block bX (LN aP.o) ap).trans aP.o
   have a7:=(kk.block (w.heap.size+1+1) (LN (sb G2.o _ Q9.o)) ap).trans (sb G2.o _ Q9.o)
   have y1:=cE (kk.own cx.o (fun j i e=>by cases i;rcases e with e | e;(have O:p1=g1:=e;omega);(have O:p1=u:=e;omega))) a0
   have y2:=cE (kk.own bG.o (fun j i e=>by cases i;rcases e with e | e;(have O:p2=g1:=e;omega);(have O:p2=u:=e;omega))) a0
   rw [Dd a0 (by rw [HP.o];have:=HL.o;have:=a9.o;omega) (by rw [HM.o];have:=HL.o;have:=a9.o;omega)] at y1
   rw [ud a0 (by rw [HM.o];have:=HL.o;have:=a9.o;omega)] at y2
   have a1:lo+k<n:=by have:=HL.o;have:=a9.o;omega
   have p3:=cE r1 a1
   have p4:=cE r2 a1
   have f3:=r1.frozenAt (lo+k)
   have f4:=r2.frozenAt (lo+k)
   have b0:=BC ra I q P M g lo k (by rw [HP.o];exact a1)
   have b1:=BE I q M g lo k (by rw [HM.o];exact a1)
   obtain ⟨vP,cf⟩:∃v,lO ra q (nth P (lo+k)) (eT I q (nth M (lo+k)) (nth g k))=v:=⟨_,rfl⟩
   obtain ⟨vM,bi⟩:∃v,eT I q (nth M (lo+k)) (nth g k)=v:=⟨_,rfl⟩
   rw [cf] at y1 b0
   rw [bi] at y2 b1
   have cr:(k:Int)<L:=ap
   have d6:¬(k:Int)<0:=ap
   have cs:=Hn.o
   have d0:IntKind.i64.wrap ((k:Int)+1)=((k+1:Nat):Int):=by rw [LT _ ap];push_cast;rfl
   obtain ⟨j,i⟩:∃j,lo+k=j:=⟨_,rfl⟩
   rw [i] at p3 p4 f3 f4 b0 b1 a1
   have d7:(lo:Int)+k=(j:Int):=ap
   have dc:(j:Int)<n:=ap
   have d4:¬(j:Int)<0:=ap
   have d3:IntKind.i64.wrap (j:Int)=j:=LT _ ap
   have c6:=LQ wr U 0 _ _ _ bo
   have bd:=LQ wr U 1 _ _ _ bo
   have aG:=LQ wr (w.heap.size+1+1) 0 _ _ _ a7
   have cj:=LQ wr bX 0 _ _ _ bx
   have bf:=LQ wr bX 1 _ _ _ bx
   obtain ⟨c8,cw,cL,R1,R2,b4⟩:=ai bi b0 b1 r1 r2 kk
   clear b0 b1 r1 r2 kk bo bx a7 cf bi cs;rw [i] at c8;have Hj:=aa i;clear i
   go_upto_region 8 with (fail)
   refine XA.g 12 (fun h:World=>h.cell? (ar U 0)=some (.slice (some (ar g1 0)) n c1)/\h.cell? (ar (w.heap.size+1+1) 0)=some (MO (lo:Nat))/\h.cell? (ar bX 0)=some (.slice (some (ar p1 0)) L x0)/\h.cell? (ar p1 k)=some (MO vP)) ?_
   refine XA.t ?_ [0,1,2,3,4,5,6,7,8,9,10,11] ⟨c6,aG,cj,y1⟩ ?_
   refine XA.e ?_
   simp only [Mm,Mn]
   go_upto_region 9 with (fail)
   have aR:=(dS R1.o j vP).drew
   rw [cw.o] at aR
   have kq:Keep (fun j=>j=g1\/j=u) w8 (wr.setCell (ar g1 j) (MO vP)).drew:=(Keep.setCell (S:=fun j=>j=g1\/j=u) b4.o (ar g1 j) (.inr (.inl rfl)) _).drew
   have a5:=((Keep.setCell (S:=fun j=>j=g1) (Keep.refl _ wr) (ar g1 j) (.inr rfl) (MO vP)).drew).own R2.o (fun j i e=>by cases i;have O:u=g1:=e;omega)
   obtain ⟨wq,ci⟩:∃wq,(wr.setCell (ar g1 j) (MO vP)).drew=wq:=⟨_,rfl⟩
   rw [ci] at aR kq a5 ⊢
   clear ci c6 bd aG cj bf p3 p4 f3 f4 y1 y2
   have bo:=(kq.block U l8 ap).trans E8.o
   have bx:=(kq.block bX (LN aP.o) ap).trans aP.o
   have a7:=(kq.block (w.heap.size+1+1) (LN (sb G2.o _ Q9.o)) ap).trans (sb G2.o _ Q9.o)
   have y2:=cE (kq.own bG.o (fun j i e=>by cases i;rcases e with e | e;(have O:p2=g1:=e;omega);(have O:p2=u:=e;omega))) a0
   rw [ud a0 (by rw [HM.o];have:=HL.o;have:=a9.o;omega)] at y2
   have b9:=c8.o
   rw [Hj.o,b9] at y2
   have bd:=LQ wq U 1 _ _ _ bo
   have aG:=LQ wq (w.heap.size+1+1) 0 _ _ _ a7
   have bf:=LQ wq bX 1 _ _ _ bx
   have p4:=cE a5 a1
   have f4:=a5.frozenAt j
   obtain ⟨cn,co,Kq⟩:=af aR a5 kq;clear aR a5 kq bo bx a7 b9
   refine XA.g 12 (fun h:World=>h.cell? (ar U 1)=some (.slice (some (ar u 0)) n N)/\h.cell? (ar (w.heap.size+1+1) 0)=some (MO (lo:Nat))/\h.cell? (ar bX 1)=some (.slice (some (ar p2 0)) L y0)/\h.cell? (ar p2 k)=some (MO vM)) ?_
   refine XA.t ?_ [0,1,2,3,4,5,6,7,8,9,10,11] ⟨bd,aG,bf,y2⟩ ?_
   refine XA.e ?_
   simp only [Mm,Mn]
   go_wp2_with fail
   go_roundw
   case rel=>
    refine ⟨k+1,by omega,by go_num,?_,?_,?_⟩
    ·exact ((Keep.setCell (S:=fun j=>j=u) (Keep.refl _ wq) (ar u j) (.inr rfl) (MO vM)).drew).own cn.o (fun j i e=>by cases i;have O:g1=u:=e;omega)
    ·rw [<-cL.o];exact (dS co.o j vM).drew
    ·exact (Keep.setCell (S:=fun j=>j=g1\/j=u) Kq.o (ar u j) (.inr (.inr rfl)) _).drew
   case measure=>simp [intOf];omega
  ·obtain rfl:k=L:=ap
   have cr:¬(k:Int)<k:=ap
   have gR:=(kk.block (w.heap.size+1+1+1) (LN (sb G3.o _ Q9.o)) ap).trans (sb G3.o _ Q9.o)
   obtain ⟨R1,R2,b4,BO,GR⟩:=ah r1 r2 kk bo gR;clear r1 r2 kk bo gR
   obtain ⟨V,rfl⟩:∃V:World,V=wr:=⟨_,rfl⟩
   go_wp2_with (first | (refine aS #[.slice (some (ar g1 0)) n c1,.slice (some (ar u 0)) n N] (b:=U) BO.o ke rfl rfl rfl rfl ?_) | (refine aJ GR.o ke rfl rfl rfl rfl rfl rfl rfl ?_;intro W9 e9 k9;obtain ⟨E9,K9⟩:=ae e9 k9;clear e9 k9))
   refine L7 (dC rfl rfl E9.o ke) rfl ?_
   obtain ⟨_,_,z1,z2⟩:=C1.o
   obtain ⟨_,_,z3,z4⟩:=C2.o
   simp only [MC] at z1 z3
   have ct:=K0.o.trans (Q9.o.mono K0.o.size)
   have s8:=Q9.o.size
   have s0:=K0.o.size
   have sV:=b4.o.size
   exact ⟨_,_,_,_,rfl,by omega,by omega,K9.o.own R1.o (fun j i e=>by cases i;have O:g1=w.heap.size+1+1+1:=e;omega),K9.o.own R2.o (fun j i e=>by cases i;have O:u=w.heap.size+1+1+1:=e;omega),(ct.trans (b4.o.toBelow ap (fun j i=>by rcases i with e | e<;>omega))).trans (K9.o.toBelow ap (fun j i=>by have O:j=w.heap.size+1+1+1:=i;omega))⟩
end Go.Proofs.YtgmajkppbhiopaaGreat
