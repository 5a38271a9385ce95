/- No condition. -/
import Derived.Test.YtaccfnffmbndhaaGreatC00
import Derived.Test.YtaccfnffmbndhaaGreatC26
import Derived.Test.YtaccfnffmbndhaaGreatC22
import Derived.Test.YtaccfnffmbndhaaGreatC12
set_option linter.unusedSimpArgs false
set_option linter.unusedVariables false
set_option maxRecDepth 100000
set_option maxHeartbeats 4000000
namespace Go.Proofs.YtaccfnffmbndhaaGreat
open Go.RowKit
def nG (s:LSt) (t:Tg) (zs:List Int):LSt:=open Classical in if s.msgs.length<s.recv+s.cap then s.send ⟨t,zs⟩ else s
theorem zK {i:Inp} {x:Nat} {s:LSt} {t:Tg} {zs:List Int} (h:pW i x s) (hw:W64 zs) (p:t.a=999∨zs.length=(tZ (aE i) x t).2-(tZ (aE i) x t).1):pW i x (nG s t zs):=by
 unfold nG
 split
 ·intro j o
  have e:(s.send ⟨t,zs⟩).msgs=s.msgs++[⟨t,zs⟩]:=rfl
  rw [e] at o ⊢
  rw [yB]
  by_cases hl:j<s.msgs.length
  ·rw [if_pos hl];exact h j hl
  ·rw [if_neg hl,if_pos (by simp at o;omega)];exact ⟨hw,p⟩
 ·exact h
theorem D0 (s:LSt) (t:Tg) (zs:List Int):(nG s t zs).msgs.length≤s.msgs.length+1∧(nG s t zs).recv=s.recv∧(nG s t zs).cap=s.cap:=by
 unfold nG
 split
 ·exact ⟨by simp [LSt.send],rfl,rfl⟩
 ·exact ⟨by omega,rfl,rfl⟩
section
variable {E:Nat→Prop} {B:Nat} {w w':World} {b l l' x:Nat} {i:Inp} {a:MAd} {m:Mst} {s t:LSt} {g g':Option Nat} {vs u v:Array Value} {tg:Tg} {zs:List Int}
structure Put (E:Nat→Prop) (B:Nat) (w:World) (b l l':Nat) (i:Inp) (x:Nat) (a:MAd) (m:Mst) (s s1 t:LSt) (g g':Option Nat) (vs u v:Array Value):Prop where
 wl:Wld E B w b l l' i x a m s1 t g g'
 rm:dM (ay (fm E b a l g l' g') w) vs i x m
 ru:RL (ay (fm E b a l g l' g') w) u s
 rv:RL (ay (fm E b a l g l' g') w) v t
 ok:MOk i x m
 ms:pW i x s
theorem Jnt.put (h:Jnt E B w b l l' i x a m s t g g' vs u v) (tg:Tg) (zs:List Int) (A:Option Addr) (d:Nat) (hA:Rd (ay (fm E b a l g l' g') w) A (aq .i64 zs)) (V:zs.length≤60) (q:s.msgs.length<100000000000):
  Calls Tryz.prog 33 #[.pointer (some ⟨l,0,none⟩),.agg #[KL tg.a,KL tg.b,KL tg.c,KL tg.d,KL tg.e,.slice A zs.length d]] w fun e w'=>(∃C:Int,e=.returned (KL C))∧
   ∃p,Put E B w' b l l' i x a m s (nG s tg zs) t p g' vs u v∧Rd (ay (fm E b a l p l' g') w') A (aq .i64 zs)∧Keep (kW b a l g l' g') w w'∧∀k,kW b a l p l' g' k→kW b a l g l' g' k∨w.heap.size≤k:=by
 by_cases o:s.msgs.length<s.recv+s.cap
 ·have L:nG s tg zs=s.send ⟨tg,zs⟩:=if_pos o
  rw [L]
  refine (we B l g s tg A zs d w h.wl.lf o q h.wl.hB (aU hA (cJ _ _)) (by omega)).mono ?_
  rintro e w' ⟨he,p,hL,H,hg⟩
  have I:∀k,p=some k→dC l g k∨w.heap.size≤k:=fun k e=>by
   rcases hg with rfl | ⟨j,L,U⟩
   ·exact .inl (.inr e)
   ·rw [L] at e;cases e;exact .inr U
  have N:∀k,dC l p k→dC l g k∨w.heap.size≤k:=fun k e=>e.elim (fun e=>.inl (.inl e)) (I k)
  have J:∀k,kW b a l p l' g' k→kW b a l g l' g' k∨w.heap.size≤k:=fun k e=>by
   rcases e with e | e | e
   ·exact .inl (.inl e)
   ·exact (N k e).imp (fun e=>.inr (.inl e)) id
   ·exact .inl (.inr (.inr e))
  have D:Keep (kW b a l g l' g') w w':=H.mono fun k _ e=>.inr (.inl e)
  have hx:Ext (ay (fm E b a l g l' g') w) (ay (fm E b a l p l' g') w'):=cu (D.mono fun k _ e=>.inl e) (fun k hl e=>e.elim (fun e=>(J k e).elim .inl (fun e=>by omega)) .inr)
  have hn:∀k,Mut b a k→¬WH E l p l' g' k:=fun k hm e=>by
   rcases e with (e | e) | e
   ·rcases N k e with e | e
    ·exact h.wl.hn k hm (.inl (.inl e))
    ·have:=h.wl.mach.mlt k hm;omega
   ·exact h.wl.hn k hm (.inl (.inr e))
   ·exact h.wl.hn k hm (.inr e)
  have Q:∀k,dC l p k→¬dC l' g' k:=fun k e T=>by
   rcases N k e with e | e
   ·exact h.wl.dj k e T
   ·have:=h.wl.lt.lt k T;omega
  refine ⟨⟨0,he⟩,p,⟨⟨h.wl.mach.step (H.mono fun k _ e=>.inl (.inl e)) (fun k hl e=>?_) hn,hn,hL,?_,Q,h.wl.lo,JJ h.wl.hB H.size,fun k e O=>?_,fun k e=>JK (h.wl.ex k e) H.size⟩,du h.rm hx,eh h.ru hx,eh h.rv hx,h.ok,h.ms⟩,aU hA hx,D,J⟩
  ·rcases e with (e | e) | e
   ·exact (N k e).elim (fun e=>.inl (.inl e)) (fun e=>by omega)
   ·exact .inl (.inr e)
   ·exact .inr e
  rotate_left
  ·rcases e with e | e
   ·rcases N k e with e | e
    ·exact h.wl.ne k (.inl e) O
    ·have:=h.wl.ex k O;omega
   ·exact h.wl.ne k (.inr e) O
  ·exact h.wl.lt.keep H (fun e=>h.wl.dj l' e (.inl rfl)) (fun j R e=>h.wl.dj j e (.inr R)) (fun j c R _=>h.wl.lf.noI64 R)
 ·have L:nG s tg zs=s:=if_neg o
  rw [L]
  refine (mz B l g s _ w h.wl.lf (by have:=h.wl.lf.ok.sr;omega)).mono ?_
  rintro e w' ⟨he,k⟩
  have y:=h.below k
  exact ⟨⟨11,he⟩,g,⟨y.wl,y.rm,y.ru,y.rv,y.ok,y.ms⟩,aU hA (cX k),Keep.below k,fun k e=>.inl e⟩
theorem Put.rsend (h:Put E B w b l l' i x a m s (nG s tg zs) t g g' vs u v) (A:Option Addr) (d:Nat) (hA:Rd (ay (fm E b a l g l' g') w) A (aq .i64 zs)) (q:s.recv≤s.msgs.length) (N:s.msgs.length<100000000000) (hw:W64 zs) (R:tg.a=999∨zs.length=(tZ (aE i) x tg).2-(tZ (aE i) x tg).1):
  Calls Tryz.prog 34 #[.agg u,.agg #[KL tg.a,KL tg.b,KL tg.c,KL tg.d,KL tg.e,.slice A zs.length d]] w fun e w'=>∃(J:Array Value) (C:Int),e=.returned (.tuple #[.agg J,KL C])∧J.size=4∧J.toList.all (·.oneCell')=true∧
   Jnt E B w' b l l' i x a m (nG s tg zs) t g g' vs J v∧Below w.heap.size w w':=by
 have hS:=h.wl.sl
 obtain ⟨O,c1,rfl,h1,U⟩:=h.ru
 by_cases o:s.msgs.length<s.recv+s.cap
 ·have Q:nG s tg zs=s.send ⟨tg,zs⟩:=if_pos o
  refine (zF (ay (fm E b a l g l' g') w) s.cap O s.msgs c1 s.recv s.peak tg A zs d w q (by omega) o (ko h1.in_ (cJ _ _)) hA).mono ?_
  rintro e w' ⟨I,L,P,hP,he,⟨hM,hc,V⟩,k⟩
  have p:Ext (ay (fm E b a l g l' g') w) (ay (fm E b a l g l' g') w'):=cX k
  have H:bJ (ay (fm E b a l g l' g') w') I (s.msgs++[⟨tg,zs⟩]):=by
   obtain ⟨D,Z,X,z3,Y⟩:=hM
   exact ⟨D,kh Z (fun y hy hs=>by have:=V y hy;have:=hS _ hs;omega),X,z3,fun j hj=>by obtain ⟨I,L,e',T⟩:=Y j hj;exact ⟨I,L,e',aU T p⟩⟩
  subst hP
  refine ⟨_,0,he,rfl,rfl,⟨h.wl.below k,du h.rm p,?_,eh h.rv p,h.ok,zK h.ms hw R⟩,k⟩
  rw [Q]
  exact ⟨I,L,rfl,H,hc⟩
 ·have Q:nG s tg zs=s:=if_neg o
  refine (nC s.cap O s.msgs.length c1 s.recv s.peak #[KL tg.a,KL tg.b,KL tg.c,KL tg.d,KL tg.e,.slice A zs.length d] w q (by omega) (by omega)).mono ?_
  rintro e w' ⟨he,k⟩
  have p:Ext (ay (fm E b a l g l' g') w) (ay (fm E b a l g l' g') w'):=cX k
  refine ⟨_,11,he,rfl,rfl,⟨h.wl.below k,du h.rm p,?_,eh h.rv p,h.ok,zK h.ms hw R⟩,k⟩
  rw [Q]
  exact ⟨O,c1,rfl,bK h1 p,U⟩
end
section
variable {E:Nat→Prop} {B:Nat} {w w':World} {b l l' x:Nat} {i:Inp} {a:MAd} {m:Mst} {s t:LSt} {g g':Option Nat} {vs u v:Array Value}
structure Tak (E:Nat→Prop) (B:Nat) (w:World) (b l l':Nat) (i:Inp) (x:Nat) (a:MAd) (m:Mst) (s t t1:LSt) (g g':Option Nat) (vs u v:Array Value):Prop where
 wl:Wld E B w b l l' i x a m s t1 g g'
 rm:dM (ay (fm E b a l g l' g') w) vs i x m
 ru:RL (ay (fm E b a l g l' g') w) u s
 rv:RL (ay (fm E b a l g l' g') w) v t
 ok:MOk i x m
 ms:pW i x s
theorem Tak.below {o:LSt} (h:Tak E B w b l l' i x a m s t o g g' vs u v) (j:Below w.heap.size w w'):Tak E B w' b l l' i x a m s t o g g' vs u v:=
 ⟨h.wl.below j,du h.rm (cX j),eh h.ru (cX j),eh h.rv (cX j),h.ok,h.ms⟩
theorem Jnt.peekT (h:Jnt E B w b l l' i x a m s t g g' vs u v) (j:t.recv<t.msgs.length):
  Calls Tryz.prog 36 #[.pointer (some ⟨l',0,none⟩)] w fun e w'=>e=.returned (.tuple #[.agg #[KL (aC t.msgs t.recv).tag.a,KL (aC t.msgs t.recv).tag.b,KL (aC t.msgs t.recv).tag.c,KL (aC t.msgs t.recv).tag.d,KL (aC t.msgs t.recv).tag.e],.bool true])∧Below w.heap.size w w':=
 nL B l' g' t w h.wl.lt j
theorem Jnt.peek0 (h:Jnt E B w b l l' i x a m s t g g' vs u v) (j:t.recv=t.msgs.length):
  Calls Tryz.prog 36 #[.pointer (some ⟨l',0,none⟩)] w fun e w'=>e=.returned (.tuple KT)∧Below w.heap.size w w':=
 jK B l' g' t w h.wl.lt j
theorem Jnt.take (h:Jnt E B w b l l' i x a m s t g g' vs u v) (y:t.recv<t.msgs.length) (o:Tg) (heq:(aC t.msgs t.recv).tag=o):
  Calls Tryz.prog 37 #[.pointer (some ⟨l',0,none⟩),.agg #[KL o.a,KL o.b,KL o.c,KL o.d,KL o.e]] w fun e w'=>(∃A c,e=.returned (.tuple #[.agg #[KL o.a,KL o.b,KL o.c,KL o.d,KL o.e,.slice A (aC t.msgs t.recv).vals.length c],KL 0]))∧
   Tak E B w' b l l' i x a m s t {t with recv:=t.recv+1} g g' vs u v∧Keep (kW b a l g l' g') w w':=by
 refine (pR B l' g' t o w h.wl.lt y heq).mono ?_
 rintro e w' ⟨A,c,he,_,hL,p⟩
 have q:Keep (kW b a l g l' g') w w':=p.mono fun k _ e=>.inr (.inr (.inl e))
 have hx:Ext (ay (fm E b a l g l' g') w) (ay (fm E b a l g l' g') w'):=cu (q.mono fun k _ e=>.inl e) (fun k _ e=>e)
 exact ⟨⟨A,c,he⟩,⟨⟨h.wl.mach.step (p.mono fun k _ e=>.inl (.inr (.inl e))) (fun k _ e=>e) h.wl.hn,h.wl.hn,h.wl.lf.keep p (fun e=>h.wl.dj l (.inl rfl) (.inl e)) (fun j C e=>h.wl.dj j (.inr C) (.inl e)) (fun j c C _ e=>h.wl.lt.noI64 C (.inl e)),hL,h.wl.dj,h.wl.lo,JJ h.wl.hB p.size,h.wl.ne,fun k e=>JK (h.wl.ex k e) p.size⟩,
  du h.rm hx,eh h.ru hx,eh h.rv hx,h.ok,h.ms⟩,q⟩
theorem Jnt.take0 (h:Jnt E B w b l l' i x a m s t g g' vs u v) (o:t.recv=t.msgs.length) (j:Tg):
  Calls Tryz.prog 37 #[.pointer (some ⟨l',0,none⟩),.agg #[KL j.a,KL j.b,KL j.c,KL j.d,KL j.e]] w fun e w'=>e=.returned (.tuple KU)∧Below w.heap.size w w':=
 mA B l' g' t j w h.wl.lt o
theorem Tak.rrecv (h:Tak E B w b l l' i x a m s t {t with recv:=t.recv+1} g g' vs u v) (hlt:t.recv<t.msgs.length) (hmany:t.msgs.length≤100000000000) (tg:Tg) (heq:(aC t.msgs t.recv).tag=tg):
  Calls Tryz.prog 39 #[.agg v,.agg #[KL tg.a,KL tg.b,KL tg.c,KL tg.d,KL tg.e]] w fun e w'=>∃(v1:Array Value) (A:Option Addr) (c n:Nat),e=.returned (.tuple #[.agg v1,.agg #[KL tg.a,KL tg.b,KL tg.c,KL tg.d,KL tg.e,.slice A n c],KL 0])∧v1.size=4∧v1.toList.all (·.oneCell')=true∧
   Jnt E B w' b l l' i x a m s {t with recv:=t.recv+1} g g' vs u v1∧Below w.heap.size w w':=by
 obtain ⟨o,c1,rfl,h1,p⟩:=h.rv
 refine (qH (ay (fm E b a l g l' g') w) t.cap o t.msgs c1 t.recv t.peak tg w (ko h1.in_ (cJ _ _)) hlt hmany heq).mono ?_
 rintro e w' ⟨A,c,he,_,k⟩
 have j:Ext (ay (fm E b a l g l' g') w) (ay (fm E b a l g l' g') w'):=cX k
 exact ⟨_,A,c,_,he,rfl,rfl,⟨h.wl.below k,du h.rm j,eh h.ru j,⟨o,c1,rfl,bK h1 j,p⟩,h.ok,h.ms⟩,k⟩
end
theorem nS {S:Nat→Prop} {u w:World} (o:Below u.heap.size u w) (j:∀k,S k→u.heap.size≤k):Ext u (ay S w):=fun k i=>.inr (by
 rw [jm (fun e=>by have:=j k e;omega)]
 exact o.block k i)
theorem DK (w:World) (c:Nat):RL w #[KL (c:Nat),KN,KL 0,KL 0] (LSt.new c):=⟨none,0,rfl,(eA.nil w w none),JD _⟩
theorem Co {E:Nat→Prop} {B:Nat} {u w:World} {b l q x:Nat} {i:Inp} {a:MAd} {vs:Array Value} {c D:Nat} (hr:dM u vs i x (gw i)) (N:Below u.heap.size u w) (hm:aI (WH E l none q none) w b i x a (gw i)) (p:∀k,Mut b a k→u.heap.size≤k∧k≠l∧k≠q∧¬E k)
  (hl:u.heap.size≤l) (H:u.heap.size≤q) (A:l≠q) (I:aK w B l none (LSt.new c)) (L:aK w B q none (LSt.new D)) (hB:B≤w.heap.size) (C:b<B∧a.bp<B∧a.bm<B∧a.bg<B) (y:∀k,E k→u.heap.size≤k∧k<w.heap.size∧k≠l∧k≠q):
  Jnt E B w b l q i x a (gw i) (LSt.new c) (LSt.new D) none none vs #[KL (c:Nat),KN,KL 0,KL 0] #[KL (D:Nat),KN,KL 0,KL 0]:=by
 have o:∀{l k:Nat},dC l none k→k=l:=fun e=>e.elim id (fun e=>by cases e)
 refine ⟨⟨hm,?_,I,L,?_,C,hB,?_,fun k e=>(y k e).2.1⟩,du hr (nS N ?_),DK _ _,DK _ _,MOk.zero x,?_⟩
 ·rintro k v ((e | e) | e)
  ·exact (p k v).2.1 (o e)
  ·exact (p k v).2.2.1 (o e)
  ·exact (p k v).2.2.2 e
 ·intro k e O
  exact A ((o e).symm.trans (o O))
 ·rintro k (e | e) v
  ·exact (y k v).2.2.1 (o e)
  ·exact (y k v).2.2.2 (o e)
 ·rintro k ((e | e | e) | e)
  ·exact (p k e).1
  ·rw [o e];exact hl
  ·rw [o e];exact H
  ·exact (y k e).1
 ·intro j J
  simp [LSt.new] at J
end Go.Proofs.YtaccfnffmbndhaaGreat
namespace Go.Proofs.YtaccfnffmbndhaaGreat
open Go.RowKit Go.ChangeShapes Go.WideShapes Go.ChangeAt
theorem Gs:fR Tryz.prog 4 1 DZ:=yz Tryz.underlying4 (by kernel_rfl)
theorem vE:fR Tryz.prog 5 1 (Gi .u8):=oL Tryz.underlying5 (by kernel_rfl)
theorem rM:Tryz.prog.cellsOf 89=4:=by kernel_rfl
structure Cal where
 vs:List Int
 good:Bool
 tr:Int
 tk:Int
def Gj:dD Cal:=fun w i y=>∃A c,i=[.slice A y.vs.length c,.bool y.good,.int .u8 y.tr,.int .u8 y.tk]∧bD w A y.vs c∧(0≤y.tr∧y.tr≤255)∧(0≤y.tk∧y.tk≤255)
theorem Ij {z:Int} (h:(Lit.int .u8 z).wf=true):0≤z∧z≤255:=by
 simpa [Lit.wf,IntKind.min,IntKind.max,IntKind.signed,IntKind.bits] using h
theorem BI:fR Tryz.prog 89 4 Gj:=⟨rM,fun {H L W v I x} h i=>by
 obtain ⟨xs,n,_,hx,hl,j,p⟩:=DataW.trod_struct Tryz.underlying89 h
 rw [rM] at hl
 have o:xs.length=4:=j
 obtain ⟨T,A,c,y,R,V,N,J,Q⟩:=aY km Tryz.underlying89 hx i (p 0 _ rfl) (by omega) rfl
 obtain ⟨B,h1⟩:=aY Gs Tryz.underlying89 hx i (p 1 _ rfl) (by omega) rfl
 obtain ⟨D,q,C⟩:=aY vE Tryz.underlying89 hx i (p 2 _ rfl) (by omega) rfl
 obtain ⟨O,u,U⟩:=aY vE Tryz.underlying89 hx i (p 3 _ rfl) (by omega) rfl
 clear h p j o hx i
 match I,hl with
 | [c0,c1,c2,c3],_=>
  simp [DZ] at y h1 q u
  exact ⟨rfl,⟨T,B,D,O⟩,A,c,by simp [y,h1,q,u],nF R N J Q,Ij C,Ij U⟩⟩
theorem yy:fR Tryz.prog 85 1 (rSl Gj 4):=pN Tryz.underlying85 BI (by kernel_rfl) (of_decide_eq_true (by kernel_rfl))
theorem BJ {H:Type} {i:TypeId×Value→H} {W:World} {base:Nat} {v:Value} {d:DataW H} {p:List MemPlace} (o:Value.okWide Tryz.prog W .any base 85 v) (h:DataW.Trod i Tryz.prog W 0 (fun _=>true) true 85 v d p) (z:iC Tryz.prog 85 d):
  ∃(A:Option Addr) (c:Nat) (l:List Cal),v=.slice A l.length c∧l.length≤c∧l.length≤17592186043904∧cE Gj 4 W A l:=by
 obtain ⟨x,u,c0,rfl⟩:=okWide_slice Tryz.underlying85 o
 obtain ⟨l,⟨A,c,e,h1,_,q,j⟩,_⟩:=pO yy h z
 simp [Value.cells] at e
 obtain ⟨rfl,rfl,rfl⟩:=e
 exact ⟨_,_,l,rfl,h1,q,j⟩
end Go.Proofs.YtaccfnffmbndhaaGreat
namespace Go.Proofs.YtaccfnffmbndhaaGreat
open Go.RowKit
def E3 (X U V:Nat) (k:Nat):Prop:=k=X∨k=U∨k=V
def xg (n:Nat) (p:Array Value):Prop:=p.size=n∧p.toList.all (·.oneCell')=true
structure Bxs (W1:World) (Fx:Nat→Obj→Prop) (X U V:Nat) (p q r:Array Value) (S:Nat→Prop) (w:World):Prop where
 hx:w.heap[X]?=some (.cells p 43 (0,0))
 hu:w.heap[U]?=some (.cells q 73 (0,0))
 hv:w.heap[V]?=some (.cells r 73 (0,0))
 op:xg 22 p
 oq:xg 4 q
 or':xg 4 r
 ge:W1.heap.size≤X∧W1.heap.size≤U∧W1.heap.size≤V∧X≠U∧X≠V∧U≠V
 sS:∀k,S k→W1.heap.size≤k∧¬E3 X U V k∧∀o,¬Fx k o
 q1:Below W1.heap.size W1 w
 fx:∀k o,Fx k o→w.heap[k]?=some o∧¬E3 X U V k
section
variable {W1 w w':World} {Fx:Nat→Obj→Prop} {X U V:Nat} {p q r p':Array Value} {S S':Nat→Prop}
theorem Bxs.step (h:Bxs W1 Fx X U V p q r S w) (u:Keep S w w') (hs:∀k,S' k→S k∨w.heap.size≤k):Bxs W1 Fx X U V p q r S' w':=by
 have hn:∀k,E3 X U V k→¬S k:=fun k e i=>(h.sS k i).2.1 e
 have v:=h.q1.size
 refine ⟨(u.block X (JC h.hx) (hn X (.inl rfl))).trans h.hx,(u.block U (JC h.hu) (hn U (.inr (.inl rfl)))).trans h.hu,(u.block V (JC h.hv) (hn V (.inr (.inr rfl)))).trans h.hv,h.op,h.oq,h.or',h.ge,fun k i=>?_,h.q1.trans (u.toBelow v fun k i=>(h.sS k i).1),fun k o e=>?_⟩
 ·rcases hs k i with e | e
  ·exact h.sS k e
  ·refine ⟨JJ v e,fun j=>?_,fun o j=>?_⟩
   ·rcases j with j | j | j
    ·have:=JC h.hx;omega
    ·have:=JC h.hu;omega
    ·have:=JC h.hv;omega
   ·have:=JC (h.fx k o j).1;omega
 ·obtain ⟨x,y⟩:=h.fx k o e
  exact ⟨(u.block k (JC x) (fun i=>(h.sS k i).2.2 o e)).trans x,y⟩
theorem Bxs.below (h:Bxs W1 Fx X U V p q r S w) (i:Below w.heap.size w w'):Bxs W1 Fx X U V p q r S w':=h.step (Keep.below i) fun _ e=>.inl e
theorem Bxs.stX (h:Bxs W1 Fx X U V p q r S w) (i:Keep (fun k=>k=X) w w') (e:w'.heap[X]?=some (.cells p' 43 (0,0))) (o:xg 22 p'):Bxs W1 Fx X U V p' q r S w':=by
 obtain ⟨v,A,C,x,y,B⟩:=h.ge
 exact ⟨e,(i.block U (JC h.hu) (fun e=>x e.symm)).trans h.hu,(i.block V (JC h.hv) (fun e=>y e.symm)).trans h.hv,o,h.oq,h.or',h.ge,h.sS,h.q1.trans (i.toBelow h.q1.size fun k e=>by rw [e];exact v),fun k o e=>by
  obtain ⟨u,j⟩:=h.fx k o e
  exact ⟨(i.block k (JC u) (fun e=>j (.inl e))).trans u,j⟩⟩
theorem Bxs.stU (h:Bxs W1 Fx X U V p q r S w) (i:Keep (fun k=>k=U) w w') (e:w'.heap[U]?=some (.cells p' 73 (0,0))) (o:xg 4 p'):Bxs W1 Fx X U V p p' r S w':=by
 obtain ⟨A,v,C,x,B,y⟩:=h.ge
 exact ⟨(i.block X (JC h.hx) x).trans h.hx,e,(i.block V (JC h.hv) (fun e=>y e.symm)).trans h.hv,h.op,o,h.or',h.ge,h.sS,h.q1.trans (i.toBelow h.q1.size fun k e=>by rw [e];exact v),fun k o e=>by
  obtain ⟨u,j⟩:=h.fx k o e
  exact ⟨(i.block k (JC u) (fun e=>j (.inr (.inl e)))).trans u,j⟩⟩
theorem Bxs.stV (h:Bxs W1 Fx X U V p q r S w) (i:Keep (fun k=>k=V) w w') (e:w'.heap[V]?=some (.cells p' 73 (0,0))) (o:xg 4 p'):Bxs W1 Fx X U V p q p' S w':=by
 obtain ⟨B,A,y,C,v,x⟩:=h.ge
 exact ⟨(i.block X (JC h.hx) v).trans h.hx,(i.block U (JC h.hu) x).trans h.hu,e,h.op,h.oq,o,h.ge,h.sS,h.q1.trans (i.toBelow h.q1.size fun k e=>by rw [e];exact y),fun k o e=>by
  obtain ⟨u,j⟩:=h.fx k o e
  exact ⟨(i.block k (JC u) (fun e=>j (.inr (.inr e)))).trans u,j⟩⟩
theorem Bxs.add (h:Bxs W1 Fx X U V p q r S w) (j:Nat→Obj→Prop) (i:∀k o,j k o→w.heap[k]?=some o∧¬E3 X U V k∧¬S k):Bxs W1 j X U V p q r S w:=
 ⟨h.hx,h.hu,h.hv,h.op,h.oq,h.or',h.ge,fun k e=>⟨(h.sS k e).1,(h.sS k e).2.1,fun o f=>(i k o f).2.2 e⟩,h.q1,fun k o f=>⟨(i k o f).1,(i k o f).2.1⟩⟩
theorem Bxs.addN (h:Bxs W1 Fx X U V p q r S w) (v:Below w.heap.size w w') (x:∀k,S k→k<w.heap.size) {j:Nat} {u:Obj} (y:w.heap.size≤j) (e:w'.heap[j]?=some u):Bxs W1 (fun k o=>Fx k o∨(k=j∧o=u)) X U V p q r S w':=by
 have A:=JC h.hx
 have C:=JC h.hu
 have B:=JC h.hv
 refine (h.below v).add _ ?_
 rintro k o (f | ⟨rfl,rfl⟩)
 ·have i:=h.below v
  exact ⟨(i.fx k o f).1,(i.fx k o f).2,fun e=>(i.sS k e).2.2 o f⟩
 ·refine ⟨e,?_,fun e=>by have:=x _ e;omega⟩
  rintro (e | e | e)<;>omega
theorem Bxs.less (h:Bxs W1 Fx X U V p q r S w) {i:Nat→Obj→Prop} (j:∀k o,i k o→Fx k o):Bxs W1 i X U V p q r S w:=
 h.add i fun k o f=>⟨(h.fx k o (j k o f)).1,(h.fx k o (j k o f)).2,fun e=>(h.sS k e).2.2 o (j k o f)⟩
theorem Bxs.no (h:Bxs W1 Fx X U V p q r S w) (B:Nat):∀(j:Nat) (c:Array Value),w.heap[j]?=some (.cells c 2 (0,0))→B≤j→¬E3 X U V j:=by
 rintro j c o _ (e | e | e)
 ·exact absurd e (ix o h.hx (by decide))
 ·exact absurd e (ix o h.hu (by decide))
 ·exact absurd e (ix o h.hv (by decide))
end
section
variable {W1 w w':World} {Fx:Nat→Obj→Prop} {X U V:Nat} {p q r:Array Value} {S:Nat→Prop} {B:Nat} {b l l' x:Nat} {i:Inp} {a:MAd} {m:Mst} {s t:LSt} {g g':Option Nat} {vs u v:Array Value}
theorem Jnt.stX (h:Jnt (E3 X U V) B w b l l' i x a m s t g g' vs u v) (o:Bxs W1 Fx X U V p q r S w) (j:Keep (fun k=>k=X) w w'):Jnt (E3 X U V) B w' b l l' i x a m s t g g' vs u v:=h.keepE (j.mono fun _ _ e=>.inl e) (o.no B)
theorem Jnt.stU (h:Jnt (E3 X U V) B w b l l' i x a m s t g g' vs u v) (o:Bxs W1 Fx X U V p q r S w) (j:Keep (fun k=>k=U) w w'):Jnt (E3 X U V) B w' b l l' i x a m s t g g' vs u v:=h.keepE (j.mono fun _ _ e=>.inr (.inl e)) (o.no B)
theorem Jnt.stV (h:Jnt (E3 X U V) B w b l l' i x a m s t g g' vs u v) (o:Bxs W1 Fx X U V p q r S w) (j:Keep (fun k=>k=V) w w'):Jnt (E3 X U V) B w' b l l' i x a m s t g g' vs u v:=h.keepE (j.mono fun _ _ e=>.inr (.inr e)) (o.no B)
theorem Bxs.hid (h:Bxs W1 Fx X U V p q r (kW b a l g l' g') w) {W:World} (i:W.heap.size≤W1.heap.size) (k:Nat) (e:fm (E3 X U V) b a l g l' g' k):W.heap.size≤k:=by
 obtain ⟨o,j,u,_⟩:=h.ge
 rcases e with e | e | e | e
 ·exact JJ i (h.sS k e).1
 ·omega
 ·omega
 ·omega
end
theorem CJ {W wr:World} {q:Option Addr} {L:List Cal} {k:Nat} {y:Cal} (h:cE Gj 4 W q L) (A:L[k]?=some y) (C:Below W.heap.size W wr):
  ∃bc o i p,q=some ⟨bc,o,none⟩∧wr.rangeAt bc (o+k*4) [.slice i y.vs.length p,.bool y.good,.int .u8 y.tr,.int .u8 y.tk]∧bD W i y.vs p∧(0≤y.tr∧y.tr≤255)∧(0≤y.tk∧y.tk≤255):=by
 obtain ⟨bc,o,D,e,_,_,⟨i,p,rfl,h1,x,B⟩,_,hcs⟩:=h.get (by decide) A
 refine ⟨bc,o,i,p,e,fun j v hv=>?_,h1,x,B⟩
 have u:j<4:=(Kg.1 hv).1
 exact am C ((hcs j u).trans hv)
theorem RL.row {w:World} {v:Array Value} {s:LSt} (h:RL w v s):xg 4 v:=by
 obtain ⟨B,c,rfl,_⟩:=h
 exact ⟨rfl,rfl⟩
theorem RL.msgs {S:Nat→Prop} {w:World} {v:Array Value} {t:LSt} (h:RL (ay S w) v t) (rs:t.recv≤t.msgs.length) (hm:t.msgs.length≤17592186043904):
  Calls Tryz.prog 38 #[.agg v] w fun e w'=>∃i p,e=.returned (.slice i (t.msgs.length-t.recv) p)∧bJ w' i (t.msgs.drop t.recv)∧Below w.heap.size w w':=by
 obtain ⟨o,c1,rfl,h1,j⟩:=h
 exact zG t.cap o t.msgs c1 t.recv t.peak w (bK h1 (cJ _ _)) rs j hm
theorem vR (l:List Msg) (r:Nat):aC (l.drop r) 0=aC l r:=by simp [aC]
theorem bJ.tag0 {w:World} {A:Option Addr} {ms:List Msg} (h:bJ w A ms) (y:0<ms.length):∃b o,A=some ⟨b,o,none⟩∧w.rangeAt b o [KL (aC ms 0).tag.a,KL (aC ms 0).tag.b,KL (aC ms 0).tag.c,KL (aC ms 0).tag.d,KL (aC ms 0).tag.e]:=by
 obtain ⟨i,h1,u,H,x⟩:=h
 obtain ⟨J,C,e,_⟩:=x 0 y
 obtain ⟨r,rs,hr⟩:∃r rs,i=r::rs:=by
  cases i with
  | nil=>simp at u;omega
  | cons r rs=>exact ⟨r,rs,rfl⟩
 subst hr
 have B:r=_:=e
 subst B
 obtain ⟨b,o,hA,_⟩:=h1 0 _ rfl
 refine ⟨b,o,hA,fun j v hv=>?_⟩
 have q:j<5:=(Kg.1 hv).1
 obtain ⟨D,I,p,hc⟩:=h1 j v (by
  rw [List.flatten_cons,Ki (show j<6 by omega)]
  match j,q with
  | 0,_=>exact hv
  | 1,_=>exact hv
  | 2,_=>exact hv
  | 3,_=>exact hv
  | 4,_=>exact hv)
 rw [hA] at p
 cases p
 exact hc
def Mx (W1:World) (Fx:Nat→Obj→Prop) (X U V B b l l':Nat) (i:Inp) (x sn j:Nat) (w:World):Prop:=
 ∃(a:MAd) (m:Mst) (s t:LSt) (g g':Option Nat) (vs u v:Array Value),Jnt (E3 X U V) B w b l l' i x a m s t g g' vs u v∧Bxs W1 Fx X U V vs u v (kW b a l g l' g') w∧s.msgs.length≤sn∧t.msgs.length≤j
theorem Ei {W1 u A w:World} {X U V b l l' x c C:Nat} {i:Inp} {a:MAd} {vs:Array Value} (D:dM u vs i x (gw i)) (H:xg 22 vs) (q:Below W1.heap.size W1 w) (hu:W1.heap.size≤u.heap.size) (Z:Below u.heap.size u w)
  (hm:aI (fun k=>k=X) A b i x a (gw i)) (v:∀k,Mut b a k→u.heap.size<k) (hX:X=u.heap.size) (L:Below A.heap.size A w) (Q:X<A.heap.size) (hl:A.heap.size≤l) (T:l<l') (hU:l'<U) (hV:l'<V) (B:U≠V)
  (bX:w.heap[X]?=some (.cells vs 43 (0,0))) (N:w.heap[U]?=some (.cells #[KL (c:Nat),KN,KL 0,KL 0] 73 (0,0))) (J:w.heap[V]?=some (.cells #[KL (C:Nat),KN,KL 0,KL 0] 73 (0,0)))
  (hf:aK w w.heap.size l none (LSt.new c)) (Y:aK w w.heap.size l' none (LSt.new C)):Mx W1 (fun _ _=>False) X U V w.heap.size b l l' i x 0 0 w:=by
 have j:=hm.mlt
 have s5:=L.size
 have lU:=JC N
 have lV:=JC J
 have p:∀{l k:Nat},dC l none k→k=l:=fun e=>e.elim id (fun e=>by cases e)
 have o:∀k,E3 X U V k→k=X∨k=U∨k=V:=fun _ e=>e
 have O:=j b (.inl rfl);have a1:=j _ (.inr (.inl rfl));have R:=j _ (.inr (.inr (.inl rfl)));have a0:=j _ (.inr (.inr (.inr (.inl rfl))))
 refine ⟨a,gw i,LSt.new c,LSt.new C,none,none,vs,_,_,Co D Z (hm.step (Keep.below L) (fun k y e=>?_) (fun k y e=>?_)) (fun k y=>?_) (by omega) (by omega) (by omega) hf Y (JD _) ⟨by omega,by omega,by omega,by omega⟩ (fun k e=>?_),⟨bX,N,J,H,⟨rfl,rfl⟩,⟨rfl,rfl⟩,⟨by omega,by omega,by omega,by omega,by omega,B⟩,fun k e=>?_,q,fun _ _ e=>e.elim⟩,JD _,JD _⟩
 ·rcases e with (e | e) | e
  ·have:=p e;omega
  ·have:=p e;omega
  ·rcases o k e with e | e | e
   ·exact e
   ·omega
   ·omega
 ·have h1:=j k y;have I:=v k y
  rcases e with (e | e) | e
  ·have:=p e;omega
  ·have:=p e;omega
  ·rcases o k e with e | e | e<;>omega
 ·have h1:=j k y;have I:=v k y
  refine ⟨by omega,by omega,by omega,fun e=>?_⟩
  rcases o k e with e | e | e<;>omega
 ·rcases o k e with e | e | e
  ·exact ⟨by omega,by omega,by omega,by omega⟩
  ·exact ⟨by omega,by omega,by omega,by omega⟩
  ·exact ⟨by omega,by omega,by omega,by omega⟩
 ·rcases e with e | e | e
  ·have h1:=j k e;have I:=v k e
   refine ⟨by omega,fun e=>?_,fun _ e=>e⟩
   rcases o k e with e | e | e<;>omega
  ·have:=p e
   refine ⟨by omega,fun e=>?_,fun _ e=>e⟩
   rcases o k e with e | e | e<;>omega
  ·have:=p e
   refine ⟨by omega,fun e=>?_,fun _ e=>e⟩
   rcases o k e with e | e | e<;>omega
end Go.Proofs.YtaccfnffmbndhaaGreat
namespace Go.Proofs.YtaccfnffmbndhaaGreat
open Go.RowKit Go.ChangeShapes Go.WideShapes Go.ChangeAt
section
variable {P:Program} {ops:Array Oper} {Q:Exit→Act→World→Prop} {S:World→Prop} {n:Nat}
theorem XA.lr {L:List Nat} {a:Act} {w:World} (i:Nat) {p:List Value} {o:Oper} {q:TypeId} {x:Operand} {b j:Nat} (D:∀u,S u→u.rangeAt b j p) (hr:cL P q p.length) (B:S w)
  (k:XA P ops Q S n (i::L) (a.put o.dst (.agg p.toArray)) w)
  (y:ops[i]?=some o:=by (simp only [J1,Ka,Kb];rfl)) (hop:o.op=.load q x:=by rfl) (hx:a.eval x=.pointer (some ⟨b,j,none⟩):=by rfl) (hg:Region.wanted o (yielded ops a.tmps)=true:=by rfl)
  (hs:Region.noSelect ops=true:=by decide +kernel) (hQ:∀c a w d v,Q (.panic c) (Act.put a d v) w→Q (.panic c) a w:=by (intro _ _ _ d _ h;cases d<;>exact h)) (hc:ou ops n L [i]=true:=by decide +kernel):XA P ops Q S n L a w:=by
 obtain ⟨⟨d,h1,A⟩,C⟩:=hr
 exact XA.takes hs hQ B [i] hc (Ys.cons y (yieldsIf_load_mid hg q x hop b j hx p d D h1 A C) Ys.nil) (by simpa using k)
end
theorem tV:cL Tryz.prog 89 4:=⟨⟨_,Tryz.underlying89,rfl⟩,by kernel_rfl⟩
theorem mr {H:Type} {bG:TypeId×Value→H} {base:Nat} {v0 v1 v2:Value} {d0 d1 d2:DataW H} {p0 p1 p2:List MemPlace} (W:World)
  (o0:Value.okWide Tryz.prog W .any base 29 v0) (h0:DataW.Trod bG Tryz.prog W 0 (fun _=>true) true 29 v0 d0 p0) (z0:iC Tryz.prog 29 d0)
  (o1:Value.okWide Tryz.prog W .any base 3 v1) (h1:DataW.Trod bG Tryz.prog W 0 (fun _=>true) true 3 v1 d1 p1) (z1:iC Tryz.prog 3 d1)
  (o2:Value.okWide Tryz.prog W .any base 85 v2) (h2:DataW.Trod bG Tryz.prog W 0 (fun _=>true) true 85 v2 d2 p2) (z2:iC Tryz.prog 85 d2):
  Calls Tryz.prog 7 #[v0,v1,v2] W fun e p=>e=.returned (.bool true)∧Below W.heap.size W p:=by
 obtain ⟨A,c,D,cd,T,ct,R,cr,i,rfl,hI,_⟩:=Ed o0 h0 z0
 obtain ⟨z,rfl,_,_,b4⟩:=open_int Tryz.underlying3 o1 h1
 obtain ⟨CA,cc,L,rfl,dv,fr,dk⟩:=BJ o2 h2 z2
 clear o0 h0 z0 o1 h1 z1 o2 h2 z2 b4
 obtain ⟨n,hn⟩:∃n,L.length=n:=⟨_,rfl⟩
 rw [hn] at dv fr ⊢
 have b3:=fun p (q:Below W.heap.size W p)=>x6 A c D cd T ct R cr i p (hI.below q)
 have f7:=fun p (q:Below W.heap.size W p) (hs:kO i)=>(hI.below q).rd hs
 unfold xi at b3
 obtain ⟨W1,bf⟩:∃W1,W.alloc (.cells (aH A c D cd T ct R cr i) 29)=W1:=⟨_,rfl⟩
 have hx:W1.heap[W.heap.size]?=some (.cells (aH A c D cd T ct R cr i) 29 (0,0)):=by rw [←bf];exact JE W _
 have hB:Below W.heap.size W W1:=by rw [←bf];exact (br W).alloc (JD _) _
 obtain ⟨ab,ds,f1,ao,HB,gc,Hn,Hx⟩:=ak hx bf b3 f7 hB dk hn (fun p (q:Below W1.heap.size W1 p)=>hB.trans (q.mono hB.size));have b0:=aa (fun p (q:Below W1.heap.size W1 p)=>(xd p).mono fun e cs (h:_∧Below _ _ _)=>(⟨h.1,hB.trans ((q.trans (h.2.mono q.size)).mono hB.size)⟩:e=.returned (.bool true)∧Below W.heap.size W cs));clear b3 f7 hI hx hB bf dk hn
 go_enter Tryz.func7,Tryz.ntmps7
 go_wp2_with (refine aJ (aH A c D cd T ct R cr i) (b:=W.heap.size) (by rw [ds.out];exact ab.out) gM rfl rfl rfl rfl ?_)
 rw [ds.out]
 have q1:=br W1
 refine (f1.out W1 (Hx.out _ q1)).mono ?_
 rintro e w2 ⟨⟨b,rfl,hbs⟩,k2⟩
 have q2:=bt q1 k2
 clear q1 k2
 by_cases ci:b=true∧n≤30
 rotate_left
 ·clear hbs
  rcases dB b with rfl | rfl
  ·go_wp2_with fail
   refine (b0.out _ q2).mono ?_
   rintro e w3 ⟨rfl,h3⟩
   go_wp2_with fail
   go_ret
   exact ⟨rfl,h3⟩
  ·have gl:(30:Int)<n:=by
    rcases JR 30 n with h | h
    ·omega
    ·exact absurd ⟨rfl,h⟩ ci
   clear ci
   go_wp2_with fail
   refine (b0.out _ q2).mono ?_
   rintro e w3 ⟨rfl,h3⟩
   go_wp2_with fail
   go_ret
   exact ⟨rfl,h3⟩
 ·obtain ⟨rfl,gk⟩:=ci
  have gf:¬(30:Int)<n:=by omega
  have Hs:=aa (hbs rfl);clear hbs
  go_upto_region 3 with (fail)
  have d5:(∃C:Int,C≠0∧(∀p,Below W1.heap.size W1 p→Calls Tryz.prog 13 #[.agg (aH A c D cd T ct R cr i),KL z] p fun e cs=>e=.returned (.tuple #[.agg KP,KL C])∧Below p.heap.size p cs))∨
    (dd i=0∧∃x:Nat,z=x∧x<(aE i).W):=by
   by_cases hc:dd i=0
   ·by_cases hz:z<0∨i.cfg.workers≤z
    ·exact .inl ⟨2,by decide,fun p q=>Bc A c D cd T ct R cr i z p (ao.out p (Hx.out _ q) Hs.out.1) hc hz⟩
    ·have hw:=(qe.1 hc).c.w
     exact .inr ⟨hc,z.toNat,by omega,by simp only [aE];omega⟩
   ·exact .inl ⟨dd i,hc,fun p q=>Bd A c D cd T ct R cr i z p (ao.out p (Hx.out _ q) Hs.out.1) hc⟩
  rcases d5 with ⟨C,hC,es⟩ | ⟨hc,x,rfl,bU⟩
  ·obtain ⟨g5,HC⟩:=ae es hC
   clear es hC
   go_wp2_with (refine aJ (aH A c D cd T ct R cr i) (sb ab.out _ q2) gM rfl rfl rfl rfl ?_)
   refine (g5.out w2 q2).mono ?_
   rintro e w9 ⟨rfl,k9⟩
   have q9:=bt q2 k9
   clear k9 q2
   have gz:(C != 0)=true:=by rw [bne_iff_ne];exact HC.out
   go_wp2_with (refine az (JE _ _) cI rfl rfl rfl rfl rfl rfl rfl ?_;intro gT b8 a0;have fs:=aa (bt q9 (aB a0));clear b8 a0 q9)
   refine (b0.out _ fs.out).mono ?_
   rintro e ev ⟨rfl,aG⟩
   go_wp2_with fail
   go_ret
   exact ⟨rfl,aG⟩
  ·have a4:=Hs.out.sm hc
   obtain ⟨Q2,HN⟩:=ae q2 (xV A c D cd T ct R cr i x w2 (ao.out w2 (Hx.out _ q2) Hs.out.1) a4 bU);clear q2
   go_wp2_with (refine aJ (aH A c D cd T ct R cr i) (sb ab.out _ Q2.out) gM rfl rfl rfl rfl ?_)
   refine HN.out.mono ?_
   rintro e w3 ⟨vs,rfl,eS,bo,k3,eY⟩
   have q3:=bt Q2.out k3
   obtain ⟨Q3,K3,bb,b1,e1⟩:=ah q3 k3 eS bo (eY w3 (Keep.refl _ _) (ao.out w3 (Hx.out _ q3) Hs.out.1));clear q3 k3 eS bo eY HN
   go_upto_region 6 with (refine az (JE _ _) cI rfl rfl rfl rfl bb.out (by rw [bb.out];rfl) b1.out ?_;intro W4 e4 k4;obtain ⟨E4,Z⟩:=ae e4 (aB k4);clear e4 k4)
   have q4:=bt Q3.out Z.out
   have l4:=JC E4.out
   go_wp2_with (refine aJ (aH A c D cd T ct R cr i) (sb ab.out _ q4) gM rfl rfl rfl rfl ?_)
   refine (sY A c D cd T ct R cr i x W4 (ao.out W4 (Hx.out _ q4) Hs.out.1) a4 bU).mono ?_
   rintro e w5 ⟨b,a,rfl,k5,em,aR⟩
   have q5:=bt q4 k5
   obtain ⟨Q5,K5,eb,HM⟩:=ag q5 k5 em (aR (fun k=>k=w3.heap.size) w5 (Keep.refl _ _) (fun k e=>by omega))
   have L4:=aa l4;clear q4 q5 k5 em aR l4
   go_upto_region 7 with (fail)
   have go:=a4.g.c.ca
   obtain ⟨cp,g6⟩:∃cp:Nat,i.cfg.cap=cp:=⟨i.cfg.cap.toNat,by omega⟩
   have gI:∀p,Below W1.heap.size W1 p→p.cell? ⟨W.heap.size,11,none⟩=some (KL (cp:Nat)):=fun p q=>by rw [←g6];exact JF p W.heap.size 11 _ _ _ (sb ab.out p q)
   have tl:=sl ab.out
   have q6:=Q5.out.drew
   refine HA.g (fun p:World=>Below W1.heap.size W1 p) ?_
   refine HA.t ?_ [1,2,3] q6 ?_
   refine HA.c 0 (zY 3 _ (by decide)) ?_
   rintro e w6 ⟨rfl,av⟩
   have b9:Below W1.heap.size W1 w6:=by rw [av];exact q6.alloc q6.size _
   refine ⟨_,rfl,b9,fun _=>?_⟩
   refine HA.c 4 (zY cp _ (by omega)) ?_
   rintro e Q ⟨rfl,aM⟩
   have q7:Below W1.heap.size W1 Q:=by rw [aM];exact b9.alloc b9.size _
   refine ⟨_,rfl,q7,fun _=>?_⟩
   refine HA.t ?_ [5,6] q7 ?_
   refine HA.d ?_
   have s6:w6.heap.size=w5.heap.size+1:=by rw [av,JS,Kt]
   have s7:Q.heap.size=w5.heap.size+1+1:=by rw [aM,JS,s6]
   have b6:Below w5.heap.size w5 w6:=by rw [av];exact ((br w5).drew).alloc (JD _) _
   have cf:Below w6.heap.size w6 Q:=by rw [aM];exact (br w6).alloc (JD _) _
   have eG:∀B,aK Q B w5.heap.size none (LSt.new 3):=fun B=>aK.below (by rw [av];exact qV w5.drew B 3 (by decide) (by decide)) cf
   have f5:∀B,aK Q B (w5.heap.size+1) none (LSt.new cp):=fun B=>by
    have:=qV w6 B cp (by omega) (by omega)
    rw [←aM,s6] at this
    exact this
   obtain ⟨S7,dp,dT,e2,Q7⟩:=ah s7 (bt b6 cf) eG f5 q7
   have e6:w5.drew.heap.size=w5.heap.size:=Kt _
   rw [s6,e6]
   clear q6 b9 q7 av aM s6 s7 b6 cf eG f5 e6
   go_upto_region 8 with (fail)
   go_cut [13,14] (fun v1 v2 wx=>∃U V,v1=.pointer (some ⟨U,0,none⟩)∧v2=.pointer (some ⟨V,0,none⟩)∧wx.heap[U]?=some (.cells #[KL (3:Nat),KN,KL 0,KL 0] 73 (0,0))∧wx.heap[V]?=some (.cells #[KL (cp:Nat),KN,KL 0,KL 0] 73 (0,0))∧U≠V∧Q.heap.size≤U∧Q.heap.size≤V∧Below Q.heap.size Q wx)
   case first=>
    have q8:=Q7.out.drew
    have r8:Below Q.heap.size Q Q.drew:=(br Q).drew
    refine HA.g (fun p:World=>Below W1.heap.size W1 p) ?_
    refine HA.t ?_ [0,1,2,3,4] q8 ?_
    have bh:=q8.size
    have gA:=JE Q.drew (.cells #[KL 0,KN,KL 0,KL 0] 73)
    have qa:=q8.alloc q8.size (.cells #[KL 0,KN,KL 0,KL 0] 73)
    have ra:=r8.alloc r8.size (.cells #[KL 0,KN,KL 0,KL 0] 73)
    have sA:(Q.drew.alloc (.cells #[KL 0,KN,KL 0,KL 0] 73)).heap.size=Q.drew.heap.size+1:=JS _ _
    refine HA.two 5 6 ?_ ?_
    ·refine HAS.v (Q.drew.alloc (.cells #[KL 0,KN,KL 0,KL 0] 73)) (.pointer (some ⟨Q.drew.heap.size,0,none⟩)) qa ?_
     obtain ⟨wa,aP⟩:∃wa,Q.drew.alloc (.cells #[KL 0,KN,KL 0,KL 0] 73)=wa:=⟨_,rfl⟩
     rw [aP] at gA qa ra sA ⊢
     clear aP
     refine HA.v 6 (wa.alloc (.cells #[KL 0,KN,KL 0,KL 0] 73)) (.pointer (some ⟨wa.heap.size,0,none⟩)) (qa.alloc qa.size _) ?_
     have gB:=JE wa (.cells #[KL 0,KN,KL 0,KL 0] 73)
     have a5:=sb gA _ ((br wa).alloc (JD _) (.cells #[KL 0,KN,KL 0,KL 0] 73))
     have qb:=qa.alloc qa.size (.cells #[KL 0,KN,KL 0,KL 0] 73)
     have rb:=ra.alloc ra.size (.cells #[KL 0,KN,KL 0,KL 0] 73)
     obtain ⟨wb,b2⟩:∃wb,wa.alloc (.cells #[KL 0,KN,KL 0,KL 0] 73)=wb:=⟨_,rfl⟩
     rw [b2] at gB a5 qb rb ⊢
     clear b2
     refine HA.st 7 a5 aS (fun w8 e8 k8=>?_)
     have q9:=iq qb k8 qb.size bh
     refine ⟨q9,?_⟩
     refine HA.st 8 ((k8.block _ (JC gB) (by omega)).trans gB) aS (fun w9 e9 k9=>?_)
     refine ⟨iq q9 k9 q9.size qa.size,HA.d ?_⟩
     have HF:=aa (ue (w:=Q) (Nat.ne_of_lt (JC gA)) (JD _) ra.size rb e8 k8 e9 k9);clear gA gB a5 qa qb ra rb sA e8 k8 e9 k9 q8 r8 q9 bh
     go_wp2_with fail
     go_meet
     exact ⟨_,_,rfl,rfl,HF.out⟩
    ·refine HAS.v (Q.drew.alloc (.cells #[KL 0,KN,KL 0,KL 0] 73)) (.pointer (some ⟨Q.drew.heap.size,0,none⟩)) qa ?_
     obtain ⟨wa,aP⟩:∃wa,Q.drew.alloc (.cells #[KL 0,KN,KL 0,KL 0] 73)=wa:=⟨_,rfl⟩
     rw [aP] at gA qa ra sA ⊢
     clear aP
     refine HA.v 5 (wa.alloc (.cells #[KL 0,KN,KL 0,KL 0] 73)) (.pointer (some ⟨wa.heap.size,0,none⟩)) (qa.alloc qa.size _) ?_
     have gB:=JE wa (.cells #[KL 0,KN,KL 0,KL 0] 73)
     have a5:=sb gA _ ((br wa).alloc (JD _) (.cells #[KL 0,KN,KL 0,KL 0] 73))
     have qb:=qa.alloc qa.size (.cells #[KL 0,KN,KL 0,KL 0] 73)
     have rb:=ra.alloc ra.size (.cells #[KL 0,KN,KL 0,KL 0] 73)
     obtain ⟨wb,b2⟩:∃wb,wa.alloc (.cells #[KL 0,KN,KL 0,KL 0] 73)=wb:=⟨_,rfl⟩
     rw [b2] at gB a5 qb rb ⊢
     clear b2
     refine HA.st 7 gB aS (fun w8 e8 k8=>?_)
     have q9:=iq qb k8 qb.size qa.size
     refine ⟨q9,?_⟩
     refine HA.st 8 ((k8.block _ (JC a5) (by omega)).trans a5) aS (fun w9 e9 k9=>?_)
     refine ⟨iq q9 k9 q9.size bh,HA.d ?_⟩
     have HF:=aa (ue (w:=Q) (Nat.ne_of_gt (JC gA)) ra.size (JD _) rb e8 k8 e9 k9);clear gA gB a5 qa qb ra rb sA e8 k8 e9 k9 q8 r8 q9 bh
     go_wp2_with fail
     go_meet
     exact ⟨_,_,rfl,rfl,HF.out⟩
   case rest=>
   obtain ⟨U,V,rfl,rfl,eU,eV,f3,gU,gV,q8⟩:=hcut
   obtain ⟨w9,rfl⟩:∃w9,w9=wc:=⟨_,rfl⟩
   have MX:Hid (Mx W1 (fun _ _=>False) w3.heap.size U V w9.heap.size b w5.heap.size (w5.heap.size+1) i x 0 0 w9):=Lib.hid (by
    have s7:=S7.out
    have k5:=K5.out.size
    have l4:=L4.out
    have d6:=bt dp.out q8
    have ew:=bt K5.out d6
    exact Ei e1.out ⟨bb.out,b1.out⟩ (bt Q5.out d6) Q3.out.size (bt Z.out ew) HM.out (fun k hk=>by have:=eb.out k hk;omega) rfl d6 (by omega) (JD _) (by omega) (by omega) (by omega) f3 (sb E4.out _ ew) eU eV ((dT.out _).below q8) ((e2.out _).below q8))
   have HI:=aa (ao.out W1 (Hx.out _ (br W1)) Hs.out.1)
   obtain ⟨X,hX⟩:∃X,w3.heap.size=X:=⟨_,rfl⟩
   obtain ⟨l,hl⟩:∃l,w5.heap.size=l:=⟨_,rfl⟩
   obtain ⟨B,hB⟩:∃B,w9.heap.size=B:=⟨_,rfl⟩
   rw [hX,hl,hB] at MX
   rw [hX,hl]
   clear hX hl hB eU eV f3 gU gV q8 Q5 K5 HM eb L4 S7 dp dT e2 Q7 E4 Z e1 bb b1 K3 Q3 Q2
   go_wp2_with fail
   go_loopw [63] (fun z wr=>∃k:Nat,k≤n∧z=KL k∧Mx W1 (fun _ _=>False) X U V B b l (l+1) i x k (7*k) wr) (fun z _=>n-(intOf z).toNat)
   case atStart=>exact ⟨0,JH _,rfl,MX.out⟩
   case round=>
    obtain ⟨k,hk,rfl,a,m,s,t,g,g',vs,u,v,J,BX,I,O⟩:=hrel
    clear MX
    by_cases g4:k<n
    ·obtain ⟨y,hy⟩:∃y,L[k]?=some y:=⟨_,Kh (by rw [Hn.out];exact g4)⟩
     obtain ⟨bc,oc,YA,yc,rfl,be,bv,cy,bA⟩:=CJ gc.out hy (Hx.out _ BX.q1)
     obtain ⟨xs,good,tr,tk⟩:=y
     dsimp only at be bv cy bA
     obtain ⟨yl,c7⟩:∃yl,xs.length=yl:=⟨_,rfl⟩
     rw [c7] at be
     have f8:(k:Int)<n:=by omega
     have gO:¬(k:Int)<0:=by omega
     have gx:¬n≤k:=by omega
     obtain ⟨HJ,a2,f9,f6,b7,b5,g8,a3⟩:=ak J BX be bv cy bA c7 I;have N:=aa O;clear J BX be bv cy bA c7 I O hy
     go_upto_region 12 with (first | (refine dN f9.out tV rfl rfl rfl ?_) | (refine az (JE _ _) tV rfl rfl rfl rfl rfl rfl rfl ?_;intro Wy ey ky;obtain ⟨EY,KY⟩:=ae ey (aB ky);clear ey ky))
     have y0:Wy.cell? ⟨wr.heap.size,0,none⟩=some (.slice YA yl yc):=JF Wy _ 0 _ _ _ EY.out
     have QY:=aa (bt a2.out.q1 KY.out)
     by_cases gd:50<yl
     ·have bs:(50:Int)<yl:=by omega
      go_wp2_with fail
      refine (b0.out _ QY.out).mono ?_
      rintro e ev ⟨rfl,aG⟩
      go_wp2_with fail
      go_ret
      exact ⟨rfl,aG⟩
     ·have bs:¬(50:Int)<yl:=by omega
      go_upto_region 14 with (fail)
      clear y0 bs
      have eX:yl≤50:=by omega
      obtain ⟨JY,BY⟩:=ae (HJ.out.below KY.out) (a2.out.addN KY.out HJ.out.wl.lts (JD _) EY.out);clear gd HJ a2
      go_wp2_with (first | (refine aJ vs BY.out.hx (by rw [BY.out.op.1];exact cI) rfl rfl rfl (by rw [Ke,Ks]) ?_) | (refine aJ #[.slice YA yl yc,.bool good,.int .u8 tr,.int .u8 tk] EY.out tV rfl rfl rfl rfl ?_))
      have ef:Rd (ay (fm (E3 X U V) b a l g (l+1) g') Wy) YA (aq .i64 xs):=aU f6.out.hr (nS (Hx.out _ BY.out.q1) (fun k e=>BY.out.hid HB.out.size k e))
      refine (xm JY.out.wl.sl JY.out.rm a4 (JY.out.ok.done a4) YA xs yl yc good tr tk ef f6.out.hw g8.out eX).mono ?_
      clear ef
      rintro e fa ⟨tg,zs,ZB,zd,rfl,hz,b4,bi,ej,a0⟩
      obtain ⟨JZ,BZ,Hz,eo,bn,f4⟩:=ai (JY.out.below a0) (BY.out.below a0) hz b4 bi ej;clear hz b4 bi ej a0 JY BY
      go_upto_region 15 with (refine az (JE _ _) gL rfl rfl rfl rfl rfl rfl rfl ?_;intro Wz ez kz;obtain ⟨EZ,KZ⟩:=ae ez (aB kz);clear ez kz)
      obtain ⟨bN,eB,ei⟩:=af (JZ.out.below KZ.out) (BZ.out.addN KZ.out JZ.out.wl.lts (JD _) EZ.out) (aU Hz.out (cX KZ.out));clear JZ BZ Hz
      go_wp2_with (refine aJ #[KL tg.a,KL tg.b,KL tg.c,KL tg.d,KL tg.e,.slice ZB zs.length zd] EZ.out gL rfl rfl rfl rfl ?_)
      refine (bN.out.put tg zs ZB zd ei.out bn.out (by have:=a3.out;omega)).mono ?_
      rintro e gg ⟨⟨Cs,rfl⟩,g1,P,ea,kS,gS⟩
      obtain ⟨HP,BP,dc,eM⟩:=ag P (eB.out.step kS gS) ea bN.out.wl.lf.ok.rs;clear P ea kS gS ei eB bN
      go_wp2_with (first | (refine aJ u BP.out.hu (by rw [BP.out.oq.1];exact aS) rfl rfl rfl (by rw [Ke,Ks]) ?_) | (refine aJ #[KL tg.a,KL tg.b,KL tg.c,KL tg.d,KL tg.e,.slice ZB zs.length zd] (BP.out.fx _ _ (.inr ⟨rfl,rfl⟩)).1 gL rfl rfl rfl rfl ?_))
      refine (HP.out.rsend ZB zd dc.out eM.out (by have:=a3.out;omega) eo.out f4.out).mono ?_
      rintro e fi ⟨u1,C1,rfl,n4,o4,J3,ad⟩
      obtain ⟨BR,el,N4,O4⟩:=ag (BP.out.below ad) J3 n4 o4;clear BP J3 ad n4 o4 HP dc
      go_upto_region 17 with (refine az BR.out.hu aS rfl rfl rfl rfl N4.out (by rw [BR.out.oq.1,N4.out]) O4.out ?_;intro d4 dn a7;obtain ⟨J4,Z⟩:=ae (el.out.stU BR.out a7) (BR.out.stU a7 dn ⟨N4.out,O4.out⟩);clear dn a7)
      clear el BR
      obtain ⟨Y,hY⟩:∃Y,wr.heap.size=Y:=⟨_,rfl⟩
      rw [hY] at Z ⊢
      have dr:Hid (Mx W1 (fun (k:Nat) (o:Obj)=>k=Y∧o=.cells #[.slice YA yl yc,.bool good,.int .u8 tr,.int .u8 tk] 89 (0,0)) X U V B b l (l+1) i x (k+1) (7*k) d4):=Lib.hid ⟨a,m,nG s tg zs,t,g1,g',vs,u1,v,J4.out,Z.out.less (fun k o f=>.inl (.inr f)),by have:=(D0 s tg zs).1;have:=a3.out;omega,N.out⟩
      have y2:d4.cell? ⟨Y,2,none⟩=some (.int .u8 tr):=JF d4 Y 2 _ _ _ (Z.out.fx _ _ (.inl (.inr ⟨rfl,rfl⟩))).1
      clear J4 Z EZ KZ hY EY KY QY eo bn f4 a3 N eM N4 O4
      have cx:IntKind.i64.wrap tr=tr:=JI _ (by have:=b7.out;omega)
      obtain ⟨nt,fd,gm⟩:∃nt:Nat,tr.tmod 8=nt∧nt≤7:=⟨(tr%8).toNat,by rw [Int.tmod_eq_emod_of_nonneg b7.out.1];have:=b7.out;omega,by have:=b7.out;omega⟩
      have d7:IntKind.i64.wrap (nt:Int)=nt:=JI _ (by omega)
      go_upto_region 18 with (fail)
      clear fd y2 cx d7
      have gs:=HI
      go_loopw [88] (fun z wr=>∃j:Nat,j≤nt∧z=KL j∧Mx W1 (fun (k:Nat) (o:Obj)=>k=Y∧o=.cells #[.slice YA yl yc,.bool good,.int .u8 tr,.int .u8 tk] 89 (0,0)) X U V B b l (l+1) i x (k+1) (7*k+j) wr) (fun z _=>nt-(intOf z).toNat)
      case atStart=>exact ⟨0,JH _,rfl,dr.out⟩
      case round=>
       clear dr
       obtain ⟨j,hj,rfl,a,m,s,t,g,g',vs,u,v,J,BX,I,O⟩:=hrel
       by_cases g3:j<nt
       ·have bV:(j:Int)<nt:=by omega
        obtain ⟨m1,s1,t1,C,ht⟩:=AE i x m s t J.wl.lf.ok.rs J.wl.lt.ok.sr
        obtain ⟨HJ,a2,Ht,eq,a3,N⟩:=ai J BX ht J.ms I O;clear J BX I O ht
        go_wp2_with fail
        have bX:decide (C=0)=((C:Int)==0):=by rw [Bool.eq_iff_iff];simp
        have cv:=HJ.out.en a4 (by have:=N.out;omega) Ht.out
        rw [bX] at cv
        refine cv.mono ?_
        clear cv bX
        rintro e w2 ⟨rfl,k2⟩
        obtain ⟨J2,B2⟩:=ae (HJ.out.below k2) (a2.out.below k2);clear HJ a2 k2
        go_wp2_with fail
        refine (J2.out.do_ a4 (by have:=N.out;omega) HI.out.ra HI.out.rm Ht.out).mono ?_
        rintro e w3 ⟨rfl,a1,fe,M3,kS,gS⟩
        obtain ⟨dG,B3,bd⟩:=af M3 (B2.out.step kS gS) J2.out.wl.lt.ok.rs;clear M3 kS gS J2 B2
        go_wp2_with (first | (refine aJ vs B3.out.hx (by rw [B3.out.op.1];exact cI) rfl rfl rfl (by rw [Ke,Ks]) ?_) | (refine aJ u B3.out.hu (by rw [B3.out.oq.1];exact aS) rfl rfl rfl (by rw [Ke,Ks]) ?_) | (refine aJ v B3.out.hv (by rw [B3.out.or'.1];exact aS) rfl rfl rfl (by rw [Ke,Ks]) ?_))
        refine (dG.out.rdo a4 bd.out (by have:=a3.out;omega) (by have:=N.out;omega) (by have:=bU;simpa only [aE] using this)).mono ?_
        rintro e w4 ⟨bI,u1,v1,rfl,ec,ek,J4,k4⟩
        have ru:=J4.ru.row;have rv:=J4.rv.row
        obtain ⟨_,rfl,g0,g1,g2,k0⟩:=pD w4 KP #[KL 0,KN,KL 0,KL 0] #[KL 0,KN,KL 0,KL 0] 43 73 73
        obtain ⟨e0,Z,a8,cw,RU,RV,G0,G1⟩:=ak J4 (B3.out.below k4) ec ek ru rv g0 g1;obtain ⟨G2,K0⟩:=ae g2 k0;clear J4 k4 ec ek ru rv g0 g1 g2 k0 dG B3
        go_upto_region 22 with (first | (refine az G0.out cI rfl rfl rfl rfl a8.out (by rw [a8.out];rfl) cw.out ?_;intro W5 e5 k5;obtain ⟨E5,da,co,K5⟩:=ag e5 ((k5.block _ (JC G1.out) (by omega)).trans G1.out) ((k5.block _ (JC G2.out) (by omega)).trans G2.out) (iq K0.out k5 K0.out.size (JD _));clear e5 k5) | (refine az da.out aS rfl rfl rfl rfl RU.out.1 (by rw [RU.out.1];rfl) RU.out.2 ?_;intro W6 e6 k6;obtain ⟨E6,d8,eu,K6⟩:=ag e6 ((k6.block _ (JC E5.out) (by omega)).trans E5.out) ((k6.block _ (JC co.out) (by omega)).trans co.out) (iq K5.out k6 K5.out.size (by omega));clear e6 k6) | (refine az eu.out aS rfl rfl rfl rfl RV.out.1 (by rw [RV.out.1];rfl) RV.out.2 ?_;intro W7 e7 k7;obtain ⟨E7,bw,bz,K7⟩:=ag e7 ((k7.block _ (JC d8.out) (by omega)).trans d8.out) ((k7.block _ (JC E6.out) (by omega)).trans E6.out) (iq K6.out k7 K6.out.size (by omega));clear e7 k7))
        have hd:Below W7.heap.size W7 W7.drew:=(br W7).drew
        have J7:=e0.out.below (bt K7.out hd);have B7:=Z.out.below (bt K7.out hd)
        have lE:∀k,E3 X U V k→k<w4.heap.size:=by
         rintro k (e | e | e)
         ·rw [e];exact JC Z.out.hx
         ·rw [e];exact JC Z.out.hu
         ·rw [e];exact JC Z.out.hv
        have q7:Keep (E3 X U V) W7 W7.drew:=Keep.below hd
        refine HA.g (fun p:World=>Keep (E3 X U V) W7 p) ?_
        refine HA.ld 0 bI (fun p q=>(q.block _ (JC bw.out) (fun e=>by have:=lE _ e;omega)).trans bw.out) (by rw [a8.out];exact cI) q7 ?_ (hcs:=by rw [Ke,Ks])
        refine HA.ld 1 u1 (fun p q=>(q.block _ (JC bz.out) (fun e=>by have:=lE _ e;omega)).trans bz.out) (by rw [RU.out.1];exact aS) q7 ?_ (hcs:=by rw [Ke,Ks])
        refine HA.ld 2 v1 (fun p q=>(q.block _ (JC E7.out) (fun e=>by have:=lE _ e;omega)).trans E7.out) (by rw [RV.out.1];exact aS) q7 ?_ (hcs:=by rw [Ke,Ks])
        refine HA.st 3 B7.hx cI (fun w8 e8 k8=>?_) (hn:=a8.out) (hs:=by rw [B7.op.1,a8.out]) (h1:=cw.out)
        have q8:=q7.trans (k8.mono fun j _ e=>.inl e)
        refine ⟨q8,?_⟩
        have J8:=J7.stX B7 k8
        have B8:=B7.stX k8 e8 ⟨a8.out,cw.out⟩
        refine HA.st 4 B8.hu aS (fun gG e9 k9=>?_) (hn:=RU.out.1) (hs:=by rw [B8.oq.1,RU.out.1]) (h1:=RU.out.2)
        have q9:=q8.trans (k9.mono fun j _ e=>.inr (.inl e))
        refine ⟨q9,?_⟩
        have J9:=J8.stU B8 k9
        have B9:=B8.stU k9 e9 RU.out
        refine HA.st 5 B9.hv aS (fun fa b8 a0=>?_) (hn:=RV.out.1) (hs:=by rw [B9.or'.1,RV.out.1]) (h1:=RV.out.2)
        refine ⟨q9.trans (a0.mono fun j _ e=>.inr (.inr e)),?_⟩
        obtain ⟨bO,d3⟩:=ae (J9.stV B9 a0) (B9.stV a0 b8 RV.out)
        refine HA.d ?_
        clear hd J7 B7 lE q7 e8 k8 q8 J8 B8 e9 k9 q9 J9 B9 b8 a0 bw bz E7 K7 e0 Z G0 G1 G2 K0 E5 E6 d8 da co eu K5 K6
        have dv:((C:Int) != (C:Int))=false:=bne_self_eq_false _
        have gy:(((C:Int)==0) != ((C:Int)==0))=false:=bne_self_eq_false _
        obtain ⟨cb,bX⟩:∃cb,((C:Int)==0)=cb:=⟨_,rfl⟩
        go_wp2_with (refine nc bI d3.out.hx (by rw [a8.out];exact cI) rfl rfl rfl (by rw [Ke,Ks]) ?_)
        refine (bO.out.same a4).mono ?_
        rintro e gg ⟨rfl,cj⟩
        obtain ⟨bM,c8⟩:=ae (bO.out.below cj) (d3.out.below cj);clear bO d3 cj
        go_wp2_with (refine nc u1 c8.out.hu (by rw [RU.out.1];exact aS) rfl rfl rfl (by rw [Ke,Ks]) ?_)
        refine (bM.out.sentF).mono ?_
        rintro e fi ⟨rfl,ad⟩
        obtain ⟨cO,d9⟩:=ae (bM.out.below ad) (c8.out.below ad);clear bM c8 ad
        go_wp2_with (refine nc v1 d9.out.hv (by rw [RV.out.1];exact aS) rfl rfl rfl (by rw [Ke,Ks]) ?_)
        refine (cO.out.sentT).mono ?_
        rintro e gR ⟨rfl,a7⟩
        obtain ⟨fb,g7⟩:=ae (cO.out.below a7) (d9.out.below a7);clear cO d9 a7
        go_wp2_with fail
        go_roundw
        case rel=>exact ⟨j+1,by omega,by go_num,a1,m1,s1,t1,g,fe,bI,u1,v1,fb.out,g7.out,by rw [(Ht.out.msgs eq.out).2.1];exact a3.out,by have:=(Ht.out.msgs eq.out).2.2.1;have:=N.out;omega⟩
        case measure=>simp [intOf];omega
       ·have bV:¬(j:Int)<nt:=by omega
        have f0:Hid (Mx W1 (fun (k:Nat) (o:Obj)=>k=Y∧o=.cells #[.slice YA yl yc,.bool good,.int .u8 tr,.int .u8 tk] 89 (0,0)) X U V B b l (l+1) i x (k+1) (7*(k+1)) wr):=Lib.hid ⟨a,m,s,t,g,g',vs,u,v,J,BX,I,by omega⟩
        have y3:wr.cell? ⟨Y,3,none⟩=some (.int .u8 tk):=JF wr Y 3 _ _ _ (BX.fx _ _ ⟨rfl,rfl⟩).1
        clear J BX I O
        have cx:IntKind.i64.wrap tk=tk:=JI _ (by have:=b5.out;omega)
        obtain ⟨nk,fn,gp⟩:∃nk:Nat,tk.tmod 4=nk∧nk≤3:=⟨(tk%4).toNat,by rw [Int.tmod_eq_emod_of_nonneg b5.out.1];have:=b5.out;omega,by have:=b5.out;omega⟩
        have d7:IntKind.i64.wrap (nk:Int)=nk:=JI _ (by omega)
        go_upto_region 27 with (fail)
        clear fn y3 cx d7
        go_loopw [142] (fun z wr=>∃j:Nat,j≤nk∧z=KL j∧Mx W1 (fun (k:Nat) (o:Obj)=>k=Y∧o=.cells #[.slice YA yl yc,.bool good,.int .u8 tr,.int .u8 tk] 89 (0,0)) X U V B b l (l+1) i x (k+1) (7*(k+1)) wr) (fun z _=>nk-(intOf z).toNat)
        case atStart=>exact ⟨0,JH _,rfl,f0.out⟩
        case round=>
         clear f0
         obtain ⟨j,hj,rfl,a,m,s,t,g,g',vs,u,v,J,BX,I,O⟩:=hrel
         by_cases g3:j<nk
         ·have bV:(j:Int)<nk:=by omega
          have cA:=J.wl.lt.ok.rs
          obtain ⟨HJ,a2,a3,N,bd⟩:=ah J BX I O cA;clear J BX I O
          rcases JR t.recv t.msgs.length with bl | gb
          ·have a6:=aa bl
           clear bl cA
           go_wp2_with fail
           refine (HJ.out.peekT a6.out).mono ?_
           rintro e w2 ⟨rfl,k2⟩
           obtain ⟨J2,B2⟩:=ae (HJ.out.below k2) (a2.out.below k2);clear HJ a2 k2
           go_upto_region 29 with (refine az (JE _ _) ff rfl rfl rfl rfl rfl rfl rfl ?_;intro W3 e3 k3;obtain ⟨E3,K3⟩:=ae e3 (aB k3);clear e3 k3)
           obtain ⟨J3,B3⟩:=ae (J2.out.below K3.out) (B2.out.below K3.out);clear J2 B2 K3
           go_wp2_with (refine aJ #[KL (aC t.msgs t.recv).tag.a,KL (aC t.msgs t.recv).tag.b,KL (aC t.msgs t.recv).tag.c,KL (aC t.msgs t.recv).tag.d,KL (aC t.msgs t.recv).tag.e] E3.out ff rfl rfl rfl rfl ?_)
           refine (J3.out.take a6.out (aC t.msgs t.recv).tag rfl).mono ?_
           rintro e w4 ⟨⟨Am,cm,rfl⟩,T4,kS⟩
           obtain ⟨cl,Z⟩:=ae T4 (B3.out.step kS (fun k e=>.inl e));clear T4 kS J3 B3 E3
           go_wp2_with (refine aJ v Z.out.hv (by rw [Z.out.or'.1];exact aS) rfl rfl rfl (by rw [Ke,Ks]) ?_)
           refine (cl.out.rv.msgs bd.out (by have:=N.out;omega)).mono ?_
           rintro e w5 ⟨A5,c5,rfl,r5,k5⟩
           obtain ⟨ee,B5⟩:=ae (cl.out.below k5) (Z.out.below k5)
           obtain ⟨bm,om,rfl,c9⟩:=r5.tag0 (by rw [Kn];have:=a6.out;omega)
           rw [vR] at c9
           obtain ⟨d,hd⟩:∃d,t.msgs.length-t.recv=d:=⟨_,rfl⟩
           have gv:0<d:=by have:=a6.out;omega
           have gJ:(0:Int)<d:=by omega
           rw [hd]
           have ga:=aa c9;clear hd r5 k5 c9 cl Z
           go_upto_region 32 with (fail)
           have q5:Below w5.heap.size w5 w5.drew:=(br w5).drew
           have g9:¬d≤0:=by omega
           refine XA.g 10 (fun p:World=>Below w5.heap.size w5 p) ?_
           refine XA.ld 0 v (fun p q=>sb B5.out.hv p q) (by rw [B5.out.or'.1];exact aS) q5 ?_ (hcs:=by rw [Ke,Ks])
           refine XA.t ?_ [1,2,3] q5 ?_
           refine XA.lr 4 (fun p q=>fun j u hu=>am q (ga.out j u hu)) ff q5 ?_
           refine XA.c 5 ((ee.out.below q5).rrecv a6.out (by have:=N.out;omega) (aC t.msgs t.recv).tag rfl) ?_
           rintro e w6 ⟨v1,A6,c6,n6,rfl,n4,o4,J6,k6⟩
           have q6:=q5.trans (k6.mono q5.size)
           refine ⟨_,rfl,q6,fun _=>?_⟩
           refine XA.t ?_ [6,7] q6 ?_
           refine XA.t0 ?_ [8,9] q6 ?_
           obtain ⟨f2,B6,N4,O4⟩:=ag J6 (B5.out.below q6) n4 o4;clear J6 k6 q5 q6 n4 o4 B5 ee g9
           refine XA.e ?_
           simp only [Kc,Ke]
           go_upto_region 33 with (refine az B6.out.hv aS rfl rfl rfl rfl N4.out (by rw [B6.out.or'.1,N4.out]) O4.out ?_;intro W7 e7 k7;obtain ⟨J7,B7⟩:=ae (f2.out.stV B6.out k7) (B6.out.stV k7 e7 ⟨N4.out,O4.out⟩);clear e7 k7)
           clear f2 B6
           go_wp2_with fail
           go_roundw
           case rel=>exact ⟨j+1,by omega,by go_num,a,m,s,_,g,g',vs,u,v1,J7.out,B7.out,a3.out,N.out⟩
           case measure=>simp [intOf];omega
          ·have h0:t.recv=t.msgs.length:=by omega
           have H0:=aa h0;clear h0 gb cA
           go_wp2_with fail
           refine (HJ.out.peek0 H0.out).mono ?_
           rintro e w2 ⟨rfl,k2⟩
           obtain ⟨J2,B2⟩:=ae (HJ.out.below k2) (a2.out.below k2);clear HJ a2 k2
           go_upto_region 29 with (refine az (JE _ _) ff rfl rfl rfl rfl rfl rfl rfl ?_;intro W3 e3 k3;obtain ⟨E3,K3⟩:=ae e3 (aB k3);clear e3 k3)
           obtain ⟨J3,B3⟩:=ae (J2.out.below K3.out) (B2.out.below K3.out);clear J2 B2 K3
           go_wp2_with (refine aJ #[KL 0,KL 0,KL 0,KL 0,KL 0] E3.out ff rfl rfl rfl rfl ?_)
           refine (J3.out.take0 H0.out Tg.zero).mono ?_
           rintro e w4 ⟨rfl,k4⟩
           obtain ⟨J4,Z⟩:=ae (J3.out.below k4) (B3.out.below k4);clear k4 J3 B3 E3
           go_wp2_with (refine aJ v Z.out.hv (by rw [Z.out.or'.1];exact aS) rfl rfl rfl (by rw [Ke,Ks]) ?_)
           refine (J4.out.rv.msgs bd.out (by have:=N.out;omega)).mono ?_
           rintro e w5 ⟨A5,c5,rfl,r5,k5⟩
           obtain ⟨J5,B5⟩:=ae (J4.out.below k5) (Z.out.below k5)
           have hd:t.msgs.length-t.recv=0:=by have:=H0.out;omega
           rw [hd]
           clear hd r5 k5 J4 Z
           go_wp2_with fail
           go_roundw
           case rel=>exact ⟨j+1,by omega,by go_num,a,m,s,t,g,g',vs,u,v,J5.out,B5.out,a3.out,N.out⟩
           case measure=>simp [intOf];omega
         ·have bV:¬(j:Int)<nk:=by omega
          have fc:Hid (Mx W1 (fun _ _=>False) X U V B b l (l+1) i x (k+1) (7*(k+1)) wr):=Lib.hid ⟨a,m,s,t,g,g',vs,u,v,J,BX.less (fun _ _ f=>f.elim),I,O⟩
          clear J BX I O
          go_wp2_with fail
          go_roundw
          case rel=>exact ⟨k+1,by omega,by go_num,fc.out⟩
          case measure=>simp [intOf];omega
    ·have f8:¬(k:Int)<n:=by omega
     have QV:=aa BX.q1;clear J BX I O
     go_wp2_with fail
     refine (b0.out _ QV.out).mono ?_
     rintro e ev ⟨rfl,aG⟩
     go_wp2_with fail
     go_ret
     exact ⟨rfl,aG⟩
end Go.Proofs.YtaccfnffmbndhaaGreat
