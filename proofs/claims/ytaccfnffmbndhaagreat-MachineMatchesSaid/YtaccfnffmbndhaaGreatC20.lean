/- No condition. -/
import Derived.Test.YtaccfnffmbndhaaGreatC00
import Derived.Test.YtaccfnffmbndhaaGreatC19
import Derived.Lib.SliceRun
import Derived.Test.YtaccfnffmbndhaaGreatProg
import Derived.Test.YtaccfnffmbndhaaGreatC01
import Derived.KernelRfl
import Derived.BigQuiet
import Derived.Deep.QuietTactic
import Derived.Deep.RegionHeld3
import Derived.StillTailTactics
import Derived.WalkSpells
set_option linter.unusedSimpArgs false
set_option linter.unusedVariables false
set_option maxRecDepth 100000
set_option maxHeartbeats 4000000
namespace Go.Proofs.YtaccfnffmbndhaaGreat
open Go.RowKit
theorem aI.setG {H:Nat→Prop} {w u:World} {b x:Nat} {i:Inp} {a:MAd} {m:Mst} (h:aI H w b i x a m) (hn:∀k,Mut b a k→¬H k) (B:Keep (fun k=>k=a.bg) w u) (G:List Int)
  (oG:u.ownsRow 0 2 1 (.slice (some ⟨a.bg,0,none⟩) i.start.length a.cg) i.start.length (aq .i64 G)) (wG:G.length=i.start.length∧W64 G):aI H u b i x a {m with G:=G}:=by
 have he:Ext (ay (fL H b a) w) (ay (fL H b a) u):=cu (B.mono fun k _ e=>.inl (.inr (.inr (.inr (.inl e))))) (fun k _ Z=>Z)
 have L:=(B.block b (JC h.blk) (fun e=>an h.blk (by decide) h.oG (by rw [e];rfl))).trans h.blk
 have o:∀{v:Value} {e size n xs},(∀j,v.ownBlock=some j→j≠a.bg)→w.ownsRow 0 e size v n xs→u.ownsRow 0 e size v n xs:=fun p o=>B.own o (fun j q e=>p j q e)
 have I:∀{v:Value} {e:TypeId} {size n:Nat} {xs:List Value},e≠2→w.ownsRow 0 e size v n xs→∀j,v.ownBlock=some j→j≠a.bg:=fun p o j q e=>by
  rcases h.oG.2 with ⟨A,_⟩ | ⟨r',_,_,A,_,hg,_⟩
  ·cases A
  ·simp only [Ku,Option.some.injEq,Addr.mk.injEq] at A
   obtain ⟨⟨V,_⟩,_⟩:=A
   exact an hg (Ne.symm p) o (by rw [q,e,V])
 obtain ⟨U,X,Y,O,Q,C,R⟩:=h.pl
 obtain ⟨y,D,T,J,N⟩:=h.re
 exact ⟨L,eK h.sh he,dJ bW h.ex he,gi h.sa he,⟨U,X,Y,O,Q,C,gj R he⟩,aU h.bu he,aU h.it he,⟨y,o (I (by decide) D) D,T,J,fun j x hx=>bW (N j x hx) he⟩,
  o (fun j q=>by cases q;exact h.dj.2.1) h.oP,o (fun j q=>by cases q;exact h.dj.2.2) h.oM,oG,o (I (by decide) h.oO) h.oO,h.dj,fun k _ hm=>hn k hm,h.wP,h.wM,wG,h.ox,h.xw⟩
theorem rg {p:Pln} {x st:Nat} {y:Itm} (h:y∈aD p x st) (i:y.kind=1):y.n<p.mi:=by
 unfold aD at h
 simp only [Kv,List.mem_map,List.mem_flatMap,List.mem_singleton,List.mem_range] at h
 rcases h with (⟨k,j,rfl⟩ | ⟨g,_,h⟩) | rfl
 ·exact j
 ·unfold de at h
  simp only [Kv,List.mem_map,List.mem_flatMap] at h
  rcases h with (⟨_,_,rfl⟩ | ⟨_,_,_,_,_,_,h⟩) | ⟨_,_,rfl⟩
  ·cases i
  ·unfold cC at h
   obtain ⟨c,_,rfl⟩:=List.mem_map.1 h
   unfold gh at i
   split at i<;>cases i
  ·cases i
 ·cases i
theorem ep {i:Inp} {x st nx:Nat} {y:Itm} (h:(bZ i x st)[nx]?=some y):st<i.cfg.steps.toNat∧y∈aD (aE i) x st:=by
 unfold bZ at h
 by_cases hc:st<i.cfg.steps.toNat
 ·rw [if_pos hc] at h;exact ⟨hc,List.mem_of_getElem? h⟩
 ·rw [if_neg hc] at h;simp at h
theorem rn (i:Inp) (P G:List Int) (hG:W64 G):∀l:List Ex,W64 (eg i P G l):=by
 intro l
 induction l generalizing G with
 | nil=>exact hG
 | cons e l ih=>exact ih _ (rP _ _)
theorem kC {i:Inp} {P:List Int} {n:Nat} (l:List Ex):∀G:List Int,G.length=n→(eg i P G l).length=n:=by
 induction l with
 | nil=>intro G hG;exact hG
 | cons e l ih=>intro G hG;exact ih _ (by rw [ir];exact hG)
theorem Keep.sub {S S':Nat→Prop} {w i:World} (h:Keep S w i) (hs:∀k,S k→S' k):Keep S' w i:=h.mono fun k _ j=>hs k j
theorem Ez {H:Nat→Prop} {w:World} {b x:Nat} {i:Inp} {a:MAd} {m:Mst} (h:aI H w b i x a m) (hn:∀k,Mut b a k→¬H k) (o:∀k,w.heap.size≤k→¬H k) (hs:cU i) {y:Itm} (B:(bZ i x m.st)[m.nx]?=some y) (I:y.kind=1) (u v:Option Addr):
  Calls Tryz.prog 17 #[.pointer (some ⟨b,0,none⟩),.pointer u,.pointer v] w fun e A=>e=.returned (KL 0)∧xj H (fun _=>False) b i x a m (fun _ D=>D={m with G:=eg i m.P m.G (di i.data (nK i x m.st y.n))}) w A:=by
 obtain ⟨h1,O⟩:=ep B
 have Q:=rg O I
 have j:=uy B
 refine (kp h hn o (G:=fun _=>False) (fun _ h=>h.elim) hs B u v 110 (fun A=>by rw [I];kernel_rfl) (fun args w=>by kernel_rfl) (fun _=>False) (fun _ D=>D={m with G:=eg i m.P m.G (di i.data (nK i x m.st y.n))}) (fun _ _ _ h _=>h) (fun A q=>?_)).mono ?_
 ·have J:=h.below q hn
  refine (Cg J hs y (.pointer u) (.pointer v) rfl rfl (by rw [j];exact h1) Q).mono ?_
  rintro e R ⟨rfl,p,L⟩
  rw [j] at L
  exact .inl ⟨rfl,a,_,J.setG hn p _ L ⟨kC _ _ h.wG.1,rn _ _ _ h.wG.2 _⟩,rfl,rfl,p.sub (fun k e=>.inl (.inr (.inr (.inr (.inl e))))),fun k hm=>.inl hm,⟨rfl,rfl,rfl⟩,rfl⟩
 ·rintro e A (⟨rfl,N⟩ | ⟨C,_,T,_⟩)
  ·exact ⟨rfl,N⟩
  ·exact T.elim
theorem aI.setO {H:Nat→Prop} {w q:World} {b x:Nat} {i:Inp} {a:MAd} {m:Mst} (h:aI H w b i x a m) (hn:∀k,Mut b a k→¬H k) (y:∀k,w.heap.size≤k→¬H k) (ov:Value) (op:List Nat)
  (D:Keep (fun k=>k=b∨a.ov.ownBlock=some k) w q) (O:q.heap[b]?=some (.cells #[KL (x:Nat),KL i.cfg.workers,KL i.cfg.micros,.pointer (some ⟨({a with ov:=ov}:MAd).F,0,none⟩),.slice ({a with ov:=ov}:MAd).E i.data.length ({a with ov:=ov}:MAd).ce,.pointer (some ⟨({a with ov:=ov}:MAd).S,0,none⟩),.pointer (some ⟨({a with ov:=ov}:MAd).PP,0,none⟩),.slice ({a with ov:=ov}:MAd).BA (aE i).buks.length ({a with ov:=ov}:MAd).bc,KL i.cfg.rate,KL i.cfg.mom,KL i.cfg.shift,.slice (some ⟨({a with ov:=ov}:MAd).bp,0,none⟩) i.start.length ({a with ov:=ov}:MAd).cp,.slice (some ⟨({a with ov:=ov}:MAd).bm,0,none⟩) i.start.length ({a with ov:=ov}:MAd).cm,.slice (some ⟨({a with ov:=ov}:MAd).bg,0,none⟩) i.start.length ({a with ov:=ov}:MAd).cg,.slice (some ⟨({a with ov:=ov}:MAd).rb,0,none⟩) m.rc.length ({a with ov:=ov}:MAd).rc,.slice ({a with ov:=ov}:MAd).IA (bZ i x m.st).length ({a with ov:=ov}:MAd).ic,KL (m.nx:Nat),KL (aW i x m:Nat),({a with ov:=ov}:MAd).ov] 130 (0,0)))
  (oO:q.ownsRow 0 3 1 ov op.length (aq .i64 (dw op))) (hv:∀k,ov.ownBlock=some k→a.ov.ownBlock=some k∨w.heap.size≤k):aI H q b i x {a with ov:=ov} {m with op:=op}∧∀k,Mut b {a with ov:=ov} k→Mut b a k∨w.heap.size≤k:=by
 have p:∀k,Mut b {a with ov:=ov} k→Mut b a k∨w.heap.size≤k:=by
  rintro k (h1 | h1 | h1 | h1 | h1 | h1)
  ·exact .inl (.inl h1)
  ·exact .inl (.inr (.inl h1))
  ·exact .inl (.inr (.inr (.inl h1)))
  ·exact .inl (.inr (.inr (.inr (.inl h1))))
  ·exact .inl (.inr (.inr (.inr (.inr (.inl h1)))))
  ·exact (hv k h1).imp (fun u=>.inr (.inr (.inr (.inr (.inr u))))) id
 have he:Ext (ay (fL H b a) w) (ay (fL H b {a with ov:=ov}) q):=cu (D.mono fun k _ e=>.inl (e.imp id fun u=>.inr (.inr (.inr (.inr u))))) (fun k hl hS=>hS.imp (fun h1=>(p k h1).elim id (fun u=>by omega)) id)
 have o:∀{v:Value} {e:TypeId} {size n:Nat} {xs:List Value},e≠130→e≠3→w.ownsRow 0 e size v n xs→q.ownsRow 0 e size v n xs:=fun h1 u o=>D.own o (fun j I e=>by
  rcases e with e | e
  ·exact an h.blk (Ne.symm h1) o (by rw [I,e])
  ·rcases h.oO.2 with ⟨B,_⟩ | ⟨L,_,_,B,_,hg,_⟩
   ·rw [B] at e;cases e
   ·rw [B] at e
    have Y:L=j:=by simpa [Value.ownBlock] using e
    exact an hg (Ne.symm u) o (by rw [I,Y]))
 obtain ⟨X,Z,a2,R,T,C,U⟩:=h.pl
 obtain ⟨A,N,V,J,Q⟩:=h.re
 exact ⟨⟨O,eK h.sh he,dJ bW h.ex he,gi h.sa he,⟨X,Z,a2,R,T,C,gj U he⟩,aU h.bu he,aU h.it he,⟨A,o (by decide) (by decide) N,V,J,fun j x hx=>bW (Q j x hx) he⟩,
  o (by decide) (by decide) h.oP,o (by decide) (by decide) h.oM,o (by decide) (by decide) h.oG,oO,h.dj,fun k _ hm=>(p k hm).elim (hn k) (y k),h.wP,h.wM,h.wG,h.ox,h.xw⟩,p⟩
theorem vU {H:Nat→Prop} {w:World} {b x:Nat} {i:Inp} {a:MAd} {m:Mst} (h:aI H w b i x a m) (hn:∀k,Mut b a k→¬H k) (L:∀k,w.heap.size≤k→¬H k) (hl:m.op.length≤1000) (y:Itm) (u v:Value) (hu:u.oneCell'=true) (hv:v.oneCell'=true):
  Calls Tryz.prog 111 #[.pointer (some ⟨b,0,none⟩),.agg (aN y).toArray,.agg #[u,v]] w fun e p=>e=.returned (KL 0)∧Did H (fun _=>False) b i x a m w.heap.size (fun _ m1=>m1={m with op:=m.op++[y.n]}) w p:=by
 have N:=h.blk
 obtain ⟨W0,W1,hW0,T,g0,g1,C, -⟩:=eE w (aN y).toArray #[u,v] 56 154
 have I:=sb N _ C
 have R:=ap h.oO C
 have nt:=fun c cs t' sg (a3:W1.heap[c]?=some (.cells cs t' sg)) (a0:t'≠3) (e:a.ov.ownBlock=some c)=>an a3 a0 R e.symm
 have kb:=fun p (q:Keep (fun j=>a.ov.ownBlock=some j) W1 p)=>(q.block b (JC I) (nt _ _ _ _ I (by decide))).trans I
 have k0:=fun p (q:Keep (fun j=>a.ov.ownBlock=some j) W1 p)=>(q.block w.heap.size (JC g0) (nt _ _ _ _ g0 (by decide))).trans g0
 have a4:∀p,Keep (fun j=>a.ov.ownBlock=some j) W1 p→p.cell? ⟨b,18,none⟩=some a.ov:=fun p q=>JF p b 18 _ _ _ (kb p q)
 have s2:∀p,Keep (fun j=>a.ov.ownBlock=some j) W1 p→p.cell? ⟨w.heap.size,2,none⟩=some (KL (y.n:Nat)):=fun p q=>JF p w.heap.size 2 _ _ _ (k0 p q)
 obtain ⟨a1,a2,KB,O1,K1,HM,Hn,V⟩:=ak hW0 T kb R C h hn L;have NT:=aa (nt b _ _ _ I (by decide))
 have Y:Keep (fun j=>a.ov.ownBlock=some j) W1 W1.drew:=(Keep.refl _ _).drew
 have a5:w.heap.size≤W1.heap.size:=C.size
 clear hW0 T g0 g1 C I R nt kb k0 N h hn L
 go_enter Tryz.func111,Tryz.ntmps111
 go_wp2_with fail
 rw [a1.out,a2.out]
 refine XA.g 9 (fun p:World=>Keep (fun j=>a.ov.ownBlock=some j) W1 p) ?_
 refine XA.t ?_ [0,1,2,3,4,5,6] Y ?_
 refine XA.v 7 (W1.drew.alloc (.cells #[KL (y.n:Nat)] 3)) (.slice (some ⟨W1.heap.size,0,none⟩) 1 1) (Y.alloc _) ?_
 refine XA.o 8 (fun K' hK=>?_)
 have hO:=(O1.out.drew).alloc (.cells #[KL (y.n:Nat)] 3)
 refine bF gq (.tmp 11) (.tmp 14) rfl rfl 0 a.ov m.op.length _ rfl hO (some ⟨W1.heap.size,0,none⟩) 1 1 [KL (y.n:Nat)] rfl (fun k u hu=>⟨_,_,rfl,by rw [Kz,JF _ W1.heap.size k _ 3 (0,0) (JE W1.drew _)];simpa using hu⟩) rfl (by simp [Value.oneCell']) (by omega) (by unfold maxLen;omega) (JH _) ?_
 intro U c5 Q o5 b5 g5 X
 have Z:=(Y.alloc (.cells #[KL (y.n:Nat)] 3)).grown g5 (fun k O=>.inr O)
 refine hK.out _ _ Z fun _=>?_
 refine XA.e ?_
 simp only [Kc,Ke]
 have B:=KB.out Q Z
 have e8:=ss (i:=18) (v:=.slice U (m.op.length+1) c5) B rfl
 have k8:Keep (fun k=>k=b) Q (Q.setCell ⟨b,18,none⟩ (.slice U (m.op.length+1) c5)):=Keep.setCell (S:=fun k=>k=b) (Keep.refl _ _) _ (.inr rfl) _
 have o8:=k8.own o5 (fun j hj e=>an B (by decide) o5 (by rw [hj,e]))
 have a7:Q.cell? ⟨b,18,none⟩=some a.ov:=JF Q b 18 _ _ _ B
 have a6:=JM Q b 18 _ _ B
 have l5:=JC B
 have J:Keep (fun k=>k=b∨a.ov.ownBlock=some k) w (Q.setCell ⟨b,18,none⟩ (.slice U (m.op.length+1) c5)):=((Keep.below K1.out).trans (Z.mono fun k _ e=>.inr e)).trans (k8.mono fun k _ e=>.inl e)
 have hop:aq .i64 (dw m.op)++[KL (y.n:Nat)]=aq .i64 (dw (m.op++[y.n])):=by simp [dw,aq]
 rw [hop] at o8
 have A:(m.op++[y.n]).length=m.op.length+1:=by simp
 rw [←A] at e8 o8 J
 have D:=HM.out.setO Hn.out V.out (.slice U (m.op++[y.n]).length c5) (m.op++[y.n]) J e8 o8 (fun k O=>by
  rcases X with h1 | h1
  ·rw [A] at O;exact .inl (by rw [←h1];exact O)
  ·rw [A] at O;rw [h1] at O;exact .inr (by simp at O;omega))
 have HF:=aa (⟨{a with ov:=.slice U (m.op++[y.n]).length c5},{m with op:=m.op++[y.n]},D.1,rfl,rfl,J.sub (fun k e=>.inl (e.elim .inl (fun e=>.inr (.inr (.inr (.inr (.inr e))))))),D.2,⟨rfl,rfl,rfl⟩,rfl⟩:Did H (fun _=>False) b i x a m w.heap.size (fun _ m1=>m1={m with op:=m.op++[y.n]}) w _)
 rw [A] at HF
 clear D J hop o8 e8 k8 B X g5 b5 o5 Z hO Y a4 s2 hK K' A
 go_wp2_with fail
 go_ret
 exact ⟨rfl,HF.out⟩
theorem ki {e:TypeId} {base g n c:Nat}:∀(vs:List Value) (o:Nat) (w:World) (xs:List Value),w.ownsRow base e 1 (.slice (some ⟨g,0,none⟩) n c) n xs→o+vs.length≤n→(w.setCells g o vs).ownsRow base e 1 (.slice (some ⟨g,0,none⟩) n c) n (xs.take o++vs++xs.drop (o+vs.length))
 | [],o,w,xs,h,_=>by simpa [World.setCells] using h
 | v::vs,o,w,xs,h,hl=>by
  have hx:xs.length=n:=by have:=h.1;omega
  simp only [List.length_cons] at hl
  have:=ki vs (o+1) _ _ (h.stored o v).1 (by omega)
  have j:(xs.set o v).take (o+1)=xs.take o++[v]:=by
   rw [List.take_add_one,List.take_set_of_le (JD o)]
   simp [show o<xs.length by omega]
  have i:(xs.set o v).drop (o+1+vs.length)=xs.drop (o+(vs.length+1)):=by
   rw [List.drop_set_of_lt (by omega)];congr 1;omega
  rw [j,i] at this
  simpa [World.setCells] using this
theorem jL {g:Nat}:∀(vs:List Value) (o:Nat) (w:World),Keep (fun j=>j=g) w (w.setCells g o vs)
 | [],_,w=>Keep.refl _ w
 | v::vs,o,w=>(Keep.setCell (S:=fun j=>j=g) (Keep.refl _ w) ⟨g,o,none⟩ (.inr rfl) v).trans (jL vs (o+1) _)
theorem aI.setR {H:Nat→Prop} {w u:World} {b x:Nat} {i:Inp} {a:MAd} {m:Mst} (h:aI H w b i x a m) (hn:∀k,Mut b a k→¬H k) (B:∀k,w.heap.size≤k→¬H k) (rb rc:Nat) (e:Ex) (u1 u2:Value)
  (hk:Keep (fun k=>k=b∨k=a.rb) w u) (hb:u.heap[b]?=some (.cells #[KL (x:Nat),KL i.cfg.workers,KL i.cfg.micros,.pointer (some ⟨({a with rb:=rb,rc:=rc}:MAd).F,0,none⟩),.slice ({a with rb:=rb,rc:=rc}:MAd).E i.data.length ({a with rb:=rb,rc:=rc}:MAd).ce,.pointer (some ⟨({a with rb:=rb,rc:=rc}:MAd).S,0,none⟩),.pointer (some ⟨({a with rb:=rb,rc:=rc}:MAd).PP,0,none⟩),.slice ({a with rb:=rb,rc:=rc}:MAd).BA (aE i).buks.length ({a with rb:=rb,rc:=rc}:MAd).bc,KL i.cfg.rate,KL i.cfg.mom,KL i.cfg.shift,.slice (some ⟨({a with rb:=rb,rc:=rc}:MAd).bp,0,none⟩) i.start.length ({a with rb:=rb,rc:=rc}:MAd).cp,.slice (some ⟨({a with rb:=rb,rc:=rc}:MAd).bm,0,none⟩) i.start.length ({a with rb:=rb,rc:=rc}:MAd).cm,.slice (some ⟨({a with rb:=rb,rc:=rc}:MAd).bg,0,none⟩) i.start.length ({a with rb:=rb,rc:=rc}:MAd).cg,.slice (some ⟨({a with rb:=rb,rc:=rc}:MAd).rb,0,none⟩) ({m with rc:=m.rc++[e]}:Mst).rc.length ({a with rb:=rb,rc:=rc}:MAd).rc,.slice ({a with rb:=rb,rc:=rc}:MAd).IA (bZ i x ({m with rc:=m.rc++[e]}:Mst).st).length ({a with rb:=rb,rc:=rc}:MAd).ic,KL (({m with rc:=m.rc++[e]}:Mst).nx:Nat),KL (aW i x m:Nat),({a with rb:=rb,rc:=rc}:MAd).ov] 130 (0,0)))
  (rows:List (List Value)) (r2:rows.length=m.rc.length) (r3:∀r∈rows,r.length=2) (r4:∀j x,m.rc[j]?=some x→rEx (ay (fL H b a) w) (bq rows j) x) (o':u.ownsRow 0 68 2 (.slice (some ⟨rb,0,none⟩) (m.rc++[e]).length rc) (m.rc++[e]).length (List.flatten rows++[u1,u2]))
  (hu:dz u w.heap.size [u1,u2] e) (hv:rb=a.rb∨w.heap.size≤rb):aI H u b i x {a with rb:=rb,rc:=rc} {m with rc:=m.rc++[e]}∧∀k,Mut b {a with rb:=rb,rc:=rc} k→Mut b a k∨w.heap.size≤k:=by
 have D:∀k,Mut b {a with rb:=rb,rc:=rc} k→Mut b a k∨w.heap.size≤k:=by
  rintro k (h1 | h1 | h1 | h1 | h1 | h1)
  ·exact .inl (.inl h1)
  ·exact .inl (.inr (.inl h1))
  ·exact .inl (.inr (.inr (.inl h1)))
  ·exact .inl (.inr (.inr (.inr (.inl h1))))
  ·have Z:k=rb:=h1
   exact hv.imp (fun C=>.inr (.inr (.inr (.inr (.inl (Z.trans C)))))) (fun C=>by omega)
  ·exact .inl (.inr (.inr (.inr (.inr (.inr h1)))))
 have he:Ext (ay (fL H b a) w) (ay (fL H b {a with rb:=rb,rc:=rc}) u):=cu (hk.mono fun k _ e=>.inl (e.elim .inl fun C=>.inr (.inr (.inr (.inr (.inl C)))))) (fun k hl hS=>hS.imp (fun h1=>(D k h1).elim id (fun C=>by omega)) id)
 obtain ⟨a0,a1,a2,a3,a5,U,hp⟩:=h.pl
 obtain ⟨_,r1,_⟩:=h.re
 have q:∀{v:Value} {e:TypeId} {size n:Nat} {xs:List Value},e≠130→e≠68→w.ownsRow 0 e size v n xs→u.ownsRow 0 e size v n xs:=fun h1 C V=>hk.own V (fun j N e=>by
  rcases e with e | e
  ·exact an h.blk (Ne.symm h1) V (by rw [N,e])
  ·rcases r1.2 with ⟨p,_⟩ | ⟨r',_,_,p,_,hg,_⟩
   ·cases p
   ·simp only [Ku,Option.some.injEq,Addr.mk.injEq] at p
    obtain ⟨⟨I,_⟩,_⟩:=p
    exact an hg (Ne.symm C) V (by rw [N,e,I]))
 obtain ⟨v1,v2,hcs,T,R,z3,z4,z5,z6⟩:=hu
 simp only [List.cons.injEq,and_true] at hcs
 obtain ⟨rfl,rfl⟩:=hcs
 obtain ⟨A1,c1,rfl,a4⟩:=aw T
 obtain ⟨O,c2,rfl,Y⟩:=aw R
 have J:∀{A:Option Addr} {n c:Nat} {xs:List Value},u.ownsRow w.heap.size 2 1 (.slice A n c) n xs→∀y,A=some y→¬fL H b {a with rb:=rb,rc:=rc} y.block:=fun L y hy hm=>by
  have h1:=(fG L y hy).1
  rcases hm with hm | hm
  ·rcases hm with hm | hm | hm | hm | hm | hm
   ·have:=h.mlt _ (.inl hm);omega
   ·have:=h.mlt _ (.inr (.inl hm));omega
   ·have:=h.mlt _ (.inr (.inr (.inl hm)));omega
   ·have:=h.mlt _ (.inr (.inr (.inr (.inl hm))));omega
   ·have Q:y.block=rb:=hm
    rcases o'.2 with ⟨p,_⟩ | ⟨r',_,_,p,_,hg,_⟩
    ·cases p
    ·simp only [Ku,Option.some.injEq,Addr.mk.injEq] at p
     obtain ⟨⟨I,_⟩,_⟩:=p
     exact an hg (by decide) L (by rw [hy];show some r'=some y.block;rw [Q,I])
   ·have:=h.mlt _ (.inr (.inr (.inr (.inr (.inr hm)))));omega
  ·exact B _ h1 hm
 refine ⟨⟨hb,eK h.sh he,dJ bW h.ex he,gi h.sa he,⟨a0,a1,a2,a3,a5,U,gj hp he⟩,aU h.bu he,aU h.it he,⟨rows++[[.slice A1 e.1.length c1,.slice O e.2.length c2]],?_,by simp [r2],?_,fun j z L=>?_⟩,
  q (by decide) (by decide) h.oP,q (by decide) (by decide) h.oM,q (by decide) (by decide) h.oG,q (by decide) (by decide) h.oO,h.dj,fun k _ hm=>(D k hm).elim (hn k) (B k),h.wP,h.wM,h.wG,h.ox,h.xw⟩,D⟩
 ·rw [Kr,List.flatten_cons,List.flatten_nil,List.append_nil];exact o'
 ·intro r hr
  rcases Kv.1 hr with hr | hr
  ·exact r3 r hr
  ·rw [List.mem_singleton.1 hr];rfl
 ·rcases JR j m.rc.length with N | N
  ·have o:(m.rc++[e])[j]?=some z:=L
   rw [Ki N] at o
   have I:bq (rows++[[.slice A1 e.1.length c1,.slice O e.2.length c2]]) j=bq rows j:=by simp [bq,Ki (show j<rows.length by omega)]
   rw [I];exact bW (r4 j z o) he
  ·have o:(m.rc++[e])[j]?=some z:=L
   have X:j=m.rc.length:=by have:=(Kg.1 o).1;simp at this;omega
   subst X
   simp at o
   subst o
   have I:bq (rows++[[.slice A1 e.1.length c1,.slice O e.2.length c2]]) m.rc.length=[.slice A1 e.1.length c1,.slice O e.2.length c2]:=by rw [←r2];simp [bq]
   rw [I]
   exact ⟨A1,c1,O,c2,rfl,⟨a4,z3,kh (Rd.own T) (J T),z5⟩,⟨Y,z4,kh (Rd.own R) (J R),z6⟩⟩
theorem CI {w:World} {g n c:Nat} {xs:List Value} (p:TypeId) (h:w.ownsRow 0 2 1 (.slice (some ⟨g,0,none⟩) n c) n xs) (hn:0<n):
  (Builtin.clear_ #[64] p #[.slice (some ⟨g,0,none⟩) n c]).run Tryz.prog w=.ok (.tuple #[]) (w.setCells g 0 (List.replicate n (KL 0))):=by
 obtain ⟨i,u,o,_⟩:=kD.info
 have hl:=h.1
 refine Lib.run_clear_slice w 64 2 p (KL 0) kD.und (fun v=>?_) rfl rfl g 0 n c hn (fun j q=>?_) (fun j q=>?_)
 ·simp [zeroValue,typeInfo,u,o]
 ·rw [Kz,h.cellAt j (by omega),Kh (by omega)];rfl
 ·rw [Kz];exact h.frozenAt j
theorem vT {H:Nat→Prop} {w:World} {b x:Nat} {i:Inp} {a:MAd} {m:Mst} (h:aI H w b i x a m) (hn:∀k,Mut b a k→¬H k) (U:∀k,w.heap.size≤k→¬H k) (hs:cU i) (hl:m.rc.length≤1000) (y:Itm) (u v:Value) (hu:u.oneCell'=true) (hv:v.oneCell'=true):
  Calls Tryz.prog 115 #[.pointer (some ⟨b,0,none⟩),.agg (aN y).toArray,.agg #[u,v]] w fun e p=>e=.returned (KL 0)∧Did H (fun _=>False) b i x a m w.heap.size (fun _ m1=>m1={m with rc:=m.rc++[(m.P,m.M)],G:=List.replicate i.start.length 0}) w p:=by
 have D:=h.blk
 have aM:=hs.n
 have a5:0<i.start.length:=hs.n1
 obtain ⟨W0,W1,hW0,a2,g0,g1,J, -⟩:=eE w (aN y).toArray #[u,v] 56 154
 obtain ⟨Z,r1,r2,r3,r4⟩:=h.re
 have O:=sb D _ J
 have a1:=ap r1 J
 have nt:b≠a.rb:=fun e=>by
  rcases r1.2 with ⟨e',_⟩ | ⟨r',_,_,e',_,hg,_⟩
  ·cases e'
  ·simp only [Ku,Option.some.injEq,Addr.mk.injEq] at e'
   obtain ⟨⟨e1,_⟩,_⟩:=e'
   rw [e,e1,hg] at D
   simp at D
 have kb:=fun p (q:Keep (fun j=>j=a.rb) W1 p)=>(q.block b (JC O) nt).trans O
 have aG:∀p,Keep (fun j=>j=a.rb) W1 p→p.cell? ⟨b,14,none⟩=some (.slice (some ⟨a.rb,0,none⟩) m.rc.length a.rc):=fun p q=>JF p b 14 _ _ _ (kb p q)
 have a6:∀p,Keep (fun j=>j=a.rb) W1 p→p.cell? ⟨b,11,none⟩=some (.slice (some ⟨a.bp,0,none⟩) i.start.length a.cp):=fun p q=>JF p b 11 _ _ _ (kb p q)
 have a8:∀p,Keep (fun j=>j=a.rb) W1 p→p.cell? ⟨b,12,none⟩=some (.slice (some ⟨a.bm,0,none⟩) i.start.length a.cm):=fun p q=>JF p b 12 _ _ _ (kb p q)
 have a4:=fun p (q:Below W1.heap.size W1 p)=>jt (some ⟨a.bp,0,none⟩) (some ⟨a.bm,0,none⟩) i.start.length a.cp a.cm m.P m.M p (Rd.own (ap (ap h.oP J) q)) (Rd.own (ap (ap h.oM J) q)) h.wP.1 h.wM.1 (by omega)
 obtain ⟨av,ab,KB,R1,K1,Q,Hn,T⟩:=ak hW0 a2 kb a1 J h hn U;obtain ⟨NT,ad,R2,R3,R4⟩:=ah nt a4 r2 r3 r4
 have q0:Keep (fun j=>j=a.rb) W1 W1.drew:=(Keep.refl _ _).drew
 have tl:=fun p (q:Keep (fun j=>j=a.rb) W1 p)=>JK (JC O) q.size
 clear hW0 a2 g0 g1 J O a1 nt kb D h hn U a4 r1 r2 r3 r4
 go_enter Tryz.func115,Tryz.ntmps115
 go_wp2_with fail
 rw [av.out,ab.out]
 refine XA.g 12 (fun p:World=>Keep (fun j=>j=a.rb) W1 p) ?_
 refine XA.t ?_ [0,1,2,3,4,5,6,7,8] q0 ?_
 refine XA.c 9 (ad.out _ ((br W1).drew)) ?_
 rintro e R ⟨A1,c1,V,c2,rfl,b4,b0,o1,o2, -,k3⟩
 have b3:Below W1.heap.size W1 R:=(br W1).drew.trans k3
 have q3:Keep (fun j=>j=a.rb) W1 R:=Keep.below b3
 refine ⟨_,rfl,q3,fun _=>?_⟩
 refine XA.v 10 (R.alloc (.cells #[.slice A1 i.start.length c1,.slice V i.start.length c2] 68)) (.slice (some ⟨R.heap.size,0,none⟩) 1 1) (q3.alloc _) ?_
 refine XA.o 11 (fun K' hK=>?_)
 have hO:=(ap R1.out b3).alloc (.cells #[.slice A1 i.start.length c1,.slice V i.start.length c2] 68)
 refine bF EU (.tmp 11) (.tmp 17) rfl rfl 0 (.slice (some ⟨a.rb,0,none⟩) m.rc.length a.rc) m.rc.length _ rfl hO (some ⟨R.heap.size,0,none⟩) 1 1 [.slice A1 i.start.length c1,.slice V i.start.length c2] rfl (fun k u hu=>⟨_,_,rfl,by rw [Kz,JF _ R.heap.size k _ 68 (0,0) (JE R _)];simpa using hu⟩) rfl (by simp [Value.oneCell']) (by omega) (by unfold maxLen;omega) (JH _) ?_
 intro A5 c5 L o5 b5 g5 a0
 have ao:∃g,A5=some ⟨g,0,none⟩:=by
  obtain ⟨g,_,e,_⟩:=o5.form (by omega)
  simp only [Ku] at e
  exact ⟨g,e.1⟩
 obtain ⟨g,rfl⟩:=ao
 have q5:=(q3.alloc (.cells #[.slice A1 i.start.length c1,.slice V i.start.length c2] 68)).grown g5 (fun k hk=>.inr (by cases hk;rfl))
 refine hK.out _ _ q5 fun _=>?_
 refine XA.e ?_
 simp only [Kc,Ke]
 have B:=KB.out L q5
 have C:(m.rc++[(m.P,m.M)]).length=m.rc.length+1:=by simp
 have e8:=ss (i:=14) (v:=.slice (some ⟨g,0,none⟩) (m.rc.length+1) c5) B rfl
 have k8:Keep (fun k=>k=b) L (L.setCell ⟨b,14,none⟩ (.slice (some ⟨g,0,none⟩) (m.rc.length+1) c5)):=Keep.setCell (S:=fun k=>k=b) (Keep.refl _ _) _ (.inr rfl) _
 have o8:=k8.own o5 (fun j hj e=>an B (by decide) o5 (by rw [hj,e]))
 have z1:=fh (o1.alloc (.cells #[.slice A1 i.start.length c1,.slice V i.start.length c2] 68)) hO g5 (by decide)
 have z2:=fh (o2.alloc (.cells #[.slice A1 i.start.length c1,.slice V i.start.length c2] 68)) hO g5 (by decide)
 have X:=ax (base':=w.heap.size) (k8.own z1 (fun j hj e=>an B (by decide) z1 (by rw [hj,e]))) (JJ K1.out.size (br W1).drew.size)
 have Y:=ax (base':=w.heap.size) (k8.own z2 (fun j hj e=>an B (by decide) z2 (by rw [hj,e]))) (JJ K1.out.size (br W1).drew.size)
 have aR:L.cell? ⟨b,14,none⟩=some (.slice (some ⟨a.rb,0,none⟩) m.rc.length a.rc):=JF L b 14 _ _ _ B
 have b1:=JM L b 14 _ _ B
 have l5:=JC B
 have I:Keep (fun k=>k=b∨k=a.rb) w (L.setCell ⟨b,14,none⟩ (.slice (some ⟨g,0,none⟩) (m.rc.length+1) c5)):=((Keep.below K1.out).trans (q5.mono fun k _ e=>.inr e)).trans (k8.mono fun k _ e=>.inl e)
 have N:(L.setCell ⟨b,14,none⟩ (.slice (some ⟨g,0,none⟩) (m.rc.length+1) c5)).cell? ⟨b,13,none⟩=some (.slice (some ⟨a.bg,0,none⟩) i.start.length a.cg):=JF _ b 13 _ _ _ e8
 rw [←C] at e8 o8 I N
 have a3:dz (L.setCell ⟨b,14,none⟩ (.slice (some ⟨g,0,none⟩) (m.rc++[(m.P,m.M)]).length c5)) w.heap.size [.slice A1 i.start.length c1,.slice V i.start.length c2] (m.P,m.M):=by
  rw [C]
  refine ⟨_,_,rfl,?_,?_,?_,?_,Q.out.wP.2,Q.out.wM.2⟩
  ·show World.ownsRow _ _ _ _ _ m.P.length _;rw [Q.out.wP.1];exact X
  ·show World.ownsRow _ _ _ _ _ m.M.length _;rw [Q.out.wM.1];exact Y
  ·show m.P.length≤_;rw [Q.out.wP.1];omega
  ·show m.M.length≤_;rw [Q.out.wM.1];omega
 have A:=Q.out.setR Hn.out T.out g c5 (m.P,m.M) _ _ I e8 Z R2.out R3.out R4.out o8 a3 (by
  rcases a0 with h1 | h1
  ·left;simpa [Value.ownBlock] using h1
  ·right
   have h2:g=R.heap.size+1:=by simpa [Value.ownBlock] using h1
   have:=K1.out.size;have:=b3.size
   omega)
 rw [C] at A N I
 obtain ⟨w8,a7⟩:∃w8,L.setCell ⟨b,14,none⟩ (.slice (some ⟨g,0,none⟩) (m.rc.length+1) c5)=w8:=⟨_,rfl⟩
 rw [a7] at A N I
 have b2:b<w8.heap.size:=ar N
 have aP:=fun ty=>CI ty A.1.oG a5
 have k9:=jL (g:=a.bg) (List.replicate i.start.length (KL 0)) 0 w8
 have o9:=ki (List.replicate i.start.length (KL 0)) 0 w8 _ A.1.oG (by simp)
 have e9:(aq .i64 m.G).take 0++List.replicate i.start.length (Value.int .i64 0)++(aq .i64 m.G).drop (0+(List.replicate i.start.length (Value.int .i64 0)).length)=aq .i64 (List.replicate i.start.length 0):=by
  rw [List.take_zero,List.nil_append,Km,Kz,List.drop_eq_nil_of_le (by rw [a9,Q.out.wG.1];exact JD _),List.append_nil,dS]
 rw [e9] at o9
 have hG:=A.1.setG (fun k hk=>(A.2 k hk).elim (Hn.out k) (T.out k)) k9 (List.replicate i.start.length 0) o9 ⟨by simp,nz _⟩
 have HF:=aa (⟨_,_,hG,rfl,rfl,(I.sub (fun k e=>.inl (e.elim .inl (fun e=>.inr (.inr (.inr (.inr (.inl e)))))))).trans (k9.sub (fun k e=>.inl (.inr (.inr (.inr (.inl e)))))),A.2,⟨rfl,rfl,rfl⟩,rfl⟩:Did H (fun _=>False) b i x a m w.heap.size (fun _ m1=>m1={m with rc:=m.rc++[(m.P,m.M)],G:=List.replicate i.start.length 0}) w _);clear hG A I o9 e9 k9 a3 z1 z2 X Y o8 e8 k8 B a0 g5 b5 o5 q5 hO q0 aG a6 a8 hK K' C o1 o2 k3 b3 q3 tl
 go_wp2_with fail
 go_ret
 exact ⟨rfl,HF.out⟩
theorem HU (j n:Nat):((j:Int)==(n:Int))=decide (j=n):=by rw [Bool.eq_iff_iff];simp;omega
theorem wN (X n j:Nat) (w:World) (o:w.cell? ⟨X,2,none⟩=some (KL (n:Nat))):Calls Tryz.prog 152 #[KL (j:Nat),.pointer (some ⟨X,0,none⟩)] w fun e i=>e=.returned (.bool (decide (j=n)))∧i=w:=by
 go_enter Tryz.func152,Tryz.ntmps152
 go_wp2_with fail
 go_ret
 exact ⟨by simp [HU],rfl⟩
theorem rk {l:List Nat} {k j:Nat} (h:l[k]?=some j):(aq .i64 (dw l))[k]?=some (KL (j:Nat)):=by simp [aq,dw,h]
def I3 (l:List Nat) (n:Nat) (w:World) (e:Ending) (i:World):Prop:=((∃k,k<l.length∧l[k]?=some n∧(∀j,j<k→l[j]?≠some n)∧e=.returned (KL (k:Nat)))∨((∀j,j<l.length→l[j]?≠some n)∧e=.returned (KL (-1))))∧i=w
theorem GO (A:Option Addr) (l:List Nat) (c X n:Nat) (w:World) (hA:Rd w A (aq .i64 (dw l))) (hl:l.length≤1000) (L:w.cell? ⟨X,2,none⟩=some (KL (n:Nat))):
  Calls Tryz.prog 137 #[.slice A l.length c,.func (.func 152) #[] #[.pointer (some ⟨X,0,none⟩)]] w (I3 l n w):=by
 have i:=fun j=>wN X n j w L
 obtain ⟨N,D⟩:∃N,l.length=N:=⟨_,rfl⟩
 have x:∀e I,((∃k,k<N∧l[k]?=some n∧(∀j,j<k→l[j]?≠some n)∧e=.returned (KL (k:Nat)))∨((∀j,j<N→l[j]?≠some n)∧e=.returned (KL (-1))))∧I=w→I3 l n w e I:=fun e I h=>by rw [←D] at h;exact h
 rw [D] at hl ⊢
 obtain ⟨T,HA,V,O⟩:=ag i hA D x;clear i hA D L x
 go_enter Tryz.func137,Tryz.ntmps137
 go_wp2_with fail
 go_loopw [8] (fun y wr=>∃k:Nat,k≤N∧y=KL k∧(∀j,j<k→l[j]?≠some n)∧wr=w) (fun y _=>N-(intOf y).toNat)
 case atStart=>exact ⟨0,JH _,rfl,fun j Y=>by omega,rfl⟩
 case round=>
  obtain ⟨k,Z,rfl,B,rfl⟩:=hrel
  have q:=aa B;clear B
  by_cases C:k<N
  ·have J:(k:Int)<N:=by omega
   have R:¬(k:Int)<0:=by omega
   have U:IntKind.i64.wrap ((k:Int)+1)=((k+1:Nat):Int):=by rw [JI _ (by omega)];push_cast;rfl
   obtain ⟨v,hv⟩:∃v,l[k]?=some v:=⟨_,Kh (by rw [V.out];exact C)⟩
   obtain ⟨b,o,rfl,u⟩:=HA.out k _ (rk hv)
   have lb:=ar u
   have Q:=aa hv;clear hv
   go_wp2_with fail
   refine (T.out v).mono ?_
   rintro e w2 ⟨rfl,rfl⟩
   by_cases p:v=n
   ·subst p
    rw [KA rfl]
    go_wp2_with fail
    go_ret
    exact O.out _ _ ⟨.inl ⟨k,C,Q.out,q.out,rfl⟩,rfl⟩
   ·rw [KD p]
    have H:=aa p;clear p
    go_wp2_with fail
    go_roundw
    case rel=>
     refine ⟨k+1,by omega,by go_num,fun j Y=>?_,trivial⟩
     rcases JR j k with h | h
     ·exact q.out j h
     ·obtain rfl:j=k:=by omega
      rw [Q.out];intro h;exact H.out (by simpa using h)
    case measure=>simp [intOf];omega
  ·have J:¬(k:Int)<N:=by omega
   obtain rfl:k=N:=by omega
   go_wp2_with fail
   go_ret
   exact O.out _ _ ⟨.inr ⟨q.out,rfl⟩,rfl⟩
theorem By {w:World} {base g n c k:Nat} {e:TypeId} {xs:List Value} (h:w.ownsRow base e 1 (.slice (some ⟨g,0,none⟩) n c) n xs) (v:k≤n):w.ownsRow base e 1 (.slice (some ⟨g,0,none⟩) k c) k (xs.take k):=by
 have hl:=h.1
 rcases h.2 with ⟨i,_⟩ | ⟨y,cap,j,i,h1,p,x,q,u,o⟩
 ·cases i
 ·simp only [Ku,Option.some.injEq,Addr.mk.injEq] at i
  obtain ⟨⟨rfl,_⟩,_,rfl⟩:=i
  refine ⟨by rw [Kk];omega,.inr ⟨g,c,j,rfl,h1,p,by omega,q,u,?_⟩⟩
  rw [←o,List.take_take];congr 1;omega
def gt (l:List Nat) (n:Nat):List Nat:=l.filter fun j=>decide (j≠n)
def Ip (l:List Nat) (n base g c:Nat) (w:World) (e:Ending) (i:World):Prop:=e=.returned (.slice (some ⟨g,0,none⟩) (gt l n).length c)∧i.ownsRow base 3 1 (.slice (some ⟨g,0,none⟩) (gt l n).length c) (gt l n).length (aq .i64 (dw (gt l n)))∧Keep (fun j=>j=g) w i
theorem yN (l:List Nat) (k:Nat):(aq .i64 (dw l)).take k=aq .i64 (dw (l.take k)):=by simp [aq,dw,List.map_take]
theorem Ct (l:List Nat) (k v:Nat):(aq .i64 (dw l)).set k (KL (v:Nat))=aq .i64 (dw (l.set k v)):=by simp [aq,dw,List.map_set]
theorem Fi {l R:List Nat} {n i j v:Nat} (hv:l[j]?=some v) (h1:R.take i=gt (l.take j) n) (p:R.drop j=l.drop j) (q:i<j) (hl:R.length=l.length) (o:v≠n):(R.set i v).take (i+1)=gt (l.take (j+1)) n∧(R.set i v).drop (j+1)=l.drop (j+1):=by
 have u:=(Kg.1 hv).1
 constructor
 ·rw [List.take_add_one,List.take_set_of_le (JD i),h1,List.take_add_one,hv]
  simp [gt,List.filter_append,o,show i<R.length by omega]
 ·rw [List.drop_set_of_lt (by omega)]
  have:=congrArg (List.drop 1) p
  simpa [List.drop_drop] using this
theorem Fj {l R:List Nat} {n i j:Nat} (hv:l[j]?=some n) (h1:R.take i=gt (l.take j) n) (o:R.drop j=l.drop j):R.take i=gt (l.take (j+1)) n∧R.drop (j+1)=l.drop (j+1):=by
 constructor
 ·rw [h1,List.take_add_one,hv];simp [gt,List.filter_append]
 ·have:=congrArg (List.drop 1) o
  simpa [List.drop_drop] using this
theorem Fk {l:List Nat} {n:Nat} (h:∀j,j<l.length→l[j]?≠some n):gt l n=l:=by
 refine List.filter_eq_self.2 fun x hx=>?_
 obtain ⟨j,i,rfl⟩:=List.getElem_of_mem hx
 have:=h j i
 rw [Kh i] at this
 simpa using this
theorem Fh (g c X n base:Nat) (l:List Nat) (w:World) (V:w.ownsRow base 3 1 (.slice (some ⟨g,0,none⟩) l.length c) l.length (aq .i64 (dw l))) (hl:l.length≤1000) (hX:w.cell? ⟨X,2,none⟩=some (KL (n:Nat))) (aM:X≠g):
  Calls Tryz.prog 151 #[.slice (some ⟨g,0,none⟩) l.length c,.func (.func 152) #[] #[.pointer (some ⟨X,0,none⟩)]] w (Ip l n base g c w):=by
 have H:=GO (some ⟨g,0,none⟩) l c X n w (Rd.own V) hl hX
 have D:=fun j U (q:Keep (fun j=>j=g) w U)=>wN X n j U (q.cell hX aM)
 have a1:l.length≤c:=by
  obtain ⟨_,_,e,h⟩:=aw V
  simp only [Ku] at e
  omega
 obtain ⟨N,hN⟩:∃N,l.length=N:=⟨_,rfl⟩
 unfold I3 at H
 rw [hN] at H V hl a1 ⊢
 have b4:=(V.lt g rfl).2
 obtain ⟨a7,Hc,HO,Q⟩:=ag H D V hN;clear H D V hN hX
 go_enter Tryz.func151,Tryz.ntmps151
 go_wp2_with fail
 refine a7.out.mono ?_
 rintro e U ⟨h,rfl⟩
 rcases h with ⟨k,ao,hk,p,rfl⟩ | ⟨p,rfl⟩
 rotate_left
 ·have hd:=Fk (n:=n) (l:=l) (by rw [Q.out];exact p)
  have HD:=aa hd;clear p hd
  go_wp2_with fail
  go_ret
  refine ⟨by rw [HD.out,Q.out];rfl,by rw [HD.out,Q.out];exact HO.out,Keep.refl _ _⟩
 ·have b2:¬(k:Int)= -1:=by omega
  have b5:IntKind.i64.wrap ((k:Int)+1)=((k+1:Nat):Int):=by rw [JI _ (by omega)];push_cast;rfl
  have h0:l.take k=gt (l.take (k+1)) n:=by
   rw [List.take_add_one,hk]
   simp only [gt,List.filter_append,Option.toList,List.filter_cons,List.filter_nil]
   simp only [ne_eq,not_true_eq_false,decide_false,Bool.false_eq_true,if_false,List.append_nil]
   exact (List.filter_eq_self.2 fun x hx=>by
    obtain ⟨j,hj,rfl⟩:=List.getElem_of_mem hx
    rw [Kk] at hj
    have:=p j (by omega)
    rw [Kh (by omega)] at this
    simpa using this).symm
  have H0:=aa h0;clear hk p h0
  go_wp2_with fail
  go_loopw [5,6] (fun y5 y6 wr=>∃i j:Nat,∃R:List Nat,y5=KL i∧y6=KL j∧i<j∧j≤N∧R.length=N∧R.take i=gt (l.take j) n∧R.drop j=l.drop j∧wr.ownsRow base 3 1 (.slice (some ⟨g,0,none⟩) N c) N (aq .i64 (dw R))∧Keep (fun j=>j=g) U wr) (fun _ y _=>N-(intOf y).toNat)
  case atStart=>exact ⟨k,k+1,l,rfl,by push_cast;rfl,by omega,ao,Q.out,H0.out,rfl,HO.out,Keep.refl _ _⟩
  case round=>
   obtain ⟨i,j,R,rfl,rfl,ab,bd,hR,h1,h2,I,Y⟩:=hrel
   have b7:(i:Int)<N:=by omega
   have b3:¬(i:Int)<0:=by omega
   have fr:=I.frozenAt i
   obtain ⟨ri,T⟩:∃ri,R[i]?=some ri:=⟨_,Kh (by omega)⟩
   have ci:=I.cellAt i (by omega)
   rw [rk T] at ci
   have b6:g<wr.heap.size:=(I.lt g rfl).2
   by_cases J:j<N
   ·have ad:(j:Int)<N:=by omega
    have b9:¬(j:Int)<0:=by omega
    have b1:IntKind.i64.wrap ((i:Int)+1)=((i+1:Nat):Int):=by rw [JI _ (by omega)];push_cast;rfl
    have b8:IntKind.i64.wrap ((j:Int)+1)=((j+1:Nat):Int):=by rw [JI _ (by omega)];push_cast;rfl
    obtain ⟨v,hv⟩:∃v,l[j]?=some v:=⟨_,Kh (by rw [Q.out];exact J)⟩
    have Z:R[j]?=some v:=by
     have:=congrArg (fun z=>z[0]?) h2
     simpa [List.getElem?_drop,hv] using this
    have cj:=I.cellAt j (by omega)
    rw [rk Z] at cj
    obtain ⟨a8,L,QK⟩:=af (Hc.out v wr Y) I Y
    have C:=fun h=>Fi hv h1 h2 ab (hR.trans Q.out.symm) h
    have A:=fun h:v=n=>Fj (by rw [←h];exact hv) h1 h2
    obtain ⟨a6,a4,HR⟩:=af C A hR;clear hv Z h1 h2 I Y C A T hR
    go_wp2_with fail
    refine a8.out.mono ?_
    rintro e w2 ⟨rfl,rfl⟩
    by_cases o:v=n
    ·rw [KA o]
     have u:=aa o;clear o
     go_wp2_with fail
     go_roundw
     case rel=>(repeat apply Exists.intro);exact ⟨⟨i,j+1,R,rfl,by go_num,by omega,J,HR.out,(a4.out u.out).1,(a4.out u.out).2,L.out,QK.out⟩,rfl⟩
     case measure=>simp [intOf];omega
    ·rw [KD o]
     have u:=aa o;clear o
     go_wp2_with fail
     go_roundw
     case rel=>(repeat apply Exists.intro);exact ⟨⟨i+1,j+1,R.set i v,by go_num,by go_num,by omega,J,by rw [List.length_set];exact HR.out,(a6.out u.out).1,(a6.out u.out).2,by have:=(L.out.stored i (KL (v:Nat))).1;rwa [Ct] at this,Keep.setCell (S:=fun j=>j=g) QK.out ⟨g,i,none⟩ (.inr rfl) _⟩,rfl⟩
     case measure=>simp [intOf];omega
   ·obtain rfl:j=N:=by omega
    have ad:¬(j:Int)<j:=by omega
    have av:l.take j=l:=List.take_of_length_le (by rw [Q.out];exact JD _)
    rw [av] at h1
    obtain ⟨HD,L,QK,HR⟩:=ag h1 I Y hR;clear h1 h2 I Y T hR
    have aG:i≤j:=by omega
    have be:(i:Int)≤j:=by omega
    have bb:(i:Int)≤c:=by omega
    have b0:i≤c:=by omega
    have aP:¬c=i:=by omega
    have B:(gt l n).length=i:=by rw [←HD.out,Kk];have:=HR.out;omega
    obtain ⟨zi,a3,a5,_⟩:=gq.info
    have aR:=Lib.run_clear_slice wr 22 3 0 (KL 0) gq.und (fun U=>by simp [zeroValue,typeInfo,a3,a5]) rfl rfl g i (j-i) (c-i) (by omega) (fun t ht=>by rw [L.out.cellAt (i+t) (by omega),Kh (by have:=L.out.1;omega)];rfl) (fun t ht=>L.out.frozenAt (i+t))
    have o9:=ki (List.replicate (j-i) (KL 0)) i wr _ L.out (by rw [Km];omega)
    have O:=By o9 aG
    have a2:(((aq .i64 (dw R)).take i++List.replicate (j-i) (Value.int .i64 0)++(aq .i64 (dw R)).drop (i+(List.replicate (j-i) (Value.int .i64 0)).length)).take i)=aq .i64 (dw (gt l n)):=by
     rw [Kl,List.take_append_of_le_length (by rw [Kk,a9,jV,HR.out];omega),List.take_take,Nat.min_self,yN,HD.out]
    rw [a2] at O
    have a0:=QK.out.trans (jL (g:=g) (List.replicate (j-i) (KL 0)) i wr)
    have HF:=aa (⟨by rw [B],by rw [B];exact O,a0⟩:Ip l n base g c U (.returned (.slice (some ⟨g,0,none⟩) i c)) _);clear o9 O a2 a0 a3 a5 B
    go_wp2_with fail
    go_ret
    exact HF.out
theorem aI.setPM {H:Nat→Prop} {w u:World} {b x:Nat} {i:Inp} {a:MAd} {m:Mst} (h:aI H w b i x a m) (hn:∀k,Mut b a k→¬H k) (B:Keep (fun k=>k=a.bp∨k=a.bm) w u) (P M:List Int)
  (oP:u.ownsRow 0 2 1 (.slice (some ⟨a.bp,0,none⟩) i.start.length a.cp) i.start.length (aq .i64 P)) (oM:u.ownsRow 0 2 1 (.slice (some ⟨a.bm,0,none⟩) i.start.length a.cm) i.start.length (aq .i64 M))
  (wP:P.length=i.start.length∧W64 P) (wM:M.length=i.start.length∧W64 M):aI H u b i x a {m with P:=P,M:=M}:=by
 have he:Ext (ay (fL H b a) w) (ay (fL H b a) u):=cu (B.mono fun k _ e=>.inl (.inr (e.elim .inl fun e=>.inr (.inl e)))) (fun k _ hS=>hS)
 have nb:∀{r n c:Nat} {xs:List Value},w.ownsRow 0 2 1 (.slice (some ⟨r,0,none⟩) n c) n xs→b≠r:=fun o e=>an h.blk (by decide) o (by rw [e];rfl)
 have N:=(B.block b (JC h.blk) (fun e=>e.elim (nb h.oP) (nb h.oM))).trans h.blk
 have I:∀{r n c:Nat} {ys:List Value} {v:Value} {e:TypeId} {size k:Nat} {xs:List Value},w.ownsRow 0 2 1 (.slice (some ⟨r,0,none⟩) n c) n ys→e≠2→w.ownsRow 0 e size v k xs→∀j,v.ownBlock=some j→j≠r:=fun hr p q j y e=>by
  rcases hr.2 with ⟨C,_⟩ | ⟨r',_,_,C,_,hg,_⟩
  ·cases C
  ·simp only [Ku,Option.some.injEq,Addr.mk.injEq] at C
   obtain ⟨⟨X,_⟩,_⟩:=C
   exact an hg (Ne.symm p) q (by rw [y,e,X])
 have q:∀{v:Value} {e:TypeId} {size n:Nat} {xs:List Value},e≠2→w.ownsRow 0 e size v n xs→u.ownsRow 0 e size v n xs:=fun p q=>B.own q (fun j y e=>e.elim (I h.oP p q j y) (I h.oM p q j y))
 obtain ⟨V,Y,Z,Q,R,D,T⟩:=h.pl
 obtain ⟨A,L,U,J,O⟩:=h.re
 exact ⟨N,eK h.sh he,dJ bW h.ex he,gi h.sa he,⟨V,Y,Z,Q,R,D,gj T he⟩,aU h.bu he,aU h.it he,⟨A,q (by decide) L,U,J,fun j x hx=>bW (O j x hx) he⟩,
  oP,oM,B.own h.oG (fun j y e=>by cases y;exact e.elim (fun e=>h.dj.2.1 e.symm) (fun e=>h.dj.2.2 e.symm)),q (by decide) h.oO,h.dj,fun k _ hm=>hn k hm,wP,wM,h.wG,h.ox,h.xw⟩
theorem Au {ra o q:Int} {ps ms g:List Int} {lo k:Nat} (h:W64 ps):W64 (apP ra o q ps ms g lo k):=fE fun j i=>by
 split
 ·exact gH _
 ·have:=h j i
  rw [dI _ _ i]
  simpa [dI _ _ i] using this
theorem F4:cL Tryz.prog 52 2:=⟨⟨_,Tryz.underlying52,rfl⟩,by kernel_rfl⟩
theorem Ej {H:Nat→Prop} {w:World} {b x:Nat} {i:Inp} {a:MAd} {m:Mst} (h:aI H w b i x a m) (hn:∀k,Mut b a k→¬H k) (Z:∀k,w.heap.size≤k→¬H k) (hs:cU i) (y:Itm) (u v:Value) (hu:u.oneCell'=true) (hv:v.oneCell'=true) (bl:y.n<(aE i).buks.length) (hop:0<m.op.length) (b4:m.op.length≤1000)
  (b1: -9223372036854775808≤i.cfg.rate∧i.cfg.rate≤9223372036854775807) (b2: -9223372036854775808≤i.cfg.mom∧i.cfg.mom≤9223372036854775807) (lo A:Nat) (hr:aO (aE i).buks y.n=(lo,A)) (bV:lo<A) (c7:A≤i.start.length):
  Calls Tryz.prog 114 #[.pointer (some ⟨b,0,none⟩),.agg (aN y).toArray,.agg #[u,v]] w fun e o=>e=.returned (KL 0)∧Did H (fun _=>False) b i x a m w.heap.size (fun _ m1=>m1={m with P:=apP i.cfg.rate i.cfg.mom i.cfg.shift m.P m.M ((m.G.drop lo).take (A-lo)) lo (A-lo),M:=apM i.cfg.mom i.cfg.shift m.M ((m.G.drop lo).take (A-lo)) lo (A-lo),op:=gt m.op y.n}) w o:=by
 have X:=h.blk
 have bv:=hs.n
 obtain ⟨W0,W1,hW0,ad,g0,g1,R, -⟩:=eE w (aN y).toArray #[u,v] 56 154
 have T:=sb X _ R
 have a4:=aU h.bu (gn (S:=fL H b a) (Keep.below (S:=fL H b a) R))
 have N:=dH bl
 rw [hr] at N
 obtain ⟨bb,bo,a3,aP⟩:=a4 _ _ N.1
 obtain ⟨b0,bi,e',a1⟩:=a4 _ _ N.2
 rw [a3] at e'
 obtain ⟨rfl,rfl⟩:b0=bb∧bi=bo:=by simpa using e'.symm
 rw [←Ky] at a1
 have t7:∀o,Below W1.heap.size W1 o→o.cell? ⟨b,7,none⟩=some (.slice a.BA (aE i).buks.length a.bc):=fun o q=>JF o b 7 _ _ _ (sb T o q)
 rw [a3] at t7
 have s2:∀o,Below W1.heap.size W1 o→o.cell? ⟨w.heap.size,2,none⟩=some (KL (y.n:Nat)):=fun o q=>JF o w.heap.size 2 _ _ _ (sb g0 o q)
 have d0:=fun o (q:Below W1.heap.size W1 o)=>am q aP
 have d1:=fun o (q:Below W1.heap.size W1 o)=>am q a1
 have bM:(y.n:Int)<(aE i).buks.length:=by omega
 have c9:¬(y.n:Int)<0:=by omega
 have tl:=sl T
 obtain ⟨bh,bf,be,G0,K1,U,Hn,ab⟩:=ak hW0 ad T g0 R h hn Z
 have q0:=(br W1).drew
 clear hW0 ad g0 g1 R T a4 N X h hn Z aP a1 a3 hr
 go_enter Tryz.func114,Tryz.ntmps114
 go_wp2_with fail
 rw [bh.out,bf.out]
 refine HA.g (fun o:World=>Below W1.heap.size W1 o) ?_
 refine HA.t ?_ [0,1,2,3,4,5,6,7,8] q0 ?_
 refine HA.v 9 (W1.drew.alloc (.cells #[KL 0,KL 0] 52)) (.pointer (some ⟨W1.heap.size,0,none⟩)) (q0.alloc (JD _) _) ?_
 refine HA.st 10 (JE W1.drew _) F4 (fun B e2 k2=>?_)
 have q2:Below W1.heap.size W1 B:=q0.trans (aB k2)
 refine ⟨q2,HA.d ?_⟩
 rw [Kt] at e2
 have C:=U.out.mlt
 have cb:=K1.out.size
 have O:=sb be.out B q2
 have a6:=sb G0.out B q2
 have B2:=bt K1.out q2
 have bw:w.heap.size<W1.heap.size:=JC G0.out
 have bs:b≠a.bp:=fun e=>an U.out.blk (by decide) U.out.oP (by rw [e];rfl)
 have b3:b≠a.bm:=fun e=>an U.out.blk (by decide) U.out.oM (by rw [e];rfl)
 have bN:=C a.bp (.inr (.inl rfl))
 have cf:=C a.bm (.inr (.inr (.inl rfl)))
 have Y:=fun o (q:Keep (fun k=>k=a.bp∨k=a.bm) B o)=>(q.block b (JC O) (fun e=>e.elim bs b3)).trans O
 have kx:=fun o (q:Keep (fun k=>k=a.bp∨k=a.bm) B o)=>(q.block W1.heap.size (JC e2) (fun e=>e.elim (fun e=>by omega) (fun e=>by omega))).trans e2
 have r8:∀o,Keep (fun k=>k=a.bp∨k=a.bm) B o→o.cell? ⟨b,8,none⟩=some (KL i.cfg.rate):=fun o q=>JF o b 8 _ _ _ (Y o q)
 have r9:∀o,Keep (fun k=>k=a.bp∨k=a.bm) B o→o.cell? ⟨b,9,none⟩=some (KL i.cfg.mom):=fun o q=>JF o b 9 _ _ _ (Y o q)
 have b9:∀o,Keep (fun k=>k=a.bp∨k=a.bm) B o→o.cell? ⟨b,10,none⟩=some (KL i.cfg.shift):=fun o q=>JF o b 10 _ _ _ (Y o q)
 have b5:∀o,Keep (fun k=>k=a.bp∨k=a.bm) B o→o.cell? ⟨b,11,none⟩=some (.slice (some ⟨a.bp,0,none⟩) i.start.length a.cp):=fun o q=>JF o b 11 _ _ _ (Y o q)
 have bn:∀o,Keep (fun k=>k=a.bp∨k=a.bm) B o→o.cell? ⟨b,12,none⟩=some (.slice (some ⟨a.bm,0,none⟩) i.start.length a.cm):=fun o q=>JF o b 12 _ _ _ (Y o q)
 have bd:∀o,Keep (fun k=>k=a.bp∨k=a.bm) B o→o.cell? ⟨b,13,none⟩=some (.slice (some ⟨a.bg,0,none⟩) i.start.length a.cg):=fun o q=>JF o b 13 _ _ _ (Y o q)
 have x0:∀o,Keep (fun k=>k=a.bp∨k=a.bm) B o→o.cell? ⟨W1.heap.size,0,none⟩=some (KL (lo:Nat)):=fun o q=>JF o _ 0 _ _ _ (kx o q)
 have x1:∀o,Keep (fun k=>k=a.bp∨k=a.bm) B o→o.cell? ⟨W1.heap.size,1,none⟩=some (KL (A:Nat)):=fun o q=>JF o _ 1 _ _ _ (kx o q)
 have bO:i.start.length≤a.cg:=by
  obtain ⟨_,_,e,h⟩:=aw U.out.oG
  simp only [Ku] at e
  omega
 have L:=U.out.below B2 Hn.out
 have hG:Rd B (some ⟨a.bg,lo,none⟩) (aq .i64 ((m.G.drop lo).take (A-lo))):=by
  have:=((Rd.own L.oG).drop lo).take (A-lo)
  rwa [cV,cK,Kz] at this
 have a2:=CS i.cfg.rate i.cfg.mom i.cfg.shift 0 i.start.length lo (A-lo) a.cp a.cm (a.cg-lo) (some ⟨a.bp,0,none⟩) (some ⟨a.bm,0,none⟩) (some ⟨a.bg,lo,none⟩) m.P m.M ((m.G.drop lo).take (A-lo)) B.drew L.oP.drew L.oM.drew (fun j hj e=>by cases hj;exact L.dj.1 (by simpa [Value.ownBlock] using e.symm))
  hG (by rw [Kk,Kn,L.wG.1];omega) (by omega) (by omega) (fun z hz e=>by cases hz;exact L.dj.2.1 (by simpa [Value.ownBlock] using e)) (fun z hz e=>by cases hz;exact L.dj.2.2 (by simpa [Value.ownBlock] using e)) b1 b2 L.wM.2
 rw [show lo+(A-lo)=A by omega] at a2
 have cd:(lo:Int)≤A:=by omega
 have ci:(A:Int)≤a.cg:=by omega
 have bA:lo≤A:=by omega
 have bG:A≤a.cg:=by omega
 have bI:¬a.cg=lo:=by omega
 have q3:Keep (fun k=>k=a.bp∨k=a.bm) B B.drew:=(Keep.refl _ _).drew
 have b6:=fun o (q:Keep (fun k=>k=a.bp∨k=a.bm) B o)=>JK (JC O) q.size
 have b8:=fun o (q:Keep (fun k=>k=a.bp∨k=a.bm) B o)=>JK (JC e2) q.size
 obtain ⟨b7,M2,aR,KB,GI⟩:=ah a2 L B2 Y a6;clear t7 s2 d0 d1 tl q0 k2 q2 a2 L B2 Y kx O a6 e2 hG C
 go_wp2_with fail
 refine HA.g (fun o:World=>Keep (fun k=>k=a.bp∨k=a.bm) B o) ?_
 refine HA.t ?_ [0,1,2,3,4,5,6,7,8,9,10,11,12,13,14,15,16,17,18] q3 ?_
 refine HA.c 19 b7.out ?_
 rintro e w4 ⟨rfl,aM,a8,k4⟩
 have q4:Keep (fun k=>k=a.bp∨k=a.bm) B w4:=q3.trans (k4.mono fun j _ e=>e.imp (fun e=>by simpa [Value.ownBlock] using e.symm) (fun e=>by simpa [Value.ownBlock] using e.symm))
 refine ⟨_,rfl,q4,fun _=>?_⟩
 refine HA.d ?_
 have m4:=M2.out.setPM Hn.out q4 _ _ aM a8 ⟨by rw [mh];exact M2.out.wP.1,Au M2.out.wP.2⟩ ⟨by rw [mj];exact M2.out.wM.1,uD M2.out.wM.2⟩
 have hX:=q4.cell (JF B w.heap.size 2 _ _ _ GI.out) (p:=⟨w.heap.size,2,none⟩) (fun e=>e.elim (fun e=>by have:w.heap.size=a.bp:=e;omega) (fun e=>by have:w.heap.size=a.bm:=e;omega))
 obtain ⟨g,c,D,bU⟩:=m4.oO.form hop
 have bX:=U.out.mlt g (.inr (.inr (.inr (.inr (.inr (by rw [D];rfl))))))
 have Q:=m4.oO
 rw [D] at Q
 have V:=Fh g c w.heap.size y.n 0 m.op w4 Q b4 hX (by omega)
 have J:=m4.blk
 have av:b≠g:=fun e=>an J (by decide) Q (by rw [e];rfl)
 have c6:w4.cell? ⟨b,18,none⟩=some (.slice (some ⟨g,0,none⟩) m.op.length c):=by rw [←D];exact JF w4 b 18 _ _ _ J
 have cc:=JC J
 obtain ⟨H4,ao,aG,Q4,a5⟩:=ah m4 V J q4 D;clear m4 hX V J q4 D Q aM a8 k4 r8 r9 b9 b5 bn bd x0 x1 b6 b8 q3
 go_wp2_with fail
 refine ao.out.mono ?_
 rintro e w5 ⟨rfl,o5,k5⟩
 have g5:=(k5.block b (JC aG.out) av).trans aG.out
 have bz:w5.cell? ⟨b,18,none⟩=some a.ov:=JF w5 b 18 _ _ _ g5
 have c8:=JM w5 b 18 _ _ g5
 have l5:=JC g5
 have e6:=ss (i:=18) (v:=.slice (some ⟨g,0,none⟩) (gt m.op y.n).length c) g5 rfl
 have k6:Keep (fun k=>k=b) w5 (w5.setCell ⟨b,18,none⟩ (.slice (some ⟨g,0,none⟩) (gt m.op y.n).length c)):=Keep.setCell (S:=fun k=>k=b) (Keep.refl _ _) _ (.inr rfl) _
 have o6:=k6.own o5 (fun j hj e=>by cases hj;exact av e.symm)
 have a0:Keep (fun k=>k=b∨a.ov.ownBlock=some k) w4 (w5.setCell ⟨b,18,none⟩ (.slice (some ⟨g,0,none⟩) (gt m.op y.n).length c)):=(k5.mono fun k _ e=>.inr (by rw [a5.out,e];rfl)).trans (k6.mono fun k _ e=>.inl e)
 have a7:w.heap.size≤w4.heap.size:=JJ aR.out.size Q4.out.size
 have I:=H4.out.setO Hn.out (fun k hk=>ab.out k (JJ a7 hk)) (.slice (some ⟨g,0,none⟩) (gt m.op y.n).length c) (gt m.op y.n) a0 e6 o6 (fun k hk=>.inl (by rw [a5.out];exact hk))
 have HF:=aa (⟨_,_,I.1,rfl,rfl,((Keep.below aR.out).trans (Q4.out.sub fun k e=>.inl (.inr (e.elim .inl fun e=>.inr (.inl e))))).trans (a0.sub fun k e=>.inl (e.elim .inl fun e=>.inr (.inr (.inr (.inr (.inr e)))))),fun k hk=>(I.2 k hk).imp id (fun h=>JJ a7 h),⟨rfl,rfl,rfl⟩,rfl⟩:Did H (fun _=>False) b i x a m w.heap.size (fun _ m1=>m1={m with P:=apP i.cfg.rate i.cfg.mom i.cfg.shift m.P m.M ((m.G.drop lo).take (A-lo)) lo (A-lo),M:=apM i.cfg.mom i.cfg.shift m.M ((m.G.drop lo).take (A-lo)) lo (A-lo),op:=gt m.op y.n}) w _);clear I a0 e6 k6 o6 o5 k5 g5
 go_wp2_with fail
 go_ret
 exact ⟨rfl,HF.out⟩
theorem Did.older {H G:Nat→Prop} {b:Nat} {i:Inp} {x:Nat} {a:MAd} {m:Mst} {n j:Nat} {T:World→Mst→Prop} {w o:World} (h:Did H G b i x a m n T w o) (hn:j≤n):Did H G b i x a m j T w o:=by
 obtain ⟨u,C,h1,v,B,y,A,q⟩:=h
 exact ⟨u,C,h1,v,B,y,fun k p=>(A k p).imp id fun e=>JJ hn e,q⟩
theorem yH {H:Nat→Prop} {w:World} {b x:Nat} {i:Inp} {a:MAd} {m:Mst} (h:aI H w b i x a m) (hn:∀k,Mut b a k→¬H k) (j:∀k,w.heap.size≤k→¬H k) (hs:cU i) {y:Itm} (D:(bZ i x m.st)[m.nx]?=some y) (A:y.kind=2) (hl:m.op.length≤1000) (u v:Option Addr):
  Calls Tryz.prog 17 #[.pointer (some ⟨b,0,none⟩),.pointer u,.pointer v] w fun e o=>e=.returned (KL 0)∧xj H (fun _=>False) b i x a m (fun _ B=>B={m with op:=m.op++[y.n]}) w o:=by
 refine (kp h hn j (G:=fun _=>False) (fun _ h=>h.elim) hs D u v 111 (fun o=>by rw [A];kernel_rfl) (fun args w=>by kernel_rfl) (fun _=>False) (fun _ B=>B={m with op:=m.op++[y.n]}) (fun _ _ _ h _=>h) (fun o q=>?_)).mono ?_
 ·refine (vU (h.below q hn) hn (fun k A=>j k (JJ q.size A)) hl y (.pointer u) (.pointer v) rfl rfl).mono ?_
  rintro e I ⟨rfl,p⟩
  exact .inl ⟨rfl,p.older q.size⟩
 ·rintro e o (⟨rfl,p⟩ | ⟨C,_,J,_⟩)
  ·exact ⟨rfl,p⟩
  ·exact J.elim
theorem yG {H:Nat→Prop} {w:World} {b x:Nat} {i:Inp} {a:MAd} {m:Mst} (h:aI H w b i x a m) (hn:∀k,Mut b a k→¬H k) (j:∀k,w.heap.size≤k→¬H k) (hs:cU i) {y:Itm} (D:(bZ i x m.st)[m.nx]?=some y) (A:y.kind=6) (hl:m.rc.length≤1000) (u v:Option Addr):
  Calls Tryz.prog 17 #[.pointer (some ⟨b,0,none⟩),.pointer u,.pointer v] w fun e o=>e=.returned (KL 0)∧xj H (fun _=>False) b i x a m (fun _ B=>B={m with rc:=m.rc++[(m.P,m.M)],G:=List.replicate i.start.length 0}) w o:=by
 refine (kp h hn j (G:=fun _=>False) (fun _ h=>h.elim) hs D u v 115 (fun o=>by rw [A];kernel_rfl) (fun args w=>by kernel_rfl) (fun _=>False) (fun _ B=>B={m with rc:=m.rc++[(m.P,m.M)],G:=List.replicate i.start.length 0}) (fun _ _ _ h _=>h) (fun o q=>?_)).mono ?_
 ·refine (vT (h.below q hn) hn (fun k A=>j k (JJ q.size A)) hs hl y (.pointer u) (.pointer v) rfl rfl).mono ?_
  rintro e I ⟨rfl,p⟩
  exact .inl ⟨rfl,p.older q.size⟩
 ·rintro e o (⟨rfl,p⟩ | ⟨C,_,J,_⟩)
  ·exact ⟨rfl,p⟩
  ·exact J.elim
theorem GG {H:Nat→Prop} {w:World} {b x:Nat} {i:Inp} {a:MAd} {m:Mst} (h:aI H w b i x a m) (hn:∀k,Mut b a k→¬H k) (o:∀k,w.heap.size≤k→¬H k) (hs:cU i) {y:Itm} (R:(bZ i x m.st)[m.nx]?=some y) (B:y.kind=5) (u v:Option Addr) (D:y.n<(aE i).buks.length) (hop:0<m.op.length) (J:m.op.length≤1000)
  (N: -9223372036854775808≤i.cfg.rate∧i.cfg.rate≤9223372036854775807) (O: -9223372036854775808≤i.cfg.mom∧i.cfg.mom≤9223372036854775807) (lo j:Nat) (hr:aO (aE i).buks y.n=(lo,j)) (I:lo<j) (Q:j≤i.start.length):
  Calls Tryz.prog 17 #[.pointer (some ⟨b,0,none⟩),.pointer u,.pointer v] w fun e p=>e=.returned (KL 0)∧xj H (fun _=>False) b i x a m (fun _ L=>L={m with P:=apP i.cfg.rate i.cfg.mom i.cfg.shift m.P m.M ((m.G.drop lo).take (j-lo)) lo (j-lo),M:=apM i.cfg.mom i.cfg.shift m.M ((m.G.drop lo).take (j-lo)) lo (j-lo),op:=gt m.op y.n}) w p:=by
 refine (kp h hn o (G:=fun _=>False) (fun _ h=>h.elim) hs R u v 114 (fun p=>by rw [B];kernel_rfl) (fun args w=>by kernel_rfl) (fun _=>False) (fun _ L=>L={m with P:=apP i.cfg.rate i.cfg.mom i.cfg.shift m.P m.M ((m.G.drop lo).take (j-lo)) lo (j-lo),M:=apM i.cfg.mom i.cfg.shift m.M ((m.G.drop lo).take (j-lo)) lo (j-lo),op:=gt m.op y.n}) (fun _ _ _ h _=>h) (fun p q=>?_)).mono ?_
 ·refine (Ej (h.below q hn) hn (fun k B=>o k (JJ q.size B)) hs y (.pointer u) (.pointer v) rfl rfl D hop J N O lo j hr I Q).mono ?_
  rintro e T ⟨rfl,A⟩
  exact .inl ⟨rfl,A.older q.size⟩
 ·rintro e p (⟨rfl,A⟩ | ⟨C,_,U,_⟩)
  ·exact ⟨rfl,A⟩
  ·exact U.elim
theorem td {p:Pln} {x st:Nat} {y:Itm} (h:y∈aD p x st) (i:y.kind=2∨y.kind=5):∃g∈p.grps,g.1≤y.n∧y.n<g.2:=by
 unfold aD at h
 simp only [Kv,List.mem_map,List.mem_flatMap,List.mem_singleton,List.mem_range] at h
 rcases h with (⟨k,q,rfl⟩ | ⟨g,hg,h⟩) | rfl
 ·rcases i with i | i<;>cases i
 ·refine ⟨g,hg,?_⟩
  unfold de at h
  simp only [Kv,List.mem_map,List.mem_flatMap,List.mem_range'_1] at h
  rcases h with (⟨j,o,rfl⟩ | ⟨_,_,_,_,_,_,h⟩) | ⟨j,o,rfl⟩
  ·show g.1≤j∧j<g.2
   omega
  ·unfold cC at h
   obtain ⟨c,_,rfl⟩:=List.mem_map.1 h
   unfold gh at i
   rcases i with i | i<;>(split at i<;>cases i)
  ·show g.1≤j∧j<g.2
   omega
 ·rcases i with i | i<;>cases i
def au (w:World) (b:Nat) (ring:Value) (cap sent recv peak:Nat):Prop:=
 w.heap[b]?=some (.cells #[ring,KL cap,KL sent,KL recv,KL peak] 177 (0,0))
section
variable {w:World} {b:Nat} {ring:Value} {cap sent recv peak:Nat}
theorem au.c0 (h:au w b ring cap sent recv peak):w.cell? ⟨b,0,none⟩=some ring:=JF w b 0 _ _ _ h
theorem au.c1 (h:au w b ring cap sent recv peak):w.cell? ⟨b,1,none⟩=some (KL cap):=JF w b 1 _ _ _ h
theorem au.c2 (h:au w b ring cap sent recv peak):w.cell? ⟨b,2,none⟩=some (KL sent):=JF w b 2 _ _ _ h
theorem au.c3 (h:au w b ring cap sent recv peak):w.cell? ⟨b,3,none⟩=some (KL recv):=JF w b 3 _ _ _ h
theorem au.c4 (h:au w b ring cap sent recv peak):w.cell? ⟨b,4,none⟩=some (KL peak):=JF w b 4 _ _ _ h
theorem au.free (h:au w b ring cap sent recv peak) (i:Nat):w.frozen? ⟨b,i,none⟩=false:=JM w b i _ _ h
end
theorem ks (b:Nat) (ring:Value) (cap sent recv peak:Nat) (w:World) (h:au w b ring cap sent recv peak) (j:recv≤sent) (hs:sent≤17592186043904):
  Calls Tryz.prog 65 #[.pointer (some ⟨b,0,none⟩)] w fun e i=>e=.returned (KL ((sent:Int)-recv))∧∃n,i=w.drewN n:=by
 have c2:=h.c2
 have c3:=h.c3
 go_enter Tryz.func65,Tryz.ntmps65
 go_wp2
 go_quiet (fail)
 go_wp2
 go_ret
 exact ⟨rfl,_,rfl⟩
theorem wg (b:Nat) (x y:Int) (w:World) (c2:w.cell? ⟨b,2,none⟩=some (KL x)) (c3:w.cell? ⟨b,3,none⟩=some (KL y)) (j:0≤y∧y≤x∧x≤17592186043904):
  Calls Tryz.prog 65 #[.pointer (some ⟨b,0,none⟩)] w fun e i=>e=.returned (KL (x-y))∧∃n,i=w.drewN n:=by
 go_enter Tryz.func65,Tryz.ntmps65
 go_wp2
 go_quiet (fail)
 go_wp2
 go_ret
 exact ⟨rfl,_,rfl⟩
theorem Ck (b:Nat) (ring:Value) (cap sent recv peak:Nat) (n:Int) (w:World) (h:au w b ring cap sent recv peak) (hc:1≤cap) (hn:0≤n) (i:cap≤1048576):
  Calls Tryz.prog 81 #[.pointer (some ⟨b,0,none⟩),KL n] w fun e j=>e=.returned (KL (n%cap))∧w=j:=by
 have c1:=h.c1
 go_enter Tryz.func81,Tryz.ntmps81
 go_wp2
 go_ret
 exact ⟨rfl,rfl⟩
theorem GL (b:Nat) (ring:Value) (cap sent recv peak:Nat) (w:World) (h:au w b ring cap sent recv peak):
  Calls Tryz.prog 66 #[.pointer (some ⟨b,0,none⟩)] w fun e i=>e=.returned (KL cap)∧w=i:=by
 have c1:=h.c1
 go_enter Tryz.func66,Tryz.ntmps66
 go_wp2
 go_ret
 exact ⟨rfl,rfl⟩
theorem zY (c:Int) (w:World) (h:1≤c∧c≤1048576):
  Calls Tryz.prog 31 #[KL c] w fun e i=>e=.returned (.pointer (some ⟨w.heap.size,0,none⟩))∧i=w.alloc (.cells #[KN,KL c,KL 0,KL 0,KL 0] 177):=by
 obtain ⟨h1,j⟩:=h
 go_enter Tryz.func31,Tryz.ntmps31
 go_wp2
 go_ret
 exact ⟨rfl,rfl⟩
theorem IP:dq Tryz.prog 26 2 (KL 0) 1 8:=⟨Tryz.underlying26,info_parts (by kernel_rfl),rfl,by decide⟩
theorem CH (A:Option Addr) (zs:List Int) (c:Nat) (w:World) (hA:Rd w A (aq .i64 zs)) (hl:zs.length≤17592186043904):
  Calls Tryz.prog 129 #[.slice A zs.length c] w fun e x=>∃v,e=.returned v∧x.ownsRow w.heap.size 2 1 v zs.length (aq .i64 zs)∧Below w.heap.size w x:=by
 have q:=fun (w:World)=>Lib.run_eql_slice_nil (P:=Tryz.prog) w 26 2 A zs.length c 0 0 Tryz.underlying26
 cases A with
 | none=>
  have B:zs=[]:=by
   cases zs with
   | nil=>rfl
   | cons z l=>obtain ⟨b,o,h,_⟩:=hA 0 _ rfl;cases h
  subst B
  clear q
  have q:=fun (w:World)=>Lib.run_eql_slice_nil (P:=Tryz.prog) w 26 2 none 0 c 0 0 Tryz.underlying26
  simp only [Option.isNone_none] at q
  rw [List.length_nil]
  go_enter Tryz.func129,Tryz.ntmps129
  go_wp2
  go_ret
  exact ⟨_,rfl,JO _ _ _ _,JG _ _⟩
 | some a=>
  go_enter Tryz.func129,Tryz.ntmps129
  go_wp2_with (at_builtin;refine dX IP _ rfl (.tmp 5) (.tmp 6) rfl w.heap.size _ 0 [] rfl (fq w 2 1) _ zs.length c (aq .i64 zs) rfl (hA.alloc _) (by rw [a9];omega) (bP _ _) (by omega) (by unfold maxLen;omega) (by simp) ?_)
  intro H D C i y _ _
  have p:=((JG _ w).alloc (JD _) (.cells #[] 2)).trans y
  obtain ⟨j,u⟩:=ae i p;clear i y p
  go_wp2
  go_ret
  exact ⟨_,rfl,j.out,u.out⟩
end Go.Proofs.YtaccfnffmbndhaaGreat
