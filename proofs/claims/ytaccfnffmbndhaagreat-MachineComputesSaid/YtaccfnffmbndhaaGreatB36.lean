/- The reference's Sampler of a run. The reference's Batch. The law's comparison of a machine with the reference's. The reference's Do: what all kinds of items have in common. The examples of a micro-batch. Do of no machine and of one that has ended; the example of the chapter. mat.New. No condition. -/
import Derived.Test.YtaccfnffmbndhaaGreatB35
import Derived.Test.YtaccfnffmbndhaaGreatB32
import Derived.Test.YtaccfnffmbndhaaGreatB22
import Derived.Test.YtaccfnffmbndhaaGreatB04
import Derived.Test.YtaccfnffmbndhaaGreatB30
import Derived.Test.YtaccfnffmbndhaaGreatB13
import Derived.Test.YtaccfnffmbndhaaGreatB21
import Derived.Test.YtaccfnffmbndhaaGreatB03
import Derived.Deep.RegionHeld3
import Derived.Test.YtaccfnffmbndhaaGreatB34
import Derived.Test.YtaccfnffmbndhaaGreatB26
import Derived.Test.YtaccfnffmbndhaaGreatB06
import Derived.Test.YtaccfnffmbndhaaGreatB14
set_option linter.unusedSimpArgs false
set_option linter.unusedVariables false
namespace Go.Proofs.YtaccfnffmbndhaaGreat
open Go.RowKit
def epI (i:Inp):Nat:=epN i.data.length i.cfg.batch.toNat i.cfg.steps.toNat
def RSamp14Is (i:Inp) (w:World) (e:Ending) (w':World):Prop:=∃ A c,e = .returned (.agg #[.int .i64 i.data.length,.int .i64 i.cfg.batch,.int .i64 i.cfg.steps,.slice A (epI i) c]) ∧ (∃ vs,OrdI i.draws i.data.length w.heap.size (epI i) (.slice A (epI i) c) vs w') ∧ Below w.heap.size w w'
set_option maxRecDepth 100000 in
set_option maxHeartbeats 1000000 in
theorem rsamp14_any (A:Option Addr) (c:Nat) (D:Option Addr) (cd:Nat) (T:Option Addr) (ct:Nat) (R:Option Addr) (cr:Nat) (i:Inp) (w:World) (hg:GoodIn i) (hR:Rd w R (nums .u64 i.draws)) (hRl:i.draws.length ≤ 1048576) (hu:U64 i.draws) :
    Calls Tryz.prog 70 #[.agg (inpVals A c D cd T ct R cr i)] w (RSamp14Is i w):=by
  have hgb:=hg.b
  have hgd:=hg.d
  have hb1:1 ≤ i.cfg.batch:=by have:=hg.c.w;have:=hg.c.ba;omega
  have hst:=hg.c.st
  have hnew:=fun w' (q:Below w.heap.size w w') => rnew12_any i.data.length i.cfg.batch.toNat i.cfg.steps.toNat (epI i) cr R i.draws w' (hR.below q) hRl hu (by omega) (by omega) hgb.2 (by omega) rfl hgd
  rw [Int.toNat_of_nonneg (show 0 ≤ i.cfg.batch by omega),Int.toNat_of_nonneg (show 0 ≤ i.cfg.steps by omega)] at hnew
  have hbl:(w.alloc (.cells (inpVals A c D cd T ct R cr i) 29)).heap.size = w.heap.size + 1:=by simp
  have hbx:=blk_new w (inpVals A c D cd T ct R cr i) 29 rfl
  have hb0:Below w.heap.size w (w.alloc (.cells (inpVals A c D cd T ct R cr i) 29)):=(Below.refl _ w).alloc (Nat.le_refl _) _
  have hbx2:=blk_alloc hbx (.cells #[.int .i64 0,.int .i64 0,.int .i64 0,.slice none 0 0] 159)
  have hby2:=blk_new _ #[.int .i64 0,.int .i64 0,.int .i64 0,.slice none 0 0] 159 hbl
  have hb2:=hb0.alloc (by rw [hbl];omega) (.cells #[.int .i64 0,.int .i64 0,.int .i64 0,.slice none 0 0] 159)
  obtain ⟨W1,hW1⟩:∃ W1,W1 = (w.alloc (.cells (inpVals A c D cd T ct R cr i) 29)).alloc (.cells #[.int .i64 0,.int .i64 0,.int .i64 0,.slice none 0 0] 159):=⟨_,rfl⟩
  rw [← hW1] at hbx2 hby2 hb2
  have Hq:=Lib.hid (show 0 ≤ i.cfg.batch ∧ 0 ≤ i.cfg.steps by omega)
  have HX:=Lib.hid hbx2;have HY:=Lib.hid hby2;have HB:=Lib.hid hb2;have Hnew:=Lib.hid hnew
  clear hbx hbx2 hby2 hb2 hnew hb0 hbl hgb hgd hb1 hst hu hRl hR hg
  dsimp only [inpVals] at hW1
  go_enter Tryz.func70,Tryz.ntmps70
  dsimp only [inpVals]
  go_wp2_with fail
  rw [← hW1]
  refine (Hnew.out W1 HB.out).mono ?_
  rintro e w2 ⟨A2,c2,rfl,⟨vs,hO⟩,hb2⟩
  have hy2:=(hb2.block _ (lt_of_block HY.out)).trans HY.out
  have hB2:=HB.out.trans (hb2.mono HB.out.size)
  rw [Int.toNat_of_nonneg Hq.out.1,Int.toNat_of_nonneg Hq.out.2]
  obtain ⟨e4,k4⟩:=store4 w2 (w.heap.size + 1) (.int .i64 i.data.length) (.int .i64 i.cfg.batch) (.int .i64 i.cfg.steps) (.slice A2 (epI i) c2) hy2
  have e5:=blk_alloc e4 (.cells #[.int .i64 i.data.length,.int .i64 i.cfg.batch,.int .i64 i.cfg.steps,.slice A2 (epI i) c2] 159)
  have hB4:=hB2.trans (k4.toBelow hB2.size (fun j hj => by omega))
  have hB5:=hB4.alloc hB4.size (.cells #[.int .i64 i.data.length,.int .i64 i.cfg.batch,.int .i64 i.cfg.steps,.slice A2 (epI i) c2] 159)
  have hO5:=((hO.keep k4 (fun j hj => by have:=lt_of_block HY.out;omega)).base HB.out.size).below ((Below.refl _ _).alloc (Nat.le_refl _) (.cells #[.int .i64 i.data.length,.int .i64 i.cfg.batch,.int .i64 i.cfg.steps,.slice A2 (epI i) c2] 159))
  have ly:=lt_of_block hy2
  obtain ⟨⟨y0,y1,y2,y3⟩,yf⟩:=bx4 hy2
  have E5:=Lib.hid e5;have HB5:=Lib.hid hB5;have HO5:=Lib.hid hO5
  clear e4 k4 e5 hB4 hB5 hO5 hO hb2 hB2 hy2
  go_wp2_with fail
  have e5:=E5.out;have hB5:=HB5.out;have hO5:=HO5.out
  generalize ((((w2.setCell ⟨w.heap.size + 1,0,none⟩ (.int .i64 i.data.length)).setCell ⟨w.heap.size + 1,1,none⟩ (.int .i64 i.cfg.batch)).setCell ⟨w.heap.size + 1,2,none⟩ (.int .i64 i.cfg.steps)).setCell ⟨w.heap.size + 1,3,none⟩ (.slice A2 (epI i) c2)).alloc (.cells #[.int .i64 i.data.length,.int .i64 i.cfg.batch,.int .i64 i.cfg.steps,.slice A2 (epI i) c2] 159) = W9 at e5 hB5 hO5 ⊢
  clear y0 y1 y2 y3 yf
  obtain ⟨⟨r0,r1,r2,r3⟩,rf⟩:=bx4 e5
  exact bodyPost_ret (v:=.agg #[.int .i64 i.data.length,.int .i64 i.cfg.batch,.int .i64 i.cfg.steps,.slice A2 (epI i) c2]) (by simp [results,Tryz.results70,go_sem,r0,r1,r2,r3]) rfl ⟨_,_,rfl,⟨_,hO5⟩,hB5⟩
end Go.Proofs.YtaccfnffmbndhaaGreat
namespace Go.Proofs.YtaccfnffmbndhaaGreat
open Go.RowKit
set_option maxRecDepth 100000 in
set_option maxHeartbeats 200000 in
theorem rbatch_any (n b steps t E c:Nat) (A:Option Addr) (l:List Int) (w:World) (hA:SlRd rVec 1 w A (ordersN l n E)) (hb:1 ≤ b) (hbn:b ≤ n) (hn:n ≤ 1048576) (hst:steps ≤ 1048576) (ht:t < steps) (hE:E = epN n b steps) :
    Calls Tryz.prog 79 #[.agg #[.int .i64 n,.int .i64 b,.int .i64 steps,.slice A E c],.int .i64 t] w fun e w' => ∃ A c,e = .returned (.slice A b c) ∧ b ≤ c ∧ Rd w' A (nums .i64 (batchN l n b t)) ∧ Below w.heap.size w w':=by
  have hnb:1 ≤ n / b:=Nat.div_pos hbn hb
  have hep:=fun w' => repoch_any n b steps t c A E w' ⟨hb,hbn⟩ hn hst ht
  have hlt:t / (n / b) < E:=by rw [hE];exact epoch_lt ht
  have hel:E ≤ steps:=by rw [hE];exact cntQ_le _ _
  have hbt:batchN l n b t = ((permN l n ((t / (n / b)) * (n - 1))).drop (t % (n / b) * b)).take b:=rfl
  have hwm:t % (n / b) * b + b ≤ n:=whole_le n b _ (Nat.mod_lt _ (by omega))
  rw [hbt]
  have hx:=ordersN_at l n hlt
  obtain ⟨pl,hpl⟩:∃ pl,permN l n ((t / (n / b)) * (n - 1)) = pl:=⟨_,rfl⟩
  have hpn:pl.length = n:=by rw [← hpl];exact permN_len _ _ _
  rw [hpl] at hx ⊢
  obtain ⟨e0,he0⟩:∃ e0,t / (n / b) = e0:=⟨_,rfl⟩
  obtain ⟨p0,hp0⟩:∃ p0,t % (n / b) = p0:=⟨_,rfl⟩
  rw [he0] at hep hlt hx
  rw [hp0] at hep hwm ⊢
  obtain ⟨lo,hlo⟩:∃ lo,p0 * b = lo:=⟨_,rfl⟩
  rw [hlo] at hwm ⊢
  obtain ⟨bo,oo,A1,c1,rfl,hb1,q2,k3,h11,h9⟩:=rVec_cell hA hx
  rw [hpn] at h9 h11 q2
  obtain ⟨bg,og,rfl,q3⟩:=k3.num (show 0 < pl.length by omega)
  have he2:(e0:Int) < E:=by omega
  have hl1:(lo:Int) ≤ ((lo + b:Nat):Int):=by omega
  have hl4:lo + b ≤ c1:=by omega
  have hp0l:(p0:Int) * b = (lo:Int):=by rw [← hlo];push_cast;rfl
  have Hep:=Lib.hid hep;have K3:=Lib.hid k3
  clear hep k3 hE he0 hp0 hlo hpl hA hbt q3 hx
  have hz:=heap_alloc_new w (.cells #[.int .i64 n,.int .i64 b,.int .i64 steps,.slice (some ⟨bo,oo,none⟩) E c] 159)
  have hB0:Below w.heap.size w (w.alloc (.cells #[.int .i64 n,.int .i64 b,.int .i64 steps,.slice (some ⟨bo,oo,none⟩) E c] 159)):=(Below.refl _ w).alloc (Nat.le_refl _) _
  go_enter Tryz.func79,Tryz.ntmps79
  obtain ⟨W0,hW0⟩:∃ W0,W0 = w.alloc (.cells #[.int .i64 n,.int .i64 b,.int .i64 steps,.slice (some ⟨bo,oo,none⟩) E c] 159):=⟨_,rfl⟩
  go_wp2_with fail
  rw [← hW0] at hz hB0 ⊢
  clear hW0
  refine (Hep.out _).mono ?_
  rintro e w1 ⟨rfl,hb1'⟩
  have hz1:=(hb1'.block _ (lt_of_block hz)).trans hz
  have hbb:=hB0.trans (hb1'.mono hB0.size)
  have q2':=cell_below hbb q2
  have hbs:bo < w1.heap.size:=by have:=hbb.size;omega
  have hbz:=lt_of_block hz1
  obtain ⟨⟨y0,y1,y2,y3⟩,yf⟩:=bx4 hz1
  have HB:=Lib.hid hbb
  clear q2 hz hB0 hb1' hz1 hbb hl1
  go_upto_region 4 with (fail)
  have hw1':IntKind.i64.wrap ((lo:Int) + b) = (lo:Int) + b:=IntWalk.i64_in _ (by omega)
  have hw0':IntKind.i64.wrap (lo:Int) = (lo:Int):=IntWalk.i64_in _ (by omega)
  have hl6:(lo:Int) + b ≤ c1:=by omega
  have hl7:((lo:Int) + b).toNat = lo + b:=by omega
  have hl8:(0:Int) ≤ (lo:Int) + b:=by omega
  have hl9:(lo:Int) ≤ (lo:Int) + b:=by omega
  have hl0:lo + b - lo = b:=by omega
  have hlx:¬ (lo + b = lo):=by omega
  go_quiet (fail)
  go_wp2_with fail
  go_ret
  refine ⟨_,_,rfl,?_,?_,below_drewN HB.out _⟩
  · omega
  · have:=(((K3.out.below HB.out).drewN nq).drop lo).take b
    rwa [nums_drop,nums_take] at this
end Go.Proofs.YtaccfnffmbndhaaGreat
namespace Go.Proofs.YtaccfnffmbndhaaGreat
open Go.RowKit
def allocs (w:World):List Obj → World
  | [] => w
  | o :: l => allocs (w.alloc o) l
theorem allocs_below:∀ (l:List Obj) (w:World),Below w.heap.size w (allocs w l)
  | [],w => br w
  | o :: l,w => bt ((br w).alloc (Nat.le_refl _) o) (allocs_below l _)
theorem allocs_at:∀ (l:List Obj) (w:World) (k:Nat) {o:Obj},l[k]? = some o → (allocs w l).heap[w.heap.size + k]? = some o
  | [],_,_,_,h => by simp at h
  | o :: l,w,0,_,h => by
    simp only [List.getElem?_cons_zero,Option.some.injEq] at h
    subst h
    exact sb (heap_alloc_new w o) _ (allocs_below l _)
  | o :: l,w,k + 1,_,h => by
    have:=allocs_at l (w.alloc o) k (by simpa using h)
    rwa [show (w.alloc o).heap.size + k = w.heap.size + (k + 1) by rw [World.size_alloc];omega] at this
theorem it_form (y:Itm):∃ (k0 k1 k2:Int) (b0 b1:Bool) (i0 i1 i2 i3 i4 i5 i6:Int),itCells y = [.int .i64 k0,.int .i64 k1,.int .i64 k2,.bool b0,.bool b1,.int .i64 i0,.int .i64 i1,.int .i64 i2,.int .i64 i3,.int .i64 i4,.int .i64 i5,.int .i64 i6]:=by
  obtain ⟨k,s,n,a⟩:=y
  cases a with
  | none => exact ⟨_,_,_,_,_,_,_,_,_,_,_,_,rfl⟩
  | some a => exact ⟨_,_,_,_,_,_,_,_,_,_,_,_,rfl⟩
theorem rt_item:RowTy Tryz.prog 56 12:=⟨⟨_,Tryz.underlying56,rfl⟩,by kernel_rfl⟩
end Go.Proofs.YtaccfnffmbndhaaGreat
namespace Go.Proofs.YtaccfnffmbndhaaGreat
open Go.RowKit
theorem rt_rl:RowTy Tryz.prog 73 4:=⟨⟨_,Tryz.underlying73,rfl⟩,by kernel_rfl⟩
theorem rt_cfg:RowTy Tryz.prog 24 12:=⟨⟨_,Tryz.underlying24,rfl⟩,by kernel_rfl⟩
theorem rt_r4:RowTy Tryz.prog 132 2:=⟨⟨_,Tryz.underlying132,rfl⟩,by kernel_rfl⟩
theorem rd_boxes (w:World) (X Y Z X' Y' Z':Array Value) (t u:TypeId):∃ W0,(((((w.alloc (.cells X t)).alloc (.cells Y u)).alloc (.cells Z u)).alloc (.cells X' t)).alloc (.cells Y' u)).alloc (.cells Z' u) = W0 ∧
    W0.heap[w.heap.size]? = some (.cells X t (0,0)) ∧ W0.heap[w.heap.size + 1]? = some (.cells Y u (0,0)) ∧ W0.heap[w.heap.size + 1 + 1]? = some (.cells Z u (0,0)) ∧ W0.heap[w.heap.size + 1 + 1 + 1]? = some (.cells X' t (0,0)) ∧ W0.heap[w.heap.size + 1 + 1 + 1 + 1]? = some (.cells Y' u (0,0)) ∧
    W0.heap[w.heap.size + 1 + 1 + 1 + 1 + 1]? = some (.cells Z' u (0,0)) ∧ Below w.heap.size w W0:=by
  refine ⟨_,rfl,?_⟩
  have h:=allocs_below [.cells X t,.cells Y u,.cells Z u,.cells X' t,.cells Y' u,.cells Z' u] w
  exact ⟨allocs_at [.cells X t,.cells Y u,.cells Z u,.cells X' t,.cells Y' u,.cells Z' u] w 0 rfl,allocs_at [.cells X t,.cells Y u,.cells Z u,.cells X' t,.cells Y' u,.cells Z' u] w 1 rfl,allocs_at [.cells X t,.cells Y u,.cells Z u,.cells X' t,.cells Y' u,.cells Z' u] w 2 rfl,
    allocs_at [.cells X t,.cells Y u,.cells Z u,.cells X' t,.cells Y' u,.cells Z' u] w 3 rfl,allocs_at [.cells X t,.cells Y u,.cells Z u,.cells X' t,.cells Y' u,.cells Z' u] w 4 rfl,allocs_at [.cells X t,.cells Y u,.cells Z u,.cells X' t,.cells Y' u,.cells Z' u] w 5 rfl,h⟩
def RL (w:World) (v:Array Value) (s:LSt):Prop:=∃ B c,v = #[.int .i64 (s.cap:Nat),.slice B s.msgs.length c,.int .i64 (s.recv:Nat),.int .i64 (s.peak:Nat)] ∧ MsgsRd w B s.msgs ∧ s.msgs.length ≤ c
section
variable {u v:World}
theorem ext_nums {A:Option Addr} {l:List Int} {c:Nat} (h:NumsRd u A l c) (hv:Ext u v):NumsRd v A l c:=⟨h.hc,h.hl,ext_rd h.hr hv,h.hw⟩
theorem ext_inp {A:Option Addr} {c:Nat} {D T R:Option Addr} {ct:Nat} {i:Inp} (h:InpRd u A c D T ct R i) (hv:Ext u v):InpRd v A c D T ct R i:=
  ⟨⟨h.c.hc,h.c.hm,h.c.hl,ext_rd h.c.hr hv⟩,ext_sl exts_ex h.d hv,h.dl,ext_nums h.t hv,h.tl,ext_rd h.r hv,h.rl,h.ru,h.ra,h.rm⟩
theorem ext_rmach {vs:Array Value} {i:Inp} {x:Nat} {m:Mst} (h:RMach u vs i x m) (hb:Ext u v):RMach v vs i x m:=by
  obtain ⟨A,c,D,cd,T,ct,R,cr,PA,pc,MA,mc,GA,gc,SA,sc,IA,ic,h0,h1,h2,h3,h4,h5,h6,h7⟩:=h
  exact ⟨A,c,D,cd,T,ct,R,cr,PA,pc,MA,mc,GA,gc,SA,sc,IA,ic,h0,ext_inp h1 hb,ext_nums h2 hb,ext_nums h3 hb,ext_nums h4 hb,ext_sl exts_ex h5 hb,ext_rd h6 hb,h7⟩
theorem ext_msgs {A:Option Addr} {ms:List Msg} (h:MsgsRd u A ms) (hb:Ext u v):MsgsRd v A ms:=by
  obtain ⟨rows,h1,h2,h3,h4⟩:=h
  exact ⟨rows,ext_rd h1 hb,h2,h3,fun j hj => by obtain ⟨A',c',e,hr⟩:=h4 j hj;exact ⟨A',c',e,ext_rd hr hb⟩⟩
end
theorem hide_keep (S:Nat → Prop) (w:World):Keep S w (hideW S w):=⟨rfl,rfl,rfl,Nat.le_of_eq (hide_size S w).symm,fun _ _ hs => hide_blk hs⟩
theorem rd_hide_own {S:Nat → Prop} {w:World} {base:Nat} {e:TypeId} {n c:Nat} {A:Option Addr} {xs:List Value} (h:w.ownsRow base e 1 (.slice A n c) n xs) (hS:∀ k,S k → k < base):Rd (hideW S w) A xs:=by
  refine rd_hide (Rd.own h) fun y hy hs => ?_
  rcases h.2 with ⟨e',_⟩ | ⟨g,_,_,e',hb,_⟩
  · injection e' with e1;rw [e1] at hy;cases hy
  · injection e' with e1;rw [e1] at hy;cases hy;have h2:g < base:=hS _ hs;omega
theorem res_cell3 {P:Program} {f:Func} {x y z q:Tmp} {ty ty2 ty3:TypeId} (h:f.results = #[.cell x ty,.cell y ty2,.cell z ty3,.tmp q]) {tmps:Array Value} {w:World} {b b2 b3:Nat} {xs ys zs:Array Value} {t t2 t3:TypeId} {fr fr2 fr3:Nat × Nat} (hx:tmps.getD x undef = .pointer (some ⟨b,0,none⟩)) (hy:tmps.getD y undef = .pointer (some ⟨b2,0,none⟩)) (hz:tmps.getD z undef = .pointer (some ⟨b3,0,none⟩))
    (hb:w.heap[b]? = some (.cells xs t fr)) (hb2:w.heap[b2]? = some (.cells ys t2 fr2)) (hb3:w.heap[b3]? = some (.cells zs t3 fr3)) (hr:RowTy P ty xs.size) (hr2:RowTy P ty2 ys.size) (hr3:RowTy P ty3 zs.size):(results f tmps).run P w = .ok (.tuple #[.agg xs,.agg ys,.agg zs,tmps.getD q undef]) w:=by
  obtain ⟨⟨d,h1,h2⟩,h3⟩:=hr
  obtain ⟨⟨d',h1',h2'⟩,h3'⟩:=hr2
  obtain ⟨⟨d'',h1'',h2''⟩,h3''⟩:=hr3
  have e1:=run_loadVar_mid (P:=P) w b 0 ty xs.toList d (range_block hb 0 (by rw [List.drop_zero,List.take_length])) h1 h2 (by simpa using h3)
  have e2:=run_loadVar_mid (P:=P) w b2 0 ty2 ys.toList d' (range_block hb2 0 (by rw [List.drop_zero,List.take_length])) h1' h2' (by simpa using h3')
  have e3:=run_loadVar_mid (P:=P) w b3 0 ty3 zs.toList d'' (range_block hb3 0 (by rw [List.drop_zero,List.take_length])) h1'' h2'' (by simpa using h3'')
  rw [Array.toArray_toList] at e1 e2 e3
  have hx':tmps[x]?.getD undef = .pointer (some ⟨b,0,none⟩):=by simpa using hx
  have hy':tmps[y]?.getD undef = .pointer (some ⟨b2,0,none⟩):=by simpa using hy
  have hz':tmps[z]?.getD undef = .pointer (some ⟨b3,0,none⟩):=by simpa using hz
  simp [results,h,hx',hy',hz',asAddr,e1,e2,e3]
def RDone (S:Nat → Prop) (i:Inp) (x:Nat) (m:Mst) (s t:LSt) (C:Int) (w:World) (e:Ending) (w':World):Prop:=∃ vs u v,e = .returned (.tuple #[.agg vs,.agg u,.agg v,.int .i64 C]) ∧ vs.size = 22 ∧ (vs.toList.all (·.oneCell') = true) ∧ RMach (hideW S w') vs i x m ∧ RL (hideW S w') u s ∧ RL (hideW S w') v t ∧ Below w.heap.size w w'
end Go.Proofs.YtaccfnffmbndhaaGreat
namespace Go.Proofs.YtaccfnffmbndhaaGreat
open Go.RowKit
set_option maxRecDepth 100000 in
theorem sviewc_any (S n b steps t:Nat) (l:List Int) (w:World) (h:SampAt w S n b steps l) (hb:1 ≤ b) (hn:n ≤ 1048576) (hnb:1 ≤ n / b) (hst:steps ≤ 1048576) (ht:t < steps) :
    Calls Tryz.prog 175 #[.pointer (some ⟨S,0,none⟩),.int .i64 t] w fun e w' => ∃ A c,e = .returned (.slice A b c) ∧ b ≤ c ∧ Rd w' A (nums .i64 (batchN l n b t)) ∧ Below w.heap.size w w':=by
  have hep:=sepoch_any S n b steps t l w h hn hnb hst ht
  obtain ⟨Ab,cb,Ao,co,vs,h1,h2,h3,h4,h5⟩:=h
  have hle:=Nat.div_le_self n b
  have he:=epoch_lt (n:=n) (b:=b) ht
  have hm:=Nat.mod_lt t hnb
  have hwh:=whole_le n b _ hm
  have hmn:=whole_min n b _ hb hm
  have hb2:=blkVals_at (n - n % b) b hm
  rw [hmn] at hb2
  obtain ⟨A1,c1,k1,k2,k3⟩:=h5 _ he
  have hbt:batchN l n b t = ((permN l n ((t / (n / b)) * (n - 1))).drop (t % (n / b) * b)).take b:=rfl
  rw [hbt]
  have hel:epN n b steps ≤ steps:=cntQ_le _ _
  obtain ⟨pl,hpl⟩:∃ pl,permN l n ((t / (n / b)) * (n - 1)) = pl:=⟨_,rfl⟩
  have hpn:pl.length = n:=by rw [← hpl];exact permN_len _ _ _
  rw [hpl] at k3 ⊢
  obtain ⟨E,hE⟩:∃ E,epN n b steps = E:=⟨_,rfl⟩
  rw [hE] at he h1 h4 hel
  obtain ⟨e0,he0⟩:∃ e0,t / (n / b) = e0:=⟨_,rfl⟩
  obtain ⟨p0,hp0⟩:∃ p0,t % (n / b) = p0:=⟨_,rfl⟩
  rw [he0] at hep he k1
  rw [hp0] at hep hm hwh hb2 ⊢
  obtain ⟨nb,hnb'⟩:∃ nb,n / b = nb:=⟨_,rfl⟩
  rw [hnb'] at h1 h2 hnb hm hle hb2
  obtain ⟨lo,hlo⟩:∃ lo,p0 * b = lo:=⟨_,rfl⟩
  rw [hlo] at hwh hb2 ⊢
  obtain ⟨bb,ob,rfl,q0⟩:=h2 _ _ hb2.1
  obtain ⟨_,_,e2,q1⟩:=h2 _ _ hb2.2
  injection e2 with e2;injection e2 with i1 i2 _;subst i1;subst i2
  obtain ⟨bo,oo,rfl,q2⟩:=h3 _ _ k1
  obtain ⟨bg,og,rfl,q3⟩:=k3.num (show 0 < pl.length by omega)
  rw [← Nat.add_assoc] at q1
  have hm2:(p0:Int) < nb:=by omega
  have he2:(e0:Int) < E:=by omega
  have hl1:(lo:Int) ≤ ((lo + b:Nat):Int):=by omega
  have hl2:((lo + b:Nat):Int) ≤ c1:=by omega
  have hl3:lo ≤ lo + b:=by omega
  have hl4:lo + b ≤ c1:=by omega
  have hl5:¬ (c1 = lo):=by omega
  have b1:bo < w.heap.size:=lt_of_cell q2
  have b2:bb < w.heap.size:=lt_of_cell q0
  obtain ⟨⟨r0,r1,r2,r3⟩,rf⟩:=bx4 h1
  have b3:S < w.heap.size:=lt_of_block h1
  have H1:=Lib.hid h1;have Hep:=Lib.hid hep;have K3:=Lib.hid k3
  clear hep k3 h1 h2 h3 h4 h5 hE he0 hp0 hnb' hlo hpl hpn hb2 k1 q3 hmn hbt
  go_enter Tryz.func175,Tryz.ntmps175
  go_wp2_with fail
  refine Hep.out.mono ?_
  rintro e w' ⟨rfl,d,rfl⟩
  have hb1:Below w.heap.size w (w.drewN d):=below_drewN (Below.refl _ _) d
  have hz1:(w.drewN d).heap.size = w.heap.size:=by simp
  generalize w.drewN d = w1 at hb1 hz1 ⊢
  have q0':=cell_below hb1 q0
  have q1':=cell_below hb1 q1
  have q2':=cell_below hb1 q2
  have H1_:=(hb1.block _ b3).trans H1.out
  obtain ⟨⟨y0,y1,y2,y3⟩,yf⟩:=bx4 H1_
  rw [← hz1] at b1 b2 b3
  have Hb1:=Lib.hid hb1;have Hz1:=Lib.hid hz1
  clear q0 q1 q2 r0 r1 r2 r3 rf hb1 hz1 H1_
  go_wp2_with fail
  have hl6:(lo:Int) + b ≤ c1:=by omega
  have hl7:((lo:Int) + b).toNat = lo + b:=by omega
  have hl8:(0:Int) ≤ (lo:Int) + b:=by omega
  have hl9:(lo:Int) ≤ (lo:Int) + b:=by omega
  have hl0:lo + b - lo = b:=by omega
  have hlx:¬ (lo + b = lo):=by omega
  go_quiet (fail)
  go_wp2_with fail
  go_ret
  refine ⟨_,_,rfl,Nat.le_refl _,?_,below_drewN (Hb1.out.alloc (by have:=Hz1.out;omega) _) _⟩
  have:=((((K3.out.below Hb1.out).alloc (.cells #[.int .i64 (lo:Int),.int .i64 ((lo:Int) + b)] 52)).drewN nq).drop lo).take b
  rwa [nums_drop,nums_take] at this
def pieceL (l:List Int) (k i:Nat):List Int:=(l.drop (bdN l.length k i)).take (bdN l.length k (i + 1) - bdN l.length k i)
theorem pieceL_len (l:List Int) {k i:Nat} (hk:1 ≤ k) (hi:i < k):(pieceL l k i).length = bdN l.length k (i + 1) - bdN l.length k i:=by
  have h1:=bdN_le l.length k (i + 1) hk hi
  simp only [pieceL,List.length_take,List.length_drop]
  omega
def microN (l:List Int) (W x mi a:Nat):List Int:=pieceL (pieceL l W x) mi a
def PcIs (L:List Int) (m:Nat) (w:World) (e:Ending) (w':World):Prop:=∃ A' c',e = .returned (.slice A' m c') ∧ m ≤ c' ∧ Rd w' A' (nums .i64 L) ∧ Below w.heap.size w w'
set_option maxRecDepth 100000 in
theorem piece_any (A:Option Addr) (l:List Int) (c k i:Nat) (w:World) (hA:Rd w A (nums .i64 l)) (hc:l.length ≤ c) (hl:l.length ≤ 1048576) (hn:0 < l.length) (hk:1 ≤ k) (hk2:k ≤ 1048576) (hi:i < k) :
    Calls Tryz.prog 176 #[.slice A l.length c,.int .i64 i,.int .i64 k] w (PcIs (pieceL l k i) (pieceL l k i).length w):=by
  have hev:=even_any l.length k w hk hk2 hl
  obtain ⟨b,o,rfl,_⟩:=hA.num hn
  have hlen:=pieceL_len l hk hi
  have hp:pieceL l k i = (l.drop (bdN l.length k i)).take (bdN l.length k (i + 1) - bdN l.length k i):=rfl
  have h1:=bdN_mono l.length k (Nat.le_succ i)
  have h2:=bdN_le l.length k (i + 1) hk hi
  have hg:=rgVals_get (l:=evenR l.length k) (j:=i) (by rw [evenR_len];exact hi)
  have hr:rgAt (evenR l.length k) i = (bdN l.length k i,bdN l.length k (i + 1)):=by
    rw [rgAt_eq _ _ (by rw [evenR_len];exact hi)];simp [evenR]
  rw [hr] at hg
  rw [hlen]
  obtain ⟨P,hP⟩:∃ P,pieceL l k i = P:=⟨_,rfl⟩
  obtain ⟨lo,hlo⟩:∃ lo,bdN l.length k i = lo:=⟨_,rfl⟩
  obtain ⟨hi',hhi⟩:∃ hi',bdN l.length k (i + 1) = hi':=⟨_,rfl⟩
  simp only [Nat.succ_eq_add_one] at h1
  rw [hP] at hp ⊢
  rw [hlo,hhi] at hp h1 hg ⊢
  rw [hhi] at h2
  obtain ⟨V,hV⟩:∃ V,rgVals (evenR l.length k) = V:=⟨_,rfl⟩
  rw [hV] at hev hg
  obtain ⟨n,hn'⟩:∃ n,l.length = n:=⟨_,rfl⟩
  rw [hn'] at hev hc hl hn h2 ⊢
  have hii:(i:Int) < k:=by omega
  have hi0:¬ (i:Int) < 0:=by omega
  have Hev:=Lib.hid hev;have HA:=Lib.hid hA;have HG:=Lib.hid hg;have HP:=Lib.hid hp
  clear hev hA hg hp hr hlen hP hlo hhi hn' hV
  go_enter Tryz.func176,Tryz.ntmps176
  go_wp2_with fail
  refine Hev.out.mono ?_
  rintro e w1 ⟨v,rfl,ov,k1⟩
  obtain ⟨g,cv,rfl,_⟩:=ov.form (by omega)
  have c0:=ov.cellAt (i * 2) (by omega)
  have c1:=ov.cellAt (i * 2 + 1) (by omega)
  rw [HG.out.1] at c0
  rw [HG.out.2] at c1
  have lg:=(ov.lt g rfl).2
  have K1:=Lib.hid k1
  clear ov k1
  by_cases hz:hi' = lo
  · subst hz
    go_wp2_with fail
    go_ret
    refine ⟨_,0,by rw [Nat.sub_self];rfl,by omega,?_,K1.out.alloc K1.out.size _⟩
    rw [HP.out,Nat.sub_self,List.take_zero]
    exact Rd.nil _ _
  · have hz1:¬ (hi':Int) = lo:=by omega
    have hz2:¬ hi' - lo = 0:=by omega
    go_wp2_with fail
    go_ret
    refine ⟨_,_,rfl,Nat.le_refl _,?_,K1.out.alloc K1.out.size _⟩
    have:=(((HA.out.below K1.out).alloc (.cells #[.int .i64 (lo:Int),.int .i64 (hi':Int)] 52)).drop lo).take (hi' - lo)
    rwa [nums_drop,nums_take,← HP.out] at this
set_option maxRecDepth 100000 in
theorem micro_any (S n b steps t W x mi a:Nat) (l:List Int) (w:World) (h:SampAt w S n b steps l) (hb:1 ≤ b) (hbn:b ≤ n) (hn:n ≤ 1048576) (hst:steps ≤ 1048576) (ht:t < steps) (hW:1 ≤ W) (hWb:W ≤ b) (hx:x < W) (hm:1 ≤ mi) (hm2:mi ≤ 1048576) (ha:a < mi) :
    Calls Tryz.prog 147 #[.pointer (some ⟨S,0,none⟩),.int .i64 t,.int .i64 x,.int .i64 W,.int .i64 a,.int .i64 mi] w (PcIs (microN (batchN l n b t) W x mi a) (microN (batchN l n b t) W x mi a).length w):=by
  have hnb:1 ≤ n / b:=Nat.div_pos hbn hb
  have hbl:=batchN_len l (t:=t) hnb
  have hv:=fun w' (q:Below w.heap.size w w') => sviewc_any S n b steps t l w' (h.below q) hb hn hnb hst ht
  obtain ⟨B,hB⟩:∃ B,batchN l n b t = B:=⟨_,rfl⟩
  rw [hB] at hbl hv ⊢
  have hP:=pieceL_len B hW hx
  have hge:bdN B.length W x + 1 ≤ bdN B.length W (x + 1):=by
    rw [bdN_succ]
    have:1 ≤ B.length / W:=Nat.div_pos (by omega) (by omega)
    unfold szE
    omega
  have hpp:=fun A c w' (hA:Rd w' A (nums .i64 B)) (hc:B.length ≤ c) => piece_any A B c W x w' hA hc (by omega) (by omega) hW (by omega) hx
  obtain ⟨Q,hQ⟩:∃ Q,pieceL B W x = Q:=⟨_,rfl⟩
  have hmi:microN B W x mi a = pieceL Q mi a:=by unfold microN;rw [hQ]
  rw [hQ] at hP hpp
  have hQb:Q.length ≤ 1048576:=by have:=bdN_le B.length W (x + 1) hW hx;omega
  have hpm:=fun A c w' (hA:Rd w' A (nums .i64 Q)) (hc:Q.length ≤ c) => piece_any A Q c mi a w' hA hc hQb (by omega) hm hm2 ha
  have hMl:=pieceL_len Q hm ha
  have hMb:=bdN_le Q.length mi (a + 1) hm ha
  rw [hmi]
  obtain ⟨M,hM⟩:∃ M,pieceL Q mi a = M:=⟨_,rfl⟩
  rw [hM] at hpm hMl ⊢
  have hic:=fun A c w' (hA:Rd w' A (nums .i64 M)) => iclone_any A M c w' hA (by omega)
  rw [hbl] at hpp
  obtain ⟨qn,hqn⟩:∃ qn,Q.length = qn:=⟨_,rfl⟩
  rw [hqn] at hpp hpm
  obtain ⟨mn,hmn⟩:∃ mn,M.length = mn:=⟨_,rfl⟩
  rw [hmn] at hpm hic ⊢
  have Hv:=Lib.hid hv;have Hpp:=Lib.hid hpp;have Hpm:=Lib.hid hpm;have Hic:=Lib.hid hic
  clear hv hpp hpm hic h hMl hMb hP hge hbl hQb hmn hqn hM hmi hQ hB
  go_enter Tryz.func147,Tryz.ntmps147
  go_wp2_with fail
  refine (Hv.out w (br w)).mono ?_
  rintro e w1 ⟨A1,c1,rfl,hc1,r1,k1⟩
  have H1:=Lib.hid (Hpp.out A1 c1 w1 r1 hc1);have K1:=Lib.hid k1
  clear hc1 r1 k1
  go_wp2_with fail
  refine H1.out.mono ?_
  rintro e w2 ⟨A2,c2,rfl,hc2,r2,k2⟩
  have H2:=Lib.hid (Hpm.out A2 c2 w2 r2 hc2);have K2:=Lib.hid (bt K1.out k2)
  clear hc2 r2 k2
  go_wp2_with fail
  refine H2.out.mono ?_
  rintro e w3 ⟨A3,c3,rfl,hc3,r3,k3⟩
  have H3:=Lib.hid (Hic.out A3 c3 w3 r3);have K3:=Lib.hid (bt K2.out k3)
  clear hc3 r3 k3
  go_wp2_with fail
  refine H3.out.mono ?_
  rintro e w4 ⟨v,rfl,o4,k4⟩
  obtain ⟨A4,c4,rfl,hc4⟩:=own_form o4
  have HP:=Lib.hid (⟨A4,c4,rfl,hc4,Rd.own o4,bt K3.out k4⟩:PcIs M mn w (.returned (.slice A4 mn c4)) w4)
  clear o4 k4 hc4
  go_wp2_with fail
  go_ret
  exact HP.out
end Go.Proofs.YtaccfnffmbndhaaGreat
namespace Go.Proofs.YtaccfnffmbndhaaGreat
open Go.RowKit
set_option maxRecDepth 100000 in
theorem mdo_end {H:Nat → Prop} {w:World} {b x:Nat} {i:Inp} {a:MAd} {m:Mst} (h:MachAt H w b i x a m) (hn:(curL i x m.st).length ≤ m.nx) (u v:Value) :
    Calls Tryz.prog 17 #[.pointer (some ⟨b,0,none⟩),u,v] w fun e w' => e = .returned (.int .i64 13) ∧ Below w.heap.size w w':=by
  have H1:=Lib.hid (next_no h hn)
  clear h hn
  go_enter Tryz.func17,Tryz.ntmps17
  go_wp2_with fail
  refine H1.out.mono ?_
  rintro e w1 ⟨rfl,k1⟩
  have K1:=Lib.hid (k1.alloc k1.size (.cells #[.int .i64 0,.int .i64 0,.int .i64 0,.bool false,.bool false,.int .i64 0,.int .i64 0,.int .i64 0,.int .i64 0,.int .i64 0,.int .i64 0,.int .i64 0] 56))
  clear k1
  go_wp2_with fail
  go_ret
  exact ⟨rfl,K1.out⟩
def smI:Inp:=⟨⟨[1,1],1,0,0,1,1,1,0,1,1,1,1⟩,[([1],[1])],[5,6],[]⟩
theorem smI_good:GoodIn smI:=by
  refine ⟨⟨by decide,by decide,⟨⟨by decide,fun k hk => ?_⟩,by decide⟩,by decide,by decide,by decide,by decide,by decide,by decide,by decide⟩,by decide,fun x hx => ?_,by decide,by decide⟩
  · have:k = 0 ∨ k = 1:=by have:k < 2:=hk;omega
    rcases this with rfl | rfl <;> decide
  · have:x = ([1],[1]):=by simpa [smI] using hx
    subst this;decide
theorem smI_sm:SmIn smI:=⟨smI_good,by decide,by decide,by decide,by decide,by decide⟩
theorem rd_bk {w:World} {b:Nat} {xs:List Value} {e:TypeId} (h:w.heap[b]? = some (.cells xs.toArray e (0,0))):Rd w (some ⟨b,0,none⟩) xs:=fun k u hu => ⟨b,0,rfl,by
  rw [Nat.zero_add,cell_of_row w b k _ _ _ h];simpa using hu⟩
theorem w64_pos {l:List Int} (h:∀ z ∈ l,0 ≤ z ∧ z ≤ 1048576):W64 l:=fun k hk => by
  have:=h _ (nth_mem hk);omega
theorem smI_rd {w:World} {b:Nat} (h0:w.heap[b]? = some (.cells #[.int .i64 1,.int .i64 1] 3 (0,0))) {b3 b4 b5 b6:Nat} (h3:w.heap[b3]? = some (.cells #[.int .i64 1] 2 (0,0))) (h4:w.heap[b4]? = some (.cells #[.int .i64 1] 2 (0,0)))
    (h5:w.heap[b5]? = some (.cells #[.slice (some ⟨b3,0,none⟩) 1 1,.slice (some ⟨b4,0,none⟩) 1 1] 107 (0,0))) (h6:w.heap[b6]? = some (.cells #[.int .i64 5,.int .i64 6] 2 (0,0))) :
    InpRd w (some ⟨b,0,none⟩) 2 (some ⟨b5,0,none⟩) (some ⟨b6,0,none⟩) 2 none smI:=by
  refine ⟨⟨by decide,by decide,by decide,rd_bk h0⟩,?_,by decide,⟨by decide,by decide,rd_bk h6,w64_pos (by simp [smI])⟩,by decide,Rd.nil _ _,by decide,fun k hk => absurd hk (by simp [smI]),by decide,by decide⟩
  refine ⟨[[.slice (some ⟨b3,0,none⟩) 1 1,.slice (some ⟨b4,0,none⟩) 1 1]],rd_bk h5,rfl,by simp,fun j x hx => ?_⟩
  have hj:j = 0:=by have:=(List.getElem?_eq_some_iff.1 hx).1;simp [smI] at this;omega
  subst hj
  have:x = ([1],[1]):=by simpa [smI] using hx.symm
  subst this
  exact ⟨_,_,_,_,rfl,⟨by decide,by decide,rd_bk h3,w64_pos (by simp)⟩,⟨by decide,by decide,rd_bk h4,w64_pos (by simp)⟩⟩
set_option maxRecDepth 100000 in
theorem alive21_any (w:World):Calls Tryz.prog 9 #[] w fun e w' => e = .returned (.bool true) ∧ Below w.heap.size w w':=by
  go_enter Tryz.func9,Tryz.ntmps9
  go_wp2_with fail
  have hrd:=smI_rd (allocs_at [.cells #[.int .i64 1,.int .i64 1] 3,.cells #[.slice (some ⟨w.heap.size,0,none⟩) 2 2,.int .i64 1,.int .i64 0,.int .i64 0,.int .i64 1,.int .i64 1,.int .i64 1,.int .i64 0,.int .i64 1,.int .i64 1,.int .i64 1,.int .i64 1] 24,.cells #[.int .i64 1] 2,.cells #[.int .i64 1] 2,.cells #[.slice (some ⟨w.heap.size + 1 + 1,0,none⟩) 1 1,.slice (some ⟨w.heap.size + 1 + 1 + 1,0,none⟩) 1 1] 107,.cells #[.int .i64 5,.int .i64 6] 2] w 0 rfl) (b3:=w.heap.size + 1 + 1) (b4:=w.heap.size + 1 + 1 + 1) (b5:=w.heap.size + 1 + 1 + 1 + 1) (b6:=w.heap.size + 1 + 1 + 1 + 1 + 1) (allocs_at [.cells #[.int .i64 1,.int .i64 1] 3,.cells #[.slice (some ⟨w.heap.size,0,none⟩) 2 2,.int .i64 1,.int .i64 0,.int .i64 0,.int .i64 1,.int .i64 1,.int .i64 1,.int .i64 0,.int .i64 1,.int .i64 1,.int .i64 1,.int .i64 1] 24,.cells #[.int .i64 1] 2,.cells #[.int .i64 1] 2,.cells #[.slice (some ⟨w.heap.size + 1 + 1,0,none⟩) 1 1,.slice (some ⟨w.heap.size + 1 + 1 + 1,0,none⟩) 1 1] 107,.cells #[.int .i64 5,.int .i64 6] 2] w 2 rfl) (allocs_at [.cells #[.int .i64 1,.int .i64 1] 3,.cells #[.slice (some ⟨w.heap.size,0,none⟩) 2 2,.int .i64 1,.int .i64 0,.int .i64 0,.int .i64 1,.int .i64 1,.int .i64 1,.int .i64 0,.int .i64 1,.int .i64 1,.int .i64 1,.int .i64 1] 24,.cells #[.int .i64 1] 2,.cells #[.int .i64 1] 2,.cells #[.slice (some ⟨w.heap.size + 1 + 1,0,none⟩) 1 1,.slice (some ⟨w.heap.size + 1 + 1 + 1,0,none⟩) 1 1] 107,.cells #[.int .i64 5,.int .i64 6] 2] w 3 rfl) (allocs_at [.cells #[.int .i64 1,.int .i64 1] 3,.cells #[.slice (some ⟨w.heap.size,0,none⟩) 2 2,.int .i64 1,.int .i64 0,.int .i64 0,.int .i64 1,.int .i64 1,.int .i64 1,.int .i64 0,.int .i64 1,.int .i64 1,.int .i64 1,.int .i64 1] 24,.cells #[.int .i64 1] 2,.cells #[.int .i64 1] 2,.cells #[.slice (some ⟨w.heap.size + 1 + 1,0,none⟩) 1 1,.slice (some ⟨w.heap.size + 1 + 1 + 1,0,none⟩) 1 1] 107,.cells #[.int .i64 5,.int .i64 6] 2] w 4 rfl) (allocs_at [.cells #[.int .i64 1,.int .i64 1] 3,.cells #[.slice (some ⟨w.heap.size,0,none⟩) 2 2,.int .i64 1,.int .i64 0,.int .i64 0,.int .i64 1,.int .i64 1,.int .i64 1,.int .i64 0,.int .i64 1,.int .i64 1,.int .i64 1,.int .i64 1] 24,.cells #[.int .i64 1] 2,.cells #[.int .i64 1] 2,.cells #[.slice (some ⟨w.heap.size + 1 + 1,0,none⟩) 1 1,.slice (some ⟨w.heap.size + 1 + 1 + 1,0,none⟩) 1 1] 107,.cells #[.int .i64 5,.int .i64 6] 2] w 5 rfl)
  have hc:=mnew_good (some ⟨w.heap.size,0,none⟩) 2 (some ⟨w.heap.size + 1 + 1 + 1 + 1,0,none⟩) 1 (some ⟨w.heap.size + 1 + 1 + 1 + 1 + 1,0,none⟩) 2 none 0 smI 0 (allocs w [.cells #[.int .i64 1,.int .i64 1] 3,.cells #[.slice (some ⟨w.heap.size,0,none⟩) 2 2,.int .i64 1,.int .i64 0,.int .i64 0,.int .i64 1,.int .i64 1,.int .i64 1,.int .i64 0,.int .i64 1,.int .i64 1,.int .i64 1,.int .i64 1] 24,.cells #[.int .i64 1] 2,.cells #[.int .i64 1] 2,.cells #[.slice (some ⟨w.heap.size + 1 + 1,0,none⟩) 1 1,.slice (some ⟨w.heap.size + 1 + 1 + 1,0,none⟩) 1 1] 107,.cells #[.int .i64 5,.int .i64 6] 2]) hrd smI_sm (by decide)
  have hb:=allocs_below [.cells #[.int .i64 1,.int .i64 1] 3,.cells #[.slice (some ⟨w.heap.size,0,none⟩) 2 2,.int .i64 1,.int .i64 0,.int .i64 0,.int .i64 1,.int .i64 1,.int .i64 1,.int .i64 0,.int .i64 1,.int .i64 1,.int .i64 1,.int .i64 1] 24,.cells #[.int .i64 1] 2,.cells #[.int .i64 1] 2,.cells #[.slice (some ⟨w.heap.size + 1 + 1,0,none⟩) 1 1,.slice (some ⟨w.heap.size + 1 + 1 + 1,0,none⟩) 1 1] 107,.cells #[.int .i64 5,.int .i64 6] 2] w
  refine Calls.mono hc ?_
  rintro e w1 ⟨b,a,rfl,q1,-,hm⟩
  have hM:=hm (fun _ => False) w1 (Keep.refl _ _) (fun _ h => h.elim)
  have q2:=hb.trans (q1.mono hb.size)
  have h0:(curL smI 0 (mst0 smI).st).length ≤ (mst0 smI).nx:=by decide
  have hx:=fun w' (q:Below w1.heap.size w1 w') => next_no (hM.below q (fun _ _ h => h)) h0
  have he:=fun w' (q:Below w1.heap.size w1 w') => mdo_end (hM.below q (fun _ _ h => h)) h0 (.pointer none) (.pointer none)
  have HX:=Lib.hid hx;have HE:=Lib.hid he;have Q2:=Lib.hid q2
  clear hrd hc hb hm hM q1 q2 h0 hx he
  go_wp2_with fail
  refine (HX.out w1 (br w1)).mono ?_
  rintro e w2 ⟨rfl,q3⟩
  have Q3:=Lib.hid q3
  clear q3
  go_wp2_with fail
  refine (HE.out _ (Q3.out.alloc Q3.out.size _)).mono ?_
  rintro e w3 ⟨rfl,q4⟩
  have Q4:=Lib.hid ((Q2.out.trans ((Q3.out.alloc Q3.out.size (.cells #[.int .i64 0,.int .i64 0,.int .i64 0,.bool false,.bool false,.int .i64 0,.int .i64 0,.int .i64 0,.int .i64 0,.int .i64 0,.int .i64 0,.int .i64 0] 56)).mono Q2.out.size)).trans (q4.mono (by rw [World.size_alloc];have:=Q2.out.size;have:=Q3.out.size;omega)))
  clear q4
  go_wp2_with fail
  go_ret
  exact ⟨rfl,Q4.out⟩
end Go.Proofs.YtaccfnffmbndhaaGreat
namespace Go.Proofs.YtaccfnffmbndhaaGreat
open Go.RowKit
theorem box3_set {w:World} {b:Nat} {x0 x1 x2:Value} {t:TypeId} (y0 y1 y2:Value) (h:w.heap[b]? = some (.cells #[x0,x1,x2] t (0,0))) :
    (((w.setCell ⟨b,0,none⟩ y0).setCell ⟨b,1,none⟩ y1).setCell ⟨b,2,none⟩ y2).heap[b]? = some (.cells #[y0,y1,y2] t (0,0)):=by
  have h1:=heap_setCell_same w b 0 _ _ y0 h
  have h2:=heap_setCell_same _ b 1 _ _ y1 h1
  exact heap_setCell_same _ b 2 _ _ y2 h2
theorem box3_keep {w:World} {b:Nat} (y0 y1 y2:Value):Keep (fun i => i = b) w (((w.setCell ⟨b,0,none⟩ y0).setCell ⟨b,1,none⟩ y1).setCell ⟨b,2,none⟩ y2):=
  Keep.setCell (S:=fun i => i = b) (Keep.setCell (S:=fun i => i = b) (Keep.setCell (S:=fun i => i = b) (Keep.refl _ w) ⟨b,0,none⟩ (.inr rfl) y0) ⟨b,1,none⟩ (.inr rfl) y1) ⟨b,2,none⟩ (.inr rfl) y2
theorem mnew_any (r c:Nat) (w:World) (hr:1 ≤ r ∧ r ≤ 1048576) (hc:1 ≤ c ∧ c ≤ 1048576) (hm:r * c ≤ 1048576) :
    Calls Tryz.prog 198 #[.int .i64 r,.int .i64 c] w fun e w' => ∃ A,e = .returned (.agg #[.int .i64 r,.int .i64 c,.slice A (r * c) (r * c)]) ∧ w'.ownsRow w.heap.size 2 1 (.slice A (r * c) (r * c)) (r * c) (nums .i64 (List.replicate (r * c) 0)) ∧ Below w.heap.size w w':=by
  have e1:(r:Int) * (c:Int) = ((r * c:Nat):Int):=(Int.natCast_mul r c).symm
  have hs:=fun w' => sides_any r c w' ⟨by omega,by omega⟩ ⟨by omega,by omega⟩
  obtain ⟨p,hp⟩:∃ p,r * c = p:=⟨_,rfl⟩
  rw [hp] at e1 hm ⊢
  clear hp
  have hmk:(8:Nat) * p ≤ 281474976710656:=by omega
  have Hmk:=Lib.hid hmk;have Hs:=Lib.hid hs;clear hmk hs
  go_enter Tryz.func198,Tryz.ntmps198
  go_wp2_with fail
  refine (Hs.out _).mono ?_
  rintro e w1 ⟨rfl,hw1⟩
  subst hw1
  go_wp2_with (at_make;refine wpList_mk et_vec _ rfl (.tmp 20) (.tmp 20) rfl rfl p rfl rfl Hmk.out (by unfold maxLen;omega) ?_)
  intro w2 hown hb
  rw [nums_rep] at hown
  have hres:=(hb.block w.heap.size (by simp)).trans (heap_alloc_new w _)
  obtain ⟨⟨r0,r1,r2⟩,rf⟩:=bx3 hres
  have hs1:w.heap.size < w2.heap.size:=lt_of_block hres
  have HO:=Lib.hid hown;have HB:=Lib.hid hb;have HR:=Lib.hid hres;clear hown hb hres
  go_wp2_with fail
  have h3:=box3_set (.int .i64 r) (.int .i64 c) (.slice (some ⟨w.heap.size + 1,0,none⟩) p p) HR.out
  have k3:=box3_keep (w:=w2) (b:=w.heap.size) (.int .i64 r) (.int .i64 c) (.slice (some ⟨w.heap.size + 1,0,none⟩) p p)
  obtain ⟨w3,hw3⟩:∃ w3,w3 = (((w2.setCell ⟨w.heap.size,0,none⟩ (.int .i64 r)).setCell ⟨w.heap.size,1,none⟩ (.int .i64 c)).setCell ⟨w.heap.size,2,none⟩ (.slice (some ⟨w.heap.size + 1,0,none⟩) p p)):=⟨_,rfl⟩
  rw [← hw3] at h3 k3 ⊢
  clear hw3 r0 r1 r2 rf
  obtain ⟨⟨q0,q1,q2⟩,qf⟩:=bx3 h3
  refine bodyPost_ret (v:=.agg #[.int .i64 r,.int .i64 c,.slice (some ⟨w.heap.size + 1,0,none⟩) p p]) (by simp [results,Tryz.results198,go_sem,q0,q1,q2]) rfl ⟨_,rfl,?_,?_⟩
  · refine own_base (base:=w.heap.size + 1) (k3.own HO.out (fun k hk e => ?_)) (by omega)
    simp [Value.ownBlock] at hk
    omega
  · exact (Below.trans ((Below.refl _ w).alloc (Nat.le_refl _) _) (HB.out.mono (by simp))).trans (k3.toBelow (by omega) (fun k hk => by omega))
end Go.Proofs.YtaccfnffmbndhaaGreat
