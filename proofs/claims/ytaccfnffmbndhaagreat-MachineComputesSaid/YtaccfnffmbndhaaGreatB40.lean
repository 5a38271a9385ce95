/- A machine computes a micro-batch. No condition. -/
import Derived.Test.YtaccfnffmbndhaaGreatB36
import Derived.Test.YtaccfnffmbndhaaGreatB38
import Derived.Test.YtaccfnffmbndhaaGreatB39
import Derived.Test.YtaccfnffmbndhaaGreatB22
set_option linter.unusedSimpArgs false
set_option linter.unusedVariables false
namespace Go.Proofs.YtaccfnffmbndhaaGreat
open Go.RowKit
theorem ext_keep {S:Nat → Prop} {w w':World} (hk:Keep S w w'):Ext (hideW S w) w':=fun k hl => by
  rw [hide_size] at hl
  by_cases h:S k
  · exact .inl (hide_in h hl)
  · exact .inr (by rw [hide_blk h];exact hk.block k hl h)
def gradOn (i:Inp) (P G:List Int) (l:List Ex):List Int:=l.foldl (fun a x => addL a (gradL i.cfg.sizes P i.cfg.shift x.1 x.2)) G
theorem gradOn_snoc (i:Inp) (P G:List Int) (l:List Ex) (x:Ex):gradOn i P G (l ++ [x]) = addL (gradOn i P G l) (gradL i.cfg.sizes P i.cfg.shift x.1 x.2):=by simp [gradOn]
def micE (i:Inp) (x st a:Nat):List Int:=microN (batchN i.draws i.data.length i.cfg.batch.toNat st) i.cfg.workers.toNat x i.cfg.micros.toNat a
theorem piece_good {i:Inp} {l:List Int} (h:allGood i l) (k j:Nat):allGood i (pieceL l k j):=fun n hn => by
  have h1:(pieceL l k j).length ≤ l.length - bdN l.length k j:=by simp only [pieceL,List.length_take,List.length_drop];omega
  have h2:(pieceL l k j).length ≤ bdN l.length k (j + 1) - bdN l.length k j:=by simp only [pieceL,List.length_take];omega
  unfold pieceL
  rw [nth_take (by omega),nth_drop]
  exact h _ (by omega)
theorem mic_good {i:Inp} (hg:GoodIn i) (x st a:Nat):allGood i (micE i x st a):=piece_good (piece_good (batch_good hg st) _ _) _ _
theorem pick_fit2 {i:Inp} (hg:GoodIn i) {l:List Int} (h:allGood i l) {k:Nat} {e:Ex} (he:(pickL i.data l)[k]? = some e):fitEx (inN i) (outN i) e:=by
  have hk:=(List.getElem?_eq_some_iff.1 he).1
  rw [pickL_len] at hk
  rw [pickL_at _ _ hk] at he
  have hx:=h k hk
  unfold goodI at hx
  simp only [Option.some.injEq] at he
  subst he
  have hl:(nth l k).toNat < i.data.length:=by omega
  simp only [List.getD,List.getElem?_eq_getElem hl,Option.getD_some]
  exact hg.f _ (List.getElem_mem hl)
set_option maxRecDepth 100000 in
set_option maxHeartbeats 4000000 in
theorem mcomp_any {H:Nat → Prop} {w:World} {b x:Nat} {i:Inp} {a:MAd} {m:Mst} (h:MachAt H w b i x a m) (hs:SmIn i) (y:Itm) (u v:Value) (hu:u.oneCell' = true) (hv:v.oneCell' = true) (hst:y.st < i.cfg.steps.toNat) (hn:y.n < i.cfg.micros.toNat) :
    Calls Tryz.prog 110 #[.pointer (some ⟨b,0,none⟩),.agg (itCells y).toArray,.agg #[u,v]] w fun e w' => e = .returned (.int .i64 0) ∧ Keep (fun k => k = a.bg) w w' ∧
      w'.ownsRow 0 2 1 (.slice (some ⟨a.bg,0,none⟩) i.start.length a.cg) i.start.length (nums .i64 (gradOn i m.P m.G (pickL i.data (micE i x y.st y.n)))):=by
  have hg:=hs.g
  have hc:=hg.c
  have hcn:cntN i.cfg.sizes (i.cfg.sizes.length - 1) = i.start.length:=hg.s.symm
  have hcb:=hc.z.bound (k:=i.cfg.sizes.length - 1) (by have:=hc.z.1.1;omega)
  have hq:0 ≤ i.cfg.shift ∧ i.cfg.shift ≤ 62:=⟨by have:=hc.s;omega,by have:=hc.s;omega⟩
  have hBg:b ≠ a.bg:=fun e => block_notrow h.blk (by decide) h.oG (by rw [e];rfl)
  have hlb:=lt_of_block h.blk
  have hlg:=(h.oG.lt a.bg rfl).2
  have kb:=fun w' (q:Keep (fun k => k = a.bg) w w') => (q.block b hlb hBg).trans h.blk
  have hx:=fun w' (q:Keep (fun k => k = a.bg) w w') => ext_keep (S:=mutH H b a) (q.mono (fun k _ e => .inl (.inr (.inr (.inr (.inl e))))))
  have hwl:=h.wP.1
  have hPl:m.P.length = cntN i.cfg.sizes (i.cfg.sizes.length - 1):=hwl.trans hcn.symm
  have hnn:=fun w' (q:Keep (fun k => k = a.bg) w w') => net_new_own a.F i.cfg.sizes m.P (some ⟨a.bp,0,none⟩) a.cp i.cfg.shift w' (ext_shape h.sh (hx w' q)) hc.z hq hPl (Rd.own (q.own h.oP (fun j hj e => h.dj.2.1 (by cases hj;exact e))))
  rw [hwl] at hnn
  have eW:((i.cfg.workers.toNat:Nat):Int) = i.cfg.workers:=by have:=hc.w;omega
  have eM:((i.cfg.micros.toNat:Nat):Int) = i.cfg.micros:=by have:=hc.mi;omega
  have hmic:=fun w' (q:Keep (fun k => k = a.bg) w w') => micro_any a.S i.data.length i.cfg.batch.toNat i.cfg.steps.toNat y.st i.cfg.workers.toNat x i.cfg.micros.toNat y.n i.draws w' (ext_samp h.sa (hx w' q)) (by have:=hc.ba;have:=hc.w;omega) (by have:=hg.b.1;omega) hg.b.2 (by have:=hc.st;omega) hst (by have:=hc.w;omega) (by have:=hc.ba;omega) h.xw (by have:=hc.mi;omega) (by have:=hc.mi;omega) hn
  rw [eW,eM] at hmic
  have hgood:=mic_good hg x y.st y.n
  obtain ⟨idx,hidx⟩:∃ idx,micE i x y.st y.n = idx:=⟨_,rfl⟩
  rw [hidx] at hgood
  have hidx':microN (batchN i.draws i.data.length i.cfg.batch.toNat y.st) i.cfg.workers.toNat x i.cfg.micros.toNat y.n = idx:=hidx
  rw [hidx'] at hmic
  rw [hidx]
  have hil:idx.length ≤ 1048576:=by
    rw [← hidx]
    have h0:=batchN_len i.draws (n:=i.data.length) (b:=i.cfg.batch.toNat) (t:=y.st) (Nat.div_pos (by have:=hg.b.1;omega) (by have:=hc.ba;have:=hc.w;omega))
    have h1:∀ (l:List Int) (k j:Nat),(pieceL l k j).length ≤ l.length:=fun l k j => by simp only [pieceL,List.length_take,List.length_drop];omega
    have h2:=h1 (pieceL (batchN i.draws i.data.length i.cfg.batch.toNat y.st) i.cfg.workers.toNat x) i.cfg.micros.toNat y.n
    have h3:=h1 (batchN i.draws i.data.length i.cfg.batch.toNat y.st) i.cfg.workers.toNat x
    have:=hc.ba
    unfold micE microN
    omega
  have hpk:=fun w' (q:Keep (fun k => k = a.bg) w w') B d (hB:Rd w' B (nums .i64 idx)) => pick_own a.ce d a.E B i.data idx w' (ext_sl exts_ex h.ex (hx w' q)) hg.b.2 hB hil
  have hfit:=fun (k:Nat) (e:Ex) (he:(pickL i.data idx)[k]? = some e) => pick_fit2 hg hgood he
  have hpl:=pickL_len i.data idx
  obtain ⟨pl,hpl'⟩:∃ pl,pickL i.data idx = pl:=⟨_,rfl⟩
  rw [hpl'] at hpl hfit
  simp only [hpl'] at hpk ⊢
  have hgr:=fun net A1 A2 (e:Ex) c1 c2 w' (hN:NetAt 186 280 w' net i.cfg.sizes m.P i.cfg.shift) (r1:NumsRd w' A1 e.1 c1) (r2:NumsRd w' A2 e.2 c2) (hf:fitEx (inN i) (outN i) e) => grad_ok net i.cfg.sizes m.P i.cfg.shift A1 A2 e.1 e.2 c1 c2 w' hN hc.z h.wP.2 r1.hr hf.1 r1.hw r2.hr hf.2
  have hgl:=fun (e:Ex) (hf:fitEx (inN i) (outN i) e) => gradL_len (sz:=i.cfg.sizes) (ps:=m.P) (q:=i.cfg.shift) (x:=e.1) (y:=e.2) hf.1 (by have:=hc.z.1.1;omega)
  rw [hcn] at hgr hgl hcb
  have hshp:=fun w' (q:Keep (fun k => k = a.bg) w w') => ext_shape h.sh (hx w' q)
  obtain ⟨K,hK⟩:∃ K,idx.length = K:=⟨_,rfl⟩
  rw [hK] at hmic hil hpk hpl
  unfold allGood at hgood
  rw [hK] at hgood
  have t0:∀ w',Keep (fun k => k = a.bg) w w' → w'.cell? ⟨b,0,none⟩ = some (.int .i64 (x:Nat)):=fun w' q => cell_of_row w' b 0 _ _ _ (kb w' q)
  have t1:∀ w',Keep (fun k => k = a.bg) w w' → w'.cell? ⟨b,1,none⟩ = some (.int .i64 i.cfg.workers):=fun w' q => cell_of_row w' b 1 _ _ _ (kb w' q)
  have t2:∀ w',Keep (fun k => k = a.bg) w w' → w'.cell? ⟨b,2,none⟩ = some (.int .i64 i.cfg.micros):=fun w' q => cell_of_row w' b 2 _ _ _ (kb w' q)
  have t3:∀ w',Keep (fun k => k = a.bg) w w' → w'.cell? ⟨b,3,none⟩ = some (.pointer (some ⟨a.F,0,none⟩)):=fun w' q => cell_of_row w' b 3 _ _ _ (kb w' q)
  have t4:∀ w',Keep (fun k => k = a.bg) w w' → w'.cell? ⟨b,4,none⟩ = some (.slice a.E i.data.length a.ce):=fun w' q => cell_of_row w' b 4 _ _ _ (kb w' q)
  have t5:∀ w',Keep (fun k => k = a.bg) w w' → w'.cell? ⟨b,5,none⟩ = some (.pointer (some ⟨a.S,0,none⟩)):=fun w' q => cell_of_row w' b 5 _ _ _ (kb w' q)
  have t10:∀ w',Keep (fun k => k = a.bg) w w' → w'.cell? ⟨b,10,none⟩ = some (.int .i64 i.cfg.shift):=fun w' q => cell_of_row w' b 10 _ _ _ (kb w' q)
  have t11:∀ w',Keep (fun k => k = a.bg) w w' → w'.cell? ⟨b,11,none⟩ = some (.slice (some ⟨a.bp,0,none⟩) i.start.length a.cp):=fun w' q => cell_of_row w' b 11 _ _ _ (kb w' q)
  have t13:∀ w',Keep (fun k => k = a.bg) w w' → w'.cell? ⟨b,13,none⟩ = some (.slice (some ⟨a.bg,0,none⟩) i.start.length a.cg):=fun w' q => cell_of_row w' b 13 _ _ _ (kb w' q)
  have tl:=fun w' (q:Keep (fun k => k = a.bg) w w') => Nat.lt_of_lt_of_le hlb q.size
  obtain ⟨n,hn'⟩:∃ n,i.start.length = n:=⟨_,rfl⟩
  have oG:=h.oG
  rw [hn'] at hnn hgr hgl hcb t11 t13 oG ⊢
  obtain ⟨W0,W1,hW0,hW1,g0,g1,k1',-⟩:=rm_boxes w (itCells y).toArray #[u,v] 56 154
  have q1:Keep (fun k => k = a.bg) w W1:=Keep.below k1'
  have s1:∀ w',Below W1.heap.size W1 w' → w'.cell? ⟨w.heap.size,1,none⟩ = some (.int .i64 (y.st:Nat)):=fun w' q => cell_of_row w' w.heap.size 1 _ _ _ (sb g0 w' q)
  have s2:∀ w',Below W1.heap.size W1 w' → w'.cell? ⟨w.heap.size,2,none⟩ = some (.int .i64 (y.n:Nat)):=fun w' q => cell_of_row w' w.heap.size 2 _ _ _ (sb g0 w' q)
  have sl':=sl g0
  have K1:=Lib.hid k1';have HW0:=Lib.hid hW0;have HW1:=Lib.hid hW1;have Hnn:=Lib.hid hnn;have Hmic:=Lib.hid hmic;have Hpk:=Lib.hid hpk;have Hfit:=Lib.hid hfit;have Hgr:=Lib.hid hgr;have Hgl:=Lib.hid hgl;have HG:=Lib.hid hgood;have Hsh:=Lib.hid hshp;have OG:=Lib.hid oG;have Hz:=Lib.hid hc.z;have HPl:=Lib.hid hPl;have Hpl:=Lib.hid hpl;have HKb:=Lib.hid kb
  have Hcb:=Lib.hid hcb;have Hil:=Lib.hid hil
  clear hW0 hW1 g0 g1 k1' kb hx hwl hPl hnn hmic hpk hfit hgr hgl hgood hshp oG hpl hcb hil eW eM hidx hidx' hpl' hK hn' hc hcn hq hst hn h hg hs
  go_enter Tryz.func110,Tryz.ntmps110
  go_wp2_with fail
  rw [HW0.out,HW1.out]
  have b1:=(br W1).drew
  refine HA.g (fun w':World => Keep (fun k => k = a.bg) w w' ∧ Below W1.heap.size W1 w') ?_
  refine HA.t ?_ [0,1,2,3,4,5,6,7,8,9,10,11,12,13,14,15] ⟨q1.drew,b1⟩ ?_
  refine HA.c 16 (Hnn.out _ q1.drew) ?_
  rintro e w2 ⟨nb,rfl,-,-,no2,k2⟩
  have q2:=q1.drew.trans (Keep.below (S:=fun k => k = a.bg) k2)
  have b2:=b1.trans (k2.mono b1.size)
  refine ⟨_,rfl,⟨q2,b2⟩,fun _ => ?_⟩
  refine HA.t ?_ [17,18,19,20,21] ⟨q2,b2⟩ ?_
  refine HA.d ?_
  have NO:=Lib.hid no2;have hgw:a.bg < w2.heap.size:=Nat.lt_of_lt_of_le hlg q2.size
  have hbase:w.heap.size ≤ W1.drew.heap.size:=q1.drew.size
  clear no2 k2 q1 b1
  go_wp2_with fail
  refine HA.g (fun w':World => Keep (fun k => k = a.bg) w w' ∧ Below W1.heap.size W1 w') ?_
  refine HA.t ?_ [0,1,2,3,4,5,6,7,8,9,10,11,12,13,14,15,16,17,18,19,20,21,22,23,24,25,26,27,28] ⟨q2.drew,b2.drew⟩ ?_
  refine HA.c 29 (Hmic.out _ q2.drew) ?_
  rintro e w3 ⟨B,d,rfl,hd,rB,k3⟩
  have q3:=q2.drew.trans (Keep.below (S:=fun k => k = a.bg) k3)
  have b3:=b2.drew.trans (k3.mono b2.drew.size)
  have k23:Below w2.heap.size w2 w3:=(br w2).drew.trans k3
  refine ⟨_,rfl,⟨q3,b3⟩,fun _ => ?_⟩
  refine HA.c 30 (Hpk.out w3 q3 B d rB) ?_
  rintro e w4 ⟨k4,hres⟩
  rcases hres with ⟨-,A',c',rfl,hm4⟩ | ⟨hno,-⟩
  rotate_left
  · exact absurd HG.out hno
  have q4:=q3.trans (Keep.below (S:=fun k => k = a.bg) k4)
  have b4:=b3.trans (k4.mono b3.size)
  refine ⟨_,rfl,⟨q4,b4⟩,fun _ => ?_⟩
  refine HA.t ?_ [31,32,33,34,35] ⟨q4,b4⟩ ?_
  refine HA.d ?_
  have NO4:=Lib.hid ((NO.out.below k23).below k4);have M4:=Lib.hid hm4;have Q4:=Lib.hid q4
  have OG4:=Lib.hid (own_below OG.out (K1.out.trans (b4.mono K1.out.size)))
  have hg3:a.bg < w3.heap.size:=Nat.lt_of_lt_of_le hgw k23.size
  have hgB:a.bg < W1.drew.heap.size:=Nat.lt_of_lt_of_le hlg hbase
  clear q2 q3 q4 b2 b3 b4 k23 k3 k4 hm4 rB hd s1 s2 sl' t0 t1 t2 t3 t4 t5 t10 t11
  go_wp2_with fail
  go_loopw [71] (fun z wr => ∃ k:Nat,k ≤ K ∧ z = .int .i64 k ∧ wr.ownsRow 0 2 1 (.slice (some ⟨a.bg,0,none⟩) n a.cg) n (nums .i64 (gradOn i m.P m.G (pl.take k))) ∧ Keep (fun k => k = a.bg) w4 wr) (fun z _ => K - (intOf z).toNat)
  case atStart => exact ⟨0,Nat.zero_le _,rfl,OG4.out,Keep.refl _ _⟩
  case round =>
    obtain ⟨k,hk,rfl,og,qk⟩:=hrel
    have qw:=Q4.out.trans qk
    by_cases hlt:k < K
    · have hki:(k:Int) < K:=by omega
      have hk0:¬ (k:Int) < 0:=by omega
      have hwk:IntKind.i64.wrap ((k:Int) + 1) = ((k + 1:Nat):Int):=by have:=Hil.out;rw [IntWalk.i64_in _ (by omega)];push_cast;rfl
      obtain ⟨e,he⟩:∃ e,pl[k]? = some e:=⟨_,List.getElem?_eq_getElem (by have:=Hpl.out;omega)⟩
      have hf:=Hfit.out k e he
      have hsl:=(M4.out.keep qk (fun j hj => by rw [hj];exact hg3)).rd Hpl.out
      obtain ⟨eb,eo,A1,c1,A2,c2,rfl,hbl,p1,p2,r1,r2⟩:=ex_cells hsl he
      have bX:=(br wr).alloc (Nat.le_refl _) (.cells #[.slice A1 e.1.length c1,.slice A2 e.2.length c2] 107)
      have hnet:=((NO4.out.keep qk (fun j hj => by rw [hj];exact hgB)).at (Hsh.out wr qw) Hz.out HPl.out).below bX
      have hgc:=Hgr.out nb A1 A2 e c1 c2 _ hnet (r1.below bX) (r2.below bX) hf
      have hgv:=Hgl.out e hf
      have htk:pl.take (k + 1) = pl.take k ++ [e]:=by rw [List.take_add_one,he];rfl
      obtain ⟨gv,hgv'⟩:∃ gv,gradL i.cfg.sizes m.P i.cfg.shift e.1 e.2 = gv:=⟨_,rfl⟩
      obtain ⟨n1,hn1⟩:∃ n1,e.1.length = n1:=⟨_,rfl⟩
      obtain ⟨n2,hn2⟩:∃ n2,e.2.length = n2:=⟨_,rfl⟩
      rw [hgv'] at hgv hgc
      rw [hn1] at bX hgc p1
      rw [hn2] at bX hgc p2
      have Hgc:=Lib.hid hgc;have BX:=Lib.hid bX;have OGk:=Lib.hid og;have Hgv:=Lib.hid hgv;have Htk:=Lib.hid htk;have Hgv':=Lib.hid hgv';have QK:=Lib.hid qk;have QW:=Lib.hid qw
      clear hgc bX og hgv htk hgv' qk hnet hsl r1 r2 hf he hn1 hn2
      go_wp2_with fail
      refine Hgc.out.mono ?_
      rintro e' w6 ⟨A3,c3,rfl,o3,k6⟩
      have k56:=BX.out.trans (k6.mono BX.out.size)
      have q6:=QW.out.trans (Keep.below (S:=fun k => k = a.bg) k56)
      have hgl6:a.bg < wr.heap.size:=Nat.lt_of_lt_of_le hlg QW.out.size
      have had:=add_any 0 (some ⟨a.bg,0,none⟩) A3 (gradOn i m.P m.G (pl.take k)) gv n a.cg c3 w6 (own_below OGk.out k56) (Rd.own o3) Hgv.out (by have:=Hcb.out;omega) (fun z1 z2 e1 e2 => by
        cases e1
        have:=(o3.lt z2.block (by rw [e2];rfl)).1
        have h2:=BX.out.size
        dsimp only
        omega)
      have Had:=Lib.hid had;have K56:=Lib.hid k56
      clear had k56 o3 k6 p1 p2 qw
      go_wp2_with fail
      refine Had.out.mono ?_
      rintro e'' w7 ⟨rfl,o7,k7⟩
      have hk7:Keep (fun k => k = a.bg) w4 w7:=(QK.out.trans (Keep.below K56.out)).trans (k7.mono fun j _ hj => by cases hj;rfl)
      rw [← Hgv'.out,← gradOn_snoc,← Htk.out] at o7
      have O7:=Lib.hid o7;have K7:=Lib.hid hk7
      clear o7 k7 hk7 q6
      go_wp2_with fail
      go_roundw
      case rel => exact ⟨k + 1,by omega,by go_num,O7.out,K7.out⟩
      case measure => simp [intOf];omega
    · obtain rfl:k = K:=by omega
      have hki:¬ (k:Int) < k:=by omega
      rw [List.take_of_length_le (by have:=Hpl.out;omega)] at og
      have OGk:=Lib.hid og;have QW:=Lib.hid qw
      clear og qk qw
      go_wp2_with fail
      go_ret
      exact ⟨rfl,QW.out,OGk.out⟩
end Go.Proofs.YtaccfnffmbndhaaGreat
