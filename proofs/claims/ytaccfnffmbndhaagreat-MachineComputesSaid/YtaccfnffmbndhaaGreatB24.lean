/- machine.New. No condition. -/
import Derived.Test.YtaccfnffmbndhaaGreatB23
set_option linter.unusedSimpArgs false
set_option linter.unusedVariables false
namespace Go.Proofs.YtaccfnffmbndhaaGreat
open Go.RowKit
def mst0 (i:Inp):Mst:=⟨i.start,List.replicate i.start.length 0,List.replicate i.start.length 0,[(i.start,List.replicate i.start.length 0)],0,0,[]⟩
theorem ext_shapeT {T:TypeId} {B b:Nat} {w:World} {sz:List Int} (h:ShapeAt T (topW B w) b sz):ShapeAt T w.drew b sz:=(top_shape h (Agr.refl B w)).below ((br w).drew)
structure NewC (sz:List Int) (L wk bh mi sn bu ch wi ca n Q:Nat) (A:Option Addr) (c:Nat) (sh ra mo:Int) (D:Option Addr) (cd:Nat) (T:Option Addr) (ct:Nat) (R:Option Addr) (cr:Nat) (data:List Ex) (ps draws:List Int) (w:World):Prop where
  inp:∀ N,N = data.length → ∀ w',Below w.heap.size w w' → Calls Tryz.prog 42 #[.agg #[.slice A L c,.int .i64 sh,.int .i64 ra,.int .i64 mo,.int .i64 (wk:Nat),.int .i64 (bh:Nat),.int .i64 (mi:Nat),.int .i64 (sn:Nat),.int .i64 (bu:Nat),.int .i64 (ch:Nat),.int .i64 (wi:Nat),.int .i64 (ca:Nat),.slice D N cd,.slice T n ct,.slice R Q cr]] w' fun e w'' => e = .returned (.int .i64 0) ∧ Below w'.heap.size w' w''
  snew:∀ w',Below w.heap.size w w' → Calls Tryz.prog 43 #[.slice A L c] w' fun e w'' => ∃ F,e = .returned (.tuple #[.pointer (some ⟨F,0,none⟩),.int .i64 0]) ∧ ShapeAt 186 (topW w.heap.size w'') F sz ∧ Below w'.heap.size w' w''
  samp:∀ N,N = data.length → ∀ w',Below w.heap.size w w' → Calls Tryz.prog 44 #[.int .i64 (N:Nat),.int .i64 (bh:Nat),.int .i64 (sn:Nat),.slice R Q cr] w' fun e w'' => ∃ S,e = .returned (.tuple #[.pointer (some ⟨S,0,none⟩),.int .i64 0]) ∧ SampAt (topW w.heap.size w'') S data.length bh sn draws ∧ Below w'.heap.size w' w''
  cnt:∀ F w',ShapeAt 186 w' F sz → Calls Tryz.prog 46 #[.pointer (some ⟨F,0,none⟩)] w' fun e w'' => e = .returned (.int .i64 (n:Nat)) ∧ w' = w''
  chk:∀ w',Below w.heap.size w w' → Calls Tryz.prog 88 #[.agg #[.slice A L c,.int .i64 sh,.int .i64 ra,.int .i64 mo,.int .i64 (wk:Nat),.int .i64 (bh:Nat),.int .i64 (mi:Nat),.int .i64 (sn:Nat),.int .i64 (bu:Nat),.int .i64 (ch:Nat),.int .i64 (wi:Nat),.int .i64 (ca:Nat)]] w' fun e w'' => e = .returned (.int .i64 0) ∧ Below w'.heap.size w' w''
  dat:SlRd rEx 2 w D data
  dl:data.length ≤ 1048576
  st:Rd w T (nums .i64 ps)
  sl:ps.length = n
def Win (lo0:Nat) (w':World) (ms:List Nat) (Q:World → Prop):Prop:=∃ lo u,lo0 ≤ lo ∧ Q (topW lo u) ∧ Below u.heap.size u w' ∧ ∀ k ∈ ms,k < lo ∨ u.heap.size ≤ k
theorem ms5 {a b c d e lo hi:Nat} (h1:a < lo ∨ hi ≤ a) (h2:b < lo ∨ hi ≤ b) (h3:c < lo ∨ hi ≤ c) (h4:d < lo ∨ hi ≤ d) (h5:e < lo ∨ hi ≤ e):∀ k ∈ [a,b,c,d,e],k < lo ∨ hi ≤ k:=by
  intro k hk
  simp only [List.mem_cons,List.not_mem_nil,or_false] at hk
  rcases hk with rfl | rfl | rfl | rfl | rfl <;> assumption
structure NewR (sz:List Int) (x L wk bh mi sn bu ch wi ca N n:Nat) (A:Option Addr) (c:Nat) (sh ra mo:Int) (data:List Ex) (ps draws:List Int) (its:List Itm) (w w':World) (b:Nat) (a:MAd):Prop where
  blk:w'.heap[b]? = some (.cells #[.int .i64 (x:Nat),.int .i64 (wk:Nat),.int .i64 (mi:Nat),.pointer (some ⟨a.F,0,none⟩),.slice a.E N a.ce,.pointer (some ⟨a.S,0,none⟩),.pointer (some ⟨a.PP,0,none⟩),.slice a.BA (Pln.buks ⟨wk,mi,bu,ch,wi,n⟩).length a.bc,.int .i64 ra,.int .i64 mo,.int .i64 sh,.slice (some ⟨a.bp,0,none⟩) n a.cp,.slice (some ⟨a.bm,0,none⟩) n a.cm,.slice (some ⟨a.bg,0,none⟩) n a.cg,.slice (some ⟨a.rb,0,none⟩) 1 a.rc,.slice a.IA its.length a.ic,.int .i64 0,.int .i64 0,.slice none 0 0] 130 (0,0))
  fo:Win w.heap.size w' [b,a.bp,a.bm,a.bg,a.rb] fun V => ShapeAt 186 V a.F sz
  sa:Win w.heap.size w' [b,a.bp,a.bm,a.bg,a.rb] fun V => SampAt V a.S data.length bh sn draws
  pl:Win w.heap.size w' [b,a.bp,a.bm,a.bg,a.rb] fun V => PlanAt V a.PP ⟨wk,mi,bu,ch,wi,n⟩ (.slice A L c) (.int .i64 sh) (.int .i64 ra) (.int .i64 mo) (.int .i64 (bh:Nat)) (.int .i64 (sn:Nat)) (.int .i64 (ca:Nat))
  ex:Win w.heap.size w' [b,a.bp,a.bm,a.bg,a.rb] fun V => SlRd rEx 2 V a.E data
  bu:Win w.heap.size w' [b,a.bp,a.bm,a.bg,a.rb] fun V => Rd V a.BA (rgVals (Pln.buks ⟨wk,mi,bu,ch,wi,n⟩))
  it:Win w.heap.size w' [b,a.bp,a.bm,a.bg,a.rb] fun V => Rd V a.IA (itVals its)
  re:∃ A1 c1 A2 c2,n ≤ c1 ∧ n ≤ c2 ∧ w'.heap[a.rb]? = some (.cells #[.slice A1 n c1,.slice A2 n c2] 68 (0,0)) ∧ (Win w.heap.size w' [b,a.bp,a.bm,a.bg,a.rb] fun V => Rd V A1 (nums .i64 ps)) ∧ (Win w.heap.size w' [b,a.bp,a.bm,a.bg,a.rb] fun V => Rd V A2 (nums .i64 (List.replicate n 0)))
  oP:w'.ownsRow 0 2 1 (.slice (some ⟨a.bp,0,none⟩) n a.cp) n (nums .i64 ps)
  oM:w'.ownsRow 0 2 1 (.slice (some ⟨a.bm,0,none⟩) n a.cm) n (nums .i64 (List.replicate n 0))
  oG:w'.ownsRow 0 2 1 (.slice (some ⟨a.bg,0,none⟩) n a.cg) n (nums .i64 (List.replicate n 0))
  lo:w.heap.size ≤ b ∧ w.heap.size ≤ a.bp ∧ w.heap.size ≤ a.bm ∧ w.heap.size ≤ a.bg ∧ w.heap.size ≤ a.rb
  dj:a.bp ≠ a.bm ∧ a.bp ≠ a.bg ∧ a.bm ≠ a.bg
  ov:a.ov = .slice none 0 0
  rc:a.rc = 1
  k:Below w.heap.size w w'
set_option maxRecDepth 100000 in
set_option maxHeartbeats 4000000 in
theorem mnew_walk (sz:List Int) (x L wk bh mi sn bu ch wi ca N n Q:Nat) (A:Option Addr) (c:Nat) (sh ra mo:Int) (D:Option Addr) (cd:Nat) (T:Option Addr) (ct:Nat) (R:Option Addr) (cr:Nat) (data:List Ex) (ps draws:List Int) (w:World) (Post:Ending → World → Prop)
    (h:NewC sz L wk bh mi sn bu ch wi ca n Q A c sh ra mo D cd T ct R cr data ps draws w) (hN:N = data.length) (hx:x < wk) (hp:PlnOk ⟨wk,mi,bu,ch,wi,n⟩) (hn:1 ≤ n) (hbu:bu ≤ 1048576) (hwi:wi ≤ 1048576) (its:List Itm)
    (hstp:∀ P w',PlanAt w' P ⟨wk,mi,bu,ch,wi,n⟩ (.slice A L c) (.int .i64 sh) (.int .i64 ra) (.int .i64 mo) (.int .i64 (bh:Nat)) (.int .i64 (sn:Nat)) (.int .i64 (ca:Nat)) → Calls Tryz.prog 51 #[.pointer (some ⟨P,0,none⟩),.int .i64 (x:Nat),.int .i64 0] w' fun e w'' => ∃ v,e = .returned v ∧ w''.ownsRow w'.heap.size 56 12 v its.length (itVals its) ∧ Below w'.heap.size w' w'')
    (hend:∀ w' b a,NewR sz x L wk bh mi sn bu ch wi ca N n A c sh ra mo data ps draws its w w' b a → Post (.returned (.tuple #[.pointer (some ⟨b,0,none⟩),.int .i64 0])) w'):Calls Tryz.prog 12 #[.agg #[.slice A L c,.int .i64 sh,.int .i64 ra,.int .i64 mo,.int .i64 (wk:Nat),.int .i64 (bh:Nat),.int .i64 (mi:Nat),.int .i64 (sn:Nat),.int .i64 (bu:Nat),.int .i64 (ch:Nat),.int .i64 (wi:Nat),.int .i64 (ca:Nat),.slice D N cd,.slice T n ct,.slice R Q cr],.int .i64 (x:Nat)] w Post:=by
  obtain ⟨W0,hW0⟩:∃ W0,w.alloc (.cells #[.slice A L c,.int .i64 sh,.int .i64 ra,.int .i64 mo,.int .i64 (wk:Nat),.int .i64 (bh:Nat),.int .i64 (mi:Nat),.int .i64 (sn:Nat),.int .i64 (bu:Nat),.int .i64 (ch:Nat),.int .i64 (wi:Nat),.int .i64 (ca:Nat),.slice D N cd,.slice T n ct,.slice R Q cr] 29) = W0:=⟨_,rfl⟩
  have g0:W0.heap[w.heap.size]? = some (.cells #[.slice A L c,.int .i64 sh,.int .i64 ra,.int .i64 mo,.int .i64 (wk:Nat),.int .i64 (bh:Nat),.int .i64 (mi:Nat),.int .i64 (sn:Nat),.int .i64 (bu:Nat),.int .i64 (ch:Nat),.int .i64 (wi:Nat),.int .i64 (ca:Nat),.slice D N cd,.slice T n ct,.slice R Q cr] 29 (0,0)):=by rw [← hW0];exact heap_alloc_new w _
  have hB0:Below w.heap.size w W0:=by rw [← hW0];exact (br w).alloc (Nat.le_refl _) _
  have hi0:=h.inp N hN W0 hB0
  have hxW:¬ ((wk:Int) ≤ x):=by omega
  have hn60:=hp.n
  dsimp only at hn60
  have t0:=fun w' q => bx15 (sb g0 w' q)
  have HW0:=Lib.hid hW0;have HB0:=Lib.hid hB0;have Hi0:=Lib.hid hi0;have Hh:=Lib.hid h;have HN:=Lib.hid hN;have Hend:=Lib.hid hend;have Hstp:=Lib.hid hstp;have Hl:=Lib.hid h.sl;have hn7:n ≤ 1048576:=by omega
  have q0:=br W0
  clear hW0 g0 hB0 hi0 h hN hend hstp
  go_enter Tryz.func12,Tryz.ntmps12
  go_wp2_with fail
  rw [HW0.out]
  refine Hi0.out.mono ?_
  rintro e w1 ⟨rfl,k1⟩
  have q1:=bt q0 k1
  obtain ⟨W2,hW2⟩:∃ W2,w1.alloc (.cells #[.slice A L c,.int .i64 sh,.int .i64 ra,.int .i64 mo,.int .i64 (wk:Nat),.int .i64 (bh:Nat),.int .i64 (mi:Nat),.int .i64 (sn:Nat),.int .i64 (bu:Nat),.int .i64 (ch:Nat),.int .i64 (wi:Nat),.int .i64 (ca:Nat)] 24) = W2:=⟨_,rfl⟩
  have g2:W2.heap[w1.heap.size]? = some (.cells #[.slice A L c,.int .i64 sh,.int .i64 ra,.int .i64 mo,.int .i64 (wk:Nat),.int .i64 (bh:Nat),.int .i64 (mi:Nat),.int .i64 (sn:Nat),.int .i64 (bu:Nat),.int .i64 (ch:Nat),.int .i64 (wi:Nat),.int .i64 (ca:Nat)] 24 (0,0)):=by rw [← hW2];exact heap_alloc_new w1 _
  have k2:Below w1.heap.size w1 W2:=by rw [← hW2];exact (br w1).alloc (Nat.le_refl _) _
  have q2:=bt q1 k2
  have t2:=fun w' q => bx12 (sb g2 w' q)
  have u2:=fun w' (q:Below W2.heap.size W2 w') => t0 w' (bt q2 q)
  have HW2:=Lib.hid hW2;have Q2:=Lib.hid (HB0.out.trans (q2.mono HB0.out.size))
  clear hW2 g2 k1 k2
  go_wp2_with fail
  rw [HW2.out]
  have q22:=br W2
  clear q0 q1 q2 t0
  refine (Hh.out.snew _ Q2.out).mono ?_
  rintro e w3 ⟨F,rfl,hF,k3⟩
  have q3:=bt q22 k3
  have Q3:=Lib.hid (Q2.out.trans (k3.mono Q2.out.size));have HF:=Lib.hid hF
  clear hF k3
  go_wp2_with fail
  refine (Hh.out.samp N HN.out _ Q3.out).mono ?_
  rintro e w4 ⟨S,rfl,hS,k4⟩
  have q4:=bt q3 k4
  have Q4:=Lib.hid (Q3.out.trans (k4.mono Q3.out.size));have HS:=Lib.hid hS;have K4:=Lib.hid k4
  have hF4:=HF.out.below (top_below k4)
  have HF4:=Lib.hid hF4
  clear hS k4 hF4
  go_wp2_with fail
  refine HA.g (fun w':World => Below W2.heap.size W2 w') ?_
  refine HA.t ?_ [0,1] q4.drew ?_
  refine HA.c 2 (Hh.out.cnt F _ (ext_shapeT HF4.out)) ?_
  rintro e w5 ⟨rfl,rfl⟩
  refine ⟨_,rfl,q4.drew,fun _ => ?_⟩
  have hpn:=pnew_good ⟨wk,mi,bu,ch,wi,n⟩ (.slice A L c) (.int .i64 sh) (.int .i64 ra) (.int .i64 mo) (.int .i64 (bh:Nat)) (.int .i64 (sn:Nat)) (.int .i64 (ca:Nat)) w4.drew hp hn hbu hwi (fun w' q => Hh.out.chk w' (Q4.out.drew.trans (q.mono Q4.out.size)))
  dsimp only at hpn
  refine HA.c 3 hpn ?_
  rintro e w6 ⟨PP,rfl,hPP,hPl,k6⟩
  have q6:=bt q4.drew k6
  refine ⟨_,rfl,q6,fun _ => ?_⟩
  refine HA.t ?_ [4,5,6,7,8] q6 ?_
  refine HA.d ?_
  try simp only [Exit.then]
  have K6:=Lib.hid (show Below w4.heap.size w4 w6 from (br w4).drew.trans k6)
  have Q6:=Lib.hid (Q4.out.trans (K6.out.mono Q4.out.size));have HPl:=Lib.hid hPl
  clear hpn hPl k6 q4 q3
  have hst:=startD_any T n ct ps w6 (Hh.out.st.below Q6.out) Hh.out.sl (by omega)
  have Hst:=Lib.hid hst
  clear hst
  go_wp2_with fail
  refine Hst.out.mono ?_
  rintro e w7 ⟨Ap,cp,Am,cm,rfl,hc1,hc2,oP,oM,hdj,k7⟩
  obtain ⟨bp,cp',e1,hbp1,hbp2⟩:=oP.form (by omega)
  obtain ⟨bm,cm',e2,hbm1,hbm2⟩:=oM.form (by omega)
  injection e1 with e1 _ e1c
  injection e2 with e2 _ e2c
  subst e1;subst e2;subst e1c;subst e2c
  obtain ⟨W8,hW8⟩:∃ W8,w7.alloc (.cells #[.slice (some ⟨bp,0,none⟩) n cp,.slice (some ⟨bm,0,none⟩) n cm] 68) = W8:=⟨_,rfl⟩
  have g8:W8.heap[w7.heap.size]? = some (.cells #[.slice (some ⟨bp,0,none⟩) n cp,.slice (some ⟨bm,0,none⟩) n cm] 68 (0,0)):=by rw [← hW8];exact heap_alloc_new w7 _
  have k8:Below w7.heap.size w7 W8:=by rw [← hW8];exact (br w7).alloc (Nat.le_refl _) _
  have k78:=bt k7 k8
  have q8:=bt q6 k78
  have t8:=fun w' q => bx2 (sb g8 w' q)
  have v8:=fun w' (q:Below W8.heap.size W8 w') => u2 w' (bt q8 q)
  have x8:=fun w' (q:Below W8.heap.size W8 w') => t2 w' (bt q8 q)
  have hne:bp ≠ bm:=fun e => hdj bp rfl (by rw [e];rfl)
  have HW8:=Lib.hid hW8;have Q8:=Lib.hid (Q6.out.trans (k78.mono Q6.out.size));have K8:=Lib.hid k78;have OP:=Lib.hid (own_below oP k8);have OM:=Lib.hid (own_below oM k8);have Hne:=Lib.hid hne
  have q88:=br W8
  have p1:w6.heap.size ≤ bp:=hbp1
  have p2:bp < W8.heap.size:=Nat.lt_of_lt_of_le hbp2 k8.size
  have p3:w6.heap.size ≤ bm:=hbm1
  have p4:bm < W8.heap.size:=Nat.lt_of_lt_of_le hbm2 k8.size
  clear hW8 g8 k7 k8 k78 oP oM hdj q6 q8 u2 t2 hc1 hc2 hne
  go_wp2_with fail
  rw [HW8.out]
  refine HA.g (fun w':World => Below W8.heap.size W8 w') ?_
  refine HA.t ?_ [0,1,2,3,4,5,6,7,9,10,11,13,14,15,16,17,18,19,21,22,25,28,29] q88.drew ?_
  have hd8:SlRd rEx 2 W8.drew D data:=Hh.out.dat.below stays_ex (Q8.out.drew)
  have hdc:=dclone_anyT D data cd W8.drew hd8 Hh.out.dl
  rw [← HN.out] at hdc
  refine HA.c 8 hdc ?_
  rintro e w9 ⟨E,ce,rfl,hE,k9⟩
  have q9:=bt q88.drew k9
  refine ⟨_,rfl,q9,fun _ => ?_⟩
  have hPP9:PlanAt w9 PP ⟨wk,mi,bu,ch,wi,n⟩ (.slice A L c) (.int .i64 sh) (.int .i64 ra) (.int .i64 mo) (.int .i64 (bh:Nat)) (.int .i64 (sn:Nat)) (.int .i64 (ca:Nat)):=(HPl.out.agr (Agr.refl _ w6)).below (bt K8.out q9)
  refine HA.c 12 (pbuk_any _ PP _ _ _ _ _ _ _ w9 hp hPP9) ?_
  rintro e x0 ⟨v10,rfl,o10,k10⟩
  have q0:=bt q9 k10
  obtain ⟨BA,bc,rfl,_⟩:=own_form o10
  refine ⟨_,rfl,q0,fun _ => ?_⟩
  have hF10:ShapeAt 186 x0 F sz:=(top_shape HF4.out (Agr.refl _ w4)).below (bt (bt (bt K6.out K8.out) q9) k10)
  refine HA.t ?_ [20] q0 ?_
  refine HA.c 23 (Hh.out.cnt F x0 hF10) ?_
  rintro e w11 ⟨rfl,rfl⟩
  refine ⟨_,rfl,q0,fun _ => ?_⟩
  have sw4:w.heap.size ≤ w4.heap.size:=Q4.out.size
  have s46:w4.heap.size ≤ w6.heap.size:=K6.out.size
  have s68:w6.heap.size ≤ W8.heap.size:=K8.out.size
  have s89:W8.heap.size ≤ w9.heap.size:=k9.size
  have s90:w9.heap.size ≤ x0.heap.size:=k10.size
  -- BRANCHES
  refine HA.two 24 26 ?_ ?_
  · obtain ⟨x1,hrun,oG,k1⟩:=run_mk et_vec x0 rfl n (by omega) (by unfold maxLen;omega)
    refine HAS.v x1 (.slice (some ⟨x0.heap.size,0,none⟩) n n) (bt q0 k1) ?_
    clear hrun
    rw [nums_rep] at oG
    have t24:x0.heap.size < x1.heap.size:=(own_addr oG _ rfl).2
    have q1:=bt q0 k1
    have s1:x0.heap.size ≤ x1.heap.size:=k1.size
    refine HA.c 26 (stclone_any (some ⟨bp,0,none⟩) (some ⟨bm,0,none⟩) n cp cm ps (List.replicate n 0) x1 (Rd.own (own_below OP.out q1)) (Rd.own (own_below OM.out q1)) Hl.out (List.length_replicate ..) hn7) ?_
    rintro e x2 ⟨A1,c1,A2,c2,rfl,lc1,lc2,o1,o2,_,k2⟩
    refine ⟨_,rfl,bt q1 k2,fun _ => ?_⟩
    have q2:=bt q1 k2
    have s2:x1.heap.size ≤ x2.heap.size:=k2.size
    refine HA.two 27 30 ?_ ?_
    · obtain ⟨x3,hx3⟩:∃ x3,x2.alloc (.cells #[.slice A1 n c1,.slice A2 n c2] 68) = x3:=⟨_,rfl⟩
      have gR:x3.heap[x2.heap.size]? = some (.cells #[.slice A1 n c1,.slice A2 n c2] 68 (0,0)):=by rw [← hx3];exact heap_alloc_new x2 _
      have k3:Below x2.heap.size x2 x3:=by rw [← hx3];exact (br x2).alloc (Nat.le_refl _) _
      refine HAS.v x3 (.slice (some ⟨x2.heap.size,0,none⟩) 1 1) (bt q2 k3) ?_
      clear hx3
      have t27:x2.heap.size < x3.heap.size:=lt_of_block gR
      have q3:=bt q2 k3
      have s3:x2.heap.size ≤ x3.heap.size:=k3.size
      refine HA.c 30 (Hstp.out PP x3 ((HPl.out.agr (Agr.refl _ w6)).below (bt K8.out q3))) ?_
      rintro e x4 ⟨v,rfl,oS,k4⟩
      obtain ⟨IA,ic,rfl,_⟩:=own_form oS
      refine ⟨_,rfl,bt q3 k4,fun _ => ?_⟩
      have q4:=bt q3 k4
      have s4:x3.heap.size ≤ x4.heap.size:=k4.size
      refine HA.t ?_ [31] q4 ?_
      have gB:=heap_alloc_new x4 (Obj.cells #[.int .i64 (x:Nat),.int .i64 (wk:Nat),.int .i64 (mi:Nat),.pointer (some ⟨F,0,none⟩),.slice E N ce,.pointer (some ⟨S,0,none⟩),.pointer (some ⟨PP,0,none⟩),.slice BA (Pln.buks ⟨wk,mi,bu,ch,wi,n⟩).length bc,.int .i64 ra,.int .i64 mo,.int .i64 sh,.slice (some ⟨bp,0,none⟩) n cp,.slice (some ⟨bm,0,none⟩) n cm,.slice (some ⟨x0.heap.size,0,none⟩) n n,.slice (some ⟨x2.heap.size,0,none⟩) 1 1,.slice IA its.length ic,.int .i64 0,.int .i64 0,.slice none 0 0] 130)
      obtain ⟨x5,hx5⟩:∃ x5,x4.alloc (.cells #[.int .i64 (x:Nat),.int .i64 (wk:Nat),.int .i64 (mi:Nat),.pointer (some ⟨F,0,none⟩),.slice E N ce,.pointer (some ⟨S,0,none⟩),.pointer (some ⟨PP,0,none⟩),.slice BA (Pln.buks ⟨wk,mi,bu,ch,wi,n⟩).length bc,.int .i64 ra,.int .i64 mo,.int .i64 sh,.slice (some ⟨bp,0,none⟩) n cp,.slice (some ⟨bm,0,none⟩) n cm,.slice (some ⟨x0.heap.size,0,none⟩) n n,.slice (some ⟨x2.heap.size,0,none⟩) 1 1,.slice IA its.length ic,.int .i64 0,.int .i64 0,.slice none 0 0] 130) = x5:=⟨_,rfl⟩
      rw [hx5] at gB
      have k5:Below x4.heap.size x4 x5:=by rw [← hx5];exact (br x4).alloc (Nat.le_refl _) _
      refine HA.v 32 x5 (.pointer (some ⟨x4.heap.size,0,none⟩)) (bt q4 k5) ?_
      clear hx5
      refine HA.t ?_ [33] (bt q4 k5) ?_
      refine HA.d ?_
      try simp only [Exit.then]
      have z4:=k5;have z3:=bt k4 z4;have z2:=bt k3 z3;have z1:=bt k2 z2;have z0:=bt k1 z1;have z9:=bt k10 z0;have z8:=bt q4 k5;have z6:=bt K8.out z8;have zz:=bt K6.out z6
      have mF:∀ k ∈ [x4.heap.size,bp,bm,x0.heap.size,x2.heap.size],k < w.heap.size ∨ w4.heap.size ≤ k:=by apply ms5 <;> omega
      have mP:∀ k ∈ [x4.heap.size,bp,bm,x0.heap.size,x2.heap.size],k < w4.heap.size ∨ w6.heap.size ≤ k:=by apply ms5 <;> omega
      have mE:∀ k ∈ [x4.heap.size,bp,bm,x0.heap.size,x2.heap.size],k < W8.heap.size ∨ w9.heap.size ≤ k:=by apply ms5 <;> omega
      have mB:∀ k ∈ [x4.heap.size,bp,bm,x0.heap.size,x2.heap.size],k < w9.heap.size ∨ x0.heap.size ≤ k:=by apply ms5 <;> omega
      have mI:∀ k ∈ [x4.heap.size,bp,bm,x0.heap.size,x2.heap.size],k < x3.heap.size ∨ x4.heap.size ≤ k:=by apply ms5 <;> omega
      have mS:∀ k ∈ [x4.heap.size,bp,bm,x0.heap.size,x2.heap.size],k < x1.heap.size ∨ x2.heap.size ≤ k:=by apply ms5 <;> omega
      have lE:w.heap.size ≤ W8.heap.size:=by omega
      have lB:w.heap.size ≤ w9.heap.size:=by omega
      have lI:w.heap.size ≤ x3.heap.size:=by omega
      have lS:w.heap.size ≤ x1.heap.size:=by omega
      have l1:w.heap.size ≤ x4.heap.size:=by omega
      have l2:w.heap.size ≤ bp:=by omega
      have l3:w.heap.size ≤ bm:=by omega
      have l4:w.heap.size ≤ x0.heap.size:=by omega
      have l5:w.heap.size ≤ x2.heap.size:=by omega
      have l6:bp < x0.heap.size:=by omega
      have l7:bm < x0.heap.size:=by omega
      have fin:=Hend.out x5 x4.heap.size ⟨F,E,ce,S,PP,BA,bc,bp,cp,bm,cm,x0.heap.size,n,x2.heap.size,1,IA,ic,.slice none 0 0⟩ ⟨gB,⟨_,w4,Nat.le_refl _,HF4.out,zz,mF⟩,⟨_,w4,Nat.le_refl _,HS.out,zz,mF⟩,⟨_,w6,sw4,HPl.out,z6,mP⟩,⟨W8.heap.size,w9,lE,hE,z9,mE⟩,⟨w9.heap.size,x0,lB,Rd.own (own_top o10 (Nat.le_refl _)),z0,mB⟩,⟨x3.heap.size,x4,lI,Rd.own (own_top oS (Nat.le_refl _)),z4,mI⟩,⟨A1,c1,A2,c2,lc1,lc2,(z3.block _ (lt_of_block gR)).trans gR,⟨x1.heap.size,x2,lS,Rd.own (own_top o1 (Nat.le_refl _)),z2,mS⟩,⟨x1.heap.size,x2,lS,Rd.own (own_top o2 (Nat.le_refl _)),z2,mS⟩⟩,own_base (own_below OP.out z8) (Nat.zero_le _),own_base (own_below OM.out z8) (Nat.zero_le _),own_base (own_below oG z1) (Nat.zero_le _),⟨l1,l2,l3,l4,l5⟩,⟨Hne.out,Nat.ne_of_lt l6,Nat.ne_of_lt l7⟩,rfl,rfl,bt Q4.out zz⟩
      go_wp2_with fail
      exact fin
    · refine HAS.c (Hstp.out PP x2 ((HPl.out.agr (Agr.refl _ w6)).below (bt K8.out q2))) ?_
      rintro e x3 ⟨v,rfl,oS,k3⟩
      obtain ⟨IA,ic,rfl,_⟩:=own_form oS
      refine ⟨_,rfl,bt q2 k3,fun _ => ?_⟩
      have q3:=bt q2 k3
      have s3:x2.heap.size ≤ x3.heap.size:=k3.size
      obtain ⟨x4,hx4⟩:∃ x4,x3.alloc (.cells #[.slice A1 n c1,.slice A2 n c2] 68) = x4:=⟨_,rfl⟩
      have gR:x4.heap[x3.heap.size]? = some (.cells #[.slice A1 n c1,.slice A2 n c2] 68 (0,0)):=by rw [← hx4];exact heap_alloc_new x3 _
      have k4:Below x3.heap.size x3 x4:=by rw [← hx4];exact (br x3).alloc (Nat.le_refl _) _
      refine HA.v 27 x4 (.slice (some ⟨x3.heap.size,0,none⟩) 1 1) (bt q3 k4) ?_
      clear hx4
      have t27:x3.heap.size < x4.heap.size:=lt_of_block gR
      have q4:=bt q3 k4
      have s4:x3.heap.size ≤ x4.heap.size:=k4.size
      refine HA.t ?_ [31] q4 ?_
      have gB:=heap_alloc_new x4 (Obj.cells #[.int .i64 (x:Nat),.int .i64 (wk:Nat),.int .i64 (mi:Nat),.pointer (some ⟨F,0,none⟩),.slice E N ce,.pointer (some ⟨S,0,none⟩),.pointer (some ⟨PP,0,none⟩),.slice BA (Pln.buks ⟨wk,mi,bu,ch,wi,n⟩).length bc,.int .i64 ra,.int .i64 mo,.int .i64 sh,.slice (some ⟨bp,0,none⟩) n cp,.slice (some ⟨bm,0,none⟩) n cm,.slice (some ⟨x0.heap.size,0,none⟩) n n,.slice (some ⟨x3.heap.size,0,none⟩) 1 1,.slice IA its.length ic,.int .i64 0,.int .i64 0,.slice none 0 0] 130)
      obtain ⟨x5,hx5⟩:∃ x5,x4.alloc (.cells #[.int .i64 (x:Nat),.int .i64 (wk:Nat),.int .i64 (mi:Nat),.pointer (some ⟨F,0,none⟩),.slice E N ce,.pointer (some ⟨S,0,none⟩),.pointer (some ⟨PP,0,none⟩),.slice BA (Pln.buks ⟨wk,mi,bu,ch,wi,n⟩).length bc,.int .i64 ra,.int .i64 mo,.int .i64 sh,.slice (some ⟨bp,0,none⟩) n cp,.slice (some ⟨bm,0,none⟩) n cm,.slice (some ⟨x0.heap.size,0,none⟩) n n,.slice (some ⟨x3.heap.size,0,none⟩) 1 1,.slice IA its.length ic,.int .i64 0,.int .i64 0,.slice none 0 0] 130) = x5:=⟨_,rfl⟩
      rw [hx5] at gB
      have k5:Below x4.heap.size x4 x5:=by rw [← hx5];exact (br x4).alloc (Nat.le_refl _) _
      refine HA.v 32 x5 (.pointer (some ⟨x4.heap.size,0,none⟩)) (bt q4 k5) ?_
      clear hx5
      refine HA.t ?_ [33] (bt q4 k5) ?_
      refine HA.d ?_
      try simp only [Exit.then]
      have z4:=k5;have z3:=bt k4 z4;have z2:=bt k3 z3;have z1:=bt k2 z2;have z0:=bt k1 z1;have z9:=bt k10 z0;have z8:=bt q4 k5;have z6:=bt K8.out z8;have zz:=bt K6.out z6
      have mF:∀ k ∈ [x4.heap.size,bp,bm,x0.heap.size,x3.heap.size],k < w.heap.size ∨ w4.heap.size ≤ k:=by apply ms5 <;> omega
      have mP:∀ k ∈ [x4.heap.size,bp,bm,x0.heap.size,x3.heap.size],k < w4.heap.size ∨ w6.heap.size ≤ k:=by apply ms5 <;> omega
      have mE:∀ k ∈ [x4.heap.size,bp,bm,x0.heap.size,x3.heap.size],k < W8.heap.size ∨ w9.heap.size ≤ k:=by apply ms5 <;> omega
      have mB:∀ k ∈ [x4.heap.size,bp,bm,x0.heap.size,x3.heap.size],k < w9.heap.size ∨ x0.heap.size ≤ k:=by apply ms5 <;> omega
      have mI:∀ k ∈ [x4.heap.size,bp,bm,x0.heap.size,x3.heap.size],k < x2.heap.size ∨ x3.heap.size ≤ k:=by apply ms5 <;> omega
      have mS:∀ k ∈ [x4.heap.size,bp,bm,x0.heap.size,x3.heap.size],k < x1.heap.size ∨ x2.heap.size ≤ k:=by apply ms5 <;> omega
      have lE:w.heap.size ≤ W8.heap.size:=by omega
      have lB:w.heap.size ≤ w9.heap.size:=by omega
      have lI:w.heap.size ≤ x2.heap.size:=by omega
      have lS:w.heap.size ≤ x1.heap.size:=by omega
      have l1:w.heap.size ≤ x4.heap.size:=by omega
      have l2:w.heap.size ≤ bp:=by omega
      have l3:w.heap.size ≤ bm:=by omega
      have l4:w.heap.size ≤ x0.heap.size:=by omega
      have l5:w.heap.size ≤ x3.heap.size:=by omega
      have l6:bp < x0.heap.size:=by omega
      have l7:bm < x0.heap.size:=by omega
      have fin:=Hend.out x5 x4.heap.size ⟨F,E,ce,S,PP,BA,bc,bp,cp,bm,cm,x0.heap.size,n,x3.heap.size,1,IA,ic,.slice none 0 0⟩ ⟨gB,⟨_,w4,Nat.le_refl _,HF4.out,zz,mF⟩,⟨_,w4,Nat.le_refl _,HS.out,zz,mF⟩,⟨_,w6,sw4,HPl.out,z6,mP⟩,⟨W8.heap.size,w9,lE,hE,z9,mE⟩,⟨w9.heap.size,x0,lB,Rd.own (own_top o10 (Nat.le_refl _)),z0,mB⟩,⟨x2.heap.size,x3,lI,Rd.own (own_top oS (Nat.le_refl _)),z3,mI⟩,⟨A1,c1,A2,c2,lc1,lc2,(z4.block _ (lt_of_block gR)).trans gR,⟨x1.heap.size,x2,lS,Rd.own (own_top o1 (Nat.le_refl _)),z2,mS⟩,⟨x1.heap.size,x2,lS,Rd.own (own_top o2 (Nat.le_refl _)),z2,mS⟩⟩,own_base (own_below OP.out z8) (Nat.zero_le _),own_base (own_below OM.out z8) (Nat.zero_le _),own_base (own_below oG z1) (Nat.zero_le _),⟨l1,l2,l3,l4,l5⟩,⟨Hne.out,Nat.ne_of_lt l6,Nat.ne_of_lt l7⟩,rfl,rfl,bt Q4.out zz⟩
      go_wp2_with fail
      exact fin
  · refine HAS.c (stclone_any (some ⟨bp,0,none⟩) (some ⟨bm,0,none⟩) n cp cm ps (List.replicate n 0) x0 (Rd.own (own_below OP.out q0)) (Rd.own (own_below OM.out q0)) Hl.out (List.length_replicate ..) hn7) ?_
    rintro e x1 ⟨A1,c1,A2,c2,rfl,lc1,lc2,o1,o2,_,k1⟩
    refine ⟨_,rfl,bt q0 k1,fun _ => ?_⟩
    have q1:=bt q0 k1
    have s1:x0.heap.size ≤ x1.heap.size:=k1.size
    refine HA.three 24 27 30 ?_ ?_ ?_
    · obtain ⟨x2,hrun,oG,k2⟩:=run_mk et_vec x1 rfl n (by omega) (by unfold maxLen;omega)
      refine HAS.v x2 (.slice (some ⟨x1.heap.size,0,none⟩) n n) (bt q1 k2) ?_
      clear hrun
      rw [nums_rep] at oG
      have t24:x1.heap.size < x2.heap.size:=(own_addr oG _ rfl).2
      have q2:=bt q1 k2
      have s2:x1.heap.size ≤ x2.heap.size:=k2.size
      refine HA.two 27 30 ?_ ?_
      · obtain ⟨x3,hx3⟩:∃ x3,x2.alloc (.cells #[.slice A1 n c1,.slice A2 n c2] 68) = x3:=⟨_,rfl⟩
        have gR:x3.heap[x2.heap.size]? = some (.cells #[.slice A1 n c1,.slice A2 n c2] 68 (0,0)):=by rw [← hx3];exact heap_alloc_new x2 _
        have k3:Below x2.heap.size x2 x3:=by rw [← hx3];exact (br x2).alloc (Nat.le_refl _) _
        refine HAS.v x3 (.slice (some ⟨x2.heap.size,0,none⟩) 1 1) (bt q2 k3) ?_
        clear hx3
        have t27:x2.heap.size < x3.heap.size:=lt_of_block gR
        have q3:=bt q2 k3
        have s3:x2.heap.size ≤ x3.heap.size:=k3.size
        refine HA.c 30 (Hstp.out PP x3 ((HPl.out.agr (Agr.refl _ w6)).below (bt K8.out q3))) ?_
        rintro e x4 ⟨v,rfl,oS,k4⟩
        obtain ⟨IA,ic,rfl,_⟩:=own_form oS
        refine ⟨_,rfl,bt q3 k4,fun _ => ?_⟩
        have q4:=bt q3 k4
        have s4:x3.heap.size ≤ x4.heap.size:=k4.size
        refine HA.t ?_ [31] q4 ?_
        have gB:=heap_alloc_new x4 (Obj.cells #[.int .i64 (x:Nat),.int .i64 (wk:Nat),.int .i64 (mi:Nat),.pointer (some ⟨F,0,none⟩),.slice E N ce,.pointer (some ⟨S,0,none⟩),.pointer (some ⟨PP,0,none⟩),.slice BA (Pln.buks ⟨wk,mi,bu,ch,wi,n⟩).length bc,.int .i64 ra,.int .i64 mo,.int .i64 sh,.slice (some ⟨bp,0,none⟩) n cp,.slice (some ⟨bm,0,none⟩) n cm,.slice (some ⟨x1.heap.size,0,none⟩) n n,.slice (some ⟨x2.heap.size,0,none⟩) 1 1,.slice IA its.length ic,.int .i64 0,.int .i64 0,.slice none 0 0] 130)
        obtain ⟨x5,hx5⟩:∃ x5,x4.alloc (.cells #[.int .i64 (x:Nat),.int .i64 (wk:Nat),.int .i64 (mi:Nat),.pointer (some ⟨F,0,none⟩),.slice E N ce,.pointer (some ⟨S,0,none⟩),.pointer (some ⟨PP,0,none⟩),.slice BA (Pln.buks ⟨wk,mi,bu,ch,wi,n⟩).length bc,.int .i64 ra,.int .i64 mo,.int .i64 sh,.slice (some ⟨bp,0,none⟩) n cp,.slice (some ⟨bm,0,none⟩) n cm,.slice (some ⟨x1.heap.size,0,none⟩) n n,.slice (some ⟨x2.heap.size,0,none⟩) 1 1,.slice IA its.length ic,.int .i64 0,.int .i64 0,.slice none 0 0] 130) = x5:=⟨_,rfl⟩
        rw [hx5] at gB
        have k5:Below x4.heap.size x4 x5:=by rw [← hx5];exact (br x4).alloc (Nat.le_refl _) _
        refine HA.v 32 x5 (.pointer (some ⟨x4.heap.size,0,none⟩)) (bt q4 k5) ?_
        clear hx5
        refine HA.t ?_ [33] (bt q4 k5) ?_
        refine HA.d ?_
        try simp only [Exit.then]
        have z4:=k5;have z3:=bt k4 z4;have z2:=bt k3 z3;have z1:=bt k2 z2;have z0:=bt k1 z1;have z9:=bt k10 z0;have z8:=bt q4 k5;have z6:=bt K8.out z8;have zz:=bt K6.out z6
        have mF:∀ k ∈ [x4.heap.size,bp,bm,x1.heap.size,x2.heap.size],k < w.heap.size ∨ w4.heap.size ≤ k:=by apply ms5 <;> omega
        have mP:∀ k ∈ [x4.heap.size,bp,bm,x1.heap.size,x2.heap.size],k < w4.heap.size ∨ w6.heap.size ≤ k:=by apply ms5 <;> omega
        have mE:∀ k ∈ [x4.heap.size,bp,bm,x1.heap.size,x2.heap.size],k < W8.heap.size ∨ w9.heap.size ≤ k:=by apply ms5 <;> omega
        have mB:∀ k ∈ [x4.heap.size,bp,bm,x1.heap.size,x2.heap.size],k < w9.heap.size ∨ x0.heap.size ≤ k:=by apply ms5 <;> omega
        have mI:∀ k ∈ [x4.heap.size,bp,bm,x1.heap.size,x2.heap.size],k < x3.heap.size ∨ x4.heap.size ≤ k:=by apply ms5 <;> omega
        have mS:∀ k ∈ [x4.heap.size,bp,bm,x1.heap.size,x2.heap.size],k < x0.heap.size ∨ x1.heap.size ≤ k:=by apply ms5 <;> omega
        have lE:w.heap.size ≤ W8.heap.size:=by omega
        have lB:w.heap.size ≤ w9.heap.size:=by omega
        have lI:w.heap.size ≤ x3.heap.size:=by omega
        have lS:w.heap.size ≤ x0.heap.size:=by omega
        have l1:w.heap.size ≤ x4.heap.size:=by omega
        have l2:w.heap.size ≤ bp:=by omega
        have l3:w.heap.size ≤ bm:=by omega
        have l4:w.heap.size ≤ x1.heap.size:=by omega
        have l5:w.heap.size ≤ x2.heap.size:=by omega
        have l6:bp < x1.heap.size:=by omega
        have l7:bm < x1.heap.size:=by omega
        have fin:=Hend.out x5 x4.heap.size ⟨F,E,ce,S,PP,BA,bc,bp,cp,bm,cm,x1.heap.size,n,x2.heap.size,1,IA,ic,.slice none 0 0⟩ ⟨gB,⟨_,w4,Nat.le_refl _,HF4.out,zz,mF⟩,⟨_,w4,Nat.le_refl _,HS.out,zz,mF⟩,⟨_,w6,sw4,HPl.out,z6,mP⟩,⟨W8.heap.size,w9,lE,hE,z9,mE⟩,⟨w9.heap.size,x0,lB,Rd.own (own_top o10 (Nat.le_refl _)),z0,mB⟩,⟨x3.heap.size,x4,lI,Rd.own (own_top oS (Nat.le_refl _)),z4,mI⟩,⟨A1,c1,A2,c2,lc1,lc2,(z3.block _ (lt_of_block gR)).trans gR,⟨x0.heap.size,x1,lS,Rd.own (own_top o1 (Nat.le_refl _)),z1,mS⟩,⟨x0.heap.size,x1,lS,Rd.own (own_top o2 (Nat.le_refl _)),z1,mS⟩⟩,own_base (own_below OP.out z8) (Nat.zero_le _),own_base (own_below OM.out z8) (Nat.zero_le _),own_base (own_below oG z2) (Nat.zero_le _),⟨l1,l2,l3,l4,l5⟩,⟨Hne.out,Nat.ne_of_lt l6,Nat.ne_of_lt l7⟩,rfl,rfl,bt Q4.out zz⟩
        go_wp2_with fail
        exact fin
      · refine HAS.c (Hstp.out PP x2 ((HPl.out.agr (Agr.refl _ w6)).below (bt K8.out q2))) ?_
        rintro e x3 ⟨v,rfl,oS,k3⟩
        obtain ⟨IA,ic,rfl,_⟩:=own_form oS
        refine ⟨_,rfl,bt q2 k3,fun _ => ?_⟩
        have q3:=bt q2 k3
        have s3:x2.heap.size ≤ x3.heap.size:=k3.size
        obtain ⟨x4,hx4⟩:∃ x4,x3.alloc (.cells #[.slice A1 n c1,.slice A2 n c2] 68) = x4:=⟨_,rfl⟩
        have gR:x4.heap[x3.heap.size]? = some (.cells #[.slice A1 n c1,.slice A2 n c2] 68 (0,0)):=by rw [← hx4];exact heap_alloc_new x3 _
        have k4:Below x3.heap.size x3 x4:=by rw [← hx4];exact (br x3).alloc (Nat.le_refl _) _
        refine HA.v 27 x4 (.slice (some ⟨x3.heap.size,0,none⟩) 1 1) (bt q3 k4) ?_
        clear hx4
        have t27:x3.heap.size < x4.heap.size:=lt_of_block gR
        have q4:=bt q3 k4
        have s4:x3.heap.size ≤ x4.heap.size:=k4.size
        refine HA.t ?_ [31] q4 ?_
        have gB:=heap_alloc_new x4 (Obj.cells #[.int .i64 (x:Nat),.int .i64 (wk:Nat),.int .i64 (mi:Nat),.pointer (some ⟨F,0,none⟩),.slice E N ce,.pointer (some ⟨S,0,none⟩),.pointer (some ⟨PP,0,none⟩),.slice BA (Pln.buks ⟨wk,mi,bu,ch,wi,n⟩).length bc,.int .i64 ra,.int .i64 mo,.int .i64 sh,.slice (some ⟨bp,0,none⟩) n cp,.slice (some ⟨bm,0,none⟩) n cm,.slice (some ⟨x1.heap.size,0,none⟩) n n,.slice (some ⟨x3.heap.size,0,none⟩) 1 1,.slice IA its.length ic,.int .i64 0,.int .i64 0,.slice none 0 0] 130)
        obtain ⟨x5,hx5⟩:∃ x5,x4.alloc (.cells #[.int .i64 (x:Nat),.int .i64 (wk:Nat),.int .i64 (mi:Nat),.pointer (some ⟨F,0,none⟩),.slice E N ce,.pointer (some ⟨S,0,none⟩),.pointer (some ⟨PP,0,none⟩),.slice BA (Pln.buks ⟨wk,mi,bu,ch,wi,n⟩).length bc,.int .i64 ra,.int .i64 mo,.int .i64 sh,.slice (some ⟨bp,0,none⟩) n cp,.slice (some ⟨bm,0,none⟩) n cm,.slice (some ⟨x1.heap.size,0,none⟩) n n,.slice (some ⟨x3.heap.size,0,none⟩) 1 1,.slice IA its.length ic,.int .i64 0,.int .i64 0,.slice none 0 0] 130) = x5:=⟨_,rfl⟩
        rw [hx5] at gB
        have k5:Below x4.heap.size x4 x5:=by rw [← hx5];exact (br x4).alloc (Nat.le_refl _) _
        refine HA.v 32 x5 (.pointer (some ⟨x4.heap.size,0,none⟩)) (bt q4 k5) ?_
        clear hx5
        refine HA.t ?_ [33] (bt q4 k5) ?_
        refine HA.d ?_
        try simp only [Exit.then]
        have z4:=k5;have z3:=bt k4 z4;have z2:=bt k3 z3;have z1:=bt k2 z2;have z0:=bt k1 z1;have z9:=bt k10 z0;have z8:=bt q4 k5;have z6:=bt K8.out z8;have zz:=bt K6.out z6
        have mF:∀ k ∈ [x4.heap.size,bp,bm,x1.heap.size,x3.heap.size],k < w.heap.size ∨ w4.heap.size ≤ k:=by apply ms5 <;> omega
        have mP:∀ k ∈ [x4.heap.size,bp,bm,x1.heap.size,x3.heap.size],k < w4.heap.size ∨ w6.heap.size ≤ k:=by apply ms5 <;> omega
        have mE:∀ k ∈ [x4.heap.size,bp,bm,x1.heap.size,x3.heap.size],k < W8.heap.size ∨ w9.heap.size ≤ k:=by apply ms5 <;> omega
        have mB:∀ k ∈ [x4.heap.size,bp,bm,x1.heap.size,x3.heap.size],k < w9.heap.size ∨ x0.heap.size ≤ k:=by apply ms5 <;> omega
        have mI:∀ k ∈ [x4.heap.size,bp,bm,x1.heap.size,x3.heap.size],k < x2.heap.size ∨ x3.heap.size ≤ k:=by apply ms5 <;> omega
        have mS:∀ k ∈ [x4.heap.size,bp,bm,x1.heap.size,x3.heap.size],k < x0.heap.size ∨ x1.heap.size ≤ k:=by apply ms5 <;> omega
        have lE:w.heap.size ≤ W8.heap.size:=by omega
        have lB:w.heap.size ≤ w9.heap.size:=by omega
        have lI:w.heap.size ≤ x2.heap.size:=by omega
        have lS:w.heap.size ≤ x0.heap.size:=by omega
        have l1:w.heap.size ≤ x4.heap.size:=by omega
        have l2:w.heap.size ≤ bp:=by omega
        have l3:w.heap.size ≤ bm:=by omega
        have l4:w.heap.size ≤ x1.heap.size:=by omega
        have l5:w.heap.size ≤ x3.heap.size:=by omega
        have l6:bp < x1.heap.size:=by omega
        have l7:bm < x1.heap.size:=by omega
        have fin:=Hend.out x5 x4.heap.size ⟨F,E,ce,S,PP,BA,bc,bp,cp,bm,cm,x1.heap.size,n,x3.heap.size,1,IA,ic,.slice none 0 0⟩ ⟨gB,⟨_,w4,Nat.le_refl _,HF4.out,zz,mF⟩,⟨_,w4,Nat.le_refl _,HS.out,zz,mF⟩,⟨_,w6,sw4,HPl.out,z6,mP⟩,⟨W8.heap.size,w9,lE,hE,z9,mE⟩,⟨w9.heap.size,x0,lB,Rd.own (own_top o10 (Nat.le_refl _)),z0,mB⟩,⟨x2.heap.size,x3,lI,Rd.own (own_top oS (Nat.le_refl _)),z3,mI⟩,⟨A1,c1,A2,c2,lc1,lc2,(z4.block _ (lt_of_block gR)).trans gR,⟨x0.heap.size,x1,lS,Rd.own (own_top o1 (Nat.le_refl _)),z1,mS⟩,⟨x0.heap.size,x1,lS,Rd.own (own_top o2 (Nat.le_refl _)),z1,mS⟩⟩,own_base (own_below OP.out z8) (Nat.zero_le _),own_base (own_below OM.out z8) (Nat.zero_le _),own_base (own_below oG z2) (Nat.zero_le _),⟨l1,l2,l3,l4,l5⟩,⟨Hne.out,Nat.ne_of_lt l6,Nat.ne_of_lt l7⟩,rfl,rfl,bt Q4.out zz⟩
        go_wp2_with fail
        exact fin
    · obtain ⟨x2,hx2⟩:∃ x2,x1.alloc (.cells #[.slice A1 n c1,.slice A2 n c2] 68) = x2:=⟨_,rfl⟩
      have gR:x2.heap[x1.heap.size]? = some (.cells #[.slice A1 n c1,.slice A2 n c2] 68 (0,0)):=by rw [← hx2];exact heap_alloc_new x1 _
      have k2:Below x1.heap.size x1 x2:=by rw [← hx2];exact (br x1).alloc (Nat.le_refl _) _
      refine HAS.v x2 (.slice (some ⟨x1.heap.size,0,none⟩) 1 1) (bt q1 k2) ?_
      clear hx2
      have t27:x1.heap.size < x2.heap.size:=lt_of_block gR
      have q2:=bt q1 k2
      have s2:x1.heap.size ≤ x2.heap.size:=k2.size
      refine HA.two 24 30 ?_ ?_
      · obtain ⟨x3,hrun,oG,k3⟩:=run_mk et_vec x2 rfl n (by omega) (by unfold maxLen;omega)
        refine HAS.v x3 (.slice (some ⟨x2.heap.size,0,none⟩) n n) (bt q2 k3) ?_
        clear hrun
        rw [nums_rep] at oG
        have t24:x2.heap.size < x3.heap.size:=(own_addr oG _ rfl).2
        have q3:=bt q2 k3
        have s3:x2.heap.size ≤ x3.heap.size:=k3.size
        refine HA.c 30 (Hstp.out PP x3 ((HPl.out.agr (Agr.refl _ w6)).below (bt K8.out q3))) ?_
        rintro e x4 ⟨v,rfl,oS,k4⟩
        obtain ⟨IA,ic,rfl,_⟩:=own_form oS
        refine ⟨_,rfl,bt q3 k4,fun _ => ?_⟩
        have q4:=bt q3 k4
        have s4:x3.heap.size ≤ x4.heap.size:=k4.size
        refine HA.t ?_ [31] q4 ?_
        have gB:=heap_alloc_new x4 (Obj.cells #[.int .i64 (x:Nat),.int .i64 (wk:Nat),.int .i64 (mi:Nat),.pointer (some ⟨F,0,none⟩),.slice E N ce,.pointer (some ⟨S,0,none⟩),.pointer (some ⟨PP,0,none⟩),.slice BA (Pln.buks ⟨wk,mi,bu,ch,wi,n⟩).length bc,.int .i64 ra,.int .i64 mo,.int .i64 sh,.slice (some ⟨bp,0,none⟩) n cp,.slice (some ⟨bm,0,none⟩) n cm,.slice (some ⟨x2.heap.size,0,none⟩) n n,.slice (some ⟨x1.heap.size,0,none⟩) 1 1,.slice IA its.length ic,.int .i64 0,.int .i64 0,.slice none 0 0] 130)
        obtain ⟨x5,hx5⟩:∃ x5,x4.alloc (.cells #[.int .i64 (x:Nat),.int .i64 (wk:Nat),.int .i64 (mi:Nat),.pointer (some ⟨F,0,none⟩),.slice E N ce,.pointer (some ⟨S,0,none⟩),.pointer (some ⟨PP,0,none⟩),.slice BA (Pln.buks ⟨wk,mi,bu,ch,wi,n⟩).length bc,.int .i64 ra,.int .i64 mo,.int .i64 sh,.slice (some ⟨bp,0,none⟩) n cp,.slice (some ⟨bm,0,none⟩) n cm,.slice (some ⟨x2.heap.size,0,none⟩) n n,.slice (some ⟨x1.heap.size,0,none⟩) 1 1,.slice IA its.length ic,.int .i64 0,.int .i64 0,.slice none 0 0] 130) = x5:=⟨_,rfl⟩
        rw [hx5] at gB
        have k5:Below x4.heap.size x4 x5:=by rw [← hx5];exact (br x4).alloc (Nat.le_refl _) _
        refine HA.v 32 x5 (.pointer (some ⟨x4.heap.size,0,none⟩)) (bt q4 k5) ?_
        clear hx5
        refine HA.t ?_ [33] (bt q4 k5) ?_
        refine HA.d ?_
        try simp only [Exit.then]
        have z4:=k5;have z3:=bt k4 z4;have z2:=bt k3 z3;have z1:=bt k2 z2;have z0:=bt k1 z1;have z9:=bt k10 z0;have z8:=bt q4 k5;have z6:=bt K8.out z8;have zz:=bt K6.out z6
        have mF:∀ k ∈ [x4.heap.size,bp,bm,x2.heap.size,x1.heap.size],k < w.heap.size ∨ w4.heap.size ≤ k:=by apply ms5 <;> omega
        have mP:∀ k ∈ [x4.heap.size,bp,bm,x2.heap.size,x1.heap.size],k < w4.heap.size ∨ w6.heap.size ≤ k:=by apply ms5 <;> omega
        have mE:∀ k ∈ [x4.heap.size,bp,bm,x2.heap.size,x1.heap.size],k < W8.heap.size ∨ w9.heap.size ≤ k:=by apply ms5 <;> omega
        have mB:∀ k ∈ [x4.heap.size,bp,bm,x2.heap.size,x1.heap.size],k < w9.heap.size ∨ x0.heap.size ≤ k:=by apply ms5 <;> omega
        have mI:∀ k ∈ [x4.heap.size,bp,bm,x2.heap.size,x1.heap.size],k < x3.heap.size ∨ x4.heap.size ≤ k:=by apply ms5 <;> omega
        have mS:∀ k ∈ [x4.heap.size,bp,bm,x2.heap.size,x1.heap.size],k < x0.heap.size ∨ x1.heap.size ≤ k:=by apply ms5 <;> omega
        have lE:w.heap.size ≤ W8.heap.size:=by omega
        have lB:w.heap.size ≤ w9.heap.size:=by omega
        have lI:w.heap.size ≤ x3.heap.size:=by omega
        have lS:w.heap.size ≤ x0.heap.size:=by omega
        have l1:w.heap.size ≤ x4.heap.size:=by omega
        have l2:w.heap.size ≤ bp:=by omega
        have l3:w.heap.size ≤ bm:=by omega
        have l4:w.heap.size ≤ x2.heap.size:=by omega
        have l5:w.heap.size ≤ x1.heap.size:=by omega
        have l6:bp < x2.heap.size:=by omega
        have l7:bm < x2.heap.size:=by omega
        have fin:=Hend.out x5 x4.heap.size ⟨F,E,ce,S,PP,BA,bc,bp,cp,bm,cm,x2.heap.size,n,x1.heap.size,1,IA,ic,.slice none 0 0⟩ ⟨gB,⟨_,w4,Nat.le_refl _,HF4.out,zz,mF⟩,⟨_,w4,Nat.le_refl _,HS.out,zz,mF⟩,⟨_,w6,sw4,HPl.out,z6,mP⟩,⟨W8.heap.size,w9,lE,hE,z9,mE⟩,⟨w9.heap.size,x0,lB,Rd.own (own_top o10 (Nat.le_refl _)),z0,mB⟩,⟨x3.heap.size,x4,lI,Rd.own (own_top oS (Nat.le_refl _)),z4,mI⟩,⟨A1,c1,A2,c2,lc1,lc2,(z2.block _ (lt_of_block gR)).trans gR,⟨x0.heap.size,x1,lS,Rd.own (own_top o1 (Nat.le_refl _)),z1,mS⟩,⟨x0.heap.size,x1,lS,Rd.own (own_top o2 (Nat.le_refl _)),z1,mS⟩⟩,own_base (own_below OP.out z8) (Nat.zero_le _),own_base (own_below OM.out z8) (Nat.zero_le _),own_base (own_below oG z3) (Nat.zero_le _),⟨l1,l2,l3,l4,l5⟩,⟨Hne.out,Nat.ne_of_lt l6,Nat.ne_of_lt l7⟩,rfl,rfl,bt Q4.out zz⟩
        go_wp2_with fail
        exact fin
      · refine HAS.c (Hstp.out PP x2 ((HPl.out.agr (Agr.refl _ w6)).below (bt K8.out q2))) ?_
        rintro e x3 ⟨v,rfl,oS,k3⟩
        obtain ⟨IA,ic,rfl,_⟩:=own_form oS
        refine ⟨_,rfl,bt q2 k3,fun _ => ?_⟩
        have q3:=bt q2 k3
        have s3:x2.heap.size ≤ x3.heap.size:=k3.size
        obtain ⟨x4,hrun,oG,k4⟩:=run_mk et_vec x3 rfl n (by omega) (by unfold maxLen;omega)
        refine HA.v 24 x4 (.slice (some ⟨x3.heap.size,0,none⟩) n n) (bt q3 k4) ?_
        clear hrun
        rw [nums_rep] at oG
        have t24:x3.heap.size < x4.heap.size:=(own_addr oG _ rfl).2
        have q4:=bt q3 k4
        have s4:x3.heap.size ≤ x4.heap.size:=k4.size
        refine HA.t ?_ [31] q4 ?_
        have gB:=heap_alloc_new x4 (Obj.cells #[.int .i64 (x:Nat),.int .i64 (wk:Nat),.int .i64 (mi:Nat),.pointer (some ⟨F,0,none⟩),.slice E N ce,.pointer (some ⟨S,0,none⟩),.pointer (some ⟨PP,0,none⟩),.slice BA (Pln.buks ⟨wk,mi,bu,ch,wi,n⟩).length bc,.int .i64 ra,.int .i64 mo,.int .i64 sh,.slice (some ⟨bp,0,none⟩) n cp,.slice (some ⟨bm,0,none⟩) n cm,.slice (some ⟨x3.heap.size,0,none⟩) n n,.slice (some ⟨x1.heap.size,0,none⟩) 1 1,.slice IA its.length ic,.int .i64 0,.int .i64 0,.slice none 0 0] 130)
        obtain ⟨x5,hx5⟩:∃ x5,x4.alloc (.cells #[.int .i64 (x:Nat),.int .i64 (wk:Nat),.int .i64 (mi:Nat),.pointer (some ⟨F,0,none⟩),.slice E N ce,.pointer (some ⟨S,0,none⟩),.pointer (some ⟨PP,0,none⟩),.slice BA (Pln.buks ⟨wk,mi,bu,ch,wi,n⟩).length bc,.int .i64 ra,.int .i64 mo,.int .i64 sh,.slice (some ⟨bp,0,none⟩) n cp,.slice (some ⟨bm,0,none⟩) n cm,.slice (some ⟨x3.heap.size,0,none⟩) n n,.slice (some ⟨x1.heap.size,0,none⟩) 1 1,.slice IA its.length ic,.int .i64 0,.int .i64 0,.slice none 0 0] 130) = x5:=⟨_,rfl⟩
        rw [hx5] at gB
        have k5:Below x4.heap.size x4 x5:=by rw [← hx5];exact (br x4).alloc (Nat.le_refl _) _
        refine HA.v 32 x5 (.pointer (some ⟨x4.heap.size,0,none⟩)) (bt q4 k5) ?_
        clear hx5
        refine HA.t ?_ [33] (bt q4 k5) ?_
        refine HA.d ?_
        try simp only [Exit.then]
        have z4:=k5;have z3:=bt k4 z4;have z2:=bt k3 z3;have z1:=bt k2 z2;have z0:=bt k1 z1;have z9:=bt k10 z0;have z8:=bt q4 k5;have z6:=bt K8.out z8;have zz:=bt K6.out z6
        have mF:∀ k ∈ [x4.heap.size,bp,bm,x3.heap.size,x1.heap.size],k < w.heap.size ∨ w4.heap.size ≤ k:=by apply ms5 <;> omega
        have mP:∀ k ∈ [x4.heap.size,bp,bm,x3.heap.size,x1.heap.size],k < w4.heap.size ∨ w6.heap.size ≤ k:=by apply ms5 <;> omega
        have mE:∀ k ∈ [x4.heap.size,bp,bm,x3.heap.size,x1.heap.size],k < W8.heap.size ∨ w9.heap.size ≤ k:=by apply ms5 <;> omega
        have mB:∀ k ∈ [x4.heap.size,bp,bm,x3.heap.size,x1.heap.size],k < w9.heap.size ∨ x0.heap.size ≤ k:=by apply ms5 <;> omega
        have mI:∀ k ∈ [x4.heap.size,bp,bm,x3.heap.size,x1.heap.size],k < x2.heap.size ∨ x3.heap.size ≤ k:=by apply ms5 <;> omega
        have mS:∀ k ∈ [x4.heap.size,bp,bm,x3.heap.size,x1.heap.size],k < x0.heap.size ∨ x1.heap.size ≤ k:=by apply ms5 <;> omega
        have lE:w.heap.size ≤ W8.heap.size:=by omega
        have lB:w.heap.size ≤ w9.heap.size:=by omega
        have lI:w.heap.size ≤ x2.heap.size:=by omega
        have lS:w.heap.size ≤ x0.heap.size:=by omega
        have l1:w.heap.size ≤ x4.heap.size:=by omega
        have l2:w.heap.size ≤ bp:=by omega
        have l3:w.heap.size ≤ bm:=by omega
        have l4:w.heap.size ≤ x3.heap.size:=by omega
        have l5:w.heap.size ≤ x1.heap.size:=by omega
        have l6:bp < x3.heap.size:=by omega
        have l7:bm < x3.heap.size:=by omega
        have fin:=Hend.out x5 x4.heap.size ⟨F,E,ce,S,PP,BA,bc,bp,cp,bm,cm,x3.heap.size,n,x1.heap.size,1,IA,ic,.slice none 0 0⟩ ⟨gB,⟨_,w4,Nat.le_refl _,HF4.out,zz,mF⟩,⟨_,w4,Nat.le_refl _,HS.out,zz,mF⟩,⟨_,w6,sw4,HPl.out,z6,mP⟩,⟨W8.heap.size,w9,lE,hE,z9,mE⟩,⟨w9.heap.size,x0,lB,Rd.own (own_top o10 (Nat.le_refl _)),z0,mB⟩,⟨x2.heap.size,x3,lI,Rd.own (own_top oS (Nat.le_refl _)),z3,mI⟩,⟨A1,c1,A2,c2,lc1,lc2,(z2.block _ (lt_of_block gR)).trans gR,⟨x0.heap.size,x1,lS,Rd.own (own_top o1 (Nat.le_refl _)),z1,mS⟩,⟨x0.heap.size,x1,lS,Rd.own (own_top o2 (Nat.le_refl _)),z1,mS⟩⟩,own_base (own_below OP.out z8) (Nat.zero_le _),own_base (own_below OM.out z8) (Nat.zero_le _),own_base (own_below oG z4) (Nat.zero_le _),⟨l1,l2,l3,l4,l5⟩,⟨Hne.out,Nat.ne_of_lt l6,Nat.ne_of_lt l7⟩,rfl,rfl,bt Q4.out zz⟩
        go_wp2_with fail
        exact fin
    · refine HAS.c (Hstp.out PP x1 ((HPl.out.agr (Agr.refl _ w6)).below (bt K8.out q1))) ?_
      rintro e x2 ⟨v,rfl,oS,k2⟩
      obtain ⟨IA,ic,rfl,_⟩:=own_form oS
      refine ⟨_,rfl,bt q1 k2,fun _ => ?_⟩
      have q2:=bt q1 k2
      have s2:x1.heap.size ≤ x2.heap.size:=k2.size
      refine HA.two 24 27 ?_ ?_
      · obtain ⟨x3,hrun,oG,k3⟩:=run_mk et_vec x2 rfl n (by omega) (by unfold maxLen;omega)
        refine HAS.v x3 (.slice (some ⟨x2.heap.size,0,none⟩) n n) (bt q2 k3) ?_
        clear hrun
        rw [nums_rep] at oG
        have t24:x2.heap.size < x3.heap.size:=(own_addr oG _ rfl).2
        have q3:=bt q2 k3
        have s3:x2.heap.size ≤ x3.heap.size:=k3.size
        obtain ⟨x4,hx4⟩:∃ x4,x3.alloc (.cells #[.slice A1 n c1,.slice A2 n c2] 68) = x4:=⟨_,rfl⟩
        have gR:x4.heap[x3.heap.size]? = some (.cells #[.slice A1 n c1,.slice A2 n c2] 68 (0,0)):=by rw [← hx4];exact heap_alloc_new x3 _
        have k4:Below x3.heap.size x3 x4:=by rw [← hx4];exact (br x3).alloc (Nat.le_refl _) _
        refine HA.v 27 x4 (.slice (some ⟨x3.heap.size,0,none⟩) 1 1) (bt q3 k4) ?_
        clear hx4
        have t27:x3.heap.size < x4.heap.size:=lt_of_block gR
        have q4:=bt q3 k4
        have s4:x3.heap.size ≤ x4.heap.size:=k4.size
        refine HA.t ?_ [31] q4 ?_
        have gB:=heap_alloc_new x4 (Obj.cells #[.int .i64 (x:Nat),.int .i64 (wk:Nat),.int .i64 (mi:Nat),.pointer (some ⟨F,0,none⟩),.slice E N ce,.pointer (some ⟨S,0,none⟩),.pointer (some ⟨PP,0,none⟩),.slice BA (Pln.buks ⟨wk,mi,bu,ch,wi,n⟩).length bc,.int .i64 ra,.int .i64 mo,.int .i64 sh,.slice (some ⟨bp,0,none⟩) n cp,.slice (some ⟨bm,0,none⟩) n cm,.slice (some ⟨x2.heap.size,0,none⟩) n n,.slice (some ⟨x3.heap.size,0,none⟩) 1 1,.slice IA its.length ic,.int .i64 0,.int .i64 0,.slice none 0 0] 130)
        obtain ⟨x5,hx5⟩:∃ x5,x4.alloc (.cells #[.int .i64 (x:Nat),.int .i64 (wk:Nat),.int .i64 (mi:Nat),.pointer (some ⟨F,0,none⟩),.slice E N ce,.pointer (some ⟨S,0,none⟩),.pointer (some ⟨PP,0,none⟩),.slice BA (Pln.buks ⟨wk,mi,bu,ch,wi,n⟩).length bc,.int .i64 ra,.int .i64 mo,.int .i64 sh,.slice (some ⟨bp,0,none⟩) n cp,.slice (some ⟨bm,0,none⟩) n cm,.slice (some ⟨x2.heap.size,0,none⟩) n n,.slice (some ⟨x3.heap.size,0,none⟩) 1 1,.slice IA its.length ic,.int .i64 0,.int .i64 0,.slice none 0 0] 130) = x5:=⟨_,rfl⟩
        rw [hx5] at gB
        have k5:Below x4.heap.size x4 x5:=by rw [← hx5];exact (br x4).alloc (Nat.le_refl _) _
        refine HA.v 32 x5 (.pointer (some ⟨x4.heap.size,0,none⟩)) (bt q4 k5) ?_
        clear hx5
        refine HA.t ?_ [33] (bt q4 k5) ?_
        refine HA.d ?_
        try simp only [Exit.then]
        have z4:=k5;have z3:=bt k4 z4;have z2:=bt k3 z3;have z1:=bt k2 z2;have z0:=bt k1 z1;have z9:=bt k10 z0;have z8:=bt q4 k5;have z6:=bt K8.out z8;have zz:=bt K6.out z6
        have mF:∀ k ∈ [x4.heap.size,bp,bm,x2.heap.size,x3.heap.size],k < w.heap.size ∨ w4.heap.size ≤ k:=by apply ms5 <;> omega
        have mP:∀ k ∈ [x4.heap.size,bp,bm,x2.heap.size,x3.heap.size],k < w4.heap.size ∨ w6.heap.size ≤ k:=by apply ms5 <;> omega
        have mE:∀ k ∈ [x4.heap.size,bp,bm,x2.heap.size,x3.heap.size],k < W8.heap.size ∨ w9.heap.size ≤ k:=by apply ms5 <;> omega
        have mB:∀ k ∈ [x4.heap.size,bp,bm,x2.heap.size,x3.heap.size],k < w9.heap.size ∨ x0.heap.size ≤ k:=by apply ms5 <;> omega
        have mI:∀ k ∈ [x4.heap.size,bp,bm,x2.heap.size,x3.heap.size],k < x1.heap.size ∨ x2.heap.size ≤ k:=by apply ms5 <;> omega
        have mS:∀ k ∈ [x4.heap.size,bp,bm,x2.heap.size,x3.heap.size],k < x0.heap.size ∨ x1.heap.size ≤ k:=by apply ms5 <;> omega
        have lE:w.heap.size ≤ W8.heap.size:=by omega
        have lB:w.heap.size ≤ w9.heap.size:=by omega
        have lI:w.heap.size ≤ x1.heap.size:=by omega
        have lS:w.heap.size ≤ x0.heap.size:=by omega
        have l1:w.heap.size ≤ x4.heap.size:=by omega
        have l2:w.heap.size ≤ bp:=by omega
        have l3:w.heap.size ≤ bm:=by omega
        have l4:w.heap.size ≤ x2.heap.size:=by omega
        have l5:w.heap.size ≤ x3.heap.size:=by omega
        have l6:bp < x2.heap.size:=by omega
        have l7:bm < x2.heap.size:=by omega
        have fin:=Hend.out x5 x4.heap.size ⟨F,E,ce,S,PP,BA,bc,bp,cp,bm,cm,x2.heap.size,n,x3.heap.size,1,IA,ic,.slice none 0 0⟩ ⟨gB,⟨_,w4,Nat.le_refl _,HF4.out,zz,mF⟩,⟨_,w4,Nat.le_refl _,HS.out,zz,mF⟩,⟨_,w6,sw4,HPl.out,z6,mP⟩,⟨W8.heap.size,w9,lE,hE,z9,mE⟩,⟨w9.heap.size,x0,lB,Rd.own (own_top o10 (Nat.le_refl _)),z0,mB⟩,⟨x1.heap.size,x2,lI,Rd.own (own_top oS (Nat.le_refl _)),z2,mI⟩,⟨A1,c1,A2,c2,lc1,lc2,(z4.block _ (lt_of_block gR)).trans gR,⟨x0.heap.size,x1,lS,Rd.own (own_top o1 (Nat.le_refl _)),z1,mS⟩,⟨x0.heap.size,x1,lS,Rd.own (own_top o2 (Nat.le_refl _)),z1,mS⟩⟩,own_base (own_below OP.out z8) (Nat.zero_le _),own_base (own_below OM.out z8) (Nat.zero_le _),own_base (own_below oG z3) (Nat.zero_le _),⟨l1,l2,l3,l4,l5⟩,⟨Hne.out,Nat.ne_of_lt l6,Nat.ne_of_lt l7⟩,rfl,rfl,bt Q4.out zz⟩
        go_wp2_with fail
        exact fin
      · obtain ⟨x3,hx3⟩:∃ x3,x2.alloc (.cells #[.slice A1 n c1,.slice A2 n c2] 68) = x3:=⟨_,rfl⟩
        have gR:x3.heap[x2.heap.size]? = some (.cells #[.slice A1 n c1,.slice A2 n c2] 68 (0,0)):=by rw [← hx3];exact heap_alloc_new x2 _
        have k3:Below x2.heap.size x2 x3:=by rw [← hx3];exact (br x2).alloc (Nat.le_refl _) _
        refine HAS.v x3 (.slice (some ⟨x2.heap.size,0,none⟩) 1 1) (bt q2 k3) ?_
        clear hx3
        have t27:x2.heap.size < x3.heap.size:=lt_of_block gR
        have q3:=bt q2 k3
        have s3:x2.heap.size ≤ x3.heap.size:=k3.size
        obtain ⟨x4,hrun,oG,k4⟩:=run_mk et_vec x3 rfl n (by omega) (by unfold maxLen;omega)
        refine HA.v 24 x4 (.slice (some ⟨x3.heap.size,0,none⟩) n n) (bt q3 k4) ?_
        clear hrun
        rw [nums_rep] at oG
        have t24:x3.heap.size < x4.heap.size:=(own_addr oG _ rfl).2
        have q4:=bt q3 k4
        have s4:x3.heap.size ≤ x4.heap.size:=k4.size
        refine HA.t ?_ [31] q4 ?_
        have gB:=heap_alloc_new x4 (Obj.cells #[.int .i64 (x:Nat),.int .i64 (wk:Nat),.int .i64 (mi:Nat),.pointer (some ⟨F,0,none⟩),.slice E N ce,.pointer (some ⟨S,0,none⟩),.pointer (some ⟨PP,0,none⟩),.slice BA (Pln.buks ⟨wk,mi,bu,ch,wi,n⟩).length bc,.int .i64 ra,.int .i64 mo,.int .i64 sh,.slice (some ⟨bp,0,none⟩) n cp,.slice (some ⟨bm,0,none⟩) n cm,.slice (some ⟨x3.heap.size,0,none⟩) n n,.slice (some ⟨x2.heap.size,0,none⟩) 1 1,.slice IA its.length ic,.int .i64 0,.int .i64 0,.slice none 0 0] 130)
        obtain ⟨x5,hx5⟩:∃ x5,x4.alloc (.cells #[.int .i64 (x:Nat),.int .i64 (wk:Nat),.int .i64 (mi:Nat),.pointer (some ⟨F,0,none⟩),.slice E N ce,.pointer (some ⟨S,0,none⟩),.pointer (some ⟨PP,0,none⟩),.slice BA (Pln.buks ⟨wk,mi,bu,ch,wi,n⟩).length bc,.int .i64 ra,.int .i64 mo,.int .i64 sh,.slice (some ⟨bp,0,none⟩) n cp,.slice (some ⟨bm,0,none⟩) n cm,.slice (some ⟨x3.heap.size,0,none⟩) n n,.slice (some ⟨x2.heap.size,0,none⟩) 1 1,.slice IA its.length ic,.int .i64 0,.int .i64 0,.slice none 0 0] 130) = x5:=⟨_,rfl⟩
        rw [hx5] at gB
        have k5:Below x4.heap.size x4 x5:=by rw [← hx5];exact (br x4).alloc (Nat.le_refl _) _
        refine HA.v 32 x5 (.pointer (some ⟨x4.heap.size,0,none⟩)) (bt q4 k5) ?_
        clear hx5
        refine HA.t ?_ [33] (bt q4 k5) ?_
        refine HA.d ?_
        try simp only [Exit.then]
        have z4:=k5;have z3:=bt k4 z4;have z2:=bt k3 z3;have z1:=bt k2 z2;have z0:=bt k1 z1;have z9:=bt k10 z0;have z8:=bt q4 k5;have z6:=bt K8.out z8;have zz:=bt K6.out z6
        have mF:∀ k ∈ [x4.heap.size,bp,bm,x3.heap.size,x2.heap.size],k < w.heap.size ∨ w4.heap.size ≤ k:=by apply ms5 <;> omega
        have mP:∀ k ∈ [x4.heap.size,bp,bm,x3.heap.size,x2.heap.size],k < w4.heap.size ∨ w6.heap.size ≤ k:=by apply ms5 <;> omega
        have mE:∀ k ∈ [x4.heap.size,bp,bm,x3.heap.size,x2.heap.size],k < W8.heap.size ∨ w9.heap.size ≤ k:=by apply ms5 <;> omega
        have mB:∀ k ∈ [x4.heap.size,bp,bm,x3.heap.size,x2.heap.size],k < w9.heap.size ∨ x0.heap.size ≤ k:=by apply ms5 <;> omega
        have mI:∀ k ∈ [x4.heap.size,bp,bm,x3.heap.size,x2.heap.size],k < x1.heap.size ∨ x2.heap.size ≤ k:=by apply ms5 <;> omega
        have mS:∀ k ∈ [x4.heap.size,bp,bm,x3.heap.size,x2.heap.size],k < x0.heap.size ∨ x1.heap.size ≤ k:=by apply ms5 <;> omega
        have lE:w.heap.size ≤ W8.heap.size:=by omega
        have lB:w.heap.size ≤ w9.heap.size:=by omega
        have lI:w.heap.size ≤ x1.heap.size:=by omega
        have lS:w.heap.size ≤ x0.heap.size:=by omega
        have l1:w.heap.size ≤ x4.heap.size:=by omega
        have l2:w.heap.size ≤ bp:=by omega
        have l3:w.heap.size ≤ bm:=by omega
        have l4:w.heap.size ≤ x3.heap.size:=by omega
        have l5:w.heap.size ≤ x2.heap.size:=by omega
        have l6:bp < x3.heap.size:=by omega
        have l7:bm < x3.heap.size:=by omega
        have fin:=Hend.out x5 x4.heap.size ⟨F,E,ce,S,PP,BA,bc,bp,cp,bm,cm,x3.heap.size,n,x2.heap.size,1,IA,ic,.slice none 0 0⟩ ⟨gB,⟨_,w4,Nat.le_refl _,HF4.out,zz,mF⟩,⟨_,w4,Nat.le_refl _,HS.out,zz,mF⟩,⟨_,w6,sw4,HPl.out,z6,mP⟩,⟨W8.heap.size,w9,lE,hE,z9,mE⟩,⟨w9.heap.size,x0,lB,Rd.own (own_top o10 (Nat.le_refl _)),z0,mB⟩,⟨x1.heap.size,x2,lI,Rd.own (own_top oS (Nat.le_refl _)),z2,mI⟩,⟨A1,c1,A2,c2,lc1,lc2,(z3.block _ (lt_of_block gR)).trans gR,⟨x0.heap.size,x1,lS,Rd.own (own_top o1 (Nat.le_refl _)),z1,mS⟩,⟨x0.heap.size,x1,lS,Rd.own (own_top o2 (Nat.le_refl _)),z1,mS⟩⟩,own_base (own_below OP.out z8) (Nat.zero_le _),own_base (own_below OM.out z8) (Nat.zero_le _),own_base (own_below oG z4) (Nat.zero_le _),⟨l1,l2,l3,l4,l5⟩,⟨Hne.out,Nat.ne_of_lt l6,Nat.ne_of_lt l7⟩,rfl,rfl,bt Q4.out zz⟩
        go_wp2_with fail
        exact fin
  -- END
end Go.Proofs.YtaccfnffmbndhaaGreat
