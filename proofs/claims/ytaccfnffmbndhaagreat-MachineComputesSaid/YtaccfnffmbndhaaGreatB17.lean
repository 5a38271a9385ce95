/- The walk of sakiaref09.Trace. The walks of package draw: New, Left, Next. Slices of numbers that came in. The walks of package data: copies. No condition. -/
import Derived.Test.YtaccfnffmbndhaaGreatB04
import Derived.Test.YtaccfnffmbndhaaGreatB16
import Derived.Test.YtaccfnffmbndhaaGreatB15
import Derived.Test.YtaccfnffmbndhaaGreatB14
import Derived.Test.YtaccfnffmbndhaaGreatB05
import Derived.IntWalk
import Derived.Test.YtaccfnffmbndhaaGreatProg
import Derived.Test.YtaccfnffmbndhaaGreatB02
import Derived.Test.YtaccfnffmbndhaaGreatB03
set_option linter.unusedSimpArgs false
set_option linter.unusedVariables false
namespace Go.Proofs.YtaccfnffmbndhaaGreat
open Go.RowKit
theorem et_i64s:ElemT Tryz.prog 26 2 (.int .i64 0) 1 8:=⟨Tryz.underlying26,info_parts (by kernel_rfl),rfl,by decide⟩
theorem et_vvs:ElemT Tryz.prog 216 26 (.slice none 0 0) 1 24:=⟨Tryz.underlying216,info_parts (by kernel_rfl),rfl,by decide⟩
def RTraceI (sz ps:List Int) (q:Int) (x:List Int) (X:Option Addr) (cx n₀:Nat) (BX:Obj) (k:Nat) (v:Value) (w0 w:World):Prop:=
  ∃ A c vals,v = .slice A (k + 1) c ∧ w.ownsRow n₀ 26 1 (.slice A (k + 1) c) (k + 1) vals ∧ vals[0]? = some (.slice X (szN sz 0) cx) ∧
    (∀ j,1 ≤ j → j ≤ k → ∃ Aj cj,vals[j]? = some (.slice Aj (szN sz j) cj) ∧ w.ownsRow n₀ 2 1 (.slice Aj (szN sz j) cj) (szN sz j) (nums .i64 (valL sz ps q x j))) ∧ w.heap[n₀]? = some BX ∧ Below n₀ w0 w
set_option maxRecDepth 100000 in
set_option maxHeartbeats 2000000 in
theorem rtrace_any (As Ap X:Option Addr) (sz ps x:List Int) (cs cp cx:Nat) (q:Int) (w:World) (h:RNet w As Ap sz ps cs) (hX:Rd w X (nums .i64 x)) (hx:x.length = szN sz 0) (wx:W64 x) (hcx:x.length ≤ cx) :
    Calls Tryz.prog 156 #[.agg #[.slice As sz.length cs,.slice Ap ps.length cp,.int .i64 q],.slice X x.length cx] w fun e w' => ∃ A' c' vals,e = .returned (.slice A' sz.length c') ∧ Rd w' A' vals ∧ VecsAt w' vals sz.length (valL sz ps q x) ∧ sz.length ≤ c' ∧ Below w.heap.size w w':=by
  have hg:=h.hg
  have hl16:=hg.1.1
  have hsu:=fun k r V v cv w' (hb:Below w.heap.size w w') (hk:k + 1 < sz.length) (hr:r < szN sz (k + 1)) (hV:Rd w' V (nums .i64 v)) (hv:v.length = szN sz k) (wv:W64 v) => rsum_any As Ap sz ps cs cp k r q V v cv w' (h.below hb) hk hr hV hv wv
  have hla:=fun w' => rlast_any As Ap sz.length ps.length cs cp q w' (by omega)
  obtain ⟨b,o,rfl,p00⟩:=h.hA.num (show 0 < sz.length by omega)
  have hbl:b < w.heap.size:=lt_of_cell p00
  have hsz:=h.hA
  have wps:=h.wp
  obtain ⟨m,hm⟩:∃ m,ps.length = m:=⟨_,rfl⟩
  obtain ⟨n,hn⟩:∃ n,sz.length - 1 = n:=⟨_,rfl⟩
  obtain ⟨L,hL⟩:∃ L,sz.length = L:=⟨_,rfl⟩
  obtain ⟨x0,hx0⟩:∃ x0,x.length = x0:=⟨_,rfl⟩
  rw [hL] at hn
  rw [hL,hm] at hsu hla
  rw [hn] at hla
  rw [hL] at hl16 ⊢
  rw [hm,hx0]
  rw [hx0] at hcx
  have hLn:L = n + 1:=by omega
  have Hsu:=Lib.hid hsu;have Hla:=Lib.hid hla;have HG:=Lib.hid hg;have Hsz:=Lib.hid hsz;have WP:=Lib.hid wps;have HX:=Lib.hid hX;have Hx:=Lib.hid hx;have WX:=Lib.hid wx;have HL:=Lib.hid hL;have Hx0:=Lib.hid hx0;have HLn:=Lib.hid hLn;have Hn:=Lib.hid hn
  clear hsu hla hg hsz wps hX hx wx hL hx0 h p00 hm hLn hn
  go_enter Tryz.func156,Tryz.ntmps156
  go_wp2_with fail
  go_loopw [5,6] (fun v i wr => ∃ k:Nat,k ≤ n ∧ i = .int .i64 k ∧ RTraceI sz ps q x X cx w.heap.size (.cells #[.slice (some ⟨b,o,none⟩) L cs,.slice Ap m cp,.int .i64 q] 214 (0,0)) k v w wr) (fun _ i _ => n - (intOf i).toNat)
  case atStart =>
    refine ⟨0,Nat.zero_le _,rfl,some ⟨w.heap.size + 1,0,none⟩,1,[.slice X x0 cx],rfl,?_,?_,fun j h1 h2 => by omega,?_,?_⟩
    · have:=own_made1 (w.alloc (.cells #[.slice (some ⟨b,o,none⟩) L cs,.slice Ap m cp,.int .i64 q] 214)) 26 (.slice X x0 cx) w.heap.size (by simp)
      simpa using this
    · rw [← Hx.out,Hx0.out];rfl
    · exact (Below.heap_alloc _ _ _ (by simp)).trans (heap_alloc_new w _)
    · (focus (repeat' (first | (with_reducible exact Below.refl _ _) | (with_reducible assumption) | (with_reducible refine Below.setCell ?_ ?_ _) | (with_reducible refine Below.alloc ?_ ?_ _) | (with_reducible refine below_drewN ?_ _) | (with_reducible refine Below.drew ?_) | (with_reducible exact Nat.le_refl _) | omega | (simp;done) | (simp;omega))))
  case round =>
    obtain ⟨wq,rfl⟩:∃ wq:World,wq = wr:=⟨_,rfl⟩
    obtain ⟨k,hk,rfl,Ao,co,vals,rfl,ho,hv0,hv,hbx,hW⟩:=hrel
    obtain ⟨⟨y0,y1,y2⟩,yf⟩:=bx3 hbx
    have hbxl:=lt_of_block hbx
    have hz:=hW.size
    have Ho:=Lib.hid ho;have Hv0:=Lib.hid hv0;have Hv:=Lib.hid hv;have Hbx:=Lib.hid hbx;have HW:=Lib.hid hW
    clear ho hv0 hv hbx hW
    by_cases hlt:k < n
    · have hR:=HG.out.1
      have hk1:k + 1 < sz.length:=by have:=HLn.out;have:=HL.out;omega
      have z1:=hR.at hk1
      have hlb:=hR.1.2
      have p1:=(Hsz.out.num hk1)
      obtain ⟨_,_,e',p1⟩:=p1
      injection e' with e';injection e' with e1 e2 _;subst e1;subst e2
      have p1r:=(HW.out.cell (p:=⟨b,o + (k + 1),none⟩) hbl).trans p1
      rw [z1.2.2] at p1r
      obtain ⟨go,co',hvo,hgo,_⟩:=Ho.out.form (by omega)
      simp only [Value.slice.injEq] at hvo
      obtain ⟨rfl,hvx,rfl⟩:=hvo
      clear hvx
      have hcur:∃ Ak ck,vals[k]? = some (.slice Ak (szN sz k) ck) ∧ Rd wq Ak (nums .i64 (valL sz ps q x k)):=by
        rcases Nat.eq_zero_or_pos k with rfl | hpos
        · exact ⟨X,cx,Hv0.out,HX.out.below HW.out⟩
        · obtain ⟨Aj,cj,h1,h2⟩:=Hv.out k hpos (Nat.le_refl _)
          exact ⟨Aj,cj,h1,Rd.own h2⟩
      obtain ⟨Ak,ck,hvk,hrk⟩:=hcur
      obtain ⟨_,_,ek,pk⟩:=(Rd.own Ho.out) k _ hvk
      injection ek with ek;injection ek with i1 i2 _;subst i1;subst i2
      rw [Nat.zero_add] at pk
      have hvl:=valL_len (sz:=sz) (ps:=ps) (q:=q) Hx.out k
      have wvl:=valL_W64 (sz:=sz) (ps:=ps) (q:=q) WX.out k
      have hst:=fun r (hr:r < szN sz (k + 1)) => val_step (sz:=sz) (ps:=ps) (q:=q) (x:=x) (k:=k) (r:=r) WP.out Hx.out hr
      have hL2:=HL.out
      have hsk:=fun r (hr:r < szN sz (k + 1)) w' (hb:Below wq.heap.size wq w') => Hsu.out k r Ak (valL sz ps q x k) ck w' (HW.out.trans (hb.mono HW.out.size)) (by omega) hr (hrk.below hb) hvl wvl
      rw [hvl] at hsk hst
      rw [hL2] at hst
      rw [Hn.out] at hst
      obtain ⟨r1,hr1⟩:∃ r1,szN sz (k + 1) = r1:=⟨_,rfl⟩
      obtain ⟨c0,hc0⟩:∃ c0,szN sz k = c0:=⟨_,rfl⟩
      have hvn:=valL_len (sz:=sz) (ps:=ps) (q:=q) Hx.out (k + 1)
      rw [hr1] at hsk hst p1r z1 hvn
      rw [hc0] at hsk hst pk
      have Hsk:=Lib.hid hsk;have Hst:=Lib.hid hst;have Hr1:=Lib.hid hr1;have Hc0:=Lib.hid hc0;have Hvn:=Lib.hid hvn
      clear hsk hst hr1 hc0 hvk hrk hvl p1 hvn hL2
      have hkL:(k:Int) + 1 < L:=by have:=HLn.out;omega
      have hwk:IntKind.i64.wrap ((k:Int) + 1) = (k:Int) + 1:=IntWalk.i64_in _ (by omega)
      have Hwk:=Lib.hid hwk;clear hwk
      go_wp2_with fail
      refine (Hla.out wq).mono ?_
      rintro e w3 ⟨rfl,hb3⟩
      have y0:=cell_below hb3 y0
      have pk:=cell_below hb3 pk
      have hgo3:go < w3.heap.size:=lt_of_cell pk
      have hbx3:w.heap.size < w3.heap.size:=lt_of_cell y0
      have Hb3:=Lib.hid hb3;clear hb3
      go_wp2_with fail
      go_loopw [7,8] (fun v i wx => ∃ r:Nat,r ≤ r1 ∧ i = .int .i64 r ∧ wx.ownsRow w3.heap.size 2 1 v r (nums .i64 ((valL sz ps q x (k + 1)).take r)) ∧ Below w3.heap.size w3 wx) (fun _ i _ => r1 - (intOf i).toNat)
      case atStart => exact ⟨0,Nat.zero_le _,rfl,World.ownsRow_nil _ _ _ _,Below.refl _ _⟩
      case round =>
        obtain ⟨wo,rfl⟩:∃ wo:World,wo = wr:=⟨_,rfl⟩
        obtain ⟨r,hr,rfl,hown,hbx⟩:=hrel
        obtain ⟨Al,cl,rfl,hcl⟩:=own_form hown
        have hb3x:Below wq.heap.size wq wo:=Hb3.out.trans (hbx.mono Hb3.out.size)
        have x0:=(hbx.cell (p:=⟨w.heap.size,0,none⟩) hbx3).trans y0
        have x1:=(hb3x.cell (p:=⟨w.heap.size,1,none⟩) hbxl).trans y1
        have x2:=(hb3x.cell (p:=⟨w.heap.size,2,none⟩) hbxl).trans y2
        have p1x:=(hb3x.cell (p:=⟨b,o + (k + 1),none⟩) (show b < _ by omega)).trans p1r
        have pkx:=(hbx.cell (p:=⟨go,k,none⟩) hgo3).trans pk
        have hxl:w.heap.size < wo.heap.size:=lt_of_cell x0
        have hgox:go < wo.heap.size:=lt_of_cell pkx
        have hz3:w3.heap.size ≤ wo.heap.size:=hbx.size
        have Hown:=Lib.hid hown;have Hbx3:=Lib.hid hbx;have Hb3x:=Lib.hid hb3x;clear hown hbx hb3x hcl
        have hwk:=Hwk.out
        have hwk2:(0:Int) ≤ (k:Int) + 1:=by omega
        have hwk3:((k:Int) + 1).toNat = k + 1:=by omega
        by_cases hlr:r < r1
        · have hsk:=Hsk.out r hlr
          have Hsk2:=Lib.hid hsk;clear hsk
          go_wp2_with fail
          have hkk:k < k + 1:=Nat.lt_succ_self k
          have hkk2:(k:Int) < (k:Int) + 1:=by omega
          have hSw:(fun w':World => w'.cell? ⟨w.heap.size,0,none⟩ = some (.slice (some ⟨b,o,none⟩) L cs) ∧ w'.cell? ⟨w.heap.size,1,none⟩ = some (.slice Ap m cp) ∧ w'.cell? ⟨w.heap.size,2,none⟩ = some (.int .i64 q) ∧ w'.cell? ⟨go,k,none⟩ = some (.slice Ak c0 ck)) wo.drew:=⟨x0,x1,x2,pkx⟩
          refine HA.g (fun w':World => w'.cell? ⟨w.heap.size,0,none⟩ = some (.slice (some ⟨b,o,none⟩) L cs) ∧ w'.cell? ⟨w.heap.size,1,none⟩ = some (.slice Ap m cp) ∧ w'.cell? ⟨w.heap.size,2,none⟩ = some (.int .i64 q) ∧ w'.cell? ⟨go,k,none⟩ = some (.slice Ak c0 ck)) ?_
          refine HA.t ?_ [0,1,2,3,4,5,6] hSw ?_
          refine HA.o 7 (fun K hK => ?_)
          go_simp
          refine (Hsk2.out _ Hb3x.out.drew).mono ?_
          rintro e w5 ⟨rfl,hb5⟩
          have hS5:=And.intro (cell_below hb5 x0) (And.intro (cell_below hb5 x1) (And.intro (cell_below hb5 x2) (cell_below hb5 pkx)))
          have g0:=cell_below hb5 x0
          have hb35:=Hbx3.out.trans (((Below.refl wo.heap.size wo).drew.trans hb5).mono hz3)
          have hown5:=own_below Hown.out ((Below.refl wo.heap.size wo).drew.trans hb5)
          have hz5:=hb5.size
          simp only [World.size_drew] at hz5
          have Hb35:=Lib.hid hb35;have Hown5:=Lib.hid hown5;clear hb5 hb35 hown5 hSw hkk hkk2
          dsimp only
          refine hK.out _ _ hS5 (fun hSw => ?_)
          clear hK K hS5
          refine HA.t ?_ [8] hSw ?_
          refine HA.d ?_
          have g1:=hSw.2.1
          have g2:=hSw.2.2.1
          clear hSw
          go_wp2_with fail
          refine (Hla.out _).mono ?_
          rintro e w6 ⟨rfl,hb6⟩
          have hst:=Hst.out r hlr
          have hb36:=Hb35.out.trans (hb6.mono Hb35.out.size)
          have hown6:=own_below Hown5.out hb6
          have hz6:=hb6.size
          have h36:=hb36.size
          have Hb36:=Lib.hid hb36;have Hown6:=Lib.hid hown6;clear hb6 hb36 hown6 g0 g1 g2 x0 x1 x2
          have hln:r < (valL sz ps q x (k + 1)).length:=by rw [Hvn.out];exact hlr
          have htk:=take_succ_nth _ r hln
          have Htk:=Lib.hid htk;clear htk hln
          by_cases hlast:k + 1 < n
          · have hla2:((k:Int) + 1 < n):=by omega
            have hdec:decide ((k:Int) + 1 < n) = true:=decide_eq_true (by omega)
            rw [if_pos hlast] at hst
            have Hst2:=Lib.hid hst;clear hst hlast
            go_wp2_with fail
            refine (rgate_any _ _ _).mono ?_
            rintro e w7 ⟨rfl,rfl⟩
            rw [← Hst2.out]
            go_wp2_with (at_builtin;refine wpList_push et_i64s w6 rfl (.tmp 44) (.tmp 46) rfl w3.heap.size (.slice Al r cl) r _ rfl Hown6.out [.int .i64 (nth (valL sz ps q x (k + 1)) r)] rfl rfl (by simp [Value.oneCell']) (by omega) (by unfold maxLen;omega) (by omega) ?_)
            intro g7 c7 w7 ho7 hb7 hg7
            have hB7:=Hb36.out.trans hb7
            have HO7:=Lib.hid ho7;have HB7:=Lib.hid hB7;clear ho7 hb7 hg7 hB7
            go_wp2_with fail
            go_roundw
            case rel => exact ⟨r + 1,by omega,by go_num,by rw [Htk.out,nums_append];exact HO7.out,HB7.out⟩
            case measure => simp [intOf];omega
          · have hla2:¬ ((k:Int) + 1 < n):=by omega
            have hdec:decide ((k:Int) + 1 < n) = false:=decide_eq_false (by omega)
            rw [if_neg hlast] at hst
            have Hst2:=Lib.hid hst;clear hst hlast
            go_wp2_with (at_builtin;refine wpList_push et_i64s w6 rfl (.tmp 44) (.tmp 46) rfl w3.heap.size (.slice Al r cl) r _ rfl Hown6.out [.int .i64 (sumN sz ps q k r (valL sz ps q x k) c0)] rfl rfl (by simp [Value.oneCell']) (by omega) (by unfold maxLen;omega) (by omega) ?_)
            rw [← Hst2.out]
            intro g7 c7 w7 ho7 hb7 hg7
            have hB7:=Hb36.out.trans hb7
            have HO7:=Lib.hid ho7;have HB7:=Lib.hid hB7;clear ho7 hb7 hg7 hB7
            go_wp2_with fail
            go_roundw
            case rel => exact ⟨r + 1,by omega,by go_num,by rw [Htk.out,nums_append];exact HO7.out,HB7.out⟩
            case measure => simp [intOf];omega
        · obtain rfl:r = r1:=by omega
          have hoo:=own_below Ho.out Hb3x.out
          have Hoo:=Lib.hid hoo;clear hoo
          go_wp2_with (at_builtin;refine wpList_push et_vvs wo rfl (.tmp 48) (.tmp 50) rfl w.heap.size (.slice (some ⟨go,0,none⟩) (k + 1) co) (k + 1) vals rfl Hoo.out [.slice Al r cl] rfl rfl (by simp [Value.oneCell']) (by omega) (by unfold maxLen;omega) (by omega) ?_)
          intro g7 c7 w7 ho7 hb7 hg7
          have hvl:=Ho.out.1
          have hkeep:∀ {mm:Nat} {u:Value} {ys:List Value} {b0:Nat},wo.ownsRow b0 2 1 u mm ys → w7.ownsRow b0 2 1 u mm ys:=fun h => h.kept hg7 (by
            rename_i u _ _
            cases hu:u.ownBlock with
            | none => exact .inl rfl
            | some i => exact .inr fun e9 => own_types Hoo.out h (by decide) i e9.symm hu)
          have hbx7:=(hg7.block _ hxl (block_notrow ((Hb3x.out.block _ hbxl).trans Hbx.out) (by decide) Hoo.out)).trans ((Hb3x.out.block _ hbxl).trans Hbx.out)
          have hB7:=(HW.out.trans (Hb3x.out.mono HW.out.size)).trans hb7
          have HO7:=Lib.hid ho7;have HB7:=Lib.hid hB7;have HX7:=Lib.hid hbx7;clear ho7 hb7 hg7 hB7 hbx7
          go_wp2_with fail
          go_roundw
          case rel =>
            refine ⟨k + 1,by omega,by go_num,some ⟨g7,0,none⟩,c7,vals ++ [.slice Al r cl],rfl,HO7.out,?_,fun j h1 h2 => ?_,HX7.out,HB7.out⟩
            · rw [List.getElem?_append_left (by omega)];exact Hv0.out
            · rcases Nat.lt_or_ge j (k + 1) with hjk | hjk
              · obtain ⟨Aj,cj,e1,e2⟩:=Hv.out j h1 (by omega)
                exact ⟨Aj,cj,by rw [List.getElem?_append_left (by omega)];exact e1,hkeep (own_below e2 Hb3x.out)⟩
              · obtain rfl:j = k + 1:=by omega
                refine ⟨Al,cl,?_,?_⟩
                · rw [List.getElem?_append_right (by omega),Hr1.out]
                  simp [show vals.length = k + 1 by omega]
                · have:=hkeep Hown.out
                  rw [List.take_of_length_le (by rw [Hvn.out];exact Nat.le_refl _)] at this
                  rw [Hr1.out]
                  exact own_base this (by have:=Hb3.out.size;omega)
          case measure => simp [intOf];omega
    · obtain rfl:k = n:=by omega
      have hLk:=HLn.out
      have hva:VecsAt wq vals sz.length (valL sz ps q x):=by
        refine ⟨?_,fun j hj => ?_⟩
        · have:=Ho.out.1;have:=HL.out;omega
        · have hvl:=valL_len (sz:=sz) (ps:=ps) (q:=q) Hx.out j
          rcases Nat.eq_zero_or_pos j with rfl | hpos
          · refine ⟨X,cx,?_,?_,HX.out.below HW.out⟩
            · rw [hvl];exact Hv0.out
            · show x.length ≤ cx
              rw [Hx0.out];exact hcx
          · obtain ⟨Aj,cj,h1,h2⟩:=Hv.out j hpos (by have:=HL.out;omega)
            obtain ⟨A',c',e,hc⟩:=own_form h2
            injection e with e1 e2 e3
            subst e1;subst e3
            rw [hvl]
            exact ⟨_,_,h1,hc,Rd.own h2⟩
      have hcc:L ≤ co:=by
        obtain ⟨A',c',e,hc⟩:=own_form Ho.out
        injection e with e1 e2 e3
        omega
      have hro:=Rd.own Ho.out
      have Hro:=Lib.hid hro;have Hva:=Lib.hid hva;have Hcc:=Lib.hid hcc;have HLk:=Lib.hid hLk;clear hro hva hcc hLk
      go_wp2_with fail
      refine (Hla.out wq).mono ?_
      rintro e w3 ⟨rfl,hb3⟩
      have Hb3:=Lib.hid hb3;clear hb3
      go_wp2_with fail
      go_ret
      refine ⟨Ao,co,vals,by rw [HLk.out];rfl,Hro.out.below Hb3.out,?_,Hcc.out,HW.out.trans (Hb3.out.mono HW.out.size)⟩
      have:=Hva.out.below Hb3.out
      rwa [HL.out] at this
end Go.Proofs.YtaccfnffmbndhaaGreat
namespace Go.Proofs.YtaccfnffmbndhaaGreat
open Go.RowKit
theorem et_u64s:ElemT Tryz.prog 27 231 (.int .u64 0) 1 8:=⟨Tryz.underlying27,info_parts (by kernel_rfl),rfl,by decide⟩
theorem uclone_any (A:Option Addr) (zs:List Int) (c:Nat) (w:World) (hA:Rd w A (nums .u64 zs)) (hl:zs.length ≤ 17592186043904) :
    Calls Tryz.prog 138 #[.slice A zs.length c] w fun e w' => ∃ v,e = .returned v ∧ w'.ownsRow w.heap.size 231 1 v zs.length (nums .u64 zs) ∧ Below w.heap.size w w':=by
  have q:=fun (w:World) => Lib.run_eql_slice_nil (P:=Tryz.prog) w 27 231 A zs.length c 0 0 Tryz.underlying27
  cases A with
  | none =>
    have hz:zs = []:=by
      cases zs with
      | nil => rfl
      | cons z l => obtain ⟨b,o,h,_⟩:=hA 0 _ rfl;cases h
    subst hz
    clear q
    have q:=fun (w:World) => Lib.run_eql_slice_nil (P:=Tryz.prog) w 27 231 none 0 c 0 0 Tryz.underlying27
    simp only [Option.isNone_none] at q
    rw [List.length_nil]
    go_enter Tryz.func138,Tryz.ntmps138
    go_wp2
    go_ret
    exact ⟨_,rfl,World.ownsRow_nil _ _ _ _,Below.refl _ _⟩
  | some a =>
    go_enter Tryz.func138,Tryz.ntmps138
    go_wp2_with (at_builtin;refine wpList_app et_u64s _ rfl (.tmp 5) (.tmp 6) rfl w.heap.size _ 0 [] rfl (own_empty w 231 1) _ zs.length c (nums .u64 zs) rfl (hA.alloc _) (by rw [nums_length];omega) (nums_cell _ _) (by omega) (by unfold maxLen;omega) (by simp) ?_)
    intro A' c' w1 hown hb _ _
    have hb1:=((Below.refl _ w).alloc (Nat.le_refl _) (.cells #[] 231)).trans hb
    have Hown:=Lib.hid hown;have Hb1:=Lib.hid hb1;clear hown hb hb1
    go_wp2
    go_ret
    exact ⟨_,rfl,Hown.out,Hb1.out⟩
def U64 (l:List Int):Prop:=∀ k,k < l.length → 0 ≤ nth l k ∧ nth l k ≤ 18446744073709551615
theorem Keep.below2 {S:Nat → Prop} {w w1 w2:World} (h:Keep S w w1) (hb:Below w.heap.size w1 w2):Keep S w w2:=
  ⟨hb.os.trans h.os,hb.tape.trans h.tape,hb.output.trans h.output,Nat.le_trans h.size hb.size,fun k hk hn => (hb.block k hk).trans (h.block k hk hn)⟩
structure StreamAt (w:World) (b:Nat) (A:Option Addr) (c:Nat) (l:List Int) (i:Nat):Prop where
  blk:w.heap[b]? = some (.cells #[.slice A l.length c,.int .i64 (i:Int)] 235 (0,0))
  rd:Rd w A (nums .u64 l)
  ne:∀ a,A = some a → a.block ≠ b
theorem StreamAt.lt {w:World} {b c i:Nat} {A:Option Addr} {l:List Int} (h:StreamAt w b A c l i):b < w.heap.size:=lt_of_block h.blk
theorem StreamAt.below {w w':World} {b c i:Nat} {A:Option Addr} {l:List Int} (h:StreamAt w b A c l i) (hb:Below w.heap.size w w'):StreamAt w' b A c l i:=
  ⟨(hb.block b h.lt).trans h.blk,h.rd.below hb,h.ne⟩
theorem StreamAt.drewN {w:World} {b c i:Nat} {A:Option Addr} {l:List Int} (h:StreamAt w b A c l i) (n:Nat):StreamAt (w.drewN n) b A c l i:=⟨h.blk,h.rd.drewN n,h.ne⟩
theorem dnew_any (A:Option Addr) (l:List Int) (c:Nat) (w:World) (hA:Rd w A (nums .u64 l)) (hl:l.length ≤ 17592186043904) :
    Calls Tryz.prog 95 #[.slice A l.length c] w fun e w' => ∃ b A' c',e = .returned (.pointer (some ⟨b,0,none⟩)) ∧ StreamAt w' b A' c' l 0 ∧ (∀ a,A' = some a → w.heap.size ≤ a.block) ∧ w.heap.size ≤ b ∧ Below w.heap.size w w':=by
  have hc:=uclone_any A l c w hA hl
  have Hc:=Lib.hid hc;clear hc hA
  go_enter Tryz.func95,Tryz.ntmps95
  go_wp2_with fail
  refine Hc.out.mono ?_
  rintro e w1 ⟨v,rfl,ho,hb⟩
  obtain ⟨A',c',rfl,_⟩:=own_form ho
  have hlt:=ho.lt
  have Ho:=Lib.hid ho;have Hb:=Lib.hid hb;have Hlt:=Lib.hid hlt;clear ho hb hlt
  go_wp2
  go_ret
  have hA':∀ a,A' = some a → w.heap.size ≤ a.block ∧ a.block < w1.heap.size:=fun a ha => by
    subst ha
    rcases Ho.out.2 with ⟨hn,_⟩ | ⟨g,cap,cur,hv,_⟩
    · cases hn
    · simp only [Value.slice.injEq,Option.some.injEq] at hv
      obtain ⟨rfl,_,_⟩:=hv
      exact Hlt.out g rfl
  exact ⟨_,A',c',rfl,⟨heap_alloc_new w1 _,(Rd.own Ho.out).alloc _,fun a ha hab => by have:=(hA' a ha).2;omega⟩,fun a ha => (hA' a ha).1,Hb.out.size,Hb.out.alloc Hb.out.size _⟩
theorem stream_left (b c i:Nat) (A:Option Addr) (l:List Int) (w:World) (h:StreamAt w b A c l i) (hi:i ≤ l.length) (hl:l.length ≤ 17592186043904) :
    Calls Tryz.prog 164 #[.pointer (some ⟨b,0,none⟩)] w fun e w' => e = .returned (.int .i64 ((l.length - i:Nat):Int)) ∧ ∃ d,w' = w.drewN d:=by
  obtain ⟨h1,h2,h3⟩:=h
  obtain ⟨n,hn⟩:∃ n,l.length = n:=⟨_,rfl⟩
  rw [hn] at h1 hi hl ⊢
  obtain ⟨⟨x0,x1⟩,xf⟩:=bx2 h1
  have hb:=lt_of_block h1
  clear h1 h2 h3 hn
  go_enter Tryz.func164,Tryz.ntmps164
  go_wp2_with fail
  go_quiet (fail)
  go_wp2_with fail
  go_ret
  exact ⟨ret_int (by omega),_,rfl⟩
theorem stream_next (b c i m:Nat) (A:Option Addr) (l:List Int) (w:World) (h:StreamAt w b A c l i) (hi:i < l.length) (hl:l.length ≤ 17592186043904) (hu:U64 l) (hm:1 ≤ m) (hm2:m ≤ 1048576) :
    Calls Tryz.prog 166 #[.pointer (some ⟨b,0,none⟩),.int .i64 m] w fun e w' => e = .returned (.tuple #[.int .i64 (nth l i % m),.bool true]) ∧ StreamAt w' b A c l (i + 1) ∧ Keep (fun j => j = b) w w':=by
  have hle:=stream_left b c i A l w h (by omega) hl
  obtain ⟨h1,h2,h3⟩:=h
  obtain ⟨bA,oA,rfl,p⟩:=h2.num hi
  obtain ⟨x,hx⟩:∃ x,nth l i = x:=⟨_,rfl⟩
  have hxb:=hu i hi
  rw [hx] at p hxb ⊢
  obtain ⟨n,hn⟩:∃ n,l.length = n:=⟨_,rfl⟩
  have H1:=Lib.hid h1;have H2:=Lib.hid h2;have H3:=Lib.hid h3;have Hn:=Lib.hid hn
  rw [hn] at h1 hi hl hle
  obtain ⟨⟨x0,x1⟩,xf⟩:=bx2 h1
  have hb:=lt_of_block h1
  have Hle:=Lib.hid hle;clear h1 h2 h3 hn hx hle hu
  have hq1:(((n - i:Nat):Int) == 0) = false:=by rw [beq_eq_false_iff_ne];omega
  have hq2:¬ ((m:Int) < 1):=by omega
  have hii:(i:Int) < n:=by omega
  have hw:wrap64 (x % (m:Int)) = x % (m:Int):=by
    have h1:=Int.emod_nonneg x (show (m:Int) ≠ 0 by omega)
    have h2:=Int.emod_lt_of_pos x (show (0:Int) < (m:Int) by omega)
    generalize x % (m:Int) = y at h1 h2 ⊢
    unfold wrap64;omega
  have Hw:=Lib.hid hw;clear hw
  go_enter Tryz.func166,Tryz.ntmps166
  go_wp2_with fail
  refine Hle.out.mono ?_
  rintro e w' ⟨rfl,d,rfl⟩
  go_wp2_with fail
  go_quiet (fail)
  go_wp2_with fail
  go_ret2
  have hK:Keep (fun j => j = b) w ((w.drewN (d + nq)).setCell ⟨b,1,none⟩ (.int .i64 ((i:Int) + 1))):=Keep.setCell (S:=fun j => j = b) ((Keep.refl _ w).drewN _) ⟨b,1,none⟩ (.inr rfl) _
  refine ⟨by rw [Hw.out];rfl,⟨?_,hK.rd H2.out (fun a ha => H3.out a ha),H3.out⟩,hK⟩
  have:=heap_setCell_same (w.drewN (d + nq)) b 1 _ _ (.int .i64 ((i:Int) + 1)) H1.out
  simpa using this
end Go.Proofs.YtaccfnffmbndhaaGreat
namespace Go.Proofs.YtaccfnffmbndhaaGreat
open Go.RowKit Go.ChangeShapes Go.WideShapes Go.ChangeAt
theorem opens_i:Opens Tryz.prog 3 1 (rInt .i64):=opens_int Tryz.underlying3 (by kernel_rfl)
theorem opens_i64s:Opens Tryz.prog 26 1 (rNums .i64):=opens_nums Tryz.underlying26 Tryz.underlying2 (by kernel_rfl) (by kernel_rfl) (by kernel_rfl)
theorem opens_ints:Opens Tryz.prog 22 1 (rNums .i64):=opens_nums Tryz.underlying22 Tryz.underlying3 (by kernel_rfl) (by kernel_rfl) (by kernel_rfl)
set_option maxRecDepth 100000 in
theorem wf_W64 {l:List Int} (h:∀ z ∈ l,(Lit.int .i64 z).wf = true):W64 l:=fun k hk => by
  have:=h _ (nth_mem hk)
  simpa [Lit.wf,IntKind.min,IntKind.max,IntKind.signed,IntKind.bits] using this
end Go.Proofs.YtaccfnffmbndhaaGreat
namespace Go.Proofs.YtaccfnffmbndhaaGreat
open Go.RowKit
theorem et_exs:ElemT Tryz.prog 25 107 (.agg #[.slice none 0 0,.slice none 0 0]) 2 48:=⟨Tryz.underlying25,info_parts (by kernel_rfl),rfl,by decide⟩
abbrev Ex:=List Int × List Int
structure NumsRd (w:World) (A:Option Addr) (l:List Int) (c:Nat):Prop where
  hc:l.length ≤ c
  hl:l.length ≤ 17592186043904
  hr:Rd w A (nums .i64 l)
  hw:W64 l
theorem NumsRd.below {w w':World} {A:Option Addr} {l:List Int} {c:Nat} (h:NumsRd w A l c) (hb:Below w.heap.size w w'):NumsRd w' A l c:=⟨h.hc,h.hl,h.hr.below hb,h.hw⟩
def rEx:Reader Ex:=fun w cs e => ∃ A c B d,cs = [.slice A e.1.length c,.slice B e.2.length d] ∧ NumsRd w A e.1 c ∧ NumsRd w B e.2 d
theorem stays_ex:Stays rEx:=fun hb ⟨A,c,B,d,h1,h2,h3⟩ => ⟨A,c,B,d,h1,h2.below hb,h3.below hb⟩
def ExOwn (w:World) (base:Nat) (cs:List Value) (e:Ex):Prop:=∃ u v,cs = [u,v] ∧ w.ownsRow base 2 1 u e.1.length (nums .i64 e.1) ∧ w.ownsRow base 2 1 v e.2.length (nums .i64 e.2) ∧
  e.1.length ≤ 17592186043904 ∧ e.2.length ≤ 17592186043904 ∧ W64 e.1 ∧ W64 e.2
theorem ExOwn.rd {w:World} {base:Nat} {cs:List Value} {e:Ex} (h:ExOwn w base cs e):rEx w cs e:=by
  obtain ⟨u,v,rfl,h1,h2,h3,h4,h5,h6⟩:=h
  obtain ⟨A,c,rfl,hc⟩:=own_form h1
  obtain ⟨B,d,rfl,hd⟩:=own_form h2
  exact ⟨A,c,B,d,rfl,⟨hc,h3,Rd.own h1,h5⟩,⟨hd,h4,Rd.own h2,h6⟩⟩
theorem ExOwn.below {w w':World} {base:Nat} {cs:List Value} {e:Ex} (h:ExOwn w base cs e) (hb:Below w.heap.size w w'):ExOwn w' base cs e:=by
  obtain ⟨u,v,rfl,h1,h2,h3⟩:=h
  exact ⟨u,v,rfl,own_below h1 hb,own_below h2 hb,h3⟩
theorem ExOwn.base {w:World} {base base':Nat} {cs:List Value} {e:Ex} (h:ExOwn w base cs e) (hb:base' ≤ base):ExOwn w base' cs e:=by
  obtain ⟨u,v,rfl,h1,h2,h3⟩:=h
  exact ⟨u,v,rfl,own_base h1 hb,own_base h2 hb,h3⟩
theorem own_pushed {W W':World} {e' e size' size n m:Nat} {v u:Value} {xs ys:List Value} {base base':Nat} (hu:W.ownsRow base' e' size' u m ys) (hv:W.ownsRow base e size v n xs) (hg:W.grownBy W' v.ownBlock) (h1:e ≠ e'):W'.ownsRow base' e' size' u m ys:=by
  refine hu.kept hg ?_
  cases hub:u.ownBlock with
  | none => exact .inl rfl
  | some k => exact .inr fun e9 => own_types hv hu h1 k e9.symm hub
theorem ExOwn.pushed {W W':World} {e size n:Nat} {v:Value} {xs:List Value} {base base':Nat} {cs:List Value} {x:Ex} (h:ExOwn W base' cs x) (hv:W.ownsRow base e size v n xs) (hg:W.grownBy W' v.ownBlock) (h1:e ≠ 2):ExOwn W' base' cs x:=by
  obtain ⟨u,v',rfl,k1,k2,k3⟩:=h
  exact ⟨u,v',rfl,own_pushed k1 hv hg h1,own_pushed k2 hv hg h1,k3⟩
theorem lclone_any (A:Option Addr) (zs:List Int) (c:Nat) (w:World) (hA:Rd w A (nums .i64 zs)) (hl:zs.length ≤ 17592186043904) :
    Calls Tryz.prog 129 #[.slice A zs.length c] w fun e w' => ∃ v,e = .returned v ∧ w'.ownsRow w.heap.size 2 1 v zs.length (nums .i64 zs) ∧ Below w.heap.size w w':=by
  have q:=fun (w:World) => Lib.run_eql_slice_nil (P:=Tryz.prog) w 26 2 A zs.length c 0 0 Tryz.underlying26
  cases A with
  | none =>
    have hz:zs = []:=by
      cases zs with
      | nil => rfl
      | cons z l => obtain ⟨b,o,h,_⟩:=hA 0 _ rfl;cases h
    subst hz
    clear q
    have q:=fun (w:World) => Lib.run_eql_slice_nil (P:=Tryz.prog) w 26 2 none 0 c 0 0 Tryz.underlying26
    simp only [Option.isNone_none] at q
    rw [List.length_nil]
    go_enter Tryz.func129,Tryz.ntmps129
    go_wp2
    go_ret
    exact ⟨_,rfl,World.ownsRow_nil _ _ _ _,Below.refl _ _⟩
  | some a =>
    go_enter Tryz.func129,Tryz.ntmps129
    go_wp2_with (at_builtin;refine wpList_app et_i64s _ rfl (.tmp 5) (.tmp 6) rfl w.heap.size _ 0 [] rfl (own_empty w 2 1) _ zs.length c (nums .i64 zs) rfl (hA.alloc _) (by rw [nums_length];omega) (nums_cell _ _) (by omega) (by unfold maxLen;omega) (by simp) ?_)
    intro A' c' w1 hown hb _ _
    have hb1:=((Below.refl _ w).alloc (Nat.le_refl _) (.cells #[] 2)).trans hb
    have Hown:=Lib.hid hown;have Hb1:=Lib.hid hb1;clear hown hb hb1
    go_wp2
    go_ret
    exact ⟨_,rfl,Hown.out,Hb1.out⟩
set_option maxRecDepth 100000 in
set_option maxHeartbeats 1000000 in
theorem copied_any (cs:List Value) (x:Ex) (w:World) (h:rEx w cs x) :
    Calls Tryz.prog 104 #[.agg cs.toArray] w fun e w' => ∃ us:List Value,e = .returned (.agg us.toArray) ∧ ExOwn w' w.heap.size us x ∧ Below w.heap.size w w':=by
  obtain ⟨A,c,B,d,rfl,h1,h2⟩:=h
  obtain ⟨x,y⟩:=x
  dsimp only at h1 h2 ⊢
  have hcx:=fun w' (k:Below w.heap.size w w') => lclone_any A x c w' (h1.hr.below k) h1.hl
  have hcy:=fun w' (k:Below w.heap.size w w') => lclone_any B y d w' (h2.hr.below k) h2.hl
  have H1:=Lib.hid h1;have H2:=Lib.hid h2
  obtain ⟨n,hn⟩:∃ n,x.length = n:=⟨_,rfl⟩
  obtain ⟨m,hm⟩:∃ m,y.length = m:=⟨_,rfl⟩
  rw [hn] at hcx ⊢
  rw [hm] at hcy ⊢
  have Hcx:=Lib.hid hcx;have Hcy:=Lib.hid hcy;have Hn:=Lib.hid hn;have Hm:=Lib.hid hm
  clear hcx hcy hn hm h1 h2
  go_enter Tryz.func104,Tryz.ntmps104
  go_wp2_with fail
  have hz:=heap_alloc_new (w.alloc (.cells #[.slice A n c,.slice B m d] 107)) (.cells #[.slice none 0 0,.slice none 0 0] 107)
  rw [show (w.alloc (.cells #[.slice A n c,.slice B m d] 107)).heap.size = w.heap.size + 1 by simp] at hz
  have hy:=(Below.heap_alloc (w.alloc (.cells #[.slice A n c,.slice B m d] 107)) (.cells #[.slice none 0 0,.slice none 0 0] 107) w.heap.size (by simp)).trans (heap_alloc_new w _)
  have hB0:Below w.heap.size w ((w.alloc (.cells #[.slice A n c,.slice B m d] 107)).alloc (.cells #[.slice none 0 0,.slice none 0 0] 107)):=((Below.refl _ w).alloc (Nat.le_refl _) _).alloc (by simp) _
  have hs0:((w.alloc (.cells #[.slice A n c,.slice B m d] 107)).alloc (.cells #[.slice none 0 0,.slice none 0 0] 107)).heap.size = w.heap.size + 2:=by simp
  obtain ⟨W0,hW0⟩:∃ W0,W0 = (w.alloc (.cells #[.slice A n c,.slice B m d] 107)).alloc (.cells #[.slice none 0 0,.slice none 0 0] 107):=⟨_,rfl⟩
  rw [← hW0] at hz hy hB0 hs0 ⊢
  obtain ⟨⟨y0,y1⟩,yf⟩:=bx2 hy
  have Hz:=Lib.hid hz;have HB0:=Lib.hid hB0;have Hs0:=Lib.hid hs0
  clear hz hy hB0 hs0 hW0
  have hSw:(fun w':World => w'.cell? ⟨w.heap.size,0,none⟩ = some (.slice A n c) ∧ w'.cell? ⟨w.heap.size,1,none⟩ = some (.slice B m d)) W0.drew:=⟨y0,y1⟩
  refine XA.g 7 (fun w':World => w'.cell? ⟨w.heap.size,0,none⟩ = some (.slice A n c) ∧ w'.cell? ⟨w.heap.size,1,none⟩ = some (.slice B m d)) ?_
  refine XA.t ?_ [0,1,3,4] hSw ?_
  refine XA.o 2 (fun K hK => ?_)
  go_simp
  refine (Hcx.out _ HB0.out.drew).mono ?_
  rintro e w1 ⟨u,rfl,hou,hb1⟩
  obtain ⟨A1,c1,rfl,_⟩:=own_form hou
  have hS1:=And.intro (cell_below hb1 hSw.1) (cell_below hb1 hSw.2)
  have hz1:=(hb1.block (w.heap.size + 1) (by simp [Hs0.out])).trans Hz.out
  have hB1:=HB0.out.drew.trans (hb1.mono (by simp [Hs0.out]))
  have hs1:=hb1.size
  simp only [World.size_drew,Hs0.out] at hs1
  have hou:=own_base (base':=w.heap.size) hou (by simp [Hs0.out])
  have Hou:=Lib.hid hou;have Hz1:=Lib.hid hz1;have HB1:=Lib.hid hB1;clear hou hz1 hB1 hb1 hSw
  dsimp only
  refine hK.out _ _ hS1 (fun hSw => ?_)
  clear hK K hS1
  refine XA.o 5 (fun K hK => ?_)
  go_simp
  refine (Hcy.out _ HB1.out).mono ?_
  rintro e w2 ⟨v,rfl,hov,hb2⟩
  obtain ⟨A2,c2,rfl,_⟩:=own_form hov
  have hS2:=And.intro (cell_below hb2 hSw.1) (cell_below hb2 hSw.2)
  have hz2:=(hb2.block (w.heap.size + 1) (by omega)).trans Hz1.out
  have hB2:=HB1.out.trans (hb2.mono HB1.out.size)
  have hs2:=hb2.size
  have hov:=own_base (base':=w.heap.size) hov HB1.out.size
  have hou2:=own_below Hou.out hb2
  obtain ⟨⟨z0,z1⟩,zf⟩:=bx2 hz2
  have l2:w.heap.size + 1 < w2.heap.size:=lt_of_block hz2
  have Hov:=Lib.hid hov;have Hou2:=Lib.hid hou2;have Hz2:=Lib.hid hz2;have HB2:=Lib.hid hB2;clear hov hou2 hz2 hB2 hb2 hSw
  dsimp only
  refine hK.out _ _ hS2 (fun hSw => ?_)
  clear hK K hS2
  refine XA.t ?_ [6] hSw ?_
  refine XA.e ?_
  clear hSw
  simp only [List.drop_succ_cons,List.drop_zero]
  go_wp2_with fail
  have e1:=heap_setCell_same w2 (w.heap.size + 1) 0 _ _ (.slice A1 n c1) Hz2.out
  have e2:=heap_setCell_same _ (w.heap.size + 1) 1 _ _ (.slice A2 m c2) e1
  have e3:((w2.setCell ⟨w.heap.size + 1,0,none⟩ (.slice A1 n c1)).setCell ⟨w.heap.size + 1,1,none⟩ (.slice A2 m c2)).heap[w.heap.size + 1]? = some (.cells #[(.slice A1 n c1),(.slice A2 m c2)] 107 (0,0)):=by simpa using e2
  have hk:Keep (fun j => j = w.heap.size + 1) w2 ((w2.setCell ⟨w.heap.size + 1,0,none⟩ (.slice A1 n c1)).setCell ⟨w.heap.size + 1,1,none⟩ (.slice A2 m c2)):=Keep.setCell (S:=fun j => j = w.heap.size + 1) (Keep.setCell (S:=fun j => j = w.heap.size + 1) (Keep.refl _ _) ⟨w.heap.size + 1,0,none⟩ (.inr rfl) _) ⟨w.heap.size + 1,1,none⟩ (.inr rfl) _
  obtain ⟨W9,hW9⟩:∃ W9,W9 = (w2.setCell ⟨w.heap.size + 1,0,none⟩ (.slice A1 n c1)).setCell ⟨w.heap.size + 1,1,none⟩ (.slice A2 m c2):=⟨_,rfl⟩
  rw [← hW9] at e3 hk ⊢
  obtain ⟨⟨x0,x1⟩,xf⟩:=bx2 e3
  have hu9:=hk.own Hou2.out (fun j hj e => block_notrow Hz2.out (by decide) Hou2.out (by rw [hj,e]))
  have hv9:=hk.own Hov.out (fun j hj e => block_notrow Hz2.out (by decide) Hov.out (by rw [hj,e]))
  have hb9:Below w.heap.size w W9:=HB2.out.trans (hk.toBelow (by omega) (fun j hj => by omega))
  have e1n:=H1.out;have e2n:=H2.out
  exact bodyPost_ret (v:=.agg #[(.slice A1 n c1),(.slice A2 m c2)]) (by simp [results,Tryz.results104,go_sem,x0,x1]) rfl ⟨[(.slice A1 n c1),(.slice A2 m c2)],rfl,⟨_,_,rfl,by rw [Hn.out];exact hu9,by rw [Hm.out];exact hv9,e1n.hl,e2n.hl,e1n.hw,e2n.hw⟩,hb9⟩
end Go.Proofs.YtaccfnffmbndhaaGreat
