/- The program's decimal form. The reference's text of a mark. The program's text of a mark. The program's line of a report: its closure; plain. The program's line of a report. The reference's line of a report. The texts of a report. The walk of TrainTexts. The row's closed facts: what the call can come to. The row's closed facts. A call of one goroutine, at a row that says 'leaving', 'calm' and 'outside := [.timePasses]'. No condition. -/
import Derived.Test.YthamijnggdjaoaaGreatDoorT11
import Derived.Test.YthamijnggdjaoaaGreatDoorT13
import Derived.Test.YthamijnggdjaoaaGreatDoorT02
import Derived.Test.YthamijnggdjaoaaGreatDoorT01
import Derived.Shelf.Strings.BuilderK
import Derived.Laws.Cover3
import Derived.Laws.FloatArith
import Derived.Shelf.Strconv.Itoa4
import Derived.Shelf.Strconv.Itoa3
import Derived.Test.YthamijnggdjaoaaGreatDoorT10
import Derived.Shelf.Strings.OnBuilder
import Derived.Test.YthamijnggdjaoaaGreatDoorRows
import Derived.KernelRfl
import Derived.JoinedOf
import Derived.Conc.HoldsTime
import Derived.Handed
set_option linter.unusedSimpArgs false
set_option linter.unusedVariables false
namespace Go.Proofs.YthamijnggdjaoaaGreatDoor
open Go.RowKit
theorem bof_below {T e:TypeId} {B b:Nat} {bs:List Value} {W W':World} (h:Lib.IsBuilderF T e B b bs W) (k:Below W.heap.size W W'):Lib.IsBuilderF T e B b bs W':=by
  have key:∀ p,Lib.BuilderAtF T e B b p bs W → Lib.BuilderAtF T e B b p bs W':=fun p ⟨h1,v,h2,⟨h3,h4⟩,h5⟩ => by
    refine ⟨h1,v,(k.block _ (lt_of_block h2)).trans h2,⟨h3,?_⟩,h5⟩
    rcases h4 with h4 | ⟨g,cap,cur,fz,a1,a2,a3,a4⟩
    · exact .inl h4
    · exact .inr ⟨g,cap,cur,fz,a1,a2,(k.block _ (by
        rcases Nat.lt_or_ge g W.heap.size with h | h
        · exact h
        · rw [Array.getElem?_eq_none h] at a3;cases a3)).trans a3,a4⟩
  exact h.imp (key _) (key _)
def lenAt (w:World) (b:Nat):Nat:=match w.heap[b]? with
  | some (.cells c _ _) => (match (c[1]?:Option Value) with | some (.slice _ n _) => n | _ => 0)
  | _ => 0
theorem lenAt_is {T e:TypeId} {B b:Nat} {bs:List Value} {w:World} (h:Lib.IsBuilderF T e B b bs w):lenAt w b = bs.length:=by
  have key:∀ p,Lib.BuilderAtF T e B b p bs w → lenAt w b = bs.length:=fun p ⟨h1,v,h2,⟨h3,h4⟩,h5⟩ => by
    unfold lenAt
    rw [h2]
    rcases h4 with ⟨rfl,h4⟩ | ⟨g,cap,cur,fz,rfl,_⟩
    · exact h4.symm
    · rfl
  rcases h with h | h <;> exact key _ h
theorem bytes_app (a b:List UInt8):Lib.byteCells a ++ Lib.strCells ⟨b.toArray⟩ = Lib.byteCells (a ++ b):=by simp [Lib.byteCells,Lib.strCells]
theorem bytes_one (a:List UInt8) (x:UInt8):Lib.byteCells a ++ [.int .u8 (x.toNat:Int)] = Lib.byteCells (a ++ [x]):=by simp [Lib.byteCells]
theorem bytes_len (a:List UInt8):(Lib.byteCells a).length = a.length:=by simp [Lib.byteCells]
theorem mask_q (n q:Nat) (hn:n < 18446744073709551616) (hq:q ≤ 62):bits .and .u64 (n:Int) (IntKind.u64.wrap (IntKind.u64.wrap (2 ^ q) - 1)) = ((n % 2 ^ q:Nat):Int):=by
  have h1:(2:Nat) ^ q ≤ 2 ^ 62:=Nat.pow_le_pow_right (by decide) hq
  have h2:IntKind.u64.wrap (IntKind.u64.wrap (2 ^ q) - 1) = ((2 ^ q - 1:Nat):Int):=by
    have hp:0 < 2 ^ q:=Nat.two_pow_pos q
    rw [show ((2:Int) ^ q) = ((2 ^ q:Nat):Int) by push_cast;rfl]
    rw [IntKind.wrap_u64,IntKind.wrap_u64]
    omega
  rw [h2]
  have key:(BitVec.ofInt 64 (n:Int) &&& BitVec.ofInt 64 ((2 ^ q - 1:Nat):Int)).toNat = n % 2 ^ q:=by
    rw [BitVec.toNat_and,BitVec.toNat_ofInt,BitVec.toNat_ofInt]
    rw [show ((n:Int) % ((2 ^ 64:Nat):Int)).toNat = n by omega]
    rw [show (((2 ^ q - 1:Nat):Int) % ((2 ^ 64:Nat):Int)).toNat = 2 ^ q - 1 by omega]
    exact Nat.and_two_pow_sub_one_eq_mod n q
  show IntKind.u64.wrap ((BitVec.ofInt 64 (n:Int) &&& BitVec.ofInt 64 ((2 ^ q - 1:Nat):Int)).toNat:Nat) = _
  rw [key,IntKind.wrap_u64]
  have:=Nat.mod_le n (2 ^ q)
  omega
theorem digit_q (r q:Nat) (hr:r < 2 ^ q) (hq:q ≤ 62):bits .or .u64 (IntKind.u64.wrap (((r * 10 / 18446744073709551616:Nat):Int) * 2 ^ (64 - q))) (((r * 10 % 18446744073709551616:Nat):Int) / 2 ^ q) = ((10 * r / 2 ^ q:Nat):Int):=by
  have h1:(2:Nat) ^ q ≤ 2 ^ 62:=Nat.pow_le_pow_right (by decide) hq
  have hs:=shift_or ((r * 10 / 18446744073709551616:Nat):Int) ((r * 10 % 18446744073709551616:Nat):Int) q (by omega) ⟨by omega,by omega⟩
  have hw:IntKind.u64.wrap ((r * 10 / 18446744073709551616:Nat):Int) = ((r * 10 / 18446744073709551616:Nat):Int):=by rw [IntKind.wrap_u64];omega
  rw [hw] at hs
  rw [hs]
  have hu:uw ((r * 10 / 18446744073709551616:Nat):Int) = ((r * 10 / 18446744073709551616:Nat):Int):=by unfold uw;omega
  rw [hu]
  have e64:(18446744073709551616:Nat) = 2 ^ (64 - q) * 2 ^ q:=by rw [← Nat.pow_add,show 64 - q + q = 64 by omega]
  have hlt:r * 10 / 18446744073709551616 < 2 ^ q:=by
    have:=Nat.two_pow_pos q
    rw [Nat.div_lt_iff_lt_mul (by decide)]
    omega
  have g1:((r * 10 / 18446744073709551616:Nat):Int) % 2 ^ q = ((r * 10 / 18446744073709551616:Nat):Int):=by
    rw [show ((2:Int) ^ q) = ((2 ^ q:Nat):Int) by push_cast;rfl]
    exact Int.emod_eq_of_lt (by omega) (by omega)
  rw [g1]
  rw [show ((2:Int) ^ (64 - q)) = ((2 ^ (64 - q):Nat):Int) by push_cast;rfl,show ((2:Int) ^ q) = ((2 ^ q:Nat):Int) by push_cast;rfl,← Int.natCast_ediv,← Int.natCast_mul,← Int.natCast_add]
  congr 1
  generalize hH:r * 10 / 18446744073709551616 = H
  generalize hL:r * 10 % 18446744073709551616 = Lo
  have hd:r * 10 = 2 ^ (64 - q) * H * 2 ^ q + Lo:=by
    have:=Nat.div_add_mod (r * 10) 18446744073709551616
    rw [hH,hL] at this
    rw [← this]
    congr 1
    rw [Nat.mul_right_comm,← e64]
  rw [Nat.mul_comm 10 r,hd,Nat.add_comm (2 ^ (64 - q) * H * 2 ^ q) Lo,Nat.add_mul_div_right _ _ (Nat.two_pow_pos q),Nat.add_comm,Nat.mul_comm H]
theorem wbyte_any (B b:Nat) (l:List UInt8) (x:UInt8) (w:World) (h:Lib.IsBuilderF 102 5 B b (Lib.byteCells l) w) (hl:l.length ≤ 1000000) (hB:B ≤ w.heap.size) :
    Calls Tryz.prog 86 #[.pointer (some ⟨b,0,none⟩),.int .u8 (x.toNat:Int)] w fun e w' => e = .returned .nilIface ∧ Lib.IsBuilderF 102 5 B b (Lib.byteCells (l ++ [x])) w' ∧ Below B w w':=by
  refine (Any.Builder_WriteByte_k Tryz.lays167 Tryz.Builder_Extra_167 B b (Lib.byteCells l) (x.toNat:Int) w h (by rw [bytes_len];omega) hB).mono ?_
  rintro e w' ⟨he,h1,h2,-⟩
  rw [bytes_one] at h1
  exact ⟨he,.inr h1,h2⟩
theorem wstr_any (B b:Nat) (l m:List UInt8) (w:World) (h:Lib.IsBuilderF 102 5 B b (Lib.byteCells l) w) (hl:l.length + m.length ≤ 1000000) (hB:B ≤ w.heap.size) :
    Calls Tryz.prog 40 #[.pointer (some ⟨b,0,none⟩),.string ⟨m.toArray⟩] w fun e w' => e = .returned (.tuple #[.int .i64 m.length,.nilIface]) ∧ Lib.IsBuilderF 102 5 B b (Lib.byteCells (l ++ m)) w' ∧ Below B w w':=by
  refine (Any.Builder_WriteString_k Tryz.lays166 Tryz.Builder_Extra_166 B b (Lib.byteCells l) ⟨m.toArray⟩ w h (by rw [bytes_len];show _ + m.length ≤ _;omega) hB).mono ?_
  rintro e w' ⟨he,h1,h2,-⟩
  rw [bytes_app] at h1
  exact ⟨he,.inr h1,h2⟩
theorem bstr_any (B b:Nat) (l:List UInt8) (w:World) (h:Lib.IsBuilderF 102 5 B b (Lib.byteCells l) w) (hB:B ≤ w.heap.size) :
    Calls Tryz.prog 41 #[.pointer (some ⟨b,0,none⟩)] w fun e w' => e = .returned (.string ⟨l.toArray⟩) ∧ Below B w w':=by
  refine (Any.Builder_String_any_k Tryz.lays169 Tryz.Builder_Extra_169 B b l w h hB).mono ?_
  rintro e w' ⟨he,-,h2,-⟩
  exact ⟨he,h2⟩
theorem dgB_int {d:Nat} (h:d ≤ 9):((dgB d).toNat:Int) = 48 + (d:Int):=by rw [dgB_nat h];push_cast;rfl
theorem qright_any (q:Int) (w:World):Calls Tryz.prog 85 #[.int .i64 q] w fun e w' => e = .returned (.bool (decide (0 ≤ q) && decide (q ≤ 62))) ∧ w' = w:=by
  go_enter Tryz.func85,Tryz.ntmps85
  by_cases h:0 ≤ q
  · have g:decide (0 ≤ q) = true:=by simp [h]
    go_wp2
    go_ret
    exact ⟨by rw [g];rfl,rfl⟩
  · have g:decide (0 ≤ q) = false:=by simp;omega
    go_wp2
    go_ret
    exact ⟨rfl,rfl⟩
set_option maxRecDepth 20000 in
theorem dtext_any (x:Int) (q:Nat) (hx0:-9223372036854775808 ≤ x) (hx1:x ≤ 9223372036854775807) (hq:q ≤ 62) (w:World) (htab:Lib.TabIs Tryz.prog w "internal/strconv.uint64pow10" .u64 Lib.pow10Tab) :
    Calls Tryz.prog 31 #[.int .i64 x,.int .i64 q] w fun e w' => e = .returned (.string ⟨(fixT x q).toArray⟩) ∧ Below w.heap.size w w':=by
  have H0:=Lib.hid hx0;have H1:=Lib.hid hx1;have HT:=Lib.hid (Lib.tabBelow_of_tabIs htab)
  clear hx0 hx1 htab
  have hri:=qright_any (q:Int) w
  rw [show (decide (0 ≤ (q:Int)) && decide ((q:Int) ≤ 62)) = true by simp;omega] at hri
  have Hri:=Lib.hid hri
  clear hri
  go_enter Tryz.func31,Tryz.ntmps31
  go_wp2_with fail
  refine Hri.out.mono ?_
  rintro e w1 ⟨rfl,rfl⟩
  obtain ⟨wa,hwa⟩:∃ wa,w1.alloc (.cells #[.pointer none,.slice none 0 0] 102) = wa:=⟨_,rfl⟩
  have hA:wa.heap[w1.heap.size]? = some (.cells #[.pointer none,.slice none 0 0] 102 (0,0)):=by rw [← hwa];exact heap_alloc_new w1 _
  have kA:Below w1.heap.size w1 wa:=by rw [← hwa];exact (br w1).alloc (Nat.le_refl _) _
  have hI:Lib.IsBuilderF 102 5 w1.heap.size w1.heap.size [] wa:=.inl ⟨Nat.le_refl _,.slice none 0 0,hA,by simp [World.ownsRowF],by simp [Value.ownBlock]⟩
  have HI:=Lib.hid hI;have KA:=Lib.hid kA;have HW:=Lib.hid hwa
  clear hI kA hwa hA
  go_upto_region 5 with (fail)
  rw [HW.out]
  clear HW
  generalize hBB:w1.heap.size = B at HI KA
  have hB0:B ≤ wa.heap.size:=by rw [← hBB];exact KA.out.size
  go_cut [16] (fun v wx => v = .bool (decide (x < 0)) ∧ wx = wa)
  case first =>
    go_wp2
    go_meet
    exact ⟨rfl,rfl⟩
  case rest =>
    obtain ⟨rfl,rfl⟩:=hcut
    apply_assumption
    go_cut [6] (fun n wx => n = .int .u64 x.natAbs ∧ Lib.IsBuilderF 102 5 B B (Lib.byteCells (if x < 0 then [45] else [])) wx ∧ Below B w1 wx)
    case first =>
      by_cases hn:x < 0
      · rw [show decide (x < 0) = true by simp [hn]]
        have e:=neg_u64 hn H0.out
        have hw:=wbyte_any B B [] 45 wc HI.out (by decide) hB0
        go_wp2_with fail
        refine hw.mono ?_
        rintro e2 w2 ⟨rfl,hb,hB⟩
        have Hb:=Lib.hid hb;have HB:=Lib.hid hB
        clear hb hB hw
        go_wp2
        go_meet
        exact ⟨by rw [← e],by rw [if_pos hn];exact Hb.out,KA.out.trans HB.out⟩
      · rw [show decide (x < 0) = false by simp;omega]
        have e:=pos_u64 (n:=x) (by omega) H1.out
        go_wp2
        go_meet
        exact ⟨by rw [← e],by rw [if_neg (by omega)];exact HI.out,KA.out⟩
    case rest =>
      obtain ⟨rfl,hI2,hB2⟩:=hcut
      generalize hsg:(if x < 0 then [45] else []:List UInt8) = sg at hI2
      have hsl:sg.length ≤ 1:=by rw [← hsg];split <;> simp
      generalize hnn:x.natAbs = nn
      have hnb:nn ≤ 9223372036854775808:=by have:=H0.out;have:=H1.out;omega
      have Hsg:=Lib.hid hsg;have Hnn:=Lib.hid hnn;have Hnb:=Lib.hid hnb;have HI2:=Lib.hid hI2;have HB2:=Lib.hid hB2;have HBB:=Lib.hid hBB
      clear hsg hnn hnb hI2 hB2 hBB
      apply_assumption
      go_wp2_with fail
      have hdv:nn / 2 ^ q ≤ nn:=Nat.div_le_self _ _
      rw [show (nn:Int) / 2 ^ q = ((nn / 2 ^ q:Nat):Int) by push_cast;rfl]
      have hdl:=dec_len (u:=nn / 2 ^ q) (by have:=Hnb.out;omega)
      have hB2w:B ≤ wc.heap.size:=Nat.le_trans (HBB.out ▸ Nat.le_refl _) HB2.out.size
      refine (fu_any (nn / 2 ^ q) (by have:=Hnb.out;omega) wc (HT.out _ (by rw [HBB.out];exact HB2.out))).mono ?_
      rintro e w3 ⟨rfl,hB3⟩
      have hz3:B ≤ w3.heap.size:=Nat.le_trans hB2w hB3.size
      have hI3:=bof_below HI2.out hB3
      have hB3':=HB2.out.trans (hB3.mono hB2w)
      have hws:=wstr_any B B _ (Lib.decDigits (nn / 2 ^ q)) w3 hI3 (by omega) hz3
      have Hws:=Lib.hid hws;have HB3:=Lib.hid hB3'
      clear hws hB3 hB3' hI3 hB2w
      go_wp2_with fail
      refine Hws.out.mono ?_
      rintro e w4 ⟨rfl,hb4,hB4⟩
      have hz4:B ≤ w4.heap.size:=Nat.le_trans hz3 hB4.size
      have Hb4:=Lib.hid hb4;have HB4:=Lib.hid (HB3.out.trans hB4)
      clear hb4 hB4 HI2 Hws
      generalize hL:sg ++ Lib.decDigits (nn / 2 ^ q) = L4 at Hb4
      have hLl:L4.length ≤ 21:=by rw [← hL,List.length_append];omega
      have hmk:=mask_q nn q (by have:=Hnb.out;omega) hq
      generalize hr0:nn % 2 ^ q = r0 at hmk
      have hr0l:r0 < 2 ^ q:=by rw [← hr0];exact Nat.mod_lt _ (Nat.two_pow_pos q)
      have HL:=Lib.hid hL;have Hr0:=Lib.hid hr0
      clear hL hr0
      go_upto_region 10 with (fail)
      go_cut [7,31] (fun r v wx => r = .int .u64 r0 ∧ v = .bool (decide (0 < r0)) ∧ wx = w4)
      case first =>
        go_wp2
        go_meet
        exact ⟨rfl,by congr 1,rfl⟩
      case rest =>
        obtain ⟨rfl,rfl,rfl⟩:=hcut
        apply_assumption
        go_cut [] (fun wx => Lib.IsBuilderF 102 5 B B (Lib.byteCells (L4 ++ (if r0 = 0 then [] else [46]))) wx ∧ Below B w1 wx)
        case first =>
          by_cases hr:r0 = 0
          · subst hr
            go_wp2
            go_meet
            have hb4:=Hb4.out
            exact ⟨by simpa using hb4,HB4.out⟩
          · rw [show decide (0 < r0) = true by simp;omega]
            have hwb:=wbyte_any B B _ 46 wc Hb4.out (by omega) hz4
            have Hwb:=Lib.hid hwb
            clear hwb
            go_wp2_with fail
            refine Hwb.out.mono ?_
            rintro e2 w5 ⟨rfl,hb,hB⟩
            have Hb:=Lib.hid hb;have HB:=Lib.hid hB
            clear hb hB
            go_wp2
            go_meet
            exact ⟨by rw [if_neg hr];exact Hb.out,HB4.out.trans HB.out⟩
        case rest =>
          obtain ⟨hI5,hB5⟩:=hcut
          generalize hL5:L4 ++ (if r0 = 0 then [] else [46]) = L5 at hI5
          have hL5l:L5.length ≤ 22:=by rw [← hL5,List.length_append];split <;> simp <;> omega
          have HL5:=Lib.hid hL5;have HI5:=Lib.hid hI5;have HB5:=Lib.hid hB5
          clear hL5 hI5 hB5 Hb4 HB4
          apply_assumption
          go_wp2_with fail
          go_loopw [7] (fun r wr => ∃ (j:Nat) (ds:List Nat) (rj:Nat),j ≤ q ∧ r = .int .u64 rj ∧ rj < 2 ^ q ∧ (2 ^ j ∣ rj ∨ rj = 0) ∧ ds.length = j ∧ frac q q r0 = ds ++ frac q (q - j) rj ∧ Lib.IsBuilderF 102 5 B B (Lib.byteCells (L5 ++ digB ds)) wr ∧ Below B w1 wr) (fun _ wr => L5.length + q - lenAt wr B)
          case atStart => exact ⟨0,[],r0,Nat.zero_le _,rfl,hr0l,.inl (Nat.one_dvd _),rfl,rfl,by simpa [digB] using HI5.out,HB5.out⟩
          case round =>
            obtain ⟨j,ds,rj,hj,rfl,hrl,hdv,hdsl,hfr,hI,hB⟩:=hrel
            have HI:=Lib.hid hI;have HB:=Lib.hid hB;have Hfr:=Lib.hid hfr;have Hdv:=Lib.hid hdv;have Hds:=Lib.hid hdsl
            clear hI hB hfr hdv hdsl
            have h62:(2:Nat) ^ q ≤ 2 ^ 62:=Nat.pow_le_pow_right (by decide) hq
            have H62:=Lib.hid h62
            clear h62
            by_cases hr:rj = 0
            · subst hr
              have hwz:B ≤ wr.heap.size:=Nat.le_trans (HBB.out ▸ Nat.le_refl _) HB.out.size
              have hst:=bstr_any B B (L5 ++ digB ds) wr HI.out hwz
              have Hst:=Lib.hid hst
              clear hst hwz
              go_wp2_with fail
              refine Hst.out.mono ?_
              rintro e w6 ⟨rfl,hB6⟩
              have HB6:=Lib.hid (HB.out.trans hB6)
              clear hB6
              go_wp2_with fail
              go_ret
              refine ⟨?_,by have:=HB6.out;rw [HBB.out];exact this⟩
              have hf:=Hfr.out
              rw [frac_zero,List.append_nil] at hf
              have e1:fixT x q = L5 ++ digB ds:=by
                unfold fixT
                rw [Hsg.out,Hnn.out,Hr0.out,HL.out,hf,← HL5.out]
                by_cases h0:r0 = 0
                · subst h0
                  rw [frac_zero] at hf
                  subst hf
                  simp [digB]
                · rw [if_neg h0,if_neg h0];simp
              rw [e1]
              rfl
            · have hjq:j < q:=by
                rcases Hdv.out with h | h
                · rcases Nat.lt_or_ge j q with h2 | h2
                  · exact h2
                  · have:=Nat.le_of_dvd (by omega) h
                    have:=Nat.pow_le_pow_right (show 0 < 2 by decide) h2
                    omega
                · exact absurd h hr
              have hmul:=mul64_any rj 10 (by have:=H62.out;omega) (by decide) wr
              have hdg:=digit_q rj q hrl hq
              have hmk:=mask_q (rj * 10 % 18446744073709551616) q (by omega) hq
              have hmm:rj * 10 % 18446744073709551616 % 2 ^ q = 10 * rj % 2 ^ q:=by
                rw [show (18446744073709551616:Nat) = 2 ^ (64 - q) * 2 ^ q from by rw [← Nat.pow_add,show 64 - q + q = 64 by omega],Nat.mod_mul_left_mod,Nat.mul_comm]
              rw [hmm] at hmk
              have hd9:10 * rj / 2 ^ q ≤ 9:=by
                have:10 * rj / 2 ^ q < 10:=by
                  rw [Nat.div_lt_iff_lt_mul (Nat.two_pow_pos q)]
                  omega
                omega
              have g:decide (0 < rj) = true:=by simp;omega
              have hfq:frac q (q - j) rj = 10 * rj / 2 ^ q :: frac q (q - (j + 1)) (10 * rj % 2 ^ q):=by
                rw [show q - j = (q - (j + 1)) + 1 by omega]
                show (if rj = 0 then [] else _) = _
                rw [if_neg hr]
              have hdv2:2 ^ (j + 1) ∣ 10 * rj % 2 ^ q ∨ 10 * rj % 2 ^ q = 0:=by
                rcases Hdv.out with h | h
                · exact rest_dvd h
                · exact absurd h hr
              have hlt2:10 * rj % 2 ^ q < 2 ^ q:=Nat.mod_lt _ (Nat.two_pow_pos q)
              generalize 10 * rj / 2 ^ q = d at hdg hd9 hfq
              generalize 10 * rj % 2 ^ q = r2 at hmk hfq hdv2 hlt2
              have hdg2:bits .or .u64 (IntKind.u64.wrap ((rj:Int) * 10 / 18446744073709551616 * 2 ^ (64 - q))) ((rj:Int) * 10 % 18446744073709551616 / 2 ^ q) = (d:Int):=by
                rw [show ((rj * 10 / 18446744073709551616:Nat):Int) = (rj:Int) * 10 / 18446744073709551616 by omega,show ((rj * 10 % 18446744073709551616:Nat):Int) = (rj:Int) * 10 % 18446744073709551616 by omega] at hdg
                exact hdg
              have hmk2:bits .and .u64 ((rj:Int) * 10 % 18446744073709551616) (IntKind.u64.wrap (IntKind.u64.wrap (2 ^ q) - 1)) = (r2:Int):=by
                rw [show ((rj * 10 % 18446744073709551616:Nat):Int) = (rj:Int) * 10 % 18446744073709551616 by omega] at hmk
                exact hmk
              have g:decide (0 < rj) = true:=by simp;omega
              have Hmul:=Lib.hid hmul;have Hdg:=Lib.hid hdg2;have Hmk:=Lib.hid hmk2;have H9:=Lib.hid hd9;have Hfq:=Lib.hid hfq;have Hdv2:=Lib.hid hdv2;have Hlt2:=Lib.hid hlt2
              clear hmul hdg hdg2 hmk hmk2 hd9 hmm hfq hdv2 hlt2
              go_wp2_with fail
              refine Hmul.out.mono ?_
              rintro e w6 ⟨rfl,rfl⟩
              go_wp2_with fail
              have hwq:IntKind.i64.wrap (64 - (q:Int)) = ((64 - q:Nat):Int):=by rw [IntKind.wrap_i64];omega
              have hdg:=Hdg.out
              have hw8:IntKind.u8.wrap (d:Int) = (d:Int):=by have:=H9.out;unfold IntKind.wrap;simp [IntKind.signed,IntKind.bits];omega
              have hw9:IntKind.u8.wrap (48 + (d:Int)) = (48 + (d:Int)):=by have:=H9.out;unfold IntKind.wrap;simp [IntKind.signed,IntKind.bits];omega
              have q0:True:=trivial
              have hwz:B ≤ wr.heap.size:=Nat.le_trans (HBB.out ▸ Nat.le_refl _) HB.out.size
              have hwb:=wbyte_any B B _ (dgB d) wr.drew (bof_below HI.out (br wr).drew) (by rw [List.length_append,digB_len,Hds.out];omega) (by rw [World.size_drew];exact hwz)
              rw [dgB_int H9.out] at hwb
              have Hwb:=Lib.hid hwb
              clear hwb
              refine HA.g (fun _:World => True) ?_
              refine HA.t ?_ [0,1,2,3,4,5,6,7,8,9] q0 ?_
              clear hdg hw8 hw9 hwq
              refine HA.c 10 Hwb.out ?_
              rintro e w7 ⟨rfl,hb7,hB7⟩
              refine ⟨_,rfl,trivial,fun _ => HA.d ?_⟩
              have hb7':Lib.IsBuilderF 102 5 B B (Lib.byteCells (L5 ++ digB (ds ++ [d]))) w7:=by
                rw [show digB (ds ++ [d]) = digB ds ++ [dgB d] from by simp [digB],← List.append_assoc];exact hb7
              have Hb7:=Lib.hid hb7';have HB7:=Lib.hid (HB.out.trans (((br wr).drew.mono hwz).trans hB7))
              have hme:L5.length + q - lenAt w7 B < L5.length + q - lenAt wr B:=by
                rw [lenAt_is Hb7.out,lenAt_is HI.out,bytes_len,bytes_len,List.length_append,List.length_append,digB_len,digB_len,List.length_append,Hds.out,List.length_singleton]
                omega
              have Hme:=Lib.hid hme
              clear hme
              have hmk:=Hmk.out
              clear hb7 hb7' hB7
              go_wp2_with fail
              go_roundw
              case rel => exact ⟨j + 1,ds ++ [d],r2,hjq,rfl,Hlt2.out,Hdv2.out,by rw [List.length_append,Hds.out];rfl,by rw [Hfr.out,Hfq.out,List.append_assoc];rfl,Hb7.out,HB7.out⟩
              case measure => exact Hme.out
end Go.Proofs.YthamijnggdjaoaaGreatDoor
namespace Go.Proofs.YthamijnggdjaoaaGreatDoor
open Go.RowKit
theorem itoa_len {n:Int} (h0:-9223372036854775808 ≤ n) (h1:n ≤ 9223372036854775807):(Lib.itoa n).length ≤ 21:=by
  rw [itoa_eq]
  have:=dec_len (u:=n.natAbs) (by omega)
  rw [List.length_append]
  split <;> simp only [List.length_singleton,List.length_nil] <;> omega
theorem rmark_any (a b:Int) (ha:a.natAbs ≤ 2 ^ 50) (hb:b.natAbs ≤ 2 ^ 50) (w:World) :
    Calls Tryz.prog 37 #[.agg #[.int .i64 a,.int .i64 b]] w fun e w' => e = .returned (.string ⟨(markT (a,b)).toArray⟩) ∧ Below w.heap.size w w':=by
  have la:=itoa_len (n:=a) (by omega) (by omega)
  have lb:=itoa_len (n:=b) (by omega) (by omega)
  have HA:=Lib.hid ha;have HB:=Lib.hid hb;have LA:=Lib.hid la;have LB:=Lib.hid lb
  clear ha hb la lb
  go_enter Tryz.func37,Tryz.ntmps37
  go_wp2_with fail
  refine (decimal_any a _ (by have:=HA.out;omega) (by have:=HA.out;omega)).mono ?_
  intro e w1 he
  obtain ⟨he,k,hw⟩:=he
  have hW:w1.heap[w.heap.size]? = some (.cells #[.int .i64 a,.int .i64 b] 87 (0,0)):=by rw [hw];exact heap_alloc_new w _
  have hB:Below w.heap.size w w1:=by rw [hw];exact ((Below.refl _ w).alloc (Nat.le_refl _) _).trans ⟨rfl,rfl,rfl,Nat.le_refl _,fun _ _ => rfl⟩
  subst he
  clear hw
  have KB:=Lib.hid hB;have HW:=Lib.hid hW
  clear hB
  have hW2:=hW
  clear hW
  obtain ⟨⟨c0,c1⟩,cf⟩:=bx2 hW2
  by_cases hn:b < 0
  · have g:decide (b < 0) = true:=by simp [hn]
    go_wp2_with fail
    refine (decimal_any b _ (by have:=HB.out;omega) (by have:=HB.out;omega)).mono ?_
    intro e w2 he
    obtain ⟨he,k2,hw2⟩:=he
    subst he;subst hw2
    have hc1:(Lib.itoa a).length + (Lib.itoa b).length ≤ 1000000:=by have:=LA.out;have:=LB.out;(try simp only [List.length_append,List.length_singleton]);omega
    have hc2:(Lib.itoa a ++ Lib.itoa b).length + [(105:UInt8)].length ≤ 1000000:=by have:=LA.out;have:=LB.out;(try simp only [List.length_append,List.length_singleton]);omega
    go_wp2_with fail
    go_ret
    refine ⟨?_,KB.out.trans ⟨rfl,rfl,rfl,Nat.le_refl _,fun _ _ => rfl⟩⟩
    unfold markT
    rw [if_neg (show ¬ (0 ≤ (a,b).2) from by show ¬ 0 ≤ b;omega),List.append_nil,← ba_append,← ba_append]
    rfl
  · have g:decide (b < 0) = false:=by simp;omega
    have hc0:(Lib.itoa a).length + [(43:UInt8)].length ≤ 1000000:=by have:=LA.out;simp only [List.length_singleton];omega
    go_wp2_with fail
    rw [ba_append (Lib.itoa a) [43]]
    refine (decimal_any b _ (by have:=HB.out;omega) (by have:=HB.out;omega)).mono ?_
    intro e w2 he
    obtain ⟨he,k2,hw2⟩:=he
    subst he;subst hw2
    have hc1:(Lib.itoa a ++ [43]).length + (Lib.itoa b).length ≤ 1000000:=by have:=LA.out;have:=LB.out;(try simp only [List.length_append,List.length_singleton]);omega
    have hc2:(Lib.itoa a ++ [43] ++ Lib.itoa b).length + [(105:UInt8)].length ≤ 1000000:=by have:=LA.out;have:=LB.out;(try simp only [List.length_append,List.length_singleton]);omega
    go_wp2_with fail
    go_ret
    refine ⟨?_,KB.out.trans ⟨rfl,rfl,rfl,Nat.le_refl _,fun _ _ => rfl⟩⟩
    unfold markT
    rw [if_pos (show 0 ≤ (a,b).2 from by show 0 ≤ b;omega),← ba_append,← ba_append]
    rfl
end Go.Proofs.YthamijnggdjaoaaGreatDoor
namespace Go.Proofs.YthamijnggdjaoaaGreatDoor
open Go.RowKit Ieee
theorem fint_any (n:Int) (h0:-9223372036854775808 ≤ n) (h1:n ≤ 9223372036854775807) (w:World) (htab:Lib.TabIs Tryz.prog w "internal/strconv.uint64pow10" .u64 Lib.pow10Tab) :
    Calls Tryz.prog 89 #[.int .i64 n,.int .i64 10] w fun e w' => e = .returned (.string ⟨(Lib.itoa n).toArray⟩) ∧ Below w.heap.size w w':=by
  refine (Any.strconv_FormatInt_10 Tryz.laysM173 n h0 h1 w htab).mono ?_
  rintro e w' ⟨he,k,os,rfl⟩
  exact ⟨he,Lib.below_grow _ w (Nat.le_refl _) k os⟩
theorem itoa_any (n:Int) (h0:-9223372036854775808 ≤ n) (h1:n ≤ 9223372036854775807) (w:World) (htab:Lib.TabIs Tryz.prog w "internal/strconv.uint64pow10" .u64 Lib.pow10Tab) :
    Calls Tryz.prog 30 #[.int .i64 n] w fun e w' => e = .returned (.string ⟨(Lib.itoa n).toArray⟩) ∧ Below w.heap.size w w':=by
  refine (Any.strconv_Itoa Tryz.laysM171 n h0 h1 w htab).mono ?_
  rintro e w' ⟨he,k,os,rfl⟩
  exact ⟨he,Lib.below_grow _ w (Nat.le_refl _) k os⟩
theorem cut_back (s:Bool) (n k:Nat):Toward.zero.cut s (n * 2 ^ k) k = n:=by
  unfold Toward.cut
  dsimp only
  rw [Nat.one_shiftLeft,show (false).toNat = 0 from rfl,Nat.add_zero]
  by_cases h0:n = 0
  · subst h0;simp
  · have hl:k ≤ (n * 2 ^ k).log2 + 2:=by
      have:(n * 2 ^ k).log2 = n.log2 + k:=log_shift h0 k
      omega
    rw [Nat.min_eq_left hl,Nat.mul_div_cancel _ (Nat.two_pow_pos k)]
theorem whole_int {a:Nat} {z:Int} (h:IsW a z) (hz:z.natAbs ≤ 2 ^ 50):floatToIntVal .f64 a .i64 = some z:=by
  obtain ⟨s,m,p,hd,hp,hs,hn⟩:=h.read (by omega)
  have hdec:FloatKind.f64.decode a = .number s m p:=hd
  have hm:m = z.natAbs * 2 ^ (-p).toNat:=by
    unfold signed at hs
    rw [Nat.shiftLeft_zero] at hs
    have h2:((2:Int) ^ (-p).toNat) = ((2 ^ (-p).toNat:Nat):Int):=by push_cast;rfl
    rw [h2] at hs
    have:=congrArg Int.natAbs hs
    rw [Int.natAbs_mul,Int.natAbs_natCast] at this
    rw [← this]
    split <;> simp
  have ht:(FloatKind.f64.decode a).toInt .zero = some z:=by
    rw [hdec]
    unfold Datum.toInt Datum.integral
    dsimp only
    rw [show p.toNat = 0 by omega,Nat.shiftLeft_zero,hm,cut_back]
    unfold signed
    rw [Nat.shiftLeft_zero]
    by_cases h0:z = 0
    · subst h0;cases s <;> rfl
    · rw [hn h0]
      congr 1
      by_cases hneg:z < 0
      · rw [decide_eq_true hneg];simp;omega
      · rw [decide_eq_false hneg];simp;omega
  unfold floatToIntVal
  rw [ht]
  dsimp only
  rw [if_pos]
  show (-9223372036854775808:Int) ≤ z ∧ z ≤ 9223372036854775807
  omega
theorem mtext_any (v:Value) (z:Int × Int) (hv:IsC v z) (b1:z.1.natAbs ≤ 2 ^ 50) (b2:z.2.natAbs ≤ 2 ^ 50) (w:World) (htab:Lib.TabIs Tryz.prog w "internal/strconv.uint64pow10" .u64 Lib.pow10Tab) :
    Calls Tryz.prog 33 #[v] w fun e w' => e = .returned (.string ⟨(markT z).toArray⟩) ∧ Below w.heap.size w w':=by
  obtain ⟨a,b,rfl,ha,hb⟩:=hv
  obtain ⟨x,y⟩:=z
  dsimp only at ha hb b1 b2
  have la:=itoa_len (n:=x) (by omega) (by omega)
  have lb:=itoa_len (n:=y) (by omega) (by omega)
  have HT:=Lib.hid (Lib.tabBelow_of_tabIs htab)
  have hca:=fun w => run_convert_float_int (P:=Tryz.prog) (w:=w) 147 2 .f64 .i64 a x (by kernel_rfl) Tryz.underlying2 (whole_int ha b1)
  have hcb:=fun w => run_convert_float_int (P:=Tryz.prog) (w:=w) 147 2 .f64 .i64 b y (by kernel_rfl) Tryz.underlying2 (whole_int hb b2)
  have B1:=Lib.hid b1;have B2:=Lib.hid b2;have LA:=Lib.hid la;have LB:=Lib.hid lb;have HCB:=Lib.hid hcb
  clear ha hb htab la lb b1 b2 hcb
  go_enter Tryz.func33,Tryz.ntmps33
  go_wp2_with fail
  refine (fint_any x (by have:=B1.out;omega) (by have:=B1.out;omega) w (HT.out _ (br w))).mono ?_
  rintro e w1 ⟨rfl,k1⟩
  have K1:=Lib.hid k1
  have hcb:=HCB.out
  clear k1 hca
  by_cases hn:0 ≤ y
  · have g:decide (0 ≤ y) = true:=by simp [hn]
    have hc:(Lib.itoa x).length + [(43:UInt8)].length ≤ 1000000:=by have:=LA.out;simp only [List.length_singleton];omega
    go_wp2_with fail
    rw [ba_append (Lib.itoa x) [43]]
    refine (fint_any y (by have:=B2.out;omega) (by have:=B2.out;omega) w1 (HT.out _ K1.out)).mono ?_
    rintro e w2 ⟨rfl,k2⟩
    have K2:=Lib.hid (K1.out.trans (k2.mono K1.out.size))
    have hc1:(Lib.itoa x ++ [43]).length + (Lib.itoa y).length ≤ 1000000:=by have:=LA.out;have:=LB.out;simp only [List.length_append,List.length_singleton];omega
    have hc2:(Lib.itoa x ++ [43] ++ Lib.itoa y).length + [(105:UInt8)].length ≤ 1000000:=by have:=LA.out;have:=LB.out;simp only [List.length_append,List.length_singleton];omega
    clear k2 hcb
    go_wp2_with fail
    go_ret
    refine ⟨?_,K2.out⟩
    unfold markT
    rw [if_pos (show 0 ≤ (x,y).2 from hn),← ba_append,← ba_append]
    rfl
  · have g:decide (0 ≤ y) = false:=by simp;omega
    go_wp2_with fail
    refine (fint_any y (by have:=B2.out;omega) (by have:=B2.out;omega) w1 (HT.out _ K1.out)).mono ?_
    rintro e w2 ⟨rfl,k2⟩
    have K2:=Lib.hid (K1.out.trans (k2.mono K1.out.size))
    have hc1:(Lib.itoa x).length + (Lib.itoa y).length ≤ 1000000:=by have:=LA.out;have:=LB.out;omega
    have hc2:(Lib.itoa x ++ Lib.itoa y).length + [(105:UInt8)].length ≤ 1000000:=by have:=LA.out;have:=LB.out;simp only [List.length_append,List.length_singleton];omega
    clear k2 hcb
    go_wp2_with fail
    go_ret
    refine ⟨?_,K2.out⟩
    unfold markT
    rw [if_neg (show ¬ 0 ≤ (x,y).2 from by show ¬ 0 ≤ y;omega),List.append_nil,← ba_append,← ba_append]
    rfl
end Go.Proofs.YthamijnggdjaoaaGreatDoor
namespace Go.Proofs.YthamijnggdjaoaaGreatDoor
open Go.RowKit
def lineT (q t:Nat) (x:Int) (h:Nat) (z:Int × Int):List UInt8:=
  [115,116,101,112,32] ++ Lib.decDigits t ++ [32,108,111,115,115,32] ++ fixT x q ++ [32,104,97,115,104,32] ++ Lib.decDigits h ++ [32,109,97,114,107,32] ++ markT z
theorem frac_len:∀ (q f r:Nat),(frac q f r).length ≤ f
  | q,0,r => Nat.le_refl _
  | q,f + 1,r => by
    unfold frac
    split
    · exact Nat.zero_le _
    · have:=frac_len q f (10 * r % 2 ^ q);simp only [List.length_cons];omega
theorem fixT_len {x:Int} {q:Nat} (h0:-9223372036854775808 ≤ x) (h1:x ≤ 9223372036854775807) (hq:q ≤ 62):(fixT x q).length ≤ 84:=by
  unfold fixT
  have h:=dec_len (u:=x.natAbs / 2 ^ q) (by have:=Nat.div_le_self x.natAbs (2 ^ q);omega)
  have h2:=frac_len q q (x.natAbs % 2 ^ q)
  simp only [List.length_append]
  split <;> split <;> simp only [List.length_cons,List.length_nil,digB_len] <;> omega
theorem markT_len {z:Int × Int} (h1:z.1.natAbs ≤ 2 ^ 50) (h2:z.2.natAbs ≤ 2 ^ 50):(markT z).length ≤ 44:=by
  unfold markT
  have la:=itoa_len (n:=z.1) (by omega) (by omega)
  have lb:=itoa_len (n:=z.2) (by omega) (by omega)
  simp only [List.length_append]
  split <;> simp only [List.length_cons,List.length_nil] <;> omega
theorem et_str:ElemT Tryz.prog 89 9 (.string ⟨#[]⟩) 1 16:=⟨Tryz.underlying89,info_parts (by kernel_rfl),rfl,by decide⟩
theorem own_up {w w':World} {base:Nat} {e:TypeId} {size:Nat} {v:Value} {n:Nat} {xs:List Value} (h:w.ownsRow base e size v n xs) (k:∀ g,base ≤ g → w'.heap[g]? = w.heap[g]?):w'.ownsRow base e size v n xs:=
  ⟨h.1,h.2.imp id fun ⟨g,cap,cur,e1,hg,hgg,r⟩ => ⟨g,cap,cur,e1,hg,(k g hg).trans hgg,r⟩⟩
def strV (l:List UInt8):Value:=.string ⟨l.toArray⟩
theorem ladd_any (b n:Nat) (v:Value) (xs:List Value) (x y:List UInt8) (w:World) (hb:w.heap[b]? = some (.cells #[v] 89 (0,0))) (ho:w.ownsRow (b + 1) 9 1 v n xs) (hn:n ≤ 100) :
    Calls Tryz.prog 29 #[strV x,strV y,.pointer (some ⟨b,0,none⟩)] w fun e w' => e = .returned (.tuple #[]) ∧ (∃ v',w'.heap[b]? = some (.cells #[v'] 89 (0,0)) ∧ w'.ownsRow (b + 1) 9 1 v' (n + 2) (xs ++ [strV x,strV y])) ∧ Below b w w':=by
  obtain ⟨A,c,rfl,hA⟩:=own_form ho
  obtain ⟨c0,cf⟩:=bx1 hb
  have hl:=lt_of_block hb
  have Hb:=Lib.hid hb;have Ho:=Lib.hid ho
  clear hb ho
  unfold strV
  go_enter Tryz.func29,Tryz.ntmps29
  go_wp2_with (refine wpList_app et_str _ rfl (.tmp 5) (.tmp 8) rfl (b + 1) _ n xs rfl (Ho.out.alloc _) (some ⟨w.heap.size,0,none⟩) 2 2 [.string ⟨x.toArray⟩,.string ⟨y.toArray⟩] rfl (rd_newN w _ 9 w.heap.size rfl) rfl (fun u hu => by simp at hu;rcases hu with rfl | rfl <;> rfl) (by omega) (by unfold maxLen;omega) (by simp;omega) ?_)
  intro A' c' w3 h3 k3 _ _
  have Hb3:=Lib.hid ((k3.block b (Nat.lt_succ_self b)).trans ((Below.heap_alloc w _ b hl).trans Hb.out))
  have H3:=Lib.hid h3;have K3:=Lib.hid (((br w).alloc (Nat.le_refl _) _).mono (Nat.le_of_lt hl) |>.trans (k3.mono (Nat.le_succ b)))
  clear h3 k3 c0 cf
  obtain ⟨d0,df⟩:=bx1 Hb3.out
  go_wp2_with fail
  go_end0
  have kk:Keep (fun j => j = b) w3 (w3.setCell ⟨b,0,none⟩ (.slice A' (n + 2) c')):=Keep.setCell (S:=fun j => j = b) (Keep.refl _ _) ⟨b,0,none⟩ (.inr rfl) _
  refine ⟨rfl,⟨_,heap_setCell_same _ b 0 _ _ _ Hb3.out,own_up H3.out fun g hg => ?_⟩,K3.out.trans (kk.toBelow (Nat.le_trans (Nat.le_of_lt hl) K3.out.size) fun j hj => by have e:j = b:=hj;omega)⟩
  simp only [World.setCell]
  rw [Array.getElem?_modify,if_neg (by omega)]
end Go.Proofs.YthamijnggdjaoaaGreatDoor
namespace Go.Proofs.YthamijnggdjaoaaGreatDoor
open Go.RowKit
theorem c_cellZ {w:World} {A:Option Addr} {l:List (Int × Int)} (h:SlRd rC 1 w A l) {k:Nat} {z:Int × Int} (hx:l[k]? = some z) :
    ∃ b o ca cb,A = some ⟨b,o,none⟩ ∧ w.cell? ⟨b,o + k,none⟩ = some (.complex .f64 ca cb) ∧ IsW ca z.1 ∧ IsW cb z.2 ∧ z.1.natAbs ≤ 2 ^ 50 ∧ z.2.natAbs ≤ 2 ^ 50:=by
  obtain ⟨b,o,cs,rfl,hb,hl,⟨v,rfl,⟨ca,cb,rfl,h1,h2⟩,h3,h4⟩,h0,-⟩:=h.get (by decide) hx
  exact ⟨b,o,ca,cb,rfl,by simpa using h0,h1,h2,h3,h4⟩
noncomputable def lineI (i:Inp) (k:Nat):List UInt8:=lineT (shR i).toNat k ((lsL i).getD k 0) ((hsL i).getD k 0).toNat ((mkL i).getD k (0,0))
theorem hash_bd (l:List Int):0 ≤ hashF 1 l ∧ hashF 1 l < 18446744073709551616:=by
  have h:=hashF_w l 1 (by decide)
  rw [IntKind.wrap_u64] at h
  omega
theorem rep_at {w:World} {i:Inp} {vs:Array Value} (h:RepAt w i vs) {k:Nat} (hk:k < (resL i).length):∃ (A:Option Addr) (c bL oL d bH oH e bM oM f:Nat) (x:Int) (hN ca cb:Nat) (z:Int × Int),
    vs = #[.int .i64 (shR i),.slice A (resL i).length c,.slice (some ⟨bL,oL,none⟩) (resL i).length d,.slice (some ⟨bH,oH,none⟩) (resL i).length e,.slice (some ⟨bM,oM,none⟩) (resL i).length f] ∧
    w.cell? ⟨bL,oL + k,none⟩ = some (.int .i64 x) ∧ w.cell? ⟨bH,oH + k,none⟩ = some (.int .u64 (hN:Int)) ∧ w.cell? ⟨bM,oM + k,none⟩ = some (.complex .f64 ca cb) ∧ IsW ca z.1 ∧ IsW cb z.2 ∧ z.1.natAbs ≤ 2 ^ 50 ∧ z.2.natAbs ≤ 2 ^ 50 ∧
    -9223372036854775808 ≤ x ∧ x ≤ 9223372036854775807 ∧ hN < 18446744073709551616 ∧ lineI i k = lineT (shR i).toNat k x hN z:=by
  obtain ⟨A,c,L,d,H,e,M,f,rfl,h1,h2,h3,h4⟩:=h
  have k2:k < (lsL i).length:=by rw [lsL_len];exact hk
  have k3:k < (hsL i).length:=by rw [hsL_len];exact hk
  have k4:k < (mkL i).length:=by rw [mkL_len];exact hk
  obtain ⟨bL,oL,rfl,cL⟩:=h2.num k2
  obtain ⟨bH,oH,rfl,cH⟩:=h3.num k3
  obtain ⟨bM,oM,ca,cb,rfl,cM,i1,i2,i3,i4⟩:=c_cellZ h4 (List.getElem?_eq_getElem k4)
  have e1:nth (lsL i) k = (lsL i).getD k 0:=rfl
  have hx:(lsL i).getD k 0 = lossAcc i (resL i)[k].1 i.data:=by
    rw [List.getD_eq_getElem?_getD,List.getElem?_eq_getElem k2];simp [lsL]
  have hh:(hsL i).getD k 0 = hashF 1 (resL i)[k].1:=by
    rw [List.getD_eq_getElem?_getD,List.getElem?_eq_getElem k3];simp [hsL]
  have hb:=hash_bd (resL i)[k].1
  have hl:=lossAcc_W i (resL i)[k].1 i.data
  refine ⟨A,c,bL,oL,d,bH,oH,e,bM,oM,f,_,((hsL i).getD k 0).toNat,ca,cb,(mkL i)[k],rfl,cL,?_,cM,i1,i2,i3,i4,?_,?_,?_,?_⟩
  · rw [cH]
    show some (Value.int IntKind.u64 ((hsL i).getD k 0)) = _
    rw [hh,Int.toNat_of_nonneg hb.1]
  · show _ ≤ (lsL i).getD k 0;rw [hx];exact hl.1
  · show (lsL i).getD k 0 ≤ _;rw [hx];exact hl.2
  · rw [hh];omega
  · unfold lineI
    congr 1
    rw [List.getD_eq_getElem?_getD,List.getElem?_eq_getElem k4];rfl
theorem join_any (w:World) (base:Nat) (v:Value) (xs:List (List UInt8)) (hx:xs ≠ []) (ho:w.ownsRow base 9 1 v xs.length (xs.map strV)) (hl:(Lib.join xs [32]).length ≤ 1000000) (hn:xs.length ≤ 100) :
    Calls Tryz.prog 34 #[v,.string ⟨#[32]⟩] w fun e w' => e = .returned (strV (Lib.join xs [32])) ∧ Below w.heap.size w w':=by
  rcases ho.2 with ⟨-,h0⟩ | ⟨g,cap,cur,rfl,hg,hgg,hc,hm,hz,ht⟩
  · exact absurd (List.eq_nil_of_length_eq_zero h0) hx
  · have e1:(xs.map fun x => (⟨x.toArray⟩:ByteArray)).map (fun b => b.data.toList) = xs:=by
      rw [List.map_map]
      exact (List.map_congr_left fun x _ => rfl).trans (List.map_id xs)
    have hj:=Any.strings_Join Tryz.lays156 Tryz.Builder_Extra_156 g 0 cap (xs.map fun x => (⟨x.toArray⟩:ByteArray)) ⟨#[32]⟩ w (fun j x hx => by
      rw [List.getElem?_map] at hx
      cases hj:xs[j]? with
      | none => rw [hj] at hx;cases hx
      | some y =>
        rw [hj] at hx;cases hx
        rw [Nat.zero_add]
        have hjl:j < xs.length:=(List.getElem?_eq_some_iff.1 hj).1
        rw [World.ownsRow.cellAt ho j (by omega),List.getElem?_map,hj]
        rfl) (lt_of_block hgg) (by simp;omega) (by simpa using hc) (by rw [e1];show (Lib.join xs [32]).length ≤ _;omega)
    rw [List.length_map,e1] at hj
    exact hj
set_option maxRecDepth 100000 in
set_option maxHeartbeats 4000000 in
theorem line_out (vs:Array Value) (i:Inp) (t:Int) (w:World) (h:RepAt w i vs) (ht:¬ (0 ≤ t ∧ t < (resL i).length)) :
    Calls Tryz.prog 8 #[.agg vs,.int .i64 t] w fun e w' => e = .returned (.tuple #[strV [],.bool false]) ∧ Below w.heap.size w w':=by
  obtain ⟨A,c,L,d,H,e,M,f,rfl,-⟩:=h
  obtain ⟨n,hn⟩:∃ n,(resL i).length = n:=⟨_,rfl⟩
  rw [hn] at ht ⊢
  clear hn
  have hB:Below w.heap.size w (w.alloc (.cells #[.int .i64 (shR i),.slice A n c,.slice L n d,.slice H n e,.slice M n f] 35)):=(br w).alloc (Nat.le_refl _) _
  have KB:=Lib.hid hB
  clear hB
  go_enter Tryz.func8,Tryz.ntmps8
  by_cases h0:t < 0
  · have g:decide (t < 0) = true:=by simp [h0]
    go_wp2_with fail
    go_ret2
    exact ⟨rfl,KB.out⟩
  · have g:decide (t < 0) = false:=by simp;omega
    have g2:decide ((n:Int) ≤ t) = true:=by simp;omega
    go_wp2_with fail
    go_ret2
    exact ⟨rfl,KB.out⟩
set_option maxRecDepth 100000 in
set_option maxHeartbeats 4000000 in
theorem line_in (vs:Array Value) (i:Inp) (k:Nat) (w:World) (h:RepAt w i vs) (hk:k < (resL i).length) (hs0:0 ≤ shR i) (hs1:shR i ≤ 62) (htab:Lib.TabIs Tryz.prog w "internal/strconv.uint64pow10" .u64 Lib.pow10Tab) :
    Calls Tryz.prog 8 #[.agg vs,.int .i64 k] w fun e w' => e = .returned (.tuple #[strV (lineI i k),.bool true]) ∧ Below w.heap.size w w':=by
  obtain ⟨A,c,bL,oL,d,bH,oH,e,bM,oM,f,x,hN,ca,cb,z,rfl,cL,cH,cM,i1,i2,i3,i4,x0,x1,hb,hline⟩:=rep_at h hk
  have hnl:=resL_len i
  obtain ⟨n,hn⟩:∃ n,(resL i).length = n:=⟨_,rfl⟩
  obtain ⟨q,hq⟩:∃ q:Nat,shR i = q:=⟨(shR i).toNat,by omega⟩
  rw [hn] at hk hnl ⊢
  rw [hq] at hs1 hline ⊢
  rw [Int.toNat_natCast] at hline
  rw [hline]
  clear h hn hs0
  obtain ⟨W0,hW⟩:∃ W0,w.alloc (.cells #[.int .i64 (q:Int),.slice A n c,.slice (some ⟨bL,oL,none⟩) n d,.slice (some ⟨bH,oH,none⟩) n e,.slice (some ⟨bM,oM,none⟩) n f] 35) = W0:=⟨_,rfl⟩
  have k0:Below w.heap.size w W0:=by rw [← hW];exact (br w).alloc (Nat.le_refl _) _
  have g0:W0.heap[w.heap.size]? = some (.cells #[.int .i64 (q:Int),.slice A n c,.slice (some ⟨bL,oL,none⟩) n d,.slice (some ⟨bH,oH,none⟩) n e,.slice (some ⟨bM,oM,none⟩) n f] 35 (0,0)):=by rw [← hW];exact heap_alloc_new w _
  have z0:W0.heap.size = w.heap.size + 1:=by rw [← hW];exact World.size_alloc _ _
  have HT:=Lib.hid (Lib.tabBelow_of_tabIs htab)
  have HW:=Lib.hid hW;have K0:=Lib.hid k0;have G0:=Lib.hid g0;have CL:=Lib.hid cL;have CH:=Lib.hid cH;have CM:=Lib.hid cM;have I1:=Lib.hid i1;have I2:=Lib.hid i2;have I3:=Lib.hid i3;have I4:=Lib.hid i4;have X0:=Lib.hid x0;have X1:=Lib.hid x1
  clear htab hW k0 g0 cL cH cM i1 i2 i3 i4 x0 x1 hline hq
  have g1:decide ((k:Int) < 0) = false:=by simp
  have g2:decide ((n:Int) ≤ (k:Int)) = false:=by simp;omega
  go_enter Tryz.func8,Tryz.ntmps8
  go_wp2_with fail
  rw [HW.out]
  obtain ⟨O,hO⟩:∃ O,w.heap.size + 1 = O:=⟨_,rfl⟩
  rw [hO] at z0 ⊢
  have HO:=Lib.hid hO
  clear HW g1 g2 hO
  obtain ⟨W1,hW1⟩:∃ W1,W0.alloc (.cells #[.slice none 0 0] 89) = W1:=⟨_,rfl⟩
  have gO:W1.heap[O]? = some (.cells #[.slice none 0 0] 89 (0,0)):=by rw [← hW1,← z0];exact heap_alloc_new W0 _
  have k1:Below O W0 W1:=by rw [← hW1,← z0];exact (br W0).alloc (Nat.le_refl _) _
  rw [hW1]
  have hti:=fun w' (q:Below O W0 w') => HT.out w' (K0.out.trans (q.mono (by have:=K0.out.size;omega)))
  have Z0:=Lib.hid z0
  clear z0
  have HTI:=Lib.hid hti
  have lO:=lt_of_block gO
  refine (itoa_any k (by omega) (by omega) W1 (HTI.out W1 k1)).mono ?_
  rintro e w2 ⟨rfl,k2⟩
  rw [show Lib.itoa (k:Int) = Lib.decDigits k from by rw [itoa_eq,if_neg (by omega)];simp]
  have g2:=(k2.block _ lO).trans gO
  have q2:=k1.trans (k2.mono (by have:=k1.size;have:=Z0.out;omega))
  have G2:=Lib.hid g2;have Q2:=Lib.hid q2
  clear k1 k2 g2 q2 hti gO hW1 lO
  go_wp2_with fail
  refine (ladd_any O 0 (.slice none 0 0) [] [115,116,101,112] (Lib.decDigits k) w2 G2.out (World.ownsRow_nil _ _ _ _) (by decide)).mono ?_
  rintro e w3 ⟨rfl,⟨v3,g3,o3⟩,k3⟩
  have G3:=Lib.hid g3;have O3:=Lib.hid o3;have Q3:=Lib.hid (Q2.out.trans k3)
  clear g3 o3 k3 G2 Q2
  have GA:=Lib.hid (show ∀ w',Below O W0 w' → w'.heap[w.heap.size]? = some (.cells #[.int .i64 (q:Int),.slice A n c,.slice (some ⟨bL,oL,none⟩) n d,.slice (some ⟨bH,oH,none⟩) n e,.slice (some ⟨bM,oM,none⟩) n f] 35 (0,0)) from fun w' h => sb G0.out w' (by rw [Z0.out];exact h))
  have CA:=Lib.hid (show ∀ (b o:Nat) (v:Value),w.cell? ⟨b,o,none⟩ = some v → ∀ w',Below O W0 w' → w'.cell? ⟨b,o,none⟩ = some v from fun b o v h w' hb => cell_below (K0.out.trans (hb.mono (by have:=HO.out;omega))) h)
  have S3:=Lib.hid (show O ≤ w3.heap.size from by have:=Q3.out.size;have:=Z0.out;omega)
  clear G0
  have q0:Below O W0 w3.drew:=Q3.out.trans ((br w3).drew.mono S3.out)
  have r0:∀ w',Below O W0 w' → w'.cell? ⟨w.heap.size,0,none⟩ = some (.int .i64 (q:Int)):=fun w' h => cell_of_row w' w.heap.size 0 _ _ _ (GA.out w' h)
  have r2:∀ w',Below O W0 w' → w'.cell? ⟨w.heap.size,2,none⟩ = some (.slice (some ⟨bL,oL,none⟩) n d):=fun w' h => cell_of_row w' w.heap.size 2 _ _ _ (GA.out w' h)
  have rx:∀ w',Below O W0 w' → w'.cell? ⟨bL,oL + k,none⟩ = some (.int .i64 x):=CA.out _ _ _ CL.out
  go_upto_region 6 with (fail)
  refine HA.g (fun w':World => Below O W0 w') ?_
  refine HA.t ?_ [0,1,2,3,4,5,6,7] q0 ?_
  refine HA.c 8 (dtext_any x q X0.out X1.out (by omega) _ (HTI.out _ q0)) ?_
  rintro e w4 ⟨rfl,k4⟩
  have q4:Below O W0 w4:=q0.trans (k4.mono S3.out)
  refine ⟨_,rfl,q4,fun _ => ?_⟩
  refine HA.c 9 (ladd_any O 2 v3 [strV [115,116,101,112],strV (Lib.decDigits k)] [108,111,115,115] (fixT x q) w4 ((k4.block O (lt_of_block G3.out)).trans G3.out) (own_below (w:=w3.drew) (own_up O3.out fun _ _ => rfl) k4) (by decide)) (he:=by unfold strV;go_simp) ?_
  rintro e w5 ⟨rfl,⟨v5,g5,o5⟩,k5⟩
  have q5:=q4.trans k5
  refine ⟨_,rfl,q5,fun _ => HA.d ?_⟩
  have G5:=Lib.hid g5;have O5:=Lib.hid o5;have Q5:=Lib.hid q5
  clear g5 o5 k5 q5 q4 k4 r0 r2 rx q0 S3 G3 O3 Q3
  have c3:w5.cell? ⟨w.heap.size,3,none⟩ = some (.slice (some ⟨bH,oH,none⟩) n e):=cell_of_row w5 w.heap.size 3 _ _ _ (GA.out w5 Q5.out)
  have ch:=CA.out _ _ _ CH.out w5 Q5.out
  go_wp2_with fail
  refine (fu_any hN hb w5 (HTI.out w5 Q5.out)).mono ?_
  rintro e w6 ⟨rfl,k6⟩
  have S5:O ≤ w5.heap.size:=by have:=Q5.out.size;have:=Z0.out;omega
  have G6:=Lib.hid ((k6.block O (lt_of_block G5.out)).trans G5.out);have O6:=Lib.hid (own_below O5.out k6);have Q6:=Lib.hid (Q5.out.trans (k6.mono S5))
  clear S5 k6 c3 ch G5 O5 Q5
  go_wp2_with fail
  refine (ladd_any O 4 v5 _ [104,97,115,104] (Lib.decDigits hN) w6 G6.out O6.out (by decide)).mono ?_
  rintro e w7 ⟨rfl,⟨v7,g7,o7⟩,k7⟩
  have G7:=Lib.hid g7;have O7:=Lib.hid o7;have Q7:=Lib.hid (Q6.out.trans k7)
  clear g7 o7 k7 G6 O6 Q6
  have c4:w7.cell? ⟨w.heap.size,4,none⟩ = some (.slice (some ⟨bM,oM,none⟩) n f):=cell_of_row w7 w.heap.size 4 _ _ _ (GA.out w7 Q7.out)
  have cm:=CA.out _ _ _ CM.out w7 Q7.out
  go_wp2_with fail
  refine (mtext_any (.complex .f64 ca cb) z ⟨ca,cb,rfl,I1.out,I2.out⟩ I3.out I4.out w7 (HTI.out w7 Q7.out)).mono ?_
  rintro e w8 ⟨rfl,k8⟩
  have S7:O ≤ w7.heap.size:=by have:=Q7.out.size;have:=Z0.out;omega
  have G8:=Lib.hid ((k8.block O (lt_of_block G7.out)).trans G7.out);have O8:=Lib.hid (own_below O7.out k8);have Q8:=Lib.hid (Q7.out.trans (k8.mono S7))
  clear S7 k8 c4 cm G7 O7 Q7
  go_wp2_with fail
  refine (ladd_any O 6 v7 _ [109,97,114,107] (markT z) w8 G8.out O8.out (by decide)).mono ?_
  rintro e w9 ⟨rfl,⟨v9,g9,o9⟩,k9⟩
  have G9:=Lib.hid g9;have O9:=Lib.hid o9;have Q9:=Lib.hid (Q8.out.trans k9)
  clear g9 o9 k9 G8 O8 Q8
  have c9:=(bx1 G9.out).1
  have lx:=fixT_len X0.out X1.out (q:=q) (by omega)
  have lm:=markT_len I3.out I4.out
  have lh:=dec_len (u:=hN) hb
  have lk:=dec_len (u:=k) (by omega)
  go_wp2_with fail
  refine (join_any w9 (O + 1) v9 [[115,116,101,112],Lib.decDigits k,[108,111,115,115],fixT x q,[104,97,115,104],Lib.decDigits hN,[109,97,114,107],markT z] (by simp) O9.out (by simp [Lib.join,digB_len];omega) (by simp)).mono ?_
  rintro e w10 ⟨rfl,k10⟩
  have Q10:=Lib.hid (K0.out.trans ((Q9.out.trans (k10.mono (by have:=Q9.out.size;have:=Z0.out;omega))).mono (by have:=HO.out;omega)))
  clear c9 G9 O9 Q9 k10
  go_wp2_with fail
  go_ret2
  refine ⟨?_,Q10.out⟩
  have e0:Lib.join [[115,116,101,112],Lib.decDigits k,[108,111,115,115],fixT x q,[104,97,115,104],Lib.decDigits hN,[109,97,114,107],markT z] [32] = lineT q k x hN z:=by simp [Lib.join,lineT]
  rw [e0]
  rfl
end Go.Proofs.YthamijnggdjaoaaGreatDoor
namespace Go.Proofs.YthamijnggdjaoaaGreatDoor
open Go.RowKit
theorem mk_cellZ {w:World} {A:Option Addr} {l:List (Int × Int)} (h:SlRd rMk 2 w A l) {k:Nat} {z:Int × Int} (hx:l[k]? = some z) :
    ∃ b o,A = some ⟨b,o,none⟩ ∧ b < w.heap.size ∧ w.cell? ⟨b,o + k * 2,none⟩ = some (.int .i64 z.1) ∧ w.cell? ⟨b,o + k * 2 + 1,none⟩ = some (.int .i64 z.2) ∧ z.1.natAbs ≤ 2 ^ 50 ∧ z.2.natAbs ≤ 2 ^ 50:=by
  obtain ⟨b,o,cs,rfl,hb,hl,⟨rfl,h3,h4⟩,h0,ht⟩:=h.get (by decide) hx
  exact ⟨b,o,rfl,hb,h0,ht 1 (by decide),h3,h4⟩
theorem rt_mark:RowTy Tryz.prog 87 2:=⟨⟨_,Tryz.underlying87,by kernel_rfl⟩,by kernel_rfl⟩
theorem rrep_at {w:World} {i:Inp} {vs:Array Value} (h:RRepAt w i vs) {k:Nat} (hk:k < (resL i).length):∃ (A:Option Addr) (c bL oL d bH oH e bM oM f:Nat) (x:Int) (hN:Nat) (z:Int × Int),
    vs = #[.int .i64 (shR i),.slice A (resL i).length c,.slice (some ⟨bL,oL,none⟩) (resL i).length d,.slice (some ⟨bH,oH,none⟩) (resL i).length e,.slice (some ⟨bM,oM,none⟩) (resL i).length f] ∧
    w.cell? ⟨bL,oL + k,none⟩ = some (.int .i64 x) ∧ w.cell? ⟨bH,oH + k,none⟩ = some (.int .u64 (hN:Int)) ∧ w.cell? ⟨bM,oM + k * 2,none⟩ = some (.int .i64 z.1) ∧ w.cell? ⟨bM,oM + k * 2 + 1,none⟩ = some (.int .i64 z.2) ∧ z.1.natAbs ≤ 2 ^ 50 ∧ z.2.natAbs ≤ 2 ^ 50 ∧
    -9223372036854775808 ≤ x ∧ x ≤ 9223372036854775807 ∧ hN < 18446744073709551616 ∧ lineI i k = lineT (shR i).toNat k x hN z:=by
  obtain ⟨A,c,L,d,H,e,M,f,rfl,h1,h2,h3,h4⟩:=h
  have k2:k < (lsL i).length:=by rw [lsL_len];exact hk
  have k3:k < (hsL i).length:=by rw [hsL_len];exact hk
  have k4:k < (mkL i).length:=by rw [mkL_len];exact hk
  obtain ⟨bL,oL,rfl,cL⟩:=h2.num k2
  obtain ⟨bH,oH,rfl,cH⟩:=h3.num k3
  obtain ⟨bM,oM,rfl,-,c1,c2,i3,i4⟩:=mk_cellZ h4 (List.getElem?_eq_getElem k4)
  have hx:(lsL i).getD k 0 = lossAcc i (resL i)[k].1 i.data:=by
    rw [List.getD_eq_getElem?_getD,List.getElem?_eq_getElem k2];simp [lsL]
  have hh:(hsL i).getD k 0 = hashF 1 (resL i)[k].1:=by
    rw [List.getD_eq_getElem?_getD,List.getElem?_eq_getElem k3];simp [hsL]
  have hb:=hash_bd (resL i)[k].1
  have hl:=lossAcc_W i (resL i)[k].1 i.data
  refine ⟨A,c,bL,oL,d,bH,oH,e,bM,oM,f,_,((hsL i).getD k 0).toNat,(mkL i)[k],rfl,cL,?_,c1,c2,i3,i4,?_,?_,?_,?_⟩
  · rw [cH]
    show some (Value.int IntKind.u64 ((hsL i).getD k 0)) = _
    rw [hh,Int.toNat_of_nonneg hb.1]
  · show _ ≤ (lsL i).getD k 0;rw [hx];exact hl.1
  · show (lsL i).getD k 0 ≤ _;rw [hx];exact hl.2
  · rw [hh];omega
  · unfold lineI
    congr 1
    rw [List.getD_eq_getElem?_getD,List.getElem?_eq_getElem k4];rfl
set_option maxRecDepth 100000 in
set_option maxHeartbeats 4000000 in
theorem rline_out (vs:Array Value) (i:Inp) (t:Int) (w:World) (h:RRepAt w i vs) (ht:¬ (0 ≤ t ∧ t < (resL i).length)) :
    Calls Tryz.prog 9 #[.agg vs,.int .i64 t] w fun e w' => e = .returned (.tuple #[strV [],.bool false]) ∧ Below w.heap.size w w':=by
  obtain ⟨A,c,L,d,H,e,M,f,rfl,-⟩:=h
  obtain ⟨n,hn⟩:∃ n,(resL i).length = n:=⟨_,rfl⟩
  rw [hn] at ht ⊢
  clear hn
  have hB:Below w.heap.size w (w.alloc (.cells #[.int .i64 (shR i),.slice A n c,.slice L n d,.slice H n e,.slice M n f] 42)):=(br w).alloc (Nat.le_refl _) _
  have KB:=Lib.hid hB
  clear hB
  go_enter Tryz.func9,Tryz.ntmps9
  by_cases h0:t < 0
  · have g:decide (t < 0) = true:=by simp [h0]
    go_wp2_with fail
    go_ret2
    exact ⟨rfl,KB.out⟩
  · have g:decide (t < 0) = false:=by simp;omega
    have g2:decide ((n:Int) ≤ t) = true:=by simp;omega
    go_wp2_with fail
    go_ret2
    exact ⟨rfl,KB.out⟩
set_option maxRecDepth 100000 in
set_option maxHeartbeats 4000000 in
theorem rline_in (vs:Array Value) (i:Inp) (k:Nat) (w:World) (h:RRepAt w i vs) (hk:k < (resL i).length) (hs0:0 ≤ shR i) (hs1:shR i ≤ 62) :
    Calls Tryz.prog 9 #[.agg vs,.int .i64 k] w fun e w' => e = .returned (.tuple #[strV (lineI i k),.bool true]) ∧ Below w.heap.size w w':=by
  obtain ⟨A,c,bL,oL,d,bH,oH,e,bM,oM,f,x,hN,z,rfl,cL,cH,cM,cN,i3,i4,x0,x1,hb,hline⟩:=rrep_at h hk
  have hnl:=resL_len i
  obtain ⟨n,hn⟩:∃ n,(resL i).length = n:=⟨_,rfl⟩
  obtain ⟨q,hq⟩:∃ q:Nat,shR i = q:=⟨(shR i).toNat,by omega⟩
  rw [hn] at hk hnl ⊢
  rw [hq] at hs1 hline ⊢
  rw [Int.toNat_natCast] at hline
  rw [hline]
  clear h hn hs0
  obtain ⟨W0,hW⟩:∃ W0,w.alloc (.cells #[.int .i64 (q:Int),.slice A n c,.slice (some ⟨bL,oL,none⟩) n d,.slice (some ⟨bH,oH,none⟩) n e,.slice (some ⟨bM,oM,none⟩) n f] 42) = W0:=⟨_,rfl⟩
  have k0:Below w.heap.size w W0:=by rw [← hW];exact (br w).alloc (Nat.le_refl _) _
  have g0:W0.heap[w.heap.size]? = some (.cells #[.int .i64 (q:Int),.slice A n c,.slice (some ⟨bL,oL,none⟩) n d,.slice (some ⟨bH,oH,none⟩) n e,.slice (some ⟨bM,oM,none⟩) n f] 42 (0,0)):=by rw [← hW];exact heap_alloc_new w _
  have cm:w.rangeAt bM (oM + k * 2) [.int .i64 z.1,.int .i64 z.2]:=fun j v hj => by
    match j with
    | 0 => cases hj;exact cM
    | 1 => cases hj;exact cN
    | j + 2 => cases hj
  have rM:∀ w',Below W0.heap.size W0 w' → w'.rangeAt bM (oM + k * 2) [.int .i64 z.1,.int .i64 z.2]:=fun w' h j v hj => cell_below (k0.trans (h.mono k0.size)) (cm j v hj)
  have rL:∀ w',Below W0.heap.size W0 w' → w'.cell? ⟨bL,oL + k,none⟩ = some (.int .i64 x):=fun w' h => cell_below (k0.trans (h.mono k0.size)) cL
  have rH:∀ w',Below W0.heap.size W0 w' → w'.cell? ⟨bH,oH + k,none⟩ = some (.int .u64 (hN:Int)):=fun w' h => cell_below (k0.trans (h.mono k0.size)) cH
  have lx:=fixT_len x0 x1 (q:=q) (by omega)
  have lm:=markT_len i3 i4
  have lh:=dec_len (u:=hN) hb
  have lk:=dec_len (u:=k) (by omega)
  have HW:=Lib.hid hW;have K0:=Lib.hid k0;have G0:=Lib.hid g0;have RM:=Lib.hid rM;have RL:=Lib.hid rL;have RH:=Lib.hid rH;have I3:=Lib.hid i3;have I4:=Lib.hid i4;have X0:=Lib.hid x0;have X1:=Lib.hid x1
  have LX:=Lib.hid lx;have LM:=Lib.hid lm;have LH:=Lib.hid lh;have LK:=Lib.hid lk
  clear hW k0 g0 rM rL rH cm cL cH cM cN i3 i4 x0 x1 hline hq lx lm lh lk
  have g1:decide ((k:Int) < 0) = false:=by simp
  have g2:decide ((n:Int) ≤ (k:Int)) = false:=by simp;omega
  have hki:(k:Int) < n:=by omega
  go_enter Tryz.func9,Tryz.ntmps9
  go_upto_region 3 with (fail)
  rw [HW.out]
  clear HW g1 g2
  have hwk:IntKind.u64.wrap (k:Int) = (k:Int):=by rw [IntKind.wrap_u64];omega
  have r0:∀ w',Below W0.heap.size W0 w' → w'.cell? ⟨w.heap.size,0,none⟩ = some (.int .i64 (q:Int)):=fun w' h => cell_of_row w' w.heap.size 0 _ _ _ (sb G0.out w' h)
  have r2:∀ w',Below W0.heap.size W0 w' → w'.cell? ⟨w.heap.size,2,none⟩ = some (.slice (some ⟨bL,oL,none⟩) n d):=fun w' h => cell_of_row w' w.heap.size 2 _ _ _ (sb G0.out w' h)
  have r3:∀ w',Below W0.heap.size W0 w' → w'.cell? ⟨w.heap.size,3,none⟩ = some (.slice (some ⟨bH,oH,none⟩) n e):=fun w' h => cell_of_row w' w.heap.size 3 _ _ _ (sb G0.out w' h)
  have r4:∀ w',Below W0.heap.size W0 w' → w'.cell? ⟨w.heap.size,4,none⟩ = some (.slice (some ⟨bM,oM,none⟩) n f):=fun w' h => cell_of_row w' w.heap.size 4 _ _ _ (sb G0.out w' h)
  have rL:=RL.out
  have rH:=RH.out
  have q0:=(br W0).drew
  refine HA.g (fun w':World => Below W0.heap.size W0 w') ?_
  refine HA.t ?_ [0,1,5,6,7,8,9,10,11,15,16,17,18,19,23,24,25,26] q0 ?_
  refine HA.lr 27 RM.out rt_mark q0 ?_
  clear r0 r2 r3 r4 rL rH
  refine HA.c 2 (unsigned_any k _ (by omega)) ?_
  rintro e w1 ⟨rfl,n1,rfl⟩
  have q1:=below_drewN q0 n1
  obtain ⟨L1,hL1⟩:∃ L,[(115:UInt8),116,101,112,32] ++ Lib.decDigits k = L:=⟨_,rfl⟩
  obtain ⟨L2,hL2⟩:∃ L,L1 ++ [(32:UInt8),108,111,115,115,32] = L:=⟨_,rfl⟩
  obtain ⟨L3,hL3⟩:∃ L,L2 ++ fixT x q = L:=⟨_,rfl⟩
  obtain ⟨L4,hL4⟩:∃ L,L3 ++ [(32:UInt8),104,97,115,104,32] = L:=⟨_,rfl⟩
  obtain ⟨L5,hL5⟩:∃ L,L4 ++ Lib.decDigits hN = L:=⟨_,rfl⟩
  obtain ⟨L6,hL6⟩:∃ L,L5 ++ [(32:UInt8),109,97,114,107,32] = L:=⟨_,rfl⟩
  obtain ⟨L7,hL7⟩:∃ L,L6 ++ markT z = L:=⟨_,rfl⟩
  have hl7:=congrArg List.length hL7
  have hl6:=congrArg List.length hL6
  have hl5:=congrArg List.length hL5
  have hl4:=congrArg List.length hL4
  have hl3:=congrArg List.length hL3
  have hl2:=congrArg List.length hL2
  have hl1:=congrArg List.length hL1
  have:=LX.out;have:=LM.out;have:=LH.out;have:=LK.out
  simp only [List.length_append,List.length_cons,List.length_nil] at hl1 hl2 hl3 hl4 hl5 hl6 hl7
  have e1:=cat_str 9 [115,116,101,112,32] (Lib.decDigits k) (by simp only [List.length_cons,List.length_nil];omega)
  have e2:=cat_str 9 L1 [32,108,111,115,115,32] (by simp only [List.length_cons,List.length_nil];omega)
  have e3:=cat_str 9 L2 (fixT x q) (by omega)
  have e4:=cat_str 9 L3 [32,104,97,115,104,32] (by simp only [List.length_cons,List.length_nil];omega)
  have e5:=cat_str 9 L4 (Lib.decDigits hN) (by omega)
  have e6:=cat_str 9 L5 [32,109,97,114,107,32] (by simp only [List.length_cons,List.length_nil];omega)
  have e7:=cat_str 9 L6 (markT z) (by omega)
  rw [hL1] at e1;rw [hL2] at e2;rw [hL3] at e3;rw [hL4] at e4;rw [hL5] at e5;rw [hL6] at e6;rw [hL7] at e7
  have HL:=Lib.hid (show L7 = lineT q k x hN z by rw [← hL7,← hL6,← hL5,← hL4,← hL3,← hL2,← hL1];rfl)
  clear hl1 hl2 hl3 hl4 hl5 hl6 hl7 hL1 hL2 hL3 hL4 hL5 hL6 hL7
  refine ⟨_,rfl,q1,fun _ => ?_⟩
  refine HA.t ?_ [3,4] q1 ?_
  refine HA.c 12 (rtext_any x q X0.out X1.out (by omega) _) ?_
  rintro e w2 ⟨rfl,k2⟩
  have q2:=bt q1 k2
  refine ⟨_,rfl,q2,fun _ => ?_⟩
  refine HA.t ?_ [13,14] q2 ?_
  refine HA.c 20 (unsigned_any hN _ hb) ?_
  rintro e w3 ⟨rfl,n3,rfl⟩
  have q3:=below_drewN q2 n3
  refine ⟨_,rfl,q3,fun _ => ?_⟩
  refine HA.t ?_ [21,22] q3 ?_
  refine HA.c 28 (rmark_any z.1 z.2 I3.out I4.out _) ?_
  rintro e w4 ⟨rfl,k4⟩
  have q4:=bt q3 k4
  refine ⟨_,rfl,q4,fun _ => ?_⟩
  refine HA.t ?_ [29,30,31] q4 ?_
  refine HA.d ?_
  have Q4:=Lib.hid (K0.out.trans (q4.mono K0.out.size))
  clear q4 k4 q3 q2 k2 q1
  go_wp2_with fail
  go_ret2
  refine ⟨?_,Q4.out⟩
  rw [← HL.out]
  rfl
end Go.Proofs.YthamijnggdjaoaaGreatDoor
namespace Go.Proofs.YthamijnggdjaoaaGreatDoor
open Go.RowKit
noncomputable def textI (i:Inp):Nat → List UInt8
  | 0 => []
  | k + 1 => textI i k ++ (lineI i k ++ [10])
theorem lineT_len {q t:Nat} {x:Int} {h:Nat} {z:Int × Int} (ht:t < 18446744073709551616) (h0:-9223372036854775808 ≤ x) (h1:x ≤ 9223372036854775807) (hq:q ≤ 62) (hh:h < 18446744073709551616) (h3:z.1.natAbs ≤ 2 ^ 50) (h4:z.2.natAbs ≤ 2 ^ 50):(lineT q t x h z).length ≤ 200:=by
  have lx:=fixT_len h0 h1 (q:=q) hq
  have lm:=markT_len h3 h4
  have lh:=dec_len (u:=h) hh
  have lk:=dec_len (u:=t) ht
  unfold lineT
  simp only [List.length_append,List.length_cons,List.length_nil]
  omega
theorem lineI_len {w:World} {i:Inp} {vs:Array Value} (h:RepAt w i vs) (hs:0 ≤ shR i ∧ shR i ≤ 62) {k:Nat} (hk:k < (resL i).length):(lineI i k).length ≤ 200:=by
  obtain ⟨A,c,bL,oL,d,bH,oH,e,bM,oM,f,x,hN,ca,cb,z,rfl,-,-,-,-,-,i3,i4,x0,x1,hb,hline⟩:=rep_at h hk
  rw [hline]
  have:=resL_len i
  exact lineT_len (by omega) x0 x1 (by omega) hb i3 i4
theorem rlineI_len {w:World} {i:Inp} {vs:Array Value} (h:RRepAt w i vs) (hs:0 ≤ shR i ∧ shR i ≤ 62) {k:Nat} (hk:k < (resL i).length):(lineI i k).length ≤ 200:=by
  obtain ⟨A,c,bL,oL,d,bH,oH,e,bM,oM,f,x,hN,z,rfl,-,-,-,-,i3,i4,x0,x1,hb,hline⟩:=rrep_at h hk
  rw [hline]
  have:=resL_len i
  exact lineT_len (by omega) x0 x1 (by omega) hb i3 i4
theorem textI_len {i:Inp}:∀ k,(∀ j,j < k → (lineI i j).length ≤ 200) → (textI i k).length ≤ 201 * k
  | 0,_ => Nat.le_refl _
  | k + 1,h => by
    have h1:=textI_len k (fun j hj => h j (by omega))
    have h2:=h k (Nat.lt_succ_self k)
    show (textI i k ++ (lineI i k ++ [10])).length ≤ _
    simp only [List.length_append,List.length_singleton]
    omega
set_option maxRecDepth 100000 in
set_option maxHeartbeats 4000000 in
theorem text_any (vs:Array Value) (i:Inp) (w:World) (h:RepAt w i vs) (hs:0 < (resL i).length → 0 ≤ shR i ∧ shR i ≤ 62) (hL:(resL i).length ≤ 1000) (htab:Lib.TabIs Tryz.prog w "internal/strconv.uint64pow10" .u64 Lib.pow10Tab) :
    Calls Tryz.prog 12 #[.agg vs] w fun e w' => e = .returned (strV (textI i (resL i).length)) ∧ Below w.heap.size w w':=by
  have hll:∀ j,j < (resL i).length → (lineI i j).length ≤ 200:=fun j hj => lineI_len h (hs (by omega)) hj
  have hline:=fun w' (q:Below w.heap.size w w') k (hk:k < (resL i).length) => line_in vs i k w' (h.below q) hk (hs (by omega)).1 (hs (by omega)).2 (Lib.tabBelow_of_tabIs htab w' q)
  have htl:=fun k (hk:k ≤ (resL i).length) => textI_len k fun j hj => hll j (by omega)
  obtain ⟨A,c,L,d,H,e,M,f,rfl,-⟩:=h
  obtain ⟨n,hn⟩:∃ n,(resL i).length = n:=⟨_,rfl⟩
  obtain ⟨q,hq⟩:∃ q,shR i = q:=⟨_,rfl⟩
  rw [hn] at hll hline htl hL ⊢
  rw [hq] at hline ⊢
  obtain ⟨W0,hW⟩:∃ W0,(w.alloc (.cells #[.int .i64 q,.slice A n c,.slice L n d,.slice H n e,.slice M n f] 35)).alloc (.cells #[.pointer none,.slice none 0 0] 102) = W0:=⟨_,rfl⟩
  have k0:Below w.heap.size w W0:=by rw [← hW];exact ((br w).alloc (Nat.le_refl _) _).alloc (by simp) _
  have g0:W0.heap[w.heap.size]? = some (.cells #[.int .i64 q,.slice A n c,.slice L n d,.slice H n e,.slice M n f] 35 (0,0)):=by rw [← hW];exact (Below.heap_alloc (w.alloc (.cells #[.int .i64 q,.slice A n c,.slice L n d,.slice H n e,.slice M n f] 35)) (.cells #[.pointer none,.slice none 0 0] 102) w.heap.size (by simp)).trans (heap_alloc_new w _)
  have g1:W0.heap[w.heap.size + 1]? = some (.cells #[.pointer none,.slice none 0 0] 102 (0,0)):=by
    have:=heap_alloc_new (w.alloc (.cells #[.int .i64 q,.slice A n c,.slice L n d,.slice H n e,.slice M n f] 35)) (.cells #[.pointer none,.slice none 0 0] 102)
    rw [show (w.alloc (.cells #[.int .i64 q,.slice A n c,.slice L n d,.slice H n e,.slice M n f] 35)).heap.size = w.heap.size + 1 by simp] at this
    rw [← hW];exact this
  have c1:=(bx5 g0).1.2.1
  have z0:W0.heap.size = w.heap.size + 1 + 1:=by rw [← hW];simp
  have hG:((w.alloc (.cells #[.int .i64 q,.slice A n c,.slice L n d,.slice H n e,.slice M n f] 35)).alloc (.cells #[.pointer none,.slice none 0 0] 102)).cell? ⟨w.heap.size,1,none⟩ = some (.slice A n c):=by rw [hW];exact c1
  have HG:=Lib.hid hG;have HW:=Lib.hid hW;have K0:=Lib.hid k0;have G0:=Lib.hid g0;have G1:=Lib.hid g1;have HLL:=Lib.hid hll;have HLI:=Lib.hid hline;have HTL:=Lib.hid htl;have Z0:=Lib.hid z0
  clear hW k0 g0 g1 hll hline htl hs htab hn hq c1 z0 hG
  go_enter Tryz.func12,Tryz.ntmps12
  have hG:=HG.out
  go_wp2_with fail
  rw [HW.out]
  clear hG HG HW
  obtain ⟨B,hB⟩:∃ B,w.heap.size + 1 = B:=⟨_,rfl⟩
  rw [hB] at G1 Z0 ⊢
  have HB:=Lib.hid hB
  clear hB
  have hI:Lib.IsBuilderF 102 5 B B [] W0:=.inl ⟨Nat.le_refl _,.slice none 0 0,G1.out,by simp [World.ownsRowF],by simp [Value.ownBlock]⟩
  have HI:=Lib.hid hI
  clear hI G1
  go_loopw [4,5,6,10] (fun _ _ _ y wr => ∃ k:Nat,k ≤ n ∧ y = .int .i64 k ∧ Lib.IsBuilderF 102 5 B B (Lib.byteCells (textI i k)) wr ∧ Below B W0 wr) (fun _ _ _ y _ => n - (intOf y).toNat)
  case atStart => exact ⟨0,Nat.zero_le _,rfl,HI.out,(br W0).mono (by have:=Z0.out;omega)⟩
  case round =>
    clear HI
    obtain ⟨k,hk,rfl,hI,hB⟩:=hrel
    have HI:=Lib.hid hI;have HBl:=Lib.hid hB
    have Kr:=Lib.hid (K0.out.trans (hB.mono (by have:=HB.out;omega)))
    have Gr:=Lib.hid ((hB.block w.heap.size (by have:=HB.out;omega)).trans G0.out)
    have hwz:B ≤ wr.heap.size:=by have:=hB.size;have:=Z0.out;omega
    have Hwz:=Lib.hid hwz
    clear hI hB hwz
    by_cases hlt:k < n
    · have hlti:(k:Int) < n:=by omega
      go_wp2_with (refine wpl_load #[.int .i64 q,.slice A n c,.slice L n d,.slice H n e,.slice M n f] Gr.out rt_rep rfl rfl rfl rfl ?_)
      refine (HLI.out wr Kr.out k hlt).mono ?_
      rintro e w1 ⟨rfl,k1⟩
      have h1:=HLL.out k hlt
      have h2:=HTL.out k hk
      have htx:textI i (k + 1) = textI i k ++ (lineI i k ++ [10]):=rfl
      have HI1:=Lib.hid (bof_below HI.out k1);have HB1:=Lib.hid (HBl.out.trans (k1.mono Hwz.out));have Hz1:=Lib.hid (Nat.le_trans Hwz.out k1.size);have HX:=Lib.hid htx
      clear k1 htx
      obtain ⟨l,hl⟩:∃ l,lineI i k = l:=⟨_,rfl⟩
      rw [hl] at h1 HX ⊢
      unfold strV
      have e1:=cat_str 9 l [10] (by simp only [List.length_singleton];omega)
      obtain ⟨l2,hl2⟩:∃ l2,l ++ [10] = l2:=⟨_,rfl⟩
      have h3:l2.length ≤ 201:=by rw [← hl2,List.length_append,List.length_singleton];omega
      rw [hl2] at e1 HX
      have hws:=wstr_any B B (textI i k) l2 w1 HI1.out (by omega) Hz1.out
      have Hws:=Lib.hid hws
      clear hws hl hl2
      go_wp2_with fail
      refine Hws.out.mono ?_
      rintro e w2 ⟨rfl,hI2,hB2⟩
      rw [← HX.out] at hI2
      have HI2:=Lib.hid hI2;have HB2:=Lib.hid (HB1.out.trans hB2)
      clear hI2 hB2 e1
      go_wp2_with fail
      go_roundw
      case rel => exact ⟨k + 1,by omega,by go_num,HI2.out,HB2.out⟩
      case measure => simp [intOf];omega
    · obtain rfl:k = n:=by omega
      have hst:=bstr_any B B (textI i k) wr HI.out Hwz.out
      have Hst:=Lib.hid hst
      clear hst
      go_wp2_with fail
      refine Hst.out.mono ?_
      rintro e w2 ⟨rfl,hB2⟩
      have HB2:=Lib.hid (K0.out.trans ((HBl.out.trans hB2).mono (by have:=HB.out;omega)))
      clear hB2
      go_wp2_with fail
      go_ret
      exact ⟨rfl,HB2.out⟩
set_option maxRecDepth 100000 in
set_option maxHeartbeats 4000000 in
theorem rtextR_any (vs:Array Value) (i:Inp) (w:World) (h:RRepAt w i vs) (hs:0 < (resL i).length → 0 ≤ shR i ∧ shR i ≤ 62) (hL:(resL i).length ≤ 1000) :
    Calls Tryz.prog 13 #[.agg vs] w fun e w' => e = .returned (strV (textI i (resL i).length)) ∧ Below w.heap.size w w':=by
  have hll:∀ j,j < (resL i).length → (lineI i j).length ≤ 200:=fun j hj => rlineI_len h (hs (by omega)) hj
  have hline:=fun w' (q:Below w.heap.size w w') k (hk:k < (resL i).length) => rline_in vs i k w' (h.below q) hk (hs (by omega)).1 (hs (by omega)).2
  have htl:=fun k (hk:k ≤ (resL i).length) => textI_len k fun j hj => hll j (by omega)
  obtain ⟨A,c,L,d,H,e,M,f,rfl,-⟩:=h
  obtain ⟨n,hn⟩:∃ n,(resL i).length = n:=⟨_,rfl⟩
  obtain ⟨q,hq⟩:∃ q,shR i = q:=⟨_,rfl⟩
  rw [hn] at hll hline htl hL ⊢
  rw [hq] at hline ⊢
  obtain ⟨W0,hW⟩:∃ W0,w.alloc (.cells #[.int .i64 q,.slice A n c,.slice L n d,.slice H n e,.slice M n f] 42) = W0:=⟨_,rfl⟩
  have k0:Below w.heap.size w W0:=by rw [← hW];exact (br w).alloc (Nat.le_refl _) _
  have g0:W0.heap[w.heap.size]? = some (.cells #[.int .i64 q,.slice A n c,.slice L n d,.slice H n e,.slice M n f] 42 (0,0)):=by rw [← hW];exact heap_alloc_new w _
  have HW:=Lib.hid hW;have K0:=Lib.hid k0;have G0:=Lib.hid g0;have HLL:=Lib.hid hll;have HLI:=Lib.hid hline;have HTL:=Lib.hid htl
  clear hW k0 g0 hll hline htl hs hn hq
  go_enter Tryz.func13,Tryz.ntmps13
  go_wp2_with fail
  rw [HW.out]
  clear HW
  go_loopw [3,4,5,6] (fun s y _ _ wr => ∃ k:Nat,k ≤ n ∧ y = .int .i64 k ∧ s = strV (textI i k) ∧ Below W0.heap.size W0 wr) (fun _ y _ _ _ => n - (intOf y).toNat)
  case atStart => exact ⟨0,Nat.zero_le _,rfl,rfl,br W0⟩
  case round =>
    obtain ⟨k,hk,rfl,rfl,hB⟩:=hrel
    have HBl:=Lib.hid hB
    have Kr:=Lib.hid (K0.out.trans (hB.mono K0.out.size))
    have Gr:=Lib.hid (sb G0.out wr hB)
    obtain ⟨⟨d0,d1,d2,d3,d4⟩,-⟩:=bx5 (sb G0.out wr hB)
    clear hB
    by_cases hlt:k < n
    · have hlti:(k:Int) < n:=by omega
      go_wp2_with fail
      refine (HLI.out wr Kr.out k hlt).mono ?_
      rintro e w1 ⟨rfl,k1⟩
      have h1:=HLL.out k hlt
      have h2:=HTL.out k hk
      have htx:textI i (k + 1) = textI i k ++ lineI i k ++ [10]:=(List.append_assoc _ _ _).symm
      have HB1:=Lib.hid (bt HBl.out k1);have HX:=Lib.hid htx
      clear k1 htx
      obtain ⟨l,hl⟩:∃ l,lineI i k = l:=⟨_,rfl⟩
      obtain ⟨x,hx⟩:∃ x,textI i k = x:=⟨_,rfl⟩
      rw [hl] at h1 HX ⊢
      rw [hx] at h2 HX ⊢
      unfold strV
      have e1:=cat_str 9 x l (by omega)
      have e2:=cat_str 9 (x ++ l) [10] (by simp only [List.length_append,List.length_singleton];omega)
      rw [← HX.out] at e2
      obtain ⟨l2,hl2⟩:∃ l2,x ++ l = l2:=⟨_,rfl⟩
      rw [hl2] at e1 e2
      clear hl hl2 hx
      go_wp2_with fail
      go_roundw
      case rel => exact ⟨k + 1,by omega,by go_num,rfl,HB1.out⟩
      case measure => simp [intOf];omega
    · obtain rfl:k = n:=by omega
      have Kq:=Lib.hid (K0.out.trans (HBl.out.mono K0.out.size))
      go_wp2_with fail
      go_ret
      exact ⟨rfl,Kq.out⟩
end Go.Proofs.YthamijnggdjaoaaGreatDoor
namespace Go.Proofs.YthamijnggdjaoaaGreatDoor
open Go.RowKit Go.ChangeShapes Go.WideShapes Go.ChangeAt
theorem alive25t (w:World):Calls Tryz.prog 5 #[] w fun e w' => e = .returned (.bool true) ∧ Below w.heap.size w w':=by
  go_enter Tryz.func5,Tryz.ntmps5
  go_wp2_with fail
  refine (name_any 2 w).mono ?_
  rintro e w1 ⟨rfl,k1⟩
  have K1:=Lib.hid k1
  clear k1
  rw [show nmS 2 = ⟨#[116,117,114,110,115]⟩ from rfl]
  go_wp2_with fail
  go_ret
  exact ⟨by simp,K1.out⟩
theorem trun_anyT (A:Option Addr) (c:Nat) (D:Option Addr) (cd:Nat) (T:Option Addr) (ct:Nat) (R:Option Addr) (cr:Nat) (i:Inp) (w:World) (h:InpRd w A c D T ct R i) :
    Calls Tryz.prog 6 #[.agg (inpVals A c D cd T ct R cr i),.int .i64 1] w fun e w' => ∃ vs,e = .returned (.tuple #[.agg vs,.int .i64 (inCode i)]) ∧ RepAt w' i vs ∧ Below w.heap.size w w':=by
  by_cases hz:inCode i = 0
  · rw [hz];exact trun_good A c D cd T ct R cr i w h (in_good.1 hz)
  · exact trun_bad A c D cd T ct R cr i w h hz
theorem rrun_anyT (A:Option Addr) (c:Nat) (D:Option Addr) (cd:Nat) (T:Option Addr) (ct:Nat) (R:Option Addr) (cr:Nat) (i:Inp) (w:World) (h:InpRd w A c D T ct R i) :
    Calls Tryz.prog 7 #[.agg (inpVals A c D cd T ct R cr i),.int .i64 1] w fun e w' => ∃ vs,e = .returned (.tuple #[.agg vs,.int .i64 (inCode i)]) ∧ RRepAt w' i vs ∧ Below w.heap.size w w':=by
  by_cases hz:inCode i = 0
  · rw [hz];exact rrun_good A c D cd T ct R cr i w h (in_good.1 hz)
  · exact rrun_bad A c D cd T ct R cr i w h hz
noncomputable def lnA (i:Inp) (t:Int):List UInt8:=if 0 ≤ t ∧ t < (resL i).length then lineI i t.toNat else []
noncomputable def okA (i:Inp) (t:Int):Bool:=decide (0 ≤ t ∧ t < (resL i).length)
theorem sh_ok {i:Inp} (h:0 < (resL i).length):0 ≤ shR i ∧ shR i ≤ 62:=by
  by_cases hg:GoodIn i
  · unfold shR
    rw [if_pos hg]
    have:=hg.c.s
    omega
  · unfold resL at h
    rw [if_neg hg] at h
    exact absurd h (Nat.lt_irrefl _)
theorem res_few {i:Inp} (h:FewW i):(resL i).length ≤ 1000:=by
  by_cases hg:GoodIn i
  · have:=(h.2 (in_good.2 hg)).2.1
    have:=hg.c.st
    unfold resL
    rw [if_pos hg,trajL_len]
    omega
  · unfold resL
    rw [if_neg hg]
    simp
theorem lineA_any (vs:Array Value) (i:Inp) (t:Int) (w:World) (h:RepAt w i vs) (htab:Lib.TabIs Tryz.prog w "internal/strconv.uint64pow10" .u64 Lib.pow10Tab) :
    Calls Tryz.prog 8 #[.agg vs,.int .i64 t] w fun e w' => e = .returned (.tuple #[.string ⟨(lnA i t).toArray⟩,.bool (okA i t)]) ∧ Below w.heap.size w w':=by
  by_cases ht:0 ≤ t ∧ t < (resL i).length
  · have hs:=sh_ok (i:=i) (by omega)
    obtain ⟨k,rfl⟩:∃ k:Nat,t = k:=⟨t.toNat,by omega⟩
    have hx:=line_in vs i k w h (by omega) hs.1 hs.2 htab
    unfold lnA okA
    rw [if_pos ht,decide_eq_true ht,Int.toNat_natCast]
    exact hx
  · have hx:=line_out vs i t w h ht
    unfold lnA okA
    rw [if_neg ht,decide_eq_false ht]
    exact hx
theorem rlineA_any (vs:Array Value) (i:Inp) (t:Int) (w:World) (h:RRepAt w i vs) :
    Calls Tryz.prog 9 #[.agg vs,.int .i64 t] w fun e w' => e = .returned (.tuple #[.string ⟨(lnA i t).toArray⟩,.bool (okA i t)]) ∧ Below w.heap.size w w':=by
  by_cases ht:0 ≤ t ∧ t < (resL i).length
  · have hs:=sh_ok (i:=i) (by omega)
    obtain ⟨k,rfl⟩:∃ k:Nat,t = k:=⟨t.toNat,by omega⟩
    have hx:=rline_in vs i k w h (by omega) hs.1 hs.2
    unfold lnA okA
    rw [if_pos ht,decide_eq_true ht,Int.toNat_natCast]
    exact hx
  · have hx:=rline_out vs i t w h ht
    unfold lnA okA
    rw [if_neg ht,decide_eq_false ht]
    exact hx
set_option maxRecDepth 100000 in
set_option maxHeartbeats 4000000 in
theorem TrainTexts_walk {H:Type} {enc:TypeId × Value → H} {base:Nat} {v0:Value} {t:Int} {d0:DataW H} {p0:List MemPlace} (W:World)
    (o0:Value.okWide Tryz.prog W .any base 29 v0) (h0:DataW.Trod enc Tryz.prog W 0 (fun _ => true) true 29 v0 d0 p0) (z0:Light Tryz.prog 29 d0)
    (htab:Lib.TabIs Tryz.prog W "internal/strconv.uint64pow10" .u64 Lib.pow10Tab) :
    Calls Tryz.prog 3 #[v0,.int .i64 t] W fun e w' => e = .returned (.bool true) ∧ Below W.heap.size W w':=by
  obtain ⟨A,c,D,cd,T,ct,R,cr,i,rfl,hI,_⟩:=open_inp o0 h0 z0
  clear o0 h0 z0
  have fa:=fun w' (q:Below W.heap.size W w') => rfew22_any A c D cd T ct R cr i w' (hI.below q)
  have ra:=fun (hs:FewW i) w' (q:Below W.heap.size W w') => trun_anyT A c D cd T ct R cr i w' ((hI.below q).rd hs.1.1)
  have xa:=fun (hs:FewW i) w' (q:Below W.heap.size W w') => rrun_anyT A c D cd T ct R cr i w' ((hI.below q).rd hs.1.1)
  obtain ⟨ca,hca⟩:∃ z,inCode i = z:=⟨_,rfl⟩
  simp only [hca] at ra xa
  unfold FewI at fa
  obtain ⟨VA,hVA⟩:∃ V,inpVals A c D cd T ct R cr i = V:=⟨_,rfl⟩
  have ha15:VA.size = 15:=by rw [← hVA];rfl
  rw [hVA] at fa ra xa ⊢
  obtain ⟨W1,hW1⟩:∃ W1,W.alloc (.cells VA 29) = W1:=⟨_,rfl⟩
  have k1:Below W.heap.size W W1:=by rw [← hW1];exact (br W).alloc (Nat.le_refl _) _
  have g0:W1.heap[W.heap.size]? = some (.cells VA 29 (0,0)):=by rw [← hW1];exact heap_alloc_new W _
  have rta:RowTy Tryz.prog 29 VA.size:=by rw [ha15];exact rt_inp
  have GA0:=Lib.hid (show (W.alloc (.cells VA 29)).heap[W.heap.size]? = some (.cells VA 29 (0,0)) by rw [hW1];exact g0)
  have tk:∀ V:Array Value,(V.toList.drop 0).take V.toList.length = V.toList:=fun V => by rw [List.drop_zero,List.take_length]
  have HT:=Lib.hid (Lib.tabBelow_of_tabIs htab)
  have TK:=Lib.hid tk
  have Fa:=Lib.hid fa;have Ra:=Lib.hid ra;have Xa:=Lib.hid xa;have HW:=Lib.hid hW1;have K1:=Lib.hid k1;have GA:=Lib.hid g0;have TA:=Lib.hid rta;have HVA:=Lib.hid hVA
  clear fa ra xa hW1 k1 g0 hI hca ha15 rta hVA tk htab
  go_enter Tryz.func3,Tryz.ntmps3
  go_wp2_with (refine wpl_load VA GA0.out TA.out rfl rfl rfl (TK.out VA) ?_)
  rw [HW.out]
  refine (Fa.out W1 K1.out).mono ?_
  rintro e w2 ⟨⟨b,rfl,hbs⟩,k2⟩
  have GA2:=Lib.hid ((k2.block _ (lt_of_block GA.out)).trans GA.out);have K2:=Lib.hid (K1.out.trans (k2.mono K1.out.size))
  clear k2 GA GA0 HW K1
  rcases bool_ft b with rfl | rfl
  · clear hbs
    go_wp2_with fail
    refine (alive25t w2).mono ?_
    rintro e w3 ⟨rfl,k3⟩
    have K3:=Lib.hid (K2.out.trans (k3.mono K2.out.size))
    clear k3
    go_wp2_with fail
    go_ret
    exact ⟨rfl,K3.out⟩
  have Sa:=Lib.hid (hbs rfl)
  clear hbs
  go_wp2_with (refine wpl_load VA GA2.out TA.out rfl rfl rfl (TK.out VA) ?_)
  refine (Ra.out Sa.out w2 K2.out).mono ?_
  rintro e w4 ⟨vs,rfl,hr1,k4⟩
  have HR1:=Lib.hid hr1
  obtain ⟨A1,c1,L1,d1,H1,e1,M1,f1,rfl,-,-,-,-⟩:=hr1
  obtain ⟨sh1,hsh1⟩:∃ x,shR i = x:=⟨_,rfl⟩
  obtain ⟨n1,hn1⟩:∃ n,(resL i).length = n:=⟨_,rfl⟩
  rw [hsh1,hn1] at HR1 ⊢
  have GA4:=Lib.hid ((k4.block _ (lt_of_block GA2.out)).trans GA2.out);have K4:=Lib.hid (K2.out.trans (k4.mono K2.out.size))
  have HS1:=Lib.hid hsh1;have HN1:=Lib.hid hn1
  clear k4 GA2 K2 hsh1 hn1
  have gA4:=Lib.hid ((Below.heap_alloc w4 (.cells #[.int .i64 sh1,.slice A1 n1 c1,.slice L1 n1 d1,.slice H1 n1 e1,.slice M1 n1 f1] 35) _ (lt_of_block GA4.out)).trans GA4.out)
  go_wp2_with (refine wpl_load VA gA4.out TA.out rfl rfl rfl (TK.out VA) ?_)
  obtain ⟨u4,hu4⟩:∃ u,w4.alloc (.cells #[.int .i64 sh1,.slice A1 n1 c1,.slice L1 n1 d1,.slice H1 n1 e1,.slice M1 n1 f1] 35) = u:=⟨_,rfl⟩
  have z4:Below w4.heap.size w4 u4:=by rw [← hu4];exact (br w4).alloc (Nat.le_refl _) _
  have gr:u4.heap[w4.heap.size]? = some (.cells #[.int .i64 sh1,.slice A1 n1 c1,.slice L1 n1 d1,.slice H1 n1 e1,.slice M1 n1 f1] 35 (0,0)):=by rw [← hu4];exact heap_alloc_new w4 _
  rw [hu4]
  have GR4:=Lib.hid gr;have J4:=Lib.hid (K4.out.trans (z4.mono K4.out.size));have HR4:=Lib.hid (HR1.out.below z4)
  clear hu4 z4 gr gA4 GA4 K4 HR1
  refine (Xa.out Sa.out u4 J4.out).mono ?_
  rintro e w6 ⟨vs,rfl,hx1,k6⟩
  have HX1:=Lib.hid hx1
  obtain ⟨A3,c3,L3,d3,H3,e3,M3,f3,rfl,-,-,-,-⟩:=hx1
  rw [HS1.out,HN1.out] at HX1 ⊢
  have HR6:=Lib.hid (HR4.out.below k6)
  have K6:=Lib.hid (J4.out.trans (k6.mono J4.out.size));have GR6:=Lib.hid ((k6.block _ (lt_of_block GR4.out)).trans GR4.out)
  clear k6 J4 GR4 HR4
  have gR6:=Lib.hid ((Below.heap_alloc w6 (.cells #[.int .i64 sh1,.slice A3 n1 c3,.slice L3 n1 d3,.slice H3 n1 e3,.slice M3 n1 f3] 42) _ (lt_of_block GR6.out)).trans GR6.out)
  go_wp2_with (refine wpl_load #[.int .i64 sh1,.slice A1 n1 c1,.slice L1 n1 d1,.slice H1 n1 e1,.slice M1 n1 f1] gR6.out rt_rep rfl rfl rfl rfl ?_)
  obtain ⟨u6,hu6⟩:∃ u,w6.alloc (.cells #[.int .i64 sh1,.slice A3 n1 c3,.slice L3 n1 d3,.slice H3 n1 e3,.slice M3 n1 f3] 42) = u:=⟨_,rfl⟩
  have z6:Below w6.heap.size w6 u6:=by rw [← hu6];exact (br w6).alloc (Nat.le_refl _) _
  have gx:u6.heap[w6.heap.size]? = some (.cells #[.int .i64 sh1,.slice A3 n1 c3,.slice L3 n1 d3,.slice H3 n1 e3,.slice M3 n1 f3] 42 (0,0)):=by rw [← hu6];exact heap_alloc_new w6 _
  rw [hu6]
  have U0:=Lib.hid (K6.out.trans (z6.mono K6.out.size));have PR:=Lib.hid (HR6.out.below z6);have PX:=Lib.hid (HX1.out.below z6)
  have GX:=Lib.hid gx;have GR:=Lib.hid ((z6.block _ (lt_of_block GR6.out)).trans GR6.out)
  clear hu6 z6 gx K6 GR6 HR6 HX1 gR6
  have hlA:=fun w' (q:Below u6.heap.size u6 w') => lineA_any #[.int .i64 sh1,.slice A1 n1 c1,.slice L1 n1 d1,.slice H1 n1 e1,.slice M1 n1 f1] i t w' (PR.out.below q) (HT.out w' (U0.out.trans (q.mono U0.out.size)))
  have hlB:=fun w' (q:Below u6.heap.size u6 w') => rlineA_any #[.int .i64 sh1,.slice A3 n1 c3,.slice L3 n1 d3,.slice H3 n1 e3,.slice M3 n1 f3] i t w' (PX.out.below q)
  have hbA:=fun w' (q:Below u6.heap.size u6 w') => best_any #[.int .i64 sh1,.slice A1 n1 c1,.slice L1 n1 d1,.slice H1 n1 e1,.slice M1 n1 f1] i w' (PR.out.below q)
  have hbB:=fun w' (q:Below u6.heap.size u6 w') => rbest_any #[.int .i64 sh1,.slice A3 n1 c3,.slice L3 n1 d3,.slice H3 n1 e3,.slice M3 n1 f3] i w' (PX.out.below q)
  have htA:=fun w' (q:Below u6.heap.size u6 w') => text_any #[.int .i64 sh1,.slice A1 n1 c1,.slice L1 n1 d1,.slice H1 n1 e1,.slice M1 n1 f1] i w' (PR.out.below q) sh_ok (res_few Sa.out) (HT.out w' (U0.out.trans (q.mono U0.out.size)))
  have htB:=fun w' (q:Below u6.heap.size u6 w') => rtextR_any #[.int .i64 sh1,.slice A3 n1 c3,.slice L3 n1 d3,.slice H3 n1 e3,.slice M3 n1 f3] i w' (PX.out.below q) sh_ok (res_few Sa.out)
  unfold strV at htA htB
  generalize (⟨(lnA i t).toArray⟩:ByteArray) = s1 at hlA hlB
  generalize okA i t = b1 at hlA hlB
  generalize (bst (lsL i) (resL i).length:Int) = m1 at hbA hbB
  generalize decide (0 < (resL i).length) = b2 at hbA hbB
  generalize (⟨(textI i (resL i).length).toArray⟩:ByteArray) = s2 at htA htB
  have HlA:=Lib.hid hlA;have HlB:=Lib.hid hlB;have HbA:=Lib.hid hbA;have HbB:=Lib.hid hbB;have HtA:=Lib.hid htA;have HtB:=Lib.hid htB
  clear hlA hlB hbA hbB htA htB
  refine (HlA.out u6 (br _)).mono ?_
  rintro e w7 ⟨rfl,q7⟩
  have G7:=Lib.hid (sb GX.out _ q7);have Q7:=Lib.hid q7
  clear q7
  go_wp2_with (refine wpl_load #[.int .i64 sh1,.slice A3 n1 c3,.slice L3 n1 d3,.slice H3 n1 e3,.slice M3 n1 f3] G7.out rt_rrep rfl rfl rfl rfl ?_)
  refine (HlB.out w7 Q7.out).mono ?_
  rintro e w8 ⟨rfl,q8⟩
  have Q8:=Lib.hid (bt Q7.out q8)
  clear q8 G7 Q7
  have G8:=Lib.hid (sb GR.out _ Q8.out)
  go_wp2_with (refine wpl_load #[.int .i64 sh1,.slice A1 n1 c1,.slice L1 n1 d1,.slice H1 n1 e1,.slice M1 n1 f1] G8.out rt_rep rfl rfl rfl rfl ?_)
  refine (HbA.out w8 Q8.out).mono ?_
  rintro e w9 ⟨rfl,q9⟩
  have Q9:=Lib.hid (bt Q8.out q9)
  clear q9 G8 Q8
  have G9:=Lib.hid (sb GX.out _ Q9.out)
  go_wp2_with (refine wpl_load #[.int .i64 sh1,.slice A3 n1 c3,.slice L3 n1 d3,.slice H3 n1 e3,.slice M3 n1 f3] G9.out rt_rrep rfl rfl rfl rfl ?_)
  refine (HbB.out w9 Q9.out).mono ?_
  rintro e wa ⟨rfl,qa⟩
  have Qa:=Lib.hid (bt Q9.out qa)
  clear qa G9 Q9
  go_upto_region 9 with (fail)
  refine HA.g (fun w':World => Below u6.heap.size u6 w') ?_
  have q0:=Qa.out.drew
  refine HA.c 0 (alive25t _) ?_
  rintro e wb ⟨rfl,kb⟩
  have qb:=bt q0 kb
  refine ⟨_,rfl,qb,fun _ => ?_⟩
  refine HA.t ?_ [1,2,3,4,5,6,7,8,9,10,11] qb ?_
  refine HA.ld 12 #[.int .i64 sh1,.slice A1 n1 c1,.slice L1 n1 d1,.slice H1 n1 e1,.slice M1 n1 f1] (fun w' q => sb GR.out w' q) rt_rep qb ?_
  refine HA.ld 14 #[.int .i64 sh1,.slice A3 n1 c3,.slice L3 n1 d3,.slice H3 n1 e3,.slice M3 n1 f3] (fun w' q => sb GX.out w' q) rt_rrep qb ?_
  refine HA.c 13 (HtA.out wb qb) ?_
  rintro e wc ⟨rfl,kc⟩
  have qc:=bt qb kc
  refine ⟨_,rfl,qc,fun _ => ?_⟩
  refine HA.c 15 (HtB.out wc qc) ?_
  rintro e wd ⟨rfl,kd⟩
  have qd:=bt qc kd
  refine ⟨_,rfl,qd,fun _ => ?_⟩
  refine HA.t ?_ [16,17,18,19,20,21,22,23,24,25,26,27,28] qd ?_
  refine HA.d ?_
  have KZ:=Lib.hid (U0.out.trans (qd.mono U0.out.size))
  clear kb kc kd q0 qb qc qd
  go_wp2_with fail
  go_ret
  exact ⟨rfl,KZ.out⟩
end Go.Proofs.YthamijnggdjaoaaGreatDoor
namespace Go.Proofs.YthamijnggdjaoaaGreatDoor
open Go
theorem ttxJ1:Tryz.prog.inPlace 3 = Rows.trainTextsRow.inPlace:=by kernel_rfl
theorem ttxJ2:Tryz.prog.unfollowed 3 = Rows.trainTextsRow.unfollowed:=by kernel_rfl
theorem ttxJ3:Tryz.prog.recurses 3 = Rows.trainTextsRow.recurses:=by kernel_rfl
theorem ttxJ4:Tryz.prog.varsNamed 3 = Rows.trainTextsRow.named:=by kernel_rfl
end Go.Proofs.YthamijnggdjaoaaGreatDoor
namespace Go.Proofs.YthamijnggdjaoaaGreatDoor
open Go
theorem ttxLaid:laidOutB Tryz.prog = true:=by kernel_rfl
theorem ttxA:Tryz.prog.funcNamed "sakia/sakialaw25.TrainTexts" = some 3:=by kernel_rfl
theorem ttxJ5:Rows.trainTextsRow.wf (OpenSpec.ofChange Rows.trainTextsSpec) = true:=by kernel_rfl
theorem ttxJ6:mapsRowed Tryz.prog = true:=by kernel_rfl
theorem ttxB:joinedFacts Tryz.prog 3 Tryz.f3 Rows.trainTextsSpec Rows.trainTextsRow = true:=by
  unfold joinedFacts
  rw [ttxJ1,ttxJ2,ttxJ3,ttxJ4,ttxJ5,ttxJ6,ttxLaid]
  kernel_rfl
end Go.Proofs.YthamijnggdjaoaaGreatDoor
namespace Go.Proofs.YthamijnggdjaoaaGreatDoor
theorem onlyLeaving_of_quiet {P:Program} {m:Machine} (h:m.quiet):m.OnlyLeaving P:=by
  refine ⟨fun g hg => ⟨0,?_⟩,h.2⟩
  have:=h.1
  unfold Machine.othersDone at this
  rw [List.all_eq_true] at this
  exact eq_of_beq (this g hg)
theorem leaving_of_handed {a:Assume} {C:Checked} {os:Os} {f:FuncId} {r:Reach} {Pre:World → Array Value → Prop} {Post:World → Array Value → Value → World → Prop} (h:ReturnsInHanded a C os f r Pre Post):ReturnsInLeavingWide a C os f r Pre Post:=fun enter => by
  obtain ⟨h1,h2,h3,h4,h5⟩:=h enter
  refine ⟨h1,h2,h3,h4,fun w tape i hf => ?_⟩
  obtain ⟨n,v,w',k1,k2,k3,k4,⟨j,last,k5,k6,k7⟩,k8⟩:=h5 w tape i hf
  exact ⟨n,v,w',k1,k2,k3,k4,⟨j,last,k5,k6,k7.2.1,onlyLeaving_of_quiet k7.1,k7.2.2⟩,k8⟩
theorem os_same {W W':World} (h:W'.os = W.os):{ W' with os:=W.os } = W':=by rw [← h]
end Go.Proofs.YthamijnggdjaoaaGreatDoor
