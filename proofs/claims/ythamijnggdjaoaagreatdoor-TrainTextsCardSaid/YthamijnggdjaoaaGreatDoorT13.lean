/- Texts of a report: the second part. -/
import Derived.Test.YthamijnggdjaoaaGreatDoorT11
import Derived.Test.YthamijnggdjaoaaGreatDoorT01
import Derived.Test.YthamijnggdjaoaaGreatDoorT05
import Derived.Test.YthamijnggdjaoaaGreatDoorT06
import Derived.Deep.RegionHeld3
import Derived.Test.YthamijnggdjaoaaGreatDoorT10
import Derived.Test.YthamijnggdjaoaaGreatDoorT03
import Derived.BigQuiet
import Derived.Deep.QuietTactic
import Derived.Lib.ItoaNum
import Derived.Test.YthamijnggdjaoaaGreatDoorProg
import Derived.Test.YthamijnggdjaoaaGreatDoorT09
import Derived.Lib.ItoaMem
import Derived.Laws.Strings2
import Derived.Laws.IdiomStrings
import Derived.KernelRfl
import Derived.Test.YthamijnggdjaoaaGreatDoorShelf
import Derived.Shelf.Strconv.Itoa1
import Derived.Shelf.Strconv.Itoa2
import Derived.Lib.AppendIntMem
import Derived.Deep.DeepCutAuto
set_option linter.unusedSimpArgs false
set_option linter.unusedVariables false
namespace Go.Proofs.YthamijnggdjaoaaGreatDoor
open Go.RowKit
open Go.RowKit Go.Sort
def zerosN (n:Nat):Array Value:=Array.replicate n (.int .u8 0)
theorem holds_zero0 (w:World) (T:TypeId) (m nd:Nat) (hs:nd ≤ m):Holds (fun (b:UInt8) => Value.int .u8 (b.toNat:Int)) (w.alloc (.cells (zerosN m) T)) w.heap.size 0 (Array.replicate nd (0:UInt8)):=fun j hj => by
  have hj':j < nd:=by simpa using hj
  refine ⟨?_,World.frozen?_alloc_new _ _ _ _⟩
  rw [World.cell?_alloc_new,zerosN,Array.getElem?_replicate,if_pos (by omega),getElem!_pos _ j hj]
  simp
theorem fui_any (u:Nat) (hu:u < 18446744073709551616) (w:World) (htab:Lib.TabIs Tryz.prog w "internal/strconv.uint64pow10" .u64 Lib.pow10Tab) :
    Calls Tryz.prog 88 #[.int .u64 u,.int .i64 10] w fun e w' => e = .returned (.string ⟨(Lib.decDigits u).toArray⟩) ∧ Below w.heap.size w w':=by
  by_cases h100:u < 100
  · have g:decide ((u:Int) < 100) = true:=by simp;omega
    have hw:IntKind.i64.wrap (u:Int) = u:=by rw [IntKind.wrap_i64];omega
    go_enter Tryz.func88,Tryz.ntmps88
    go_wp2_with fail
    refine (Any.internal_strconv_small Tryz.lays283 u h100 _).mono ?_
    intro e w1 he
    obtain ⟨he,hw1⟩:=he
    subst he;subst hw1
    go_wp2_with fail
    go_ret
    exact ⟨rfl,Below.refl _ _⟩
  · have hu1:1 ≤ u:=by omega
    have hnd20:Lib.nDigits u ≤ 20:=by have:=Lib.numDigits_eq u hu1 hu;split at this <;> omega
    have hal:Tryz.prog.arrayLen 211 = 24:=by simp [Program.arrayLen,Tryz.underlying211]
    have hsl:∀ W,(Instr.sliceAt 211 (.pointer (some ⟨w.heap.size,0,none⟩)) none (some (.int .i64 (Lib.nDigits u:Int))) none).run Tryz.prog W = .ok (.slice (some ⟨w.heap.size,0,none⟩) (Lib.nDigits u) 24) W:=fun W => by
      rw [run_sliceAt_array_h W 211 ⟨w.heap.size,0,none⟩ (by simp [Program.arrayLen,Program.elem,Tryz.underlying211]) .i64 (Lib.nDigits u:Int) (by omega) (by rw [hal];omega)]
      go_simp
    have hH0:=holds_zero0 w 211 24 (Lib.nDigits u) (by omega)
    have hfmt:=Any.internal_strconv_formatBase10 Tryz.lays285 w.heap.size 0 24 u (Array.replicate (Lib.nDigits u) 0) (w.alloc (.cells (zerosN 24) 211)) hH0 (by rw [Array.size_replicate];exact Lib.lt_pow_nDigits u) hu (by rw [Array.size_replicate];omega)
    rw [Array.size_replicate] at hfmt
    have HH0:=Lib.hid hH0
    clear hH0 hal
    have g:decide ((u:Int) < 100) = false:=by simp;omega
    go_enter Tryz.func88,Tryz.ntmps88
    go_wp2_with fail
    refine (Any.internal_strconv_numDigits Tryz.laysM284 u hu1 hu _ (Lib.tabIs_alloc htab _)).mono ?_
    intro e w1 he
    obtain ⟨he,hw1⟩:=he
    subst he;subst hw1
    go_wp2_with fail
    refine hfmt.mono ?_
    intro e w1 he
    obtain ⟨he,k,v',dk,hw1,hF⟩:=he
    subst he
    have hcv:(convert 100 9 (.slice (some ⟨w.heap.size,0,none⟩) (Lib.nDigits u) 24)).run Tryz.prog w1 = .ok (.string ⟨(Lib.decDigits u).toArray⟩) w1:=by
      have h:=run_convert_bytes_back (P:=Tryz.prog) w1 100 9 5 ⟨w.heap.size,0,none⟩ 24 (Lib.decDigits u) Tryz.underlying100 Tryz.underlying5 Tryz.underlying9 (fun j hj => by
        rw [Lib.row_is_numeral hF j hj,Lib.add_plain,hw1,World.cell?_drewN]
        exact cell?_putRow (fun (b:UInt8) => Value.int .u8 (b.toNat:Int)) _ w.heap.size 0 _ dk HH0.out (by rw [hF.size,Array.size_replicate]) j (by rw [hF.size];rw [Lib.decDigits_length] at hj;exact hj))
      rw [Lib.decDigits_length] at h
      exact h
    have hB:Below w.heap.size w w1:=by
      obtain ⟨os,eo⟩:∃ os,(putRow (fun (b:UInt8) => Value.int .u8 (b.toNat:Int)) (w.alloc (.cells (zerosN 24) 211)) w.heap.size 0 dk).drewN k = grow (w.drewN k) os:=by
        rw [alloc_eq_grow]
        obtain ⟨os',_,e⟩:=putRow_grow_new (fun (b:UInt8) => Value.int .u8 (b.toNat:Int)) w #[.cells (zerosN 24) 211] w.heap.size 0 dk (Nat.le_refl _)
        exact ⟨os',by rw [e];rfl⟩
      rw [hw1,eo]
      exact Lib.below_grow _ w (Nat.le_refl _) k os
    have KB:=Lib.hid hB
    clear hB hw1 hfmt HH0
    go_wp2_with fail
    go_ret
    exact ⟨rfl,KB.out⟩
theorem fu_any (u:Nat) (hu:u < 18446744073709551616) (w:World) (htab:Lib.TabIs Tryz.prog w "internal/strconv.uint64pow10" .u64 Lib.pow10Tab) :
    Calls Tryz.prog 32 #[.int .u64 u,.int .i64 10] w fun e w' => e = .returned (.string ⟨(Lib.decDigits u).toArray⟩) ∧ Below w.heap.size w w':=by
  go_enter Tryz.func32,Tryz.ntmps32
  go_wp2_with fail
  refine (fui_any u hu w htab).mono ?_
  intro e w1 he
  obtain ⟨he,hb⟩:=he
  subst he
  have HB:=Lib.hid hb
  clear hb
  go_wp2_with fail
  go_ret
  exact ⟨rfl,HB.out⟩
end Go.Proofs.YthamijnggdjaoaaGreatDoor
namespace Go.Proofs.YthamijnggdjaoaaGreatDoor
open Go.RowKit
theorem trimD_snoc (l:List Nat) (d:Nat):trimD (l ++ [d]) = if d = 0 then trimD l else l ++ [d]:=by
  induction l with
  | nil => by_cases h:d = 0 <;> simp [trimD,h]
  | cons x l ih =>
    rw [List.cons_append]
    simp only [trimD,ih]
    by_cases h:d = 0
    · simp only [if_pos h]
    · simp only [if_neg h]
      rw [if_neg (by simp)]
def strLen:Value → Nat
  | .string s => s.size
  | _ => 0
theorem bit_k (nn k:Nat) (h:nn ≤ 9223372036854775808):wrap64 (bits .and .u64 ((nn:Int) / 2 ^ k) 1) = ((nn / 2 ^ k % 2:Nat):Int):=by
  have e:(nn:Int) / 2 ^ k = ((nn / 2 ^ k:Nat):Int):=by push_cast;rfl
  have hle:nn / 2 ^ k ≤ nn:=Nat.div_le_self _ _
  have h2:=bits_and_u64_nat (nn / 2 ^ k) 1 (by omega) (by omega)
  rw [e]
  generalize nn / 2 ^ k = m at h2 hle
  have h3:bits .and .u64 (m:Int) 1 = ((m % 2:Nat):Int):=by
    rw [← Nat.and_one_is_mod];exact h2
  rw [h3]
  unfold wrap64
  omega
theorem fix_eq {x:Int} {q nn:Nat} {sg:List UInt8} {D:List Nat} (hsg:(if x < 0 then [45] else []) = sg) (hnn:x.natAbs = nn) (hD:D = frac q q (nn % 2 ^ q)) :
    fixT x q = sg ++ Lib.decDigits (nn / 2 ^ q) ++ (if D = [] then [] else 46 :: digB D):=by
  unfold fixT
  rw [hsg,hnn,hD]
  congr 1
  have h:=frac_nil (q:=q) (r:=nn % 2 ^ q) (Nat.mod_lt _ (Nat.two_pow_pos q))
  by_cases h0:nn % 2 ^ q = 0
  · rw [if_pos h0,if_pos (h.2 h0)]
  · rw [if_neg h0,if_neg fun e => h0 (h.1 e)]
theorem trim_last {l:List Nat} {d:Nat} (h:d ≠ 0):trimD (l ++ [d]) = l ++ [d]:=by rw [trimD_snoc,if_neg h]
theorem rtext_any (x:Int) (q:Nat) (hx0:-9223372036854775808 ≤ x) (hx1:x ≤ 9223372036854775807) (hq:q ≤ 62) (w:World) :
    Calls Tryz.prog 36 #[.int .i64 x,.int .i64 q] w fun e w' => e = .returned (.string ⟨(fixT x q).toArray⟩) ∧ Below w.heap.size w w':=by
  have H0:=Lib.hid hx0;have H1:=Lib.hid hx1
  clear hx0 hx1
  have g1:decide ((q:Int) < 0) = false:=by simp
  have g2:decide ((62:Int) < q) = false:=by simp;omega
  go_enter Tryz.func36,Tryz.ntmps36
  go_upto_region 5 with (fail)
  go_cut [19] (fun v wx => v = .bool (decide (x < 0)) ∧ wx = w)
  case first =>
    go_wp2
    go_meet
    exact ⟨rfl,rfl⟩
  case rest =>
    obtain ⟨rfl,rfl⟩:=hcut
    apply_assumption
    go_cut [5,6] (fun s n wx => s = .string ⟨(if x < 0 then [45] else []:List UInt8).toArray⟩ ∧ n = .int .u64 x.natAbs ∧ wx = wc)
    case first =>
      by_cases hn:x < 0
      · rw [show decide (x < 0) = true by simp [hn]]
        have e:=neg_u64 hn H0.out
        go_wp2
        go_meet
        exact ⟨by rw [if_pos hn],by rw [← e],rfl⟩
      · rw [show decide (x < 0) = false by simp;omega]
        have e:=pos_u64 (n:=x) (by omega) H1.out
        go_wp2
        go_meet
        exact ⟨by rw [if_neg (by omega)],by rw [← e],rfl⟩
    case rest =>
      obtain ⟨rfl,rfl,rfl⟩:=hcut
      generalize hsg:(if x < 0 then [45] else []:List UInt8) = sg
      have hsl:sg.length ≤ 1:=by rw [← hsg];split <;> simp
      generalize hnn:x.natAbs = nn
      have hnb:nn ≤ 9223372036854775808:=by have:=H0.out;have:=H1.out;omega
      have Hsg:=Lib.hid hsg;have Hnn:=Lib.hid hnn;have Hnb:=Lib.hid hnb
      clear hsg hnn hnb
      apply_assumption
      go_wp2_with fail
      go_loopw [7,8] (fun s i wr => ∃ k:Nat,k ≤ q ∧ s = .string ⟨(digB (refD nn k)).toArray⟩ ∧ i = .int .i64 k ∧ Below wc.heap.size wc wr) (fun _ i _ => q - (intOf i).toNat)
      case atStart => exact ⟨0,Nat.zero_le _,rfl,rfl,Below.refl _ _⟩
      case round =>
        obtain ⟨k,hk,rfl,rfl,hb⟩:=hrel
        have HB:=Lib.hid hb
        clear hb
        by_cases hlt:k < q
        · go_wp2_with fail
          rw [bit_k nn k Hnb.out]
          have hlen:=refD_len nn k
          refine (half_any (refD nn k) (nn / 2 ^ k % 2) (by omega) (refD_dig nn k) (by omega) wr).mono ?_
          intro e w1 he
          obtain ⟨he,hb1⟩:=he
          subst he
          have HB1:=Lib.hid (HB.out.trans (hb1.mono HB.out.size))
          clear hb1
          go_wp2_with fail
          go_roundw
          case rel => exact ⟨k + 1,by omega,rfl,by push_cast;rfl,HB1.out⟩
          case measure => simp [intOf];omega
        · obtain rfl:k = q:=by omega
          have hlen:=refD_len nn k
          have hdig:=refD_dig nn k
          have htr:=ref_frac nn k
          generalize refD nn k = D0 at hlen hdig htr
          have HT:=Lib.hid htr;have HG:=Lib.hid hdig
          clear htr hdig
          go_wp2_with fail
          go_loopw [7] (fun s wq => ∃ D:List Nat,D.length ≤ D0.length ∧ trimD D = trimD D0 ∧ (∀ d ∈ D,d ≤ 9) ∧ s = .string ⟨(digB D).toArray⟩ ∧ Below wc.heap.size wc wq) (fun s _ => (strLen s))
          case atStart => exact ⟨D0,Nat.le_refl _,rfl,HG.out,rfl,HB.out⟩
          case round =>
            obtain ⟨D,hDl,hDt,hDd,rfl,hB⟩:=hrel
            have HB2:=Lib.hid hB
            have HDt:=Lib.hid (hDt.trans HT.out)
            clear hB hDt
            have hsh:(nn:Int) / 2 ^ k = ((nn / 2 ^ k:Nat):Int):=by push_cast;rfl
            have Hsh:=Lib.hid hsh
            clear hsh
            have hdv:nn / 2 ^ k ≤ nn:=Nat.div_le_self _ _
            have Hdv:=Lib.hid hdv
            clear hdv
            rcases List.eq_nil_or_concat D with rfl | ⟨E,d,rfl⟩
            · go_wp2_with fail
              rw [Hsh.out]
              refine (unsigned_any _ _ (by have:=Hnb.out;have:=Hdv.out;omega)).mono ?_
              intro e w1 he
              obtain ⟨he,n1,hw⟩:=he
              subst he;subst hw
              have hdl:=dec_len (u:=nn / 2 ^ k) (by have:=Hnb.out;have:=Hdv.out;omega)
              have hc:sg.length + (Lib.decDigits (nn / 2 ^ k)).length ≤ 1000000:=by omega
              go_wp2_with fail
              go_ret
              refine ⟨?_,HB2.out.trans ⟨rfl,rfl,rfl,Nat.le_refl _,fun _ _ => rfl⟩⟩
              rw [fix_eq (D:=[]) Hsg.out Hnn.out HDt.out,if_pos rfl,List.append_nil]
              rfl
            · rw [List.concat_eq_append] at *
              have hEl:E.length ≤ 61:=by simp only [List.length_append,List.length_singleton] at hDl;omega
              generalize hS:(⟨(digB (E ++ [d])).toArray⟩:ByteArray) = S
              have hz:S.size = E.length + 1:=by rw [← hS];exact (digB_len _).trans (by simp)
              have hx:=digB_at hS hDd (k:=E.length) (by simp)
              rw [List.getElem_concat_length rfl] at hx
              have HS:=Lib.hid hS
              clear hS
              by_cases hd0:d = 0
              · subst hd0
                have hx0:∀ h:E.length < S.size,(S[E.length]'h).toNat = 48:=hx
                go_wp2_with fail
                have hS:=HS.out
                have hex:S.extract 0 E.length = ⟨(digB E).toArray⟩:=by
                  rw [← hS,ByteArray.extract_mk]
                  congr 2
                  rw [List.drop_zero,show digB (E ++ [0]) = digB E ++ [dgB 0] from by simp [digB],Nat.sub_zero,List.take_left' (digB_len E)]
                refine ⟨⟨E,by simp only [List.length_append,List.length_singleton] at hDl;omega,?_,fun y hy => hDd y (List.mem_append_left _ hy),by rw [hex],HB2.out⟩,?_⟩
                · have:=HDt.out
                  rw [trimD_snoc,if_pos rfl] at this
                  rw [this,HT.out]
                · rw [hex]
                  show (digB E).length < S.size
                  rw [digB_len,hz];omega
              · have hne:((((48 + d:Nat):Int)) == 48) = false:=by simp;omega
                have hne2:((48:Int) + d == 48) = false:=by simp;omega
                go_wp2_with fail
                rw [Hsh.out]
                have hS:=HS.out
                have hDf:=HDt.out
                rw [trim_last hd0] at hDf
                refine (unsigned_any _ _ (by have:=Hnb.out;have:=Hdv.out;omega)).mono ?_
                intro e w1 he
                obtain ⟨he,n1,hw⟩:=he
                subst he;subst hw;subst hS
                have HDf:=Lib.hid hDf
                clear hDf hz hx
                have hdl:=dec_len (u:=nn / 2 ^ k) (by have:=Hnb.out;have:=Hdv.out;omega)
                have hc:sg.length + (Lib.decDigits (nn / 2 ^ k)).length ≤ 1000000:=by omega
                have hc2:(sg ++ Lib.decDigits (nn / 2 ^ k)).length + [(46:UInt8)].length ≤ 1000000:=by simp only [List.length_append,List.length_singleton];omega
                have hc3:(sg ++ Lib.decDigits (nn / 2 ^ k) ++ [46]).length + (digB (E ++ [d])).length ≤ 1000000:=by rw [digB_len];simp only [List.length_append,List.length_singleton];omega
                go_wp2_with fail
                all_goals first
                  | (exfalso;rename_i h;simp [digB] at h;done)
                  | skip
                go_ret
                refine ⟨?_,HB2.out.trans ⟨rfl,rfl,rfl,Nat.le_refl _,fun _ _ => rfl⟩⟩
                rw [fix_eq (D:=E ++ [d]) Hsg.out Hnn.out HDf.out,if_neg (by simp),show sg ++ Lib.decDigits (nn / 2 ^ k) ++ 46 :: digB (E ++ [d]) = sg ++ Lib.decDigits (nn / 2 ^ k) ++ [46] ++ digB (E ++ [d]) from by simp,← ba_append,← ba_append]
                rfl
end Go.Proofs.YthamijnggdjaoaaGreatDoor
