/- The walks of draw.Many, perm.identity, Shuffle. The walk of sampler.New's closure: one epoch's order. No condition. -/
import Derived.Test.YtaccfnffmbndhaaGreatB17
import Derived.Test.YtaccfnffmbndhaaGreatB18
import Derived.RegionTactic
import Derived.BigRegion
import Derived.Test.YtaccfnffmbndhaaGreatB04
import Derived.Test.YtaccfnffmbndhaaGreatB05
import Derived.Test.YtaccfnffmbndhaaGreatB03
set_option linter.unusedSimpArgs false
set_option linter.unusedVariables false
namespace Go.Proofs.YtaccfnffmbndhaaGreat
open Go.RowKit
theorem many1_no (n:Int) (w:World) (h:1 ≤ n):Calls Tryz.prog 165 #[.int .i64 n] w fun e w' => e = .returned (.bool false) ∧ w = w':=by
  have h1:¬ n < 1:=by omega
  go_enter Tryz.func165,Tryz.ntmps165
  go_wp2
  go_ret
  exact ⟨ret_bool (by first | rfl | (simp;omega) | (simp;done)),rfl⟩
theorem mindex_any (A:Option Addr) (l:List Int) (c:Nat) (w:World) (hA:Rd w A (nums .i64 l)) (hl:l.length ≤ 17592186043904) (hb:∀ k,k < l.length → 1 ≤ nth l k) :
    Calls Tryz.prog 137 #[.slice A l.length c,.func (.func 165) #[] #[]] w fun e w' => e = .returned (.int .i64 (-1)) ∧ w = w':=by
  obtain ⟨n,hn⟩:∃ n,l.length = n:=⟨_,rfl⟩
  have hw:=fun k (hk:k < l.length) => many1_no (nth l k) w (hb k hk)
  rw [hn] at hl hw ⊢
  have HA:=Lib.hid hA;have Hn:=Lib.hid hn;have Hw:=Lib.hid hw;clear hA hn hw hb
  go_enter Tryz.func137,Tryz.ntmps137
  go_wp2_with fail
  go_loop [5,8] (fun _ i => ∃ k:Nat,k ≤ n ∧ i = .int .i64 k) (fun _ i => n - (intOf i).toNat)
  case atStart => exact ⟨0,Nat.zero_le _,rfl⟩
  case round =>
    obtain ⟨k,hk,rfl⟩:=hrel
    by_cases hlt:k < n
    · obtain ⟨b,o,rfl,p⟩:=HA.out.num (show k < l.length by rw [Hn.out];exact hlt)
      have hw:=Hw.out k hlt
      have Hw2:=Lib.hid hw;clear hw
      go_wp2_with fail
      refine Hw2.out.mono ?_
      rintro e w' ⟨rfl,rfl⟩
      go_wp2_with fail
      go_round
      case rel => exact ⟨k + 1,by omega,by go_num⟩
      case measure => simp [intOf];omega
    · obtain rfl:k = n:=by omega
      go_wp2_with fail
      go_ret
      exact ⟨rfl,rfl⟩
theorem mcontains_no (A:Option Addr) (l:List Int) (c:Nat) (w:World) (hA:Rd w A (nums .i64 l)) (hl:l.length ≤ 17592186043904) (hb:∀ k,k < l.length → 1 ≤ nth l k) :
    Calls Tryz.prog 92 #[.slice A l.length c,.func (.func 165) #[] #[]] w fun e w' => e = .returned (.bool false) ∧ w = w':=by
  have hi:=mindex_any A l c w hA hl hb
  have Hi:=Lib.hid hi;clear hi hA hb
  go_enter Tryz.func92,Tryz.ntmps92
  go_wp2_with fail
  refine Hi.out.mono ?_
  rintro e w' ⟨rfl,rfl⟩
  go_wp2
  go_ret
  exact ⟨rfl,rfl⟩
theorem ident_any (n:Nat) (w:World) (hn:n ≤ 1048576) :
    Calls Tryz.prog 140 #[.int .i64 n] w fun e w' => ∃ v,e = .returned v ∧ w'.ownsRow w.heap.size 3 1 v n (nums .i64 (iota n)) ∧ Below w.heap.size w w':=by
  go_enter Tryz.func140,Tryz.ntmps140
  go_wp2_with fail
  go_loopw [3,6] (fun v i wr => ∃ k:Nat,k ≤ n ∧ i = .int .i64 k ∧ wr.ownsRow w.heap.size 3 1 v k (nums .i64 (iota k)) ∧ Below w.heap.size w wr) (fun _ i _ => n - (intOf i).toNat)
  case atStart => exact ⟨0,Nat.zero_le _,rfl,World.ownsRow_nil _ _ _ _,Below.refl _ _⟩
  case round =>
    obtain ⟨k,hk,rfl,hown,hb⟩:=hrel
    by_cases hlt:k < n
    · obtain ⟨Al,cl,rfl,_⟩:=own_form hown
      have Hown:=Lib.hid hown;have Hb:=Lib.hid hb;clear hown hb
      go_wp2_with (at_builtin;refine wpList_push et_ints _ rfl (.tmp 9) (.tmp 11) rfl w.heap.size (.slice Al k cl) k _ rfl Hown.out [.int .i64 (k:Int)] rfl rfl (nums_cell .i64 [_]) (by omega) (by unfold maxLen;omega) Hb.out.size ?_)
      intro g6 c6 w6 ho6 hb6 hg6
      have hb6':=Hb.out.trans hb6
      have HO6:=Lib.hid ho6;have HB6:=Lib.hid hb6'
      clear ho6 hb6 hg6 hb6'
      go_wp2_with fail
      go_roundw
      case rel =>
        refine ⟨k + 1,by omega,by go_num,?_,HB6.out⟩
        have:iota (k + 1) = iota k ++ [(k:Int)]:=upTo_succ _ _
        rw [this,nums_append];exact HO6.out
      case measure => simp [intOf];omega
    · obtain rfl:k = n:=by omega
      have Hown:=Lib.hid hown;have Hb:=Lib.hid hb;clear hown hb
      go_wp2_with fail
      go_ret
      exact ⟨_,rfl,Hown.out,Hb.out⟩
theorem many_any (b c i:Nat) (A:Option Addr) (l:List Int) (B:Option Addr) (bs:List Int) (d:Nat) (w:World) (h:StreamAt w b A c l i) (hi:i + bs.length ≤ l.length) (hl:l.length ≤ 1048576) (hu:U64 l)
    (hB:Rd w B (nums .i64 bs)) (hne:∀ a,B = some a → a.block ≠ b) (hbs:∀ k,k < bs.length → 1 ≤ nth bs k ∧ nth bs k ≤ 1048576) :
    Calls Tryz.prog 139 #[.pointer (some ⟨b,0,none⟩),.slice B bs.length d] w fun e w' => ∃ v,e = .returned (.tuple #[v,.bool true]) ∧ w'.ownsRow w.heap.size 3 1 v bs.length (nums .i64 (upTo bs.length fun k => nth l (i + k) % nth bs k)) ∧ StreamAt w' b A c l (i + bs.length) ∧ Keep (fun j => j = b) w w':=by
  have hle:=stream_left b c i A l w h (by omega) (by omega)
  have hco:=fun n => mcontains_no B bs d (w.drewN n) (hB.drewN n) (by omega) (fun k hk => (hbs k hk).1)
  have hnx:=fun j m w' (h:StreamAt w' b A c l j) (hj:j < l.length) => stream_next b c j m A l w' h hj (by omega) hu
  obtain ⟨n,hn⟩:∃ n,bs.length = n:=⟨_,rfl⟩
  rw [hn] at hi hco hbs ⊢
  obtain ⟨N,hN⟩:∃ N,l.length = N:=⟨_,rfl⟩
  rw [hN] at hi hl hle hnx
  have hbw:=h.lt
  have Hle:=Lib.hid hle;have Hco:=Lib.hid hco;have Hnx:=Lib.hid hnx;have H:=Lib.hid h;have HB:=Lib.hid hB;have Hn:=Lib.hid hn;have Hbs:=Lib.hid hbs;have Hne:=Lib.hid hne
  clear hle hco hnx h hB hn hbs hu hne hN
  have hq:decide (((N - i:Nat):Int) < (n:Int)) = false:=by simp;omega
  have hq':decide (N - i < n) = false:=by simp;omega
  go_enter Tryz.func139,Tryz.ntmps139
  go_wp2_with fail
  refine Hle.out.mono ?_
  rintro e w' ⟨rfl,a,rfl⟩
  go_wp2_with fail
  refine (Hco.out a).mono ?_
  rintro e w' ⟨rfl,rfl⟩
  clear hq hq'
  go_wp2_with fail
  go_loopw [6,26] (fun v x wr => ∃ k:Nat,k ≤ n ∧ x = .int .i64 k ∧ wr.ownsRow w.heap.size 3 1 v k (nums .i64 (upTo k fun k => nth l (i + k) % nth bs k)) ∧ StreamAt wr b A c l (i + k) ∧ Keep (fun j => j = b) w wr) (fun _ x _ => n - (intOf x).toNat)
  case atStart => exact ⟨0,Nat.zero_le _,rfl,World.ownsRow_nil _ _ _ _,H.out.drewN a,(Keep.refl _ _).drewN a⟩
  case round =>
    obtain ⟨k,hk,rfl,hown,hS,hK⟩:=hrel
    by_cases hlt:k < n
    · obtain ⟨Al,cl,rfl,_⟩:=own_form hown
      have hB':=hK.rd HB.out (fun a ha e => Hne.out a ha e)
      obtain ⟨bB,oB,rfl,p⟩:=hB'.num (show k < bs.length by rw [Hn.out];exact hlt)
      have hbk:=Hbs.out k hlt
      obtain ⟨m,hm⟩:∃ m:Nat,nth bs k = (m:Int):=⟨(nth bs k).toNat,by omega⟩
      rw [hm] at p hbk
      have hnx:=Hnx.out (i + k) m wr hS (by omega) (by omega) (by omega)
      obtain ⟨y,hy⟩:∃ y,nth l (i + k) % (m:Int) = y:=⟨_,rfl⟩
      rw [hy] at hnx
      have hsz:=hK.size
      have hlo:=hown.lt
      have Hown:=Lib.hid hown;have HK:=Lib.hid hK;have Hm:=Lib.hid hm;have Hnx2:=Lib.hid hnx;have Hy:=Lib.hid hy;have Hlo:=Lib.hid hlo;clear hown hK hS hB' hm hnx hy hlo
      go_wp2_with fail
      refine Hnx2.out.mono ?_
      rintro e w1 ⟨rfl,hS1,hK1⟩
      have hown1:=hK1.own Hown.out (fun x hx e => by have:=(Hlo.out x hx).1;omega)
      have hsz1:=hK1.size
      have HS1:=Lib.hid hS1;have HK1:=Lib.hid hK1;have Hown1:=Lib.hid hown1;clear hS1 hK1 hown1
      go_wp2_with (at_builtin;refine wpList_push et_ints _ rfl (.tmp 36) (.tmp 38) rfl w.heap.size (.slice Al k cl) k _ rfl Hown1.out [.int .i64 y] rfl rfl (nums_cell .i64 [_]) (by omega) (by unfold maxLen;omega) (by omega) ?_)
      intro g6 c6 w6 ho6 hb6 hg6
      have HO6:=Lib.hid ho6;have HB6:=Lib.hid hb6
      have hK6:=(HK.out.trans HK1.out).below2 hb6
      have HK6:=Lib.hid hK6
      clear ho6 hb6 hg6 hK6
      go_wp2_with fail
      go_roundw
      case rel =>
        refine ⟨k + 1,by omega,by go_num,?_,?_,HK6.out⟩
        · rw [upTo_succ,nums_append,Hm.out,Hy.out];exact HO6.out
        · exact ⟨(HB6.out.block b hbw).trans HS1.out.blk,HK6.out.rd H.out.rd (fun a ha e => H.out.ne a ha e),H.out.ne⟩
      case measure => simp [intOf];omega
    · obtain rfl:k = n:=by omega
      have Hown:=Lib.hid hown;have HK:=Lib.hid hK;have HS:=Lib.hid hS;clear hown hK hS
      go_wp2_with fail
      go_ret2
      exact ⟨_,rfl,Hown.out,HS.out,HK.out⟩
theorem cell?_setCell_some {w:World} {p q:Addr} {x v:Value} (h:w.cell? q = some v):∃ v',(w.setCell p x).cell? q = some v':=by
  by_cases e:p = q
  · subst e;exact ⟨x,World.cell?_setCell_same w p x h⟩
  · exact ⟨v,(World.cell?_setCell_other w p q x e).trans h⟩
theorem own_addr {w:World} {base size n c m:Nat} {e:TypeId} {A:Option Addr} {xs:List Value} (h:w.ownsRow base e size (.slice A n c) m xs):∀ a,A = some a → base ≤ a.block ∧ a.block < w.heap.size:=fun a ha => by
  subst ha
  rcases h.2 with ⟨hn,_⟩ | ⟨g,cap,cur,hv,_⟩
  · cases hn
  · simp only [Value.slice.injEq,Option.some.injEq] at hv
    obtain ⟨rfl,_,_⟩:=hv
    exact h.lt g rfl
theorem swap_any (P g n c base i j:Nat) (p:List Int) (w:World) (hP:w.heap[P]? = some (.cells #[.slice (some ⟨g,0,none⟩) n c] 22 (0,0))) (hown:w.ownsRow base 3 1 (.slice (some ⟨g,0,none⟩) n c) n (nums .i64 p)) (hi:i < n) (hj:j < n) (hn:n ≤ 1048576) :
    Calls Tryz.prog 141 #[.int .i64 i,.int .i64 j,.pointer (some ⟨P,0,none⟩)] w fun e w' => e = .returned (.tuple #[]) ∧ w'.ownsRow base 3 1 (.slice (some ⟨g,0,none⟩) n c) n (nums .i64 (swp p i j)) ∧ Keep (fun k => k = g) w w':=by
  have hpl:=own_len hown
  have p1:=own_num hown hi
  have p2:=own_num hown hj
  have f1:=hown.frozenAt i
  have f2:=hown.frozenAt j
  have hcm:=swp_comm (p:=p) (i:=i) (j:=j) (by omega) (by omega)
  obtain ⟨x0,xf⟩:=bx1 hP
  have hii:(i:Int) < n:=by omega
  have hjj:(j:Int) < n:=by omega
  have hne:g ≠ P:=fun e => block_notrow hP (by decide) hown (by rw [← e];rfl)
  have hx1:=(World.cell?_setCell_other w ⟨g,i,none⟩ ⟨P,0,none⟩ (.int .i64 (nth p j)) (by simp [hne])).trans x0
  have hx2:=(World.cell?_setCell_other w ⟨g,j,none⟩ ⟨P,0,none⟩ (.int .i64 (nth p i)) (by simp [hne])).trans x0
  obtain ⟨v1,hy1⟩:=cell?_setCell_some (w:=w) (p:=⟨g,i,none⟩) (x:=.int .i64 (nth p j)) (q:=⟨g,j,none⟩) p2
  obtain ⟨v2,hy2⟩:=cell?_setCell_some (w:=w) (p:=⟨g,j,none⟩) (x:=.int .i64 (nth p i)) (q:=⟨g,i,none⟩) p1
  have HO:=Lib.hid hown;have Hpl:=Lib.hid hpl;have Hcm:=Lib.hid hcm;clear hown hpl hP hcm
  go_enter Tryz.func141,Tryz.ntmps141
  go_wp2_with fail
  go_region
  all_goals go_wp2_with fail
  all_goals
    go_end0
    refine ⟨rfl,?_,?_⟩
  · exact own_drewN (own_put (own_put HO.out i _) j _) 1
  · exact (Keep.setCell (S:=fun k => k = g) (Keep.setCell (S:=fun k => k = g) (Keep.refl _ w) ⟨g,i,none⟩ (.inr rfl) _) ⟨g,j,none⟩ (.inr rfl) _).drew
set_option maxRecDepth 100000 in
set_option maxHeartbeats 1600000 in
theorem shuffle_any (n b c i:Nat) (A:Option Addr) (l:List Int) (w:World) (h:StreamAt w b A c l i) (hn:1 ≤ n) (hn2:n ≤ 1048576) (hi:i + (n - 1) ≤ l.length) (hl:l.length ≤ 1048576) (hu:U64 l) :
    Calls Tryz.prog 97 #[.int .i64 n,.pointer (some ⟨b,0,none⟩)] w fun e w' => ∃ v,e = .returned (.tuple #[v,.bool true]) ∧ w'.ownsRow w.heap.size 3 1 v n (nums .i64 (permN l n i)) ∧ StreamAt w' b A c l (i + (n - 1)) ∧ Keep (fun j => j = b) w w':=by
  obtain ⟨m,hm⟩:∃ m,n - 1 = m:=⟨_,rfl⟩
  rw [hm] at hi ⊢
  have hpn:permN l n i = shufN n (drawN l n i) m:=by unfold permN;rw [hm]
  rw [hpn]
  have hmn:m < n:=by omega
  have hnm:n ≤ m + 1:=by omega
  clear hm hpn
  have hma:=fun B d w' (h:StreamAt w' b A c l i) (hB:Rd w' B (nums .i64 (upTo m fun k => ((n - k:Nat):Int)))) hne => many_any b c i A l B (upTo m fun k => ((n - k:Nat):Int)) d w' h (by rw [upTo_len];exact hi) hl hu hB hne (fun k hk => by rw [upTo_len] at hk;rw [upTo_nth _ hk];omega)
  simp only [upTo_len] at hma
  have he:(upTo m fun k => nth l (i + k) % nth (upTo m fun k => ((n - k:Nat):Int)) k) = upTo m fun k => (drawN l n i k:Int):=upTo_congr fun k hk => by rw [upTo_nth _ hk,drawN_int l (by omega)]
  rw [he] at hma
  have hid:=fun w' => ident_any n w' hn2
  have hbw:=h.lt
  have Hma:=Lib.hid hma;have Hid':=Lib.hid hid;have H:=Lib.hid h
  clear hma he hid h hu
  go_enter Tryz.func97,Tryz.ntmps97
  go_wp2_with fail
  go_loopw [6,7] (fun v x wr => ∃ k:Nat,k ≤ m ∧ x = .int .i64 ((n:Int) - k) ∧ wr.ownsRow w.heap.size 3 1 v k (nums .i64 (upTo k fun k => ((n - k:Nat):Int))) ∧ Below w.heap.size w wr) (fun _ x _ => (intOf x).toNat)
  case atStart => exact ⟨0,Nat.zero_le _,by go_num,World.ownsRow_nil _ _ _ _,Below.refl _ _⟩
  case round =>
    obtain ⟨k,hk,rfl,hown,hb⟩:=hrel
    by_cases hlt:k < m
    · obtain ⟨Al,cl,rfl,_⟩:=own_form hown
      have Hown:=Lib.hid hown;have Hb:=Lib.hid hb;clear hown hb
      go_wp2_with (at_builtin;refine wpList_push et_ints _ rfl (.tmp 29) (.tmp 31) rfl w.heap.size (.slice Al k cl) k _ rfl Hown.out [.int .i64 ((n:Int) - k)] rfl rfl (nums_cell .i64 [_]) (by omega) (by unfold maxLen;omega) Hb.out.size ?_)
      intro g6 c6 w6 ho6 hb6 hg6
      have hb6':=Hb.out.trans hb6
      have HO6:=Lib.hid ho6;have HB6:=Lib.hid hb6'
      clear ho6 hb6 hg6 hb6'
      go_wp2_with fail
      go_roundw
      case rel =>
        refine ⟨k + 1,by omega,by go_num,?_,HB6.out⟩
        rw [upTo_succ,nums_append,show ((n - k:Nat):Int) = (n:Int) - k by omega];exact HO6.out
      case measure => simp [intOf];omega
    · obtain rfl:m = k:=by omega
      obtain ⟨Al,cl,rfl,_⟩:=own_form hown
      have hne:∀ a,Al = some a → a.block ≠ b:=fun a ha e => by
        subst ha
        have:=own_addr hown a rfl
        omega
      have hmr:=Hma.out Al cl wr (H.out.below hb) (Rd.own hown) hne
      have Hmr:=Lib.hid hmr;have Hb:=Lib.hid hb;clear hown hb hmr hne
      obtain ⟨wq,rfl⟩:∃ wq:World,wq = wr:=⟨_,rfl⟩
      go_wp2_with fail
      refine Hmr.out.mono ?_
      rintro e w1 ⟨v1,rfl,ho1,hS1,hK1⟩
      obtain ⟨A1,c1,rfl,_⟩:=own_form ho1
      have ha1:=own_addr ho1
      have hr1:=Rd.own ho1
      have hs1:=hK1.size
      have hKw:=(Keep.below (S:=fun j => j = b) Hb.out).trans hK1
      have hs0:=hKw.size
      have HS1:=Lib.hid hS1;have HK1:=Lib.hid hKw;have Hr1:=Lib.hid hr1;have Ha1:=Lib.hid ha1;clear hS1 hK1 hr1 ho1 ha1 hKw
      go_wp2_with fail
      refine (Hid'.out w1).mono ?_
      rintro e w2 ⟨v2,rfl,ho2,hb2⟩
      obtain ⟨g,c2,rfl,_⟩:=ho2.form hn
      have hs2:=hb2.size
      have hgl:=ho2.lt g rfl
      have hP:=heap_alloc_new w2 (.cells #[.slice (some ⟨g,0,none⟩) n c2] 22)
      have hB3:=hb2.alloc hs2 (.cells #[.slice (some ⟨g,0,none⟩) n c2] 22)
      have ho3:=ho2.alloc (.cells #[.slice (some ⟨g,0,none⟩) n c2] 22)
      have hr3:=Hr1.out.below hB3
      have HP:=Lib.hid hP;have HB3:=Lib.hid hB3;have Ho3:=Lib.hid ho3;have Hr3:=Lib.hid hr3;clear hP hB3 ho3 hr3 ho2 hb2
      go_wp2_with fail
      obtain ⟨W3,hW3⟩:∃ W3,W3 = w2.alloc (.cells #[.slice (some ⟨g,0,none⟩) n c2] 22):=⟨_,rfl⟩
      have hs3:w2.heap.size < W3.heap.size:=by rw [hW3];simp
      have HP3:Hid (W3.heap[w2.heap.size]? = some (.cells #[.slice (some ⟨g,0,none⟩) n c2] 22 (0,0))):=Lib.hid (by rw [hW3];exact HP.out)
      have HB4:Hid (Below w1.heap.size w1 W3):=Lib.hid (by rw [hW3];exact HB3.out)
      have Ho4:Hid (W3.ownsRow w1.heap.size 3 1 (.slice (some ⟨g,0,none⟩) n c2) n (nums .i64 (iota n))):=Lib.hid (by rw [hW3];exact Ho3.out)
      have Hr4:Hid (Rd W3 A1 (nums .i64 (upTo m fun k => (drawN l n i k:Int)))):=Lib.hid (by rw [hW3];exact Hr3.out)
      rw [← hW3]
      clear HP HB3 Ho3 Hr3 hW3
      go_loopw [46] (fun x wr => ∃ k:Nat,k ≤ m ∧ x = .int .i64 k ∧ wr.heap[w2.heap.size]? = some (.cells #[.slice (some ⟨g,0,none⟩) n c2] 22 (0,0)) ∧ wr.ownsRow w1.heap.size 3 1 (.slice (some ⟨g,0,none⟩) n c2) n (nums .i64 (shufN n (drawN l n i) k)) ∧ Keep (fun j => j = g) W3 wr) (fun x _ => m - (intOf x).toNat)
      case atStart => exact ⟨0,Nat.zero_le _,rfl,HP3.out,Ho4.out,Keep.refl _ _⟩
      case round =>
        obtain ⟨k,hk,rfl,hP,hown,hK⟩:=hrel
        by_cases hlt:k < m
        · have hr:=hK.rd Hr4.out (fun a ha e => by have:=(Ha1.out a ha).2;omega)
          obtain ⟨bA,oA,rfl,p⟩:=hr.num (show k < _ by rw [upTo_len];exact hlt)
          rw [upTo_nth _ hlt] at p
          have hdl:=drawN_lt l (n:=n) (i:=i) (k:=k) (by omega)
          have hsw:=swap_any w2.heap.size g n c2 w1.heap.size (n - 1 - k) (drawN l n i k) (shufN n (drawN l n i) k) wr hP hown (by omega) (by omega) hn2
          rw [show ((n - 1 - k:Nat):Int) = (n:Int) - 1 - k by omega] at hsw
          have hps:=lt_of_block hP
          have Hsw:=Lib.hid hsw;have HP:=Lib.hid hP;have HK:=Lib.hid hK;clear hsw hP hown hK hr
          obtain ⟨dk,hdk⟩:∃ dk,drawN l n i k = dk:=⟨_,rfl⟩
          rw [hdk] at p
          have hsw:=Hsw.out
          rw [hdk] at hsw hdl
          have Hsw2:=Lib.hid hsw;have Hdk:=Lib.hid hdk;clear Hsw hsw hdk
          go_wp2_with fail
          refine Hsw2.out.mono ?_
          rintro e w5 ⟨rfl,ho5,hK5⟩
          have hP5:=(hK5.block _ hps (by omega)).trans HP.out
          have HP5:=Lib.hid hP5;have Ho5:=Lib.hid ho5;have HK5:=Lib.hid (HK.out.trans hK5);clear hP5 ho5 hK5 p
          go_wp2_with fail
          go_roundw
          case rel =>
            refine ⟨k + 1,by omega,by go_num,HP5.out,?_,HK5.out⟩
            rw [shufN,Hdk.out];exact Ho5.out
          case measure => simp [intOf];omega
        · obtain rfl:m = k:=by omega
          obtain ⟨x0,xf⟩:=bx1 hP
          have hKf:Keep (fun j => j = b) w wr:=HK1.out.below2 ((HB4.out.mono (by omega)).trans (hK.toBelow (by omega) (fun j hj => by omega)))
          have hSf:StreamAt wr b A c l (i + m):=⟨(hK.block b (by omega) (by omega)).trans ((HB4.out.block b (by omega)).trans HS1.out.blk),hKf.rd H.out.rd (fun a ha e => H.out.ne a ha e),H.out.ne⟩
          have HKf:=Lib.hid hKf;have HSf:=Lib.hid hSf;have Hown:=Lib.hid (own_base (base':=w.heap.size) hown (by omega));clear hKf hSf hown hK hP
          go_wp2_with fail
          go_ret2
          exact ⟨_,rfl,Hown.out,HSf.out,HKf.out⟩
end Go.Proofs.YtaccfnffmbndhaaGreat
namespace Go.Proofs.YtaccfnffmbndhaaGreat
open Go.RowKit
theorem et_intss:ElemT Tryz.prog 157 22 (.slice none 0 0) 1 24:=⟨Tryz.underlying157,info_parts (by kernel_rfl),rfl,by decide⟩
def EpochIs (S n b c i k base:Nat) (A:Option Addr) (l:List Int) (x0 x1 x2:Value) (vs:List Value) (w:World) (e:Ending) (w':World):Prop:=
  e = .returned (.bool true) ∧ ∃ A1 c1 Ao co,w'.heap[S]? = some (.cells #[x0,x1,x2,.slice Ao (k + 1) co] 190 (0,0)) ∧
    w'.ownsRow base 22 1 (.slice Ao (k + 1) co) (k + 1) (vs ++ [.slice A1 n c1]) ∧ n ≤ c1 ∧ w'.ownsRow base 3 1 (.slice A1 n c1) n (nums .i64 (permN l n i)) ∧
    w'.heap[b]? = some (.cells #[.slice A l.length c,.int .i64 ((i + (n - 1):Nat):Int)] 235 (0,0)) ∧
    (∀ base' m v xs,w.ownsRow base' 3 1 v m xs → w'.ownsRow base' 3 1 v m xs) ∧ Keep (fun j => j = b ∨ j = S ∨ base ≤ j) w w'
set_option maxRecDepth 100000 in
set_option maxHeartbeats 1600000 in
theorem epoch_any (N P1 P2 S n b c i k base:Nat) (A:Option Addr) (l:List Int) (Ao:Option Addr) (co:Nat) (x0 x1 x2:Value) (vs:List Value) (w:World)
    (hN:w.heap[N]? = some (.cells #[.int .i64 n] 3 (0,0))) (hP1:w.heap[P1]? = some (.cells #[.pointer (some ⟨b,0,none⟩)] 191 (0,0))) (hP2:w.heap[P2]? = some (.cells #[.pointer (some ⟨S,0,none⟩)] 112 (0,0)))
    (hS:w.heap[S]? = some (.cells #[x0,x1,x2,.slice Ao k co] 190 (0,0))) (h:StreamAt w b A c l i) (hor:w.ownsRow base 22 1 (.slice Ao k co) k vs) (hbase:base ≤ w.heap.size)
    (hk:k ≤ 1048576) (hn:1 ≤ n) (hn2:n ≤ 1048576) (hi:i + (n - 1) ≤ l.length) (hl:l.length ≤ 1048576) (hu:U64 l) :
    Calls Tryz.prog 96 #[.pointer (some ⟨N,0,none⟩),.pointer (some ⟨P1,0,none⟩),.pointer (some ⟨P2,0,none⟩)] w (EpochIs S n b c i k base A l x0 x1 x2 vs w):=by
  have hsh:=shuffle_any n b c i A l w h hn hn2 hi hl hu
  have hbS:b ≠ S:=fun e => by
    have h1:=h.blk;rw [e,hS] at h1;simp at h1
  have hbP:b ≠ P2:=fun e => by
    have h1:=h.blk;rw [e,hP2] at h1;simp at h1
  have hbo:∀ j,(Value.slice Ao k co).ownBlock = some j → j ≠ b:=fun j hj e => block_notrow h.blk (by decide) hor (by rw [← e,hj])
  have hall:∀ base' m v xs,w.ownsRow base' 3 1 v m xs → ∀ j,v.ownBlock = some j → j ≠ b:=fun base' m v xs hr j hj e => block_notrow h.blk (by decide) hr (by rw [← e,hj])
  obtain ⟨p0,pf⟩:=bx1 hN
  obtain ⟨q0,qf⟩:=bx1 hP1
  have hPl:=lt_of_block hP2
  have hSl:=lt_of_block hS
  have Hsh:=Lib.hid hsh;have HP2:=Lib.hid hP2;have HS:=Lib.hid hS;have Hor:=Lib.hid hor;have Hbo:=Lib.hid hbo;have Hall:=Lib.hid hall;have HbS:=Lib.hid hbS;have HbP:=Lib.hid hbP
  clear hsh hP2 hS hor hbo hall hbS hbP hN hP1 h hu
  go_enter Tryz.func96,Tryz.ntmps96
  go_wp2_with fail
  refine Hsh.out.mono ?_
  rintro e w1 ⟨v1,rfl,ho1,hS1,hK1⟩
  obtain ⟨A1,c1,rfl,hc1⟩:=own_form ho1
  have hQ2:=(hK1.block P2 hPl (fun e => HbP.out e.symm)).trans HP2.out
  have hT2:=(hK1.block S hSl (fun e => HbS.out e.symm)).trans HS.out
  have hor1:=hK1.own Hor.out (fun j hj e => Hbo.out j hj e)
  have hz1:=hK1.size
  obtain ⟨t0,tf⟩:=bx1 hQ2
  obtain ⟨⟨y0,y1,y2,y3⟩,yf⟩:=bx4 hT2
  have Ho1:=Lib.hid ho1;have HS1:=Lib.hid hS1;have HK1:=Lib.hid hK1;have HQ2:=Lib.hid hQ2;have HT2:=Lib.hid hT2;have Hor1:=Lib.hid hor1;have Hc1:=Lib.hid hc1
  clear ho1 hS1 hK1 hQ2 hT2 hor1 hc1 p0 pf q0 qf
  go_wp2_with fail
  have hSw:(fun w':World => w'.cell? ⟨P2,0,none⟩ = some (.pointer (some ⟨S,0,none⟩)) ∧ w'.cell? ⟨S,3,none⟩ = some (.slice Ao k co)) w1.drew:=⟨t0,y3⟩
  refine XA.g 8 (fun w':World => w'.cell? ⟨P2,0,none⟩ = some (.pointer (some ⟨S,0,none⟩)) ∧ w'.cell? ⟨S,3,none⟩ = some (.slice Ao k co)) ?_
  refine XA.t ?_ [0,1,2,3,4,5] hSw ?_
  refine XA.o 6 (fun K hK => ?_)
  go_simp
  refine hK.out _ _ ⟨cell_alloc hSw.1 _,cell_alloc hSw.2 _⟩ (fun hSw => ?_)
  clear hK K
  refine XA.o 7 (fun K hK => ?_)
  refine step_appX et_intss (.tmp 16) (.tmp 18) rfl rfl base (.slice Ao k co) k vs rfl (own_drewN (Hor1.out.alloc _) 1) (some ⟨w1.heap.size,0,none⟩) 1 1 [.slice A1 n c1] rfl (rd_newN w1 _ _ _ rfl) rfl (by simp [Value.oneCell']) (by omega) (by unfold maxLen;omega) (by simp;omega) ?_
  intro A7 c7 w7 ho7 hb7 hg7 _
  have hg7:=grown_undrew hg7
  have hS7:=block_grown (o:=.cells #[.slice A1 n c1] 22 (0,0)) HT2.out (by decide) Hor1.out hg7
  have hP7:=block_grown (o:=.cells #[.slice A1 n c1] 22 (0,0)) HQ2.out (by decide) Hor1.out hg7
  have hb7':=block_grown (o:=.cells #[.slice A1 n c1] 22 (0,0)) HS1.out.blk (by decide) Hor1.out hg7
  have i0:=cell_of_row w7 _ 0 _ _ _ hP7
  have i3:=cell_of_row w7 _ 3 _ _ _ hS7
  have if3:=frozen_of_row w7 _ 3 _ _ hS7
  have HO7:=Lib.hid ho7;have HS7:=Lib.hid hS7;have Hg7:=Lib.hid hg7;have Hb7:=Lib.hid hb7;have HB7:=Lib.hid hb7';clear ho7 hS7 hg7 hb7 hP7 hb7'
  dsimp only
  refine hK.out _ _ ⟨i0,i3⟩ (fun hSw => ?_)
  clear hK K hSw
  refine XA.e ?_
  simp only [List.drop_succ_cons,List.drop_zero]
  go_wp2_with fail
  have hS8:=heap_setCell_same w7 S 3 _ _ (.slice A7 (k + 1) c7) HS7.out
  have hk8:Keep (fun j => j = S) w7 (w7.setCell ⟨S,3,none⟩ (.slice A7 (k + 1) c7)):=Keep.setCell (S:=fun j => j = S) (Keep.refl _ _) ⟨S,3,none⟩ (.inr rfl) _
  have ho8:=hk8.own HO7.out (fun j hj e => block_notrow HS7.out (by decide) HO7.out (by rw [hj,e]))
  have hb8:=(hk8.block b (by have:=lt_of_block HB7.out;omega) (fun e => HbS.out e)).trans HB7.out
  have hrow:∀ base' m v xs,w1.ownsRow base' 3 1 v m xs → (w7.setCell ⟨S,3,none⟩ (.slice A7 (k + 1) c7)).ownsRow base' 3 1 v m xs:=fun base' m v xs h => own_past h Hor1.out Hg7.out HS7.out (by decide) (by decide)
  have hKall:Keep (fun j => j = b ∨ j = S ∨ base ≤ j) w (w7.setCell ⟨S,3,none⟩ (.slice A7 (k + 1) c7)):=by
    refine ⟨hk8.os.trans (Hb7.out.os.trans HK1.out.os),hk8.tape.trans (Hb7.out.tape.trans HK1.out.tape),hk8.output.trans (Hb7.out.output.trans HK1.out.output),?_,fun j hj hn => ?_⟩
    · have:=Hb7.out.size;have:=hk8.size;simp at *;omega
    · have hnb:¬ j = b:=fun e => hn (.inl e)
      have hnS:¬ j = S:=fun e => hn (.inr (.inl e))
      have hnB:j < base:=by rcases Nat.lt_or_ge j base with h | h;exact h;exact absurd (.inr (.inr h)) hn
      have h1:=HK1.out.block j hj hnb
      have h2:=Hb7.out.block j hnB
      have h3:=hk8.block j (by have:=Hb7.out.size;simp at this;omega) hnS
      refine h3.trans (h2.trans (Eq.trans ?_ h1))
      exact Below.heap_alloc w1 _ j (by omega)
  have HS8:=Lib.hid hS8;have Ho8:=Lib.hid ho8;have Hb8:=Lib.hid hb8;have Hrow:=Lib.hid hrow;have HKall:=Lib.hid hKall
  clear hS8 hk8 ho8 hb8 hrow hKall
  go_ret
  refine ⟨rfl,A1,c1,A7,c7,HS8.out,Ho8.out,Hc1.out,?_,Hb8.out,fun base' m v xs hr => Hrow.out _ _ _ _ (HK1.out.own hr (fun j hj e => Hall.out _ _ _ _ hr j hj e)),HKall.out⟩
  exact Hrow.out _ _ _ _ (own_base Ho1.out hbase)
end Go.Proofs.YtaccfnffmbndhaaGreat
