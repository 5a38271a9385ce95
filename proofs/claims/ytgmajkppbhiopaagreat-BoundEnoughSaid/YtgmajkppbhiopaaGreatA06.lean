/- No condition. -/
import Derived.Test.YtgmajkppbhiopaaGreatA00
import Derived.Test.YtgmajkppbhiopaaGreatProg
import Derived.Test.YtgmajkppbhiopaaGreatA01
import Derived.Test.YtgmajkppbhiopaaGreatA02
import Derived.KernelRfl
import Derived.BigQuiet
import Derived.Deep.QuietTactic
import Derived.Lib.Mul64
import Derived.Laws.Bits64b
import Derived.WalkSpells
import Derived.Deep.RegionHeld3
import Derived.StillTailTactics
import Derived.Test.YtgmajkppbhiopaaGreatA05
import Derived.Deep.DeepCutAuto
set_option linter.unusedSimpArgs false
set_option linter.unusedVariables false
set_option maxRecDepth 100000
set_option maxHeartbeats 4000000
namespace Go.Proofs.YtgmajkppbhiopaaGreat
open Go.RowKit
theorem Bb (a:Nat) (i:a<18446744073709551616):bits .and .u64 (a:Int) 4294967295=((a%4294967296:Nat):Int):=by
 have h:=bits_and_u64_nat a 4294967295 i (by omega)
 have e:a&&& 4294967295=a%4294967296:=Nat.and_two_pow_sub_one_eq_mod a 32
 rw [e] at h
 exact h
theorem EB (a:Nat):(a:Int)/4294967296=((a/4294967296:Nat):Int):=by omega
theorem EA (a b:Nat):(a:Int)*(b:Int)=((a*b:Nat):Int):=(Int.natCast_mul a b).symm
theorem EC (a b:Nat):(a:Int)+(b:Int)=((a+b:Nat):Int):=(Int.natCast_add a b).symm
theorem lK (a:Nat) (h:a<18446744073709551616):IntKind.u64.wrap (a:Int)=(a:Int):=by rw [IntKind.wrap_u64];omega
theorem Eg (a:Nat):IntKind.u64.wrap (a:Int)=((a%18446744073709551616:Nat):Int):=by rw [IntKind.wrap_u64];omega
theorem xW (x y:Nat) (B:x<18446744073709551616) (A:y<18446744073709551616) (w:World):
  Calls Tryz.prog 275 #[.int .u64 x,.int .u64 y] w fun e H=>e=.returned (.tuple #[.int .u64 ((x*y/18446744073709551616:Nat):Int),.int .u64 ((x*y%18446744073709551616:Nat):Int)])∧w=H:=by
 obtain ⟨C,bt,I,u⟩:=Lib.mul64_hi x y B A
 have ba:=Lib.half_mul_le (a:=x/4294967296) (b:=y/4294967296) (by omega) (by omega)
 have J:=Lib.half_mul_le (a:=x/4294967296) (b:=y%4294967296) (by omega) (by omega)
 have bc:=Lib.half_mul_le (a:=x%4294967296) (b:=y/4294967296) (by omega) (by omega)
 have i:x/4294967296*(y/4294967296)<18446744073709551616:=by omega
 have h:x/4294967296*(y%4294967296)<18446744073709551616:=by omega
 have v:x%4294967296*(y/4294967296)<18446744073709551616:=by omega
 have o:x/4294967296*(y/4294967296)+(x/4294967296*(y%4294967296)+x%4294967296*(y%4294967296)/4294967296)/4294967296<18446744073709551616:=by omega
 have D:x/4294967296*(y/4294967296)+(x/4294967296*(y%4294967296)+x%4294967296*(y%4294967296)/4294967296)/4294967296+((x/4294967296*(y%4294967296)+x%4294967296*(y%4294967296)/4294967296)%4294967296+x%4294967296*(y/4294967296))/4294967296<18446744073709551616:=by omega
 go_enter Tryz.func275,Tryz.ntmps275
 go_wp2
 simp only [Bb x B,Bb y A,EB,EA,EC,lK _ C,lK _ h,lK _ bt,Bb _ bt,lK _ v,lK _ I,lK _ i,lK _ o,lK _ D,Eg (x*y)]
 rw [u]
 go_ret2
 exact ⟨rfl,rfl⟩
theorem Aa (a:Int) (w:World):Calls Tryz.prog 267 #[FQ a] w fun e h=>e=.returned (FQ (max a 0))∧w=h:=by
 go_enter Tryz.func267,Tryz.ntmps267
 go_wp2
 all_goals
  go_ret
  exact ⟨aF (by omega),rfl⟩
theorem Bp (a g:Int) (w:World):Calls Tryz.prog 252 #[FQ a,FQ g] w fun e i=>e=.returned (FQ (if 0<a then g else 0))∧w=i:=by
 by_cases h:a≤0
 ·rw [if_neg (by omega)]
  go_enter Tryz.func252,Tryz.ntmps252
  go_wp2
  go_ret
  exact ⟨rfl,rfl⟩
 ·rw [if_pos (by omega)]
  go_enter Tryz.func252,Tryz.ntmps252
  go_wp2
  go_ret
  exact ⟨rfl,rfl⟩
theorem vz (a b:Int) (w:World):Calls Tryz.prog 257 #[FQ a,FQ b] w fun e h=>e=.returned (FQ (wrap64 (a-b)))∧w=h:=by
 go_enter Tryz.func257,Tryz.ntmps257
 go_wp2
 go_ret
 exact ⟨rfl,rfl⟩
theorem zw (h lo:Int) (q:Nat) (C:q≤63) (o:0≤lo∧lo<18446744073709551616):
  bits .or .u64 (IntKind.u64.wrap (IntKind.u64.wrap h*2^(64-q))) (lo/2^q)=(uw h%2^q)*2^(64-q)+lo/2^q:=by
 obtain ⟨H,hH,_⟩:=th h
 obtain ⟨L,rfl⟩:=Int.eq_ofNat_of_zero_le o.1
 have u:(18446744073709551616:Nat)=2^(64-q)*2^q:=by rw [←Nat.pow_add,show 64-q+q=64 by omega]
 have hw:IntKind.u64.wrap h=uw h:=by rw [IntKind.wrap_u64];rfl
 have B:IntKind.u64.wrap (uw h*2^(64-q))=((2^(64-q)*(H%2^q):Nat):Int):=by
  rw [IntKind.wrap_u64,hH]
  have:((H*2^(64-q):Nat):Int)%((18446744073709551616:Nat):Int)=((2^(64-q)*(H%2^q):Nat):Int):=by
   rw [←Int.natCast_emod,Nat.mul_comm H,u,Nat.mul_mod_mul_left]
  simpa using this
 have x:((L:Int)/2^q)=((L/2^q:Nat):Int):=by simp
 have i:0<2^q:=Nat.pow_pos (by decide)
 have v:L/2^q<2^(64-q):=by
  rw [Nat.div_lt_iff_lt_mul i]
  have:=o.2
  omega
 have y:2^(64-q)*(H%2^q)<18446744073709551616:=by
  rw [u]
  exact Nat.mul_lt_mul_of_pos_left (Nat.mod_lt _ i) (Nat.pow_pos (by decide))
 have A:L/2^q<18446744073709551616:=Nat.lt_of_le_of_lt (Nat.div_le_self _ _) (by omega)
 rw [hw,B,x,bits_or_u64_nat _ _ y A,←Nat.two_pow_add_eq_or_of_lt v,hH,Int.natCast_add,Int.natCast_mul,Int.mul_comm]
 simp
theorem xa (h lo:Int) (q:Nat) (i:q≤63) (u:0≤lo∧lo<18446744073709551616):
  wrap64 (bits .or .u64 (IntKind.u64.wrap (IntKind.u64.wrap h*2^(64-q))) (lo/2^q))=wrap64 (h*2^(64-q)+lo/2^q):=by
 rw [zw h lo q i u]
 have v:(18446744073709551616:Int)=2^(64-q)*2^q:=by rw [←Int.pow_add,show 64-q+q=64 by omega];rfl
 obtain ⟨k,hk⟩:∃k:Int,uw h=h+k*18446744073709551616:=⟨-(h/18446744073709551616),by unfold uw;omega⟩
 have y:=Int.emod_add_mul_ediv (uw h) (2^q)
 refine oN ⟨k*2^(64-q)-uw h/2^q,?_⟩
 have e:uw h%2^q=h+k*18446744073709551616-2^q*(uw h/2^q):=by omega
 rw [e,Int.sub_mul,Int.add_mul,Int.sub_mul]
 have x:2^q*(uw h/2^q)*2^(64-q)=(uw h/2^q)*18446744073709551616:=by
  rw [v,Int.mul_comm (2^q:Int),Int.mul_assoc,Int.mul_comm (2^q:Int)]
 have o:k*18446744073709551616*2^(64-q)=k*2^(64-q)*18446744073709551616:=by rw [Int.mul_assoc,Int.mul_comm 18446744073709551616,←Int.mul_assoc]
 rw [x,o]
 omega
def eV (a b:Int):Nat→Int
 | 0=>wrap64 (uw a*uw b/18446744073709551616)
 | 1=>if a<0 then wrap64 (wrap64 (uw a*uw b/18446744073709551616)-b) else wrap64 (uw a*uw b/18446744073709551616)
 | _=>dY a b
theorem vL (a b:Int) (o: -9223372036854775808≤a∧a≤9223372036854775807) (hb: -9223372036854775808≤b∧b≤9223372036854775807):dY a b=if b<0 then wrap64 (eV a b 1-a) else eV a b 1:=by
 rw [←yU a b o hb]
 unfold eV
 by_cases i:a<0
 ·by_cases h:b<0
  ·simp only [i,h,if_true,jI]
  ·simp only [i,h,if_true,if_false,jI,Int.sub_zero]
 ·by_cases h:b<0
  ·simp only [i,h,if_true,if_false,jI,Int.sub_zero]
  ·simp only [i,h,if_false,Int.sub_zero]
theorem Af (a b:Int) (w:World) (N: -9223372036854775808≤a∧a≤9223372036854775807) (hb: -9223372036854775808≤b∧b≤9223372036854775807):
  Calls Tryz.prog 270 #[FQ a,FQ b] w fun e U=>e=.returned (.tuple #[FQ (dY a b),.int .u64 (iL a b)])∧Below w.heap.size w U:=by
 obtain ⟨X,A,C⟩:=th a
 obtain ⟨Y,B,H⟩:=th b
 have T:IntKind.u64.wrap a=(X:Int):=by rw [IntKind.wrap_u64,←A];rfl
 have O:IntKind.u64.wrap b=(Y:Int):=by rw [IntKind.wrap_u64,←B];rfl
 have u:wrap64 ((X*Y/18446744073709551616:Nat):Int)=eV a b 0:=by unfold eV;rw [A,B];simp
 have y:((X*Y%18446744073709551616:Nat):Int)=iL a b:=by rw [←yT a b N hb,A,B];unfold uw;simp
 have hm:=xW X Y C H w
 rw [y] at hm
 obtain ⟨h,Q⟩:∃h:Int,((X*Y/18446744073709551616:Nat):Int)=h:=⟨_,rfl⟩
 rw [Q] at hm u
 have I:∀w,(Instr.index 391 (.agg #[FQ a,FQ b,FQ b,FQ a]) (FQ 0)).run Tryz.prog w=.ok (.agg #[FQ a,FQ b]) w:=fun w=>by kernel_rfl
 have L:∀w,(Instr.index 391 (.agg #[FQ a,FQ b,FQ b,FQ a]) (FQ 1)).run Tryz.prog w=.ok (.agg #[FQ b,FQ a]) w:=fun w=>by kernel_rfl
 obtain ⟨Hm,EX,Z,J,I0,V⟩:=ah hm T O u I L;clear hm T O u y A B Q I L
 go_enter Tryz.func270,Tryz.ntmps270
 go_wp2_with fail
 rw [EX.out,Z.out]
 refine Hm.out.mono ?_
 rintro e w1 ⟨rfl,rfl⟩
 go_wp2_with fail
 rw [J.out]
 go_loopw [4,26] (fun s i wr=>∃k:Nat,k≤2∧i=FQ k∧s=FQ (eV a b k)∧Below w.heap.size w wr) (fun _ i _=>2-(intOf i).toNat)
 case atStart=>exact ⟨0,by omega,rfl,rfl,EP _ _⟩
 case round=>
  obtain ⟨k,hk,rfl,rfl,o⟩:=hrel
  obtain ⟨R,x⟩:=ab (o.trans ((EP _ _).alloc o.size (.cells #[FQ a,FQ b] 390))) (o.trans ((EP _ _).alloc o.size (.cells #[FQ b,FQ a] 390)))
  rcases (show k=0∨k=1∨k=2 by omega) with rfl | rfl | rfl
  ·rw [show (((0:Nat):Int))=0 from rfl]
   have I:=I0.out
   by_cases h:a<0
   ·have he:wrap64 (eV a b 0-b)=eV a b 1:=by simp only [eV,h,if_true]
    have v:=aa he;clear he o hk
    go_wp2_with fail
    rw [v.out]
    go_roundw
    case rel=>exact ⟨1,by omega,rfl,rfl,R.out⟩
    case measure=>simp [intOf]
   ·have he:eV a b 0=eV a b 1:=by simp only [eV,h,if_false]
    have v:=aa he;clear he o hk
    go_wp2_with fail
    rw [v.out]
    go_roundw
    case rel=>exact ⟨1,by omega,rfl,rfl,R.out⟩
    case measure=>simp [intOf]
  ·rw [show (((1:Nat):Int))=1 from rfl]
   have L:=V.out
   by_cases h:b<0
   ·have he:wrap64 (eV a b 1-a)=eV a b 2:=by rw [show eV a b 2=dY a b from rfl,vL a b N hb,if_pos h]
    have v:=aa he;clear he o hk
    go_wp2_with fail
    rw [v.out]
    go_roundw
    case rel=>exact ⟨2,by omega,rfl,rfl,x.out⟩
    case measure=>simp [intOf]
   ·have he:eV a b 1=eV a b 2:=by rw [show eV a b 2=dY a b from rfl,vL a b N hb,if_neg h]
    have v:=aa he;clear he o hk
    go_wp2_with fail
    rw [v.out]
    go_roundw
    case rel=>exact ⟨2,by omega,rfl,rfl,x.out⟩
    case measure=>simp [intOf]
  ·rw [show (((2:Nat):Int))=2 from rfl]
   have D:=aa o;clear o hk
   go_wp2_with fail
   go_ret2
   exact ⟨rfl,D.out⟩
theorem xc (h lo:Int) (q:Nat) (w:World) (x:q≤62) (y: -9223372036854775808≤h∧h≤9223372036854775807) (u:0≤lo∧lo<18446744073709551616):
  Calls Tryz.prog 271 #[FQ h,.int .u64 lo,FQ q] w fun e o=>e=.returned (FQ (wrap64 (h*2^(64-q)+lo/2^q)))∧∃n,o=w.drewN n:=by
 have i:=xa h lo q (by omega) u
 have v:=aa i;clear i
 go_enter Tryz.func271,Tryz.ntmps271
 go_wp2_with fail
 go_quiet (fail)
 rw [v.out]
 go_wp2
 go_ret
 exact ⟨rfl,_,rfl⟩
theorem CW (a b:Int) (q:Nat) (h:q≤62):gH a b q=wrap64 (dY a b*2^(64-q)+iL a b/2^q):=by
 rw [zx a b q h]
 unfold gH
 rw [if_neg (by omega)]
 simp
theorem nE (a b q:Int) (w:World) (v: -9223372036854775808≤a∧a≤9223372036854775807) (hb: -9223372036854775808≤b∧b≤9223372036854775807):
  Calls Tryz.prog 260 #[FQ a,FQ b,FQ q] w fun e o=>e=.returned (FQ (gH a b q))∧Below w.heap.size w o:=by
 by_cases B:q<0
 ·have h:gH a b q=0:=by unfold gH;rw [if_pos (.inl B)]
  rw [h];clear h
  go_enter Tryz.func260,Tryz.ntmps260
  go_wp2_with fail
  go_ret
  exact ⟨rfl,EP _ _⟩
 ·by_cases A:62<q
  ·have h:gH a b q=0:=by unfold gH;rw [if_pos (.inr A)]
   rw [h];clear h
   go_enter Tryz.func260,Tryz.ntmps260
   go_wp2_with fail
   go_ret
   exact ⟨rfl,EP _ _⟩
  ·obtain ⟨Q,rfl⟩:=Int.eq_ofNat_of_zero_le (show 0≤q by omega)
   have h:=CW a b Q (by omega)
   rw [h]
   have u:=Af a b w v hb
   have x:=fun o=>xc (dY a b) (iL a b) Q o (by omega) (pB v hb) (za _)
   obtain ⟨D,C⟩:=ab u x;clear u x h
   go_enter Tryz.func260,Tryz.ntmps260
   go_wp2_with fail
   refine D.out.mono ?_
   rintro e H ⟨rfl,i⟩
   have y:=aa i;clear i
   go_wp2_with fail
   refine (C.out _).mono ?_
   rintro e I ⟨rfl,n,rfl⟩
   go_wp2_with fail
   go_ret
   exact ⟨rfl,EW y.out _⟩
def wL (sz ps:List Int) (k:Nat):List Int:=di (szN sz (k+1)*szN sz k) fun i=>nth ps (aZ sz k+i)
def bL (sz ps:List Int) (k:Nat):List Int:=di (szN sz (k+1)) fun i=>nth ps (cX sz k+i)
theorem td (sz ps:List Int) (k:Nat):(wL sz ps k).length=szN sz (k+1)*szN sz k:=aU _ _
theorem Ch (sz ps:List Int) (k:Nat):(bL sz ps k).length=szN sz (k+1):=aU _ _
def qP (w:World) (h:List Value) (sz ps:List Int) (k:Nat):Prop:=∃g o d B e,
 h=[FQ (szN sz (k+1):Int),FQ (szN sz k:Int),.slice (some ⟨g,o,none⟩) (szN sz (k+1)*szN sz k) d,.slice B (szN sz (k+1)) e]∧szN sz (k+1)*szN sz k≤d∧
 Rd w (some ⟨g,o,none⟩) (ar .i64 (wL sz ps k))∧Rd w B (ar .i64 (bL sz ps k))
def jc (v u:TypeId) (w:World) (b:Nat) (sz ps:List Int) (q:Int):Prop:=∃S h cp i o rows,
 w.heap[b]?=some (.cells #[.pointer (some ⟨S,0,none⟩),.slice h ps.length cp,FQ q,.slice i (sz.length-1) o] u (0,0))∧
 aY v w S sz∧Rd w h (ar .i64 ps)∧Rd w i (List.flatten rows)∧rows.length=sz.length-1∧(∀r∈rows,r.length=4)∧∀j,j<sz.length-1→qP w (bK rows j) sz ps j
theorem qP.below {w i:World} {u:List Value} {sz ps:List Int} {k:Nat} (h:qP w u sz ps k) (hb:Below w.heap.size w i):qP i u sz ps k:=by
 obtain ⟨g,o,d,B,e,y,v,A,x⟩:=h
 exact ⟨g,o,d,B,e,y,v,A.below hb,x.below hb⟩
theorem jc.below {v o:TypeId} {w i:World} {b:Nat} {sz ps:List Int} {q:Int} (h:jc v o w b sz ps q) (hb:Below w.heap.size w i):jc v o i b sz ps q:=by
 obtain ⟨S,L,cp,D,x,rows,u,H,B,J,C,I,y⟩:=h
 exact ⟨S,L,cp,D,x,rows,(hb.block b (EL u)).trans u,H.below hb,B.below hb,J.below hb,C,I,fun j A=>(y j A).below hb⟩
theorem jc.lt {u i:TypeId} {w:World} {b:Nat} {sz ps:List Int} {q:Int} (h:jc u i w b sz ps q):b<w.heap.size:=by
 obtain ⟨S,x,cp,y,v,rows,o,_⟩:=h
 exact EL o
theorem iV:cH Tryz.prog 139 2 (FQ 0) 1 8:=⟨Tryz.underlying139,info_parts (by kernel_rfl),rfl,by decide⟩
theorem tH (A:Option Addr) (zs:List Int) (c:Nat) (w:World) (C:Rd w A (ar .i64 zs)) (hl:zs.length≤17592186043904):
  Calls Tryz.prog 162 #[.slice A zs.length c] w fun e B=>∃v,e=.returned v∧B.ownsRow w.heap.size 2 1 v zs.length (ar .i64 zs)∧Below w.heap.size w B:=by
 have q:=fun (w:World)=>Lib.run_eql_slice_nil (P:=Tryz.prog) w 139 2 A zs.length c 0 0 Tryz.underlying139
 cases A with
 | none=>
  have D:zs=[]:=by
   cases zs with
   | nil=>rfl
   | cons z l=>obtain ⟨b,o,h,_⟩:=C 0 _ rfl;cases h
  subst D
  clear q
  have q:=fun (w:World)=>Lib.run_eql_slice_nil (P:=Tryz.prog) w 139 2 none 0 c 0 0 Tryz.underlying139
  simp only [Option.isNone_none] at q
  rw [List.length_nil]
  go_enter Tryz.func162,Tryz.ntmps162
  go_wp2
  go_ret
  exact ⟨_,rfl,EZ _ _ _ _,EP _ _⟩
 | some a=>
  go_enter Tryz.func162,Tryz.ntmps162
  go_wp2_with (at_builtin;refine dE iV _ rfl (.tmp 5) (.tmp 6) rfl w.heap.size _ 0 [] rfl (fP w 2 1) _ zs.length c (ar .i64 zs) rfl (C.alloc _) (by rw [aK];omega) (bj _ _) (by omega) (by unfold maxLen;omega) (by simp) ?_)
  intro J I H i hb _ _
  have x:=((EP _ w).alloc (EM _) (.cells #[] 2)).trans hb
  obtain ⟨u,y⟩:=ab i x;clear i hb x
  go_wp2
  go_ret
  exact ⟨_,rfl,u.out,y.out⟩
theorem dF (A:Option Addr) (zs:List Int) (c:Nat) (w:World) (C:Rd w A (ar .i64 zs)) (hl:zs.length≤17592186043904):
  Calls Tryz.prog 127 #[.slice A zs.length c] w fun e y=>∃x u,e=.returned (.slice x zs.length u)∧zs.length≤u∧y.ownsRow w.heap.size 2 1 (.slice x zs.length u) zs.length (ar .i64 zs)∧Below w.heap.size w y:=by
 have h:=tH A zs c w C hl
 go_enter Tryz.func127,Tryz.ntmps127
 go_wp2_with fail
 refine h.mono ?_
 rintro e H ⟨v,rfl,i,hb⟩
 obtain ⟨x,u,rfl,hc⟩:=av i
 clear h
 obtain ⟨o,D,B⟩:=ae i hb hc;clear i hb hc
 go_wp2
 go_ret
 exact ⟨_,_,rfl,B.out,o.out,D.out⟩
theorem Di (A B:Option Addr) (xs h:List Int) (c d:Nat) (q:Int) (w:World) (R:Rd w A (ar .i64 xs)) (hB:Rd w B (ar .i64 h)) (hl:xs.length=h.length) (hm:xs.length≤17592186043904) (Q:W64 xs) (O:W64 h):
  Calls Tryz.prog 274 #[.slice A xs.length c,.slice B h.length d,FQ q] w fun e D=>e=.returned (.tuple #[FQ (qH xs h q),.bool true])∧Below w.heap.size w D:=by
 obtain ⟨n,hn⟩:∃n,h.length=n:=⟨_,rfl⟩
 have u:xs.length=n:=hl.trans hn
 have L:qH xs h q=Dj xs h q n:=by unfold qH;rw [u]
 rw [u,hn,L]
 have Y:n≤17592186043904:=by omega
 obtain ⟨T,N,HA,V,WX,U⟩:=ah hn u R hB Q O;clear hn u R hB Q O hl hm L
 go_enter Tryz.func274,Tryz.ntmps274
 go_wp2_with fail
 go_loopw [8,18] (fun s i wr=>∃k:Nat,k≤n∧i=FQ k∧s=FQ (Dj xs h q k)∧Below w.heap.size w wr) (fun _ i _=>n-(intOf i).toNat)
 case atStart=>exact ⟨0,EQ _,rfl,rfl,EP _ _⟩
 case round=>
  obtain ⟨k,hk,rfl,rfl,v⟩:=hrel
  by_cases o:k<n
  ·obtain ⟨b1,o1,I,p1⟩:=(HA.out.below v).num (show k<xs.length by rw [N.out];exact o)
   obtain ⟨b2,o2,H,p2⟩:=(V.out.below v).num (show k<h.length by rw [T.out];exact o)
   subst I;subst H
   have x:=fun D=>nE (nth xs k) (nth h k) q D (WX.out k (by rw [N.out];exact o)) (U.out k (by rw [T.out];exact o))
   obtain ⟨Z,C⟩:=ab x v;clear x v
   go_wp2_with fail
   refine (Z.out _).mono ?_
   rintro e w3 ⟨rfl,y⟩
   have J:=aa (C.out.trans (y.mono C.out.size));clear y
   go_wp2_with fail
   go_roundw
   case rel=>exact ⟨k+1,by omega,by go_num,rfl,J.out⟩
   case measure=>simp [intOf];omega
  ·obtain rfl:k=n:=by omega
   have C:=aa v;clear v
   go_wp2_with fail
   go_ret2
   exact ⟨rfl,C.out⟩
theorem cP {w:World} {base n g c:Nat} {xs:List Int} {e:TypeId} (h:w.ownsRow base e 1 (.slice (some ⟨g,0,none⟩) n c) n (ar .i64 xs)) {k:Nat} (hk:k<n):w.cell? ⟨g,k,none⟩=some (FQ (nth xs k)):=by
 rw [h.cellAt k (by omega)]
 have:=h.1
 rw [aK] at this
 exact ji .i64 xs k (by omega)
theorem iO {w:World} {base n:Nat} {v:Value} {xs:List Int} {e:TypeId} (h:w.ownsRow base e 1 v n (ar .i64 xs)):xs.length=n:=by
 have:=h.1
 rw [aK] at this
 omega
theorem eL {w:World} {base n g c:Nat} {xs:List Int} {e:TypeId} (h:w.ownsRow base e 1 (.slice (some ⟨g,0,none⟩) n c) n (ar .i64 xs)) (k:Nat) (v:Int):
  (w.setCell ⟨g,k,none⟩ (FQ v)).ownsRow base e 1 (.slice (some ⟨g,0,none⟩) n c) n (ar .i64 (xs.set k v)):=by
 have:=(h.stored k (FQ v)).1
 rwa [rM] at this
theorem xg (A:Option Addr) (xs:List Int) (c:Nat) (a q:Int) (w:World) (hA:Rd w A (ar .i64 xs)) (hm:xs.length≤17592186043904) (Z:W64 xs) (ha: -9223372036854775808≤a∧a≤9223372036854775807):
  Calls Tryz.prog 261 #[.slice A xs.length c,FQ a,FQ q] w fun e J=>∃O L,e=.returned (.slice O xs.length L)∧J.ownsRow w.heap.size 2 1 (.slice O xs.length L) xs.length (ar .i64 (mR xs a q))∧Below w.heap.size w J:=by
 have C:=dF A xs c w hA hm
 have x:=iv xs (fun k=>gH (nth xs k) a q)
 obtain ⟨n,hn⟩:∃n,xs.length=n:=⟨_,rfl⟩
 rw [hn] at C hm
 unfold mR
 rw [←x,hn]
 obtain ⟨Hc,WX,Hn⟩:=ae C Z hn;clear C Z hA x hn
 go_enter Tryz.func261,Tryz.ntmps261
 go_wp2_with fail
 refine Hc.out.mono ?_
 rintro e w1 ⟨O,L,rfl,_,h,hb⟩
 obtain ⟨HO,HB⟩:=ab h hb;clear h hb
 go_wp2_with fail
 go_loopw [14] (fun i wr=>∃k:Nat,k≤n∧i=FQ k∧wr.ownsRow w.heap.size 2 1 (.slice O n L) n (ar .i64 (iw xs k (fun k=>gH (nth xs k) a q)))∧Below w.heap.size w wr) (fun i _=>n-(intOf i).toNat)
 case atStart=>exact ⟨0,EQ _,rfl,by rw [gn];exact HO.out,HB.out⟩
 case round=>
  obtain ⟨k,hk,rfl,h,N⟩:=hrel
  by_cases y:k<n
  ·obtain ⟨g,d,hv,hg,a0⟩:=h.form (by omega)
   simp only [FD] at hv
   obtain ⟨rfl,V,rfl⟩:=hv
   clear V
   have v:k<xs.length:=by rw [Hn.out];exact y
   have p1:=cP h y
   rw [fe _ v,if_neg (by omega)] at p1
   have I:=fun J=>nE (nth xs k) a q J (WX.out k v) ha
   have H:=iu (l:=xs) (k:=k) (fun k=>gH (nth xs k) a q) v
   obtain ⟨Hm,Q,B,R⟩:=af I N h H;clear I N h H v
   go_wp2_with fail
   refine (Hm.out _).mono ?_
   rintro e w3 ⟨rfl,D⟩
   have o:=aq B.out D
   have Y:∃u,w3.cell? ⟨g,k,none⟩=some u:=⟨_,cP o y⟩
   obtain ⟨u3,Y⟩:=Y
   have f3:=o.frozenAt k
   obtain ⟨U,T⟩:=ab (eL o k (gH (nth xs k) a q)) ((Q.out.trans (D.mono Q.out.size)).setCell (p:=⟨g,k,none⟩) hg (FQ (gH (nth xs k) a q)));clear D o
   go_wp2_with fail
   go_roundw
   case rel=>exact ⟨k+1,by omega,by go_num,by rw [←R.out];exact U.out,T.out⟩
   case measure=>simp [intOf];omega
  ·obtain rfl:k=n:=by omega
   obtain ⟨Q,B⟩:=ab N h;clear N h
   go_wp2_with fail
   go_ret
   exact ⟨_,_,rfl,B.out,Q.out⟩
theorem qM (base:Nat) (A B:Option Addr) (xs u:List Int) (n c d:Nat) (w:World) (h:w.ownsRow base 2 1 (.slice A n c) n (ar .i64 xs)) (hB:Rd w B (ar .i64 u)) (hl:u.length=n) (hm:n≤17592186043904)
  (D:∀a b,A=some a→B=some b→a.block≠b.block):
  Calls Tryz.prog 234 #[.slice A n c,.slice B n d] w fun e Q=>e=.returned (.bool true)∧Q.ownsRow base 2 1 (.slice A n c) n (ar .i64 (qN xs u))∧Keep (fun i=>(Value.slice A n c).ownBlock=some i) w Q:=by
 have v:=iO h
 have o:=iv xs (fun k=>wrap64 (nth xs k+nth u k))
 unfold qN
 rw [←o,v]
 obtain ⟨HO,V,Hn,Y,HN⟩:=ag h hB v hl D;clear h hB v hl o D
 go_enter Tryz.func234,Tryz.ntmps234
 go_wp2_with fail
 go_loopw [13] (fun i wr=>∃k:Nat,k≤n∧i=FQ k∧wr.ownsRow base 2 1 (.slice A n c) n (ar .i64 (iw xs k (fun k=>wrap64 (nth xs k+nth u k))))∧Keep (fun i=>(Value.slice A n c).ownBlock=some i) w wr) (fun i _=>n-(intOf i).toNat)
 case atStart=>exact ⟨0,EQ _,rfl,by rw [gn];exact HO.out,Keep.refl _ _⟩
 case round=>
  obtain ⟨k,hk,rfl,h,I⟩:=hrel
  by_cases x:k<n
  ·obtain ⟨g,e,U,hg,a0⟩:=h.form (by omega)
   simp only [FD] at U
   obtain ⟨rfl,L,rfl⟩:=U
   clear L
   have C:k<xs.length:=by rw [Hn.out];exact x
   have p1:=cP h x
   rw [fe _ C,if_neg (by omega)] at p1
   have f1:=h.frozenAt k
   obtain ⟨R,Z,rfl,T⟩:=V.out.num (show k<u.length by rw [Y.out];exact x)
   have O:g≠R:=HN.out _ _ rfl rfl
   have p2:wr.cell? ⟨R,Z+k,none⟩=some (FQ (nth u k)):=I.cell T (by simp [Value.ownBlock];exact O)
   have H:=iu (l:=xs) (k:=k) (fun k=>wrap64 (nth xs k+nth u k)) C
   obtain ⟨N,y,J⟩:=ae I h H;clear I h H C T
   go_wp2_with fail
   go_region
   all_goals go_wp2_with fail
   all_goals
    go_roundw
    case rel=>
     refine ⟨k+1,by omega,by go_num,?_,?_⟩
     ·rw [←J.out];exact eL (bC y.out 1) k _
     ·exact Keep.setCell (N.out.drewN 1) ⟨g,k,none⟩ (.inr rfl) _
    case measure=>simp [intOf];omega
  ·obtain rfl:k=n:=by omega
   obtain ⟨N,y⟩:=ab I h;clear I h
   go_wp2_with fail
   go_ret
   exact ⟨rfl,y.out,N.out⟩
theorem oZ (r c:Int) (w:World) (hr:1≤r∧r≤1048576) (hc:1≤c∧c≤1048576):Calls Tryz.prog 263 #[FQ r,FQ c] w fun e h=>e=.returned (.bool true)∧w=h:=by
 obtain ⟨u,i⟩:=hr
 obtain ⟨v,o⟩:=hc
 go_enter Tryz.func263,Tryz.ntmps263
 go_wp2
 go_ret
 exact ⟨bD (by simp [*]),rfl⟩
theorem jt (r c:Nat) (A:Option Addr) (n d:Nat) (w:World) (hr:1≤r∧r≤1048576) (hc:1≤c∧c≤1048576) (hn:n=r*c) (hm:n≤17592186043904):
  Calls Tryz.prog 254 #[.agg #[FQ r,FQ c,.slice A n d]] w fun e i=>e=.returned (.bool true)∧i=w.alloc (.cells #[FQ r,FQ c,.slice A n d] 354):=by
 have o:=fun i=>oZ r c i (by omega) (by omega)
 have h:(r:Int)*(c:Int)=(n:Int):=by rw [hn];simp
 have v:0≤(r:Int)*(c:Int)∧(r:Int)*(c:Int)≤17592186043904:=by omega
 have B:((n:Int)==IntKind.i64.wrap ((r:Int)*(c:Int)))=true:=by rw [ER _ (by omega),h];simp
 have x:((n:Int)==(r:Int)*(c:Int))=true:=by rw [h];simp
 have u:=aa o;clear o h hn
 go_enter Tryz.func254,Tryz.ntmps254
 go_wp2_with fail
 refine (u.out _).mono ?_
 rintro e y ⟨rfl,rfl⟩
 go_wp2_with fail
 all_goals
  go_ret
  exact ⟨bD (by first | rfl | simp [*]),rfl⟩
theorem DO (r c:Nat) (A:Option Addr) (zs:List Int) (d:Nat) (w:World) (hr:1≤r∧r≤1048576) (hc:1≤c∧c≤1048576) (hn:zs.length=r*c) (hm:zs.length≤17592186043904) (N:Rd w A (ar .i64 zs)):
  Calls Tryz.prog 244 #[FQ r,FQ c,.slice A zs.length d] w fun e x=>∃y u,e=.returned (.tuple #[.agg #[FQ r,FQ c,.slice y zs.length u],.bool true])∧zs.length≤u∧x.ownsRow w.heap.size 2 1 (.slice y zs.length u) zs.length (ar .i64 zs)∧Below w.heap.size w x:=by
 have B:=fun x (k:Below w.heap.size w x)=>dF A zs d x (N.below k) hm
 obtain ⟨n,H⟩:∃n,zs.length=n:=⟨_,rfl⟩
 rw [H] at B hn hm ⊢
 have D:=fun y u x=>jt r c y n u x hr hc hn hm
 obtain ⟨Q,T⟩:=ab B D;clear B D H N hn
 go_enter Tryz.func244,Tryz.ntmps244
 go_wp2_with fail
 refine (Q.out _ ?_).mono ?_
 ·exact ak
 rintro e L ⟨y,u,rfl,J,h,hb⟩
 have o:=(hb.block w.heap.size (by simp)).trans (EN w _)
 obtain ⟨⟨R,O,V⟩,rf⟩:=bx3 o
 have I:w.heap.size<L.heap.size:=EL o
 obtain ⟨HO,Y,U,C⟩:=af (aA h (base':=w.heap.size) (by simp)) J (Below.trans ((EP _ w).alloc (EM _) _) (hb.mono (by simp))) h;clear h J hb o
 go_wp2_with fail
 refine (T.out _ _ _).mono ?_
 rintro e w2 ⟨rfl,rfl⟩
 go_wp2_with fail
 refine E7 (v:=.tuple #[.agg #[FQ r,FQ c,.slice y n u],.bool true]) (by simp [results,Tryz.results244,go_sem,R,O,V,I]) rfl ⟨y,u,rfl,Y.out,?_,?_⟩
 ·refine aA (Keep.own (S:=fun i=>i=w.heap.size) (w:=L) ?_ C.out (fun k hk e=>by have:=(C.out.lt k hk).1;simp at this;omega)) (by simp)
  (focus (repeat' (first | (with_reducible exact Keep.refl _ _) | (with_reducible assumption) | (with_reducible refine Keep.setCell ?_ _ ?_ _) | (with_reducible refine Keep.alloc ?_ _) | (with_reducible refine Keep.drewN ?_ _) | (with_reducible refine Keep.drew ?_) | (with_reducible exact Or.inr (fp _ _)) | (with_reducible exact Or.inr (fm _ _)) | (refine Or.inr ?_;first | rfl | (simp;done) | omega) | (refine Or.inl ?_;first | omega | (simp;done) | (simp;omega)))))
 ·have Z:=U.out
  exact ak
theorem CI (r c k:Nat) (g o n d:Nat) (w:World) (hr:r≤1048576) (hc:1≤c∧c≤1048576) (hk:k<r) (hn:n=r*c) (B:n≤d):
  Calls Tryz.prog 269 #[.agg #[FQ r,FQ c,.slice (some ⟨g,o,none⟩) n d],FQ k] w fun e u=>e=.returned (.slice (some ⟨g,o+k*c,none⟩) c c)∧Below w.heap.size w u:=by
 have x:k*c+c≤n:=by rw [hn];have:=FO c (show k+1≤r by omega);rw [FG] at this;exact this
 have v:k*c≤1048576*1048576:=Nat.mul_le_mul (by omega) (by omega)
 have i:(k:Int)*(c:Int)=((k*c:Nat):Int):=(Int.natCast_mul k c).symm
 have A:((k:Int)+1)*(c:Int)=((k*c+c:Nat):Int):=by rw [Int.add_mul,i];simp
 obtain ⟨p,h⟩:∃p,k*c=p:=⟨_,rfl⟩
 rw [h] at x v i A ⊢
 clear h hn
 go_enter Tryz.func269,Tryz.ntmps269
 go_wp2_with fail
 go_quiet (fail)
 have y:¬(p+c=p):=by omega
 go_wp2
 rw [show p+c-p=c by omega]
 go_ret
 refine ⟨rfl,?_⟩
 exact ak
theorem mU (h:Array Value) (w:World):Calls Tryz.prog 259 #[.agg h] w fun e i=>e=.returned (.func (.func 268) #[] #[.pointer (some ⟨w.heap.size,0,none⟩)])∧i=w.alloc (.cells h 354):=by
 go_enter Tryz.func259,Tryz.ntmps259
 go_wp2
 go_ret
 exact ⟨rfl,rfl⟩
end Go.Proofs.YtgmajkppbhiopaaGreat
namespace Go.Proofs.YtgmajkppbhiopaaGreat
open Go.RowKit Go.Shelf
attribute [local go_sem] Oper.semAt_some
def kY (g o c:Nat) {r:Nat} (k:Fin r):Array Value:=#[FQ (k.1:Int),.slice (some ⟨g,o+k.1*c,none⟩) c c]
def fy (n₀ h:Nat) (W i:World):Prop:=Below n₀ W i∧(h<W.heap.size→i.heap[h]?=W.heap[h]?)
theorem wa {r k:Nat} (h:k<r):(List.finRange r).take (k+1)=(List.finRange r).take k++[⟨k,h⟩]:=by
 rw [List.take_add_one]
 simp [h]
theorem zR (n l Bm n₀ g o r c Y d:Nat) (hr:r≤1048576) (hc:1≤c∧c≤1048576) (a3:Y=r*c) (hd:Y≤d) (J Jx:List (Fin r)→World→Prop) (B:Nat) (hJ:AbidesFrom B J)
  (hY:∀u x W,J u W→u.length<r→YieldAt Fence.wide (n-1) Tryz.prog l (kY g o c x) W fun e Q=>
   (e=.returned (.bool true)∧J (u++[x]) Q∧fy n₀ Bm W Q)∨(e=.returned (.bool false)∧Jx (u++[x]) Q))
  (W:World) (N:W.heap[Bm]?=some (.cells #[FQ r,FQ c,.slice (some ⟨g,o,none⟩) Y d] 354 (0,0))) (h0:J [] W):
  CallsIn Fence.wide n Tryz.prog 268 #[.func (.yield l) #[] #[],.pointer (some ⟨Bm,0,none⟩)] W fun e Q=>(∃v,e=.returned v)∧
   ((∃ys,ys=List.finRange r∧J ys Q)∨(∃u,True∧Jx u Q)):=by
 obtain ⟨⟨e0,e1,e2⟩,ef⟩:=bx3 N
 obtain ⟨a8,a5⟩:=ab N a3;clear N a3
 refine callsIn_of_wp Tryz.func268 rfl trivial ?_ rfl
 simp only [Tryz.ntmps268,List.size_toArray,List.length_cons,List.length_nil,Nat.reduceAdd,Nat.reduceSub,Array.replicate_succ,Array.replicate_zero,List.push_toArray,List.append_toArray,List.nil_append,List.cons_append]
 gi_wp2
 gi_loopw [6] (fun i wr=>∃k:Nat,k≤r∧i=FQ k∧J ((List.finRange r).take k) wr∧wr.heap[Bm]?=some (.cells #[FQ r,FQ c,.slice (some ⟨g,o,none⟩) Y d] 354 (0,0)))
  (fun i _=>r-(intOf i).toNat)
 case atStart=>exact ⟨0,EQ _,rfl,h0,a8.out⟩
 case round=>
  obtain ⟨k,hk,rfl,y,I⟩:=hrel
  clear e0 e1 e2 ef
  by_cases H:k<r
  ·have Z:((List.finRange r).take k).length<r:=by simp;omega
   obtain ⟨⟨e0,e1,e2⟩,ef⟩:=bx3 I
   have R:=CI r c k g o Y d wr hr hc H a5.out hd
   obtain ⟨L,a2,a6⟩:=ae y I R;clear y I R
   gi_wp2_with fail
   refine ⟨trivial,(fun h=>by cases h),?_⟩
   refine (callsIn_wide.2 a6.out).mono ?_
   rintro e w3 ⟨rfl,O⟩
   have a1:=hJ _ _ _ none L.out (gt O) (fun _ h=>by cases h)
   have C:=(O.block _ (EL a2.out)).trans a2.out
   obtain ⟨fn,tmps,a4,b0,hy,hR⟩:=hY _ ⟨k,H⟩ w3 a1 Z
   unfold kY at hy
   dsimp only at hy
   have A:=aa C;clear a1 C O
   gi_wp2
   refine ⟨(fun h=>by cases h),?_⟩
   refine hR.mono ?_
   rintro e w5 (⟨rfl,T,V⟩ | ⟨rfl,U⟩)
   ·have a0:=(V.2 (EL A.out)).trans A.out
    obtain ⟨a7,ad⟩:=ab a0 T;clear a0 T V
    gi_wp2
    go_roundw
    case rel=>exact ⟨k+1,by omega,by go_num,by rw [wa H];exact ad.out,a7.out⟩
    case measure=>simp [intOf];omega
   ·gi_wp2
    refine E7 (results_none rfl _ _ _) rfl ?_
    exact ⟨⟨_,rfl⟩,.inr ⟨_,trivial,U⟩⟩
  ·obtain rfl:k=r:=by omega
   have D:(List.finRange k).take k=List.finRange k:=List.take_of_length_le (by simp)
   rw [D] at y
   have L:=aa y;clear y D
   gi_wp2
   go_end0
   exact ⟨⟨_,rfl⟩,.inl ⟨_,rfl,L.out⟩⟩
theorem jN (n u n₀ g o r c i d:Nat) (hr:r≤1048576) (hc:1≤c∧c≤1048576) (v:i=r*c) (x:i≤d) (w:World)
  (h:w.heap[u]?=some (.cells #[FQ r,FQ c,.slice (some ⟨g,o,none⟩) i d] 354 (0,0))):
  SeqStopsK Fence.wide n Tryz.prog 268 #[.pointer (some ⟨u,0,none⟩)] (kY (r:=r) g o c) (fy n₀ u) (fun A=>A=List.finRange r) (fun _=>True) r w:=fun l J D W y B _ H C=>
 zR n l u n₀ g o r c i d hr hc v x J D _ B H W ((y.block _ (EL h)).trans h) C
end Go.Proofs.YtgmajkppbhiopaaGreat
namespace Go.Proofs.YtgmajkppbhiopaaGreat
open Go.RowKit Go.Shelf
theorem iH {n₀ i:Nat} {A B C:World} (h:fy n₀ i A B) (k:fy n₀ i B C):fy n₀ i A C:=
 ⟨h.1.trans k.1,fun hb=>(k.2 (ET hb h.1.size)).trans (h.2 hb)⟩
theorem iI {n₀ i:Nat} {w:World} (hn:n₀≤w.heap.size) (hb:i<w.heap.size) (W:World) (l:Nat) (o u:Obj) (hl:w.heap.size≤l) (h:W.heap[l]?=some o) (x:o.isCells=false) (v:o.isWalk=false):fy n₀ i W (W.putObj l u):=
 ⟨belowK_b hn W l o u hl h x v,fun _=>(belowK_b (n₀:=i+1) (by omega) W l o u hl h x v).block i (by omega)⟩
end Go.Proofs.YtgmajkppbhiopaaGreat
namespace Go.Proofs.YtgmajkppbhiopaaGreat
open Go.RowKit Go.Shelf
attribute [local go_sem] Oper.semAt_some
def ku (h:List Int) (c k:Nat):List Int:=di c fun j=>nth h (k*c+j)
def AM (h:List Int) (r c:Nat) (xs:List Int) (q:Int):List Int:=di r fun k=>qH (ku h c k) xs q
theorem ir (h:List Int) (c k:Nat):(ku h c k).length=c:=aU _ _
theorem lj {r c k:Nat} (hk:k<r):k*c+c≤r*c:=by
 have:=FO c (show k+1≤r by omega)
 rwa [FG] at this
theorem fw (l:List Int) (m j:Nat):nth (l.drop m) j=nth l (m+j):=by simp [nth,List.getD_eq_getElem?_getD,List.getElem?_drop]
theorem fv {l:List Int} {m j:Nat} (h:j<m):nth (l.take m) j=nth l j:=by simp [nth,List.getD_eq_getElem?_getD,List.getElem?_take,h]
theorem CY {h:List Int} {r c k:Nat} (hk:k<r) (hl:h.length=r*c):(h.drop (k*c)).take c=ku h c k:=by
 have:=lj (c:=c) hk
 refine dQ (by rw [Fv,Fy];omega) fun j i=>?_
 rw [fv i,fw]
theorem vS {W:World} {g o:Nat} {i:List Int} {r c k:Nat} (h:Rd W (some ⟨g,o,none⟩) (ar .i64 i)) (hk:k<r) (hl:i.length=r*c):Rd W (some ⟨g,o+k*c,none⟩) (ar .i64 (ku i c k)):=by
 have:=(h.drop (k*c)).take c
 rwa [dP,du,CY hk hl] at this
theorem rT {i:List Int} {r c k:Nat} (h:W64 i) (hk:k<r) (hl:i.length=r*c):W64 (ku i c k):=dZ fun j o=>h _ (by have:=lj (c:=c) hk;omega)
theorem AX (r c k:Nat) (g o:Nat) (h:List Int) (B:Option Addr) (xs:List Int) (e:Nat) (q:Int) (W:World) (hk:k<r) (hc:1≤c∧c≤1048576) (u:h.length=r*c)
  (y:Rd W (some ⟨g,o,none⟩) (ar .i64 h)) (A:W64 h) (hB:Rd W B (ar .i64 xs)) (i:xs.length=c) (x:W64 xs):
  Calls Tryz.prog 274 #[.slice (some ⟨g,o+k*c,none⟩) c c,.slice B c e,FQ q] W fun e v=>e=.returned (.tuple #[FQ (qH (ku h c k) xs q),.bool true])∧Below W.heap.size W v:=by
 have:=Di (some ⟨g,o+k*c,none⟩) B (ku h c k) xs c e q W (vS y hk u) hB (by rw [ir,i]) (by rw [ir];omega) (rT A hk u) x
 rwa [ir,i] at this
theorem AK (h:List Int) (r c:Nat) (xs:List Int) (q:Int):((List.finRange r).map fun k=>qH (ku h c k.1) xs q)=AM h r c xs q:=by
 refine dQ (by simp) fun k hk=>?_
 rw [cW _ _ (by simpa using hk)]
 simp
theorem AT (r c:Nat) (g o A d:Nat) (T:List Int) (B:Option Addr) (xs:List Int) (e:Nat) (q:Int) (w:World) (hr:1≤r∧r≤1048576) (hc:1≤c∧c≤1048576) (a4:A=r*c) (hd:A≤d) (hm:A≤17592186043904)
  (bn:T.length=A) (hA:Rd w (some ⟨g,o,none⟩) (ar .i64 T)) (wm:W64 T) (hB:Rd w B (ar .i64 xs)) (b7:xs.length=c) (wx:W64 xs):
  Calls Tryz.prog 266 #[.agg #[FQ r,FQ c,.slice (some ⟨g,o,none⟩) A d],.slice B c e,FQ q] w fun e w'=>∃A' c',e=.returned (.tuple #[.slice A' r c',.bool true])∧w'.ownsRow w.heap.size 2 1 (.slice A' r c') r (ar .i64 (AM T r c xs q))∧Below w.heap.size w w':=by
 have b6:=fun w'=>jt r c (some ⟨g,o,none⟩) A d w' hr hc a4 hm
 have bd:=fun cs w'=>mU cs w'
 obtain ⟨bG,bI,a5,bw,bz,HA,HB,WM⟩:=aj b6 bd a4 bn b7 hA hB wm;have WX:=aa wx;clear b6 bd a4 bn b7 hA hB wm wx
 refine (callsIn_wide (n:=3)).1 ?_
 refine callsIn_of_wp_marks Tryz.func266 rfl trivial ?_ rfl
 simp only [Tryz.ntmps266,List.size_toArray,List.length_cons,List.length_nil,Nat.reduceAdd,Nat.reduceSub,Array.replicate_succ,Array.replicate_zero,List.push_toArray,List.append_toArray,List.nil_append,List.cons_append]
 gi_wp2_with fail
 refine ⟨trivial,?_⟩
 refine (callsIn_wide.2 (bG.out _)).mono ?_
 rintro e w1 ⟨rfl,rfl⟩
 gi_wp2_with fail
 refine ⟨trivial,?_⟩
 refine (callsIn_wide.2 (bI.out _ _)).mono ?_
 rintro e w2 ⟨rfl,rfl⟩
 gi_wp2_with fail
 obtain ⟨u,I⟩:∃u,u=((((w.alloc (.cells #[FQ r,FQ c,.slice (some ⟨g,o,none⟩) A d] 354)).alloc (.cells #[.slice B c e] 139)).alloc (.cells #[FQ q] 3)).alloc (.cells #[FQ r,FQ c,.slice (some ⟨g,o,none⟩) A d] 354)):=⟨_,rfl⟩
 have a0:u.heap.size=w.heap.size+1+1+1+1:=by rw [I];simp
 have b4:Boxed u (w.heap.size+1) 139 (.slice B c e):=by
  rw [I]
  have:=((Boxed.new (w.alloc (.cells #[FQ r,FQ c,.slice (some ⟨g,o,none⟩) A d] 354)) 139 (.slice B c e)).alloc (.cells #[FQ q] 3)).alloc (.cells #[FQ r,FQ c,.slice (some ⟨g,o,none⟩) A d] 354)
  simpa using this
 have b5:Boxed u (w.heap.size+1+1) 3 (FQ q):=by
  rw [I]
  have:=(Boxed.new ((w.alloc (.cells #[FQ r,FQ c,.slice (some ⟨g,o,none⟩) A d] 354)).alloc (.cells #[.slice B c e] 139)) 3 (FQ q)).alloc (.cells #[FQ r,FQ c,.slice (some ⟨g,o,none⟩) A d] 354)
  simpa using this
 have L:Below w.heap.size w u:=by rw [I];exact ((((EP _ w).alloc (EM _) _).alloc (by simp) _).alloc (by simp;omega) _).alloc (by simp;omega) _
 rw [←I,←a0]
 have bO:=(Boxed.new u 139 (FR)).alloc (.cells #[FQ r,FQ c,.slice (some ⟨g,o,none⟩) A d] 354)
 have bM:((u.alloc (.cells #[FR] 139)).alloc (.cells #[FQ r,FQ c,.slice (some ⟨g,o,none⟩) A d] 354)).heap[u.heap.size+1]?=some (.cells #[FQ r,FQ c,.slice (some ⟨g,o,none⟩) A d] 354 (0,0)):=by
  have:=EN (u.alloc (.cells #[FR] 139)) (.cells #[FQ r,FQ c,.slice (some ⟨g,o,none⟩) A d] 354)
  simpa using this
 obtain ⟨ad,y,bi⟩:=ae a0 L bM;clear I;clear a0 L bM
 refine' wpIn_rangeFunc_ownG (F:=Fence.wide) (n:=3) rfl (by omega) (gf:=268) (lb:=#[.pointer (some ⟨u.heap.size+1,0,none⟩)]) rfl trivial (enters_of Tryz.func268 (by kernel_rfl) rfl)
  (jN _ (u.heap.size+1) w.heap.size g o r c A d hr.2 hc a5.out hd _ bi.out) iH (iI (by have:=y.out.size;simp;omega) (by simp)) (EP _ _) (fun _=>rfl)
  (fun (i:List (Fin r)) W=>((∃v,Boxed W u.heap.size 139 v∧W.ownsRow w.heap.size 2 1 v i.length (ar .i64 (i.map fun k=>qH (ku T c k.1) xs q))∧True)∧Boxed W (w.heap.size+1) 139 (.slice B c e)∧Boxed W (w.heap.size+1+1) 3 (FQ q)∧W.heap[u.heap.size+1]?=some (.cells #[FQ r,FQ c,.slice (some ⟨g,o,none⟩) A d] 354 (0,0)))∧Below w.heap.size w W)
  (fun _ _ _=>False)
  (OwnFrom.and (OwnFrom.and (Own.from (holdsRow_own w.heap.size u.heap.size 139 2 1 (fun i:List (Fin r)=>i.length) (fun i=>ar .i64 (i.map fun k=>qH (ku T c k.1) xs q)) (fun _ _=>True)) _) (OwnFrom.and (cL _ _ _ rfl) (OwnFrom.and (cL _ _ _ rfl) (cL _ _ _ rfl)))) (ownFrom_below (EM _) (by have:=y.out.size;simp;omega)))
  (fun _ _ _ _ _ hs _ _=>hs)
  ⟨⟨⟨_,bO,EZ _ _ _ _,trivial⟩,(b4.alloc _).alloc _,(b5.alloc _).alloc _,bi.out⟩,(y.out.alloc (by have:=y.out.size;omega) _).alloc (by have:=y.out.size;simp;omega) _⟩
  _ ?assign ?body ?done ?stop
 case assign=>
  intro l x W K hK
  unfold kY
  gi_wp2
  exact hK
 case body=>
  rintro l i x W ⟨⟨⟨v,hv,H,_⟩,O,Q,Z⟩,R⟩ b8
  have bN:=O.cell
  have c7:=Q.cell
  obtain ⟨Hv,a8,HM,N,H4,H5,c9⟩:=ai hv H Z R O Q b8;clear hv H Z R O Q b8
  gi_wp2_with fail
  refine ⟨trivial,?_⟩
  refine (CallsIn.inRound l (callsIn_wide.2 (AX r c x.1 g o T B xs _ q W x.2 hc (bw.out.trans a5.out) (HA.out.below N.out) WM.out (HB.out.below N.out) bz.out WX.out))).mono ?_
  rintro e w3 ⟨rfl,C⟩
  have a2:Boxed w3 u.heap.size 139 v:=(C.block _ (Boxed.lt Hv.out)).trans Hv.out
  have bV:=a2.cell
  have J:=aq a8.out C
  have a6:w.heap.size≤w3.heap.size:=ES N.out.size C.size
  have bb:w.heap.size≤u.heap.size:=y.out.size
  have bh:i.length<r:=c9.out
  have V:=(C.block _ (EL HM.out)).trans HM.out
  have Y:=(C.block _ (EL H4.out)).trans H4.out
  have U:=(C.block _ (EL H5.out)).trans H5.out
  obtain ⟨b1,b2,b0,c6,b9,a1,c8,bA⟩:=aj V Y U a2 C J a6 bb;have b3:=aa bh;clear a2 C J a6 bb bh V Y U bN c7
  obtain ⟨dv,a3⟩:∃dv,dv=qH (ku T c x.1) xs q:=⟨_,rfl⟩
  have bX:=aa a3
  rw [←a3]
  clear a3
  gi_wp2_with (gi_at_builtin;refine jE iV w3 rfl (.tmp 34) (.tmp 36) rfl w.heap.size u.heap.size v i.length _ rfl c6.out (by decide) a1.out [FQ dv] rfl rfl (bj .i64 [dv]) (by have:=b3.out;have:=hr.2;omega) (by have:=b3.out;have:=hr.2;unfold maxLen;omega) c8.out bA.out ?_)
  intro g1 c1 w1 k1 k2 k3 k4 k5 k6
  have cc:=k1.cell;have cb:=k1.frozen
  obtain ⟨K2,K3,K4,K5,K6⟩:=ag k2 k3 k4 k5 k6;clear k1 k2 k3 k4 k5 k6 bV
  gi_wp2_with fail
  have bo:Below w.heap.size W (w1.setCell ⟨u.heap.size,0,none⟩ (.slice (some ⟨g1,0,none⟩) (i.length+1) c1)):=(b9.out.mono N.out.size).trans K5.out
  have bv:u.heap.size+1≠u.heap.size:=by omega
  have bs:w.heap.size+1≠u.heap.size:=by have:=ad.out;omega
  have bl:w.heap.size+1+1≠u.heap.size:=by have:=ad.out;omega
  have a7:=K6.out _ _ _ _ _ bv (by decide) b1.out
  refine ⟨((KeepsOthers.of_grownBy (row:=none) (gt b9.out) (fun _ _ h=>by cases h)).trans K4.out).from _,⟨bo,fun _=>a7.trans HM.out.symm⟩,⟨⟨_,K2.out,?_,trivial⟩,K6.out _ _ _ _ _ bs (by decide) b2.out,K6.out _ _ _ _ _ bl (by decide) b0.out,a7⟩,N.out.trans bo⟩
  have h:=K3.out
  rw [bX.out] at h
  simpa [ar] using h
 case done=>
  rintro D ys W hD rfl ⟨⟨⟨v,hv,H,_⟩,O,Q,Z⟩,R⟩ hK
  have hc:=hv.cell
  gi_wp2
  refine ⟨by simp,.inl ⟨_,_,rfl,run_takeDeferred hK,?_⟩⟩
  obtain ⟨A',c',rfl,_⟩:=av H
  rw [List.length_finRange,AK] at *
  refine ⟨.tuple #[.slice A' r c',.bool true],by simp [results,Tryz.results266,go_sem],A',c',rfl,ownsRow_putObj H _ hK rfl,R.trans (belowK_b (w:=w) (EM _) W D _ _ (by have:=y.out.size;simp at hD;omega) hK rfl rfl)⟩
 case stop=>
  rintro D c i W _ _ h _
  exact h.elim
end Go.Proofs.YtgmajkppbhiopaaGreat
namespace Go.Proofs.YtgmajkppbhiopaaGreat
open Go.RowKit
def rv (l:List Int):List Int:=di l.length fun i=>max (nth l i) 0
def zL (sz ps:List Int) (q:Int) (k:Nat) (v:List Int):List Int:=qN (AM (wL sz ps k) (szN sz (k+1)) (szN sz k) v q) (bL sz ps k)
def eC (sz ps:List Int) (q:Int) (x:List Int):Nat→List Int
 | 0=>x
 | k+1=>if k+1<sz.length-1 then rv (zL sz ps q k (eC sz ps q x k)) else zL sz ps q k (eC sz ps q x k)
theorem W64.nth {l:List Int} (h:W64 l) (k:Nat): -9223372036854775808≤nth l k∧nth l k≤9223372036854775807:=by
 by_cases hk:k<l.length
 ·exact h k hk
 ·have:Go.Proofs.YtgmajkppbhiopaaGreat.nth l k=0:=by unfold Go.Proofs.YtgmajkppbhiopaaGreat.nth;simp [List.getD,List.getElem?_eq_none (show l.length≤k by omega)]
  omega
theorem yX {ps:List Int} (h:W64 ps) (sz:List Int) (k:Nat):W64 (wL sz ps k):=dZ fun _ _=>h.nth _
theorem AJ (h:List Int) (r c:Nat) (xs:List Int) (q:Int):(AM h r c xs q).length=r:=aU _ _
theorem sY (xs h:List Int):(qN xs h).length=xs.length:=aU _ _
theorem oa (xs h:List Int):W64 (qN xs h):=dZ fun _ _=>fM _
theorem xu (l:List Int):(rv l).length=l.length:=aU _ _
theorem xx {l:List Int} (h:W64 l):W64 (rv l):=dZ fun k _=>by have:=h.nth k;omega
theorem s9 (sz ps:List Int) (q:Int) (k:Nat) (v:List Int):(zL sz ps q k v).length=szN sz (k+1):=by unfold zL;rw [sY,AJ]
theorem yS (sz ps:List Int) (q:Int) (k:Nat) (v:List Int):W64 (zL sz ps q k v):=oa _ _
theorem jd {sz ps:List Int} {q:Int} {x:List Int} (h:x.length=szN sz 0) (k:Nat):(eC sz ps q x k).length=szN sz k:=by
 cases k with
 | zero=>exact h
 | succ k=>
  unfold eC
  split
  ·rw [xu,s9]
  ·rw [s9]
theorem qT {sz ps:List Int} {q:Int} {x:List Int} (h:W64 x) (k:Nat):W64 (eC sz ps q x k):=by
 cases k with
 | zero=>exact h
 | succ k=>
  unfold eC
  split
  ·exact xx (yS _ _ _ _ _)
  ·exact yS _ _ _ _ _
def lE (w:World) (vals:List Value) (n:Nat) (f:Nat→List Int):Prop:=vals.length=n∧∀j,j<n→∃A c,vals[j]?=some (.slice A (f j).length c)∧(f j).length≤c∧Rd w A (ar .i64 (f j))
theorem lE.below {w i:World} {vals:List Value} {n:Nat} {f:Nat→List Int} (h:lE w vals n f) (hb:Below w.heap.size w i):lE i vals n f:=
 ⟨h.1,fun j o=>by obtain ⟨A,c,v,u,x⟩:=h.2 j o;exact ⟨A,c,v,u,x.below hb⟩⟩
theorem De:cH Tryz.prog 361 139 (FR) 1 24:=⟨Tryz.underlying361,info_parts (by kernel_rfl),rfl,by decide⟩
theorem tp (P base:Nat) (A B:Option Addr) (n c m d:Nat) (xs:List Value) (w:World) (I:w.heap[P]?=some (.cells #[.slice A n c] 361 (0,0))) (Q:w.ownsRow base 139 1 (.slice A n c) n xs) (hn:n≤1000000) (u:base≤w.heap.size) (a0:base≤P):
  Calls Tryz.prog 265 #[.slice B m d,.pointer (some ⟨P,0,none⟩)] w fun e J=>(∃v,e=.returned v)∧∃O x,J.heap[P]?=some (.cells #[.slice O (n+1) x] 361 (0,0))∧J.ownsRow base 139 1 (.slice O (n+1) x) (n+1) (xs++[.slice B m d])∧
   Keep (fun i=>i=P∨(Value.slice A n c).ownBlock=some i) w J:=by
 obtain ⟨p0,pf⟩:=bx1 I
 have L:=EL I
 obtain ⟨T,R⟩:=ab I Q;clear I Q
 go_enter Tryz.func265,Tryz.ntmps265
 go_wp2_with (at_builtin;refine be De w rfl (.tmp 3) (.tmp 5) rfl base (.slice A n c) n xs rfl R.out [.slice B m d] rfl rfl (by simp [Value.oneCell']) (by omega) (by unfold maxLen;omega) u ?_)
 intro g x H y N h
 have o:=(h.block P L (an T.out (by decide) R.out)).trans T.out
 have h:Keep (fun i=>i=P∨(Value.slice A n c).ownBlock=some i) w H:=(Keep.refl _ w).grown h (fun k hk=>.inr (.inr hk))
 obtain ⟨q0,qf⟩:=bx1 o
 obtain ⟨C,D,Y⟩:=ae o y h;clear o y N h
 go_wp2_with fail
 have h9:=FN H P 0 _ _ (.slice (some ⟨g,0,none⟩) (n+1) x) C.out
 have V:Keep (fun i=>i=P) H (H.setCell ⟨P,0,none⟩ (.slice (some ⟨g,0,none⟩) (n+1) x)):=Keep.setCell (S:=fun i=>i=P) (Keep.refl _ _) ⟨P,0,none⟩ (.inr rfl) _
 have o9:=V.own D.out (fun i Z e=>an C.out (by decide) D.out (by rw [Z,e]))
 have U:=Y.out.setCell ⟨P,0,none⟩ (.inr (.inl rfl)) (.slice (some ⟨g,0,none⟩) (n+1) x)
 go_end0
 exact ⟨⟨_,rfl⟩,_,_,h9,o9,U⟩
theorem xH (w:World) (e:TypeId) (v:Value) (base:Nat) (hb:base≤w.heap.size):(w.alloc (.cells #[v] e)).ownsRow base e 1 (.slice (some ⟨w.heap.size,0,none⟩) 1 1) 1 [v]:=
 ⟨by simp,.inr ⟨w.heap.size,1,#[v],rfl,hb,EN w _,EM _,by unfold maxLen;omega,by simp,by simp⟩⟩
def Eb (sz ps:List Int) (q:Int) (x:List Int) (P n₀:Nat) (k:Nat) (o w:World):Prop:=
 ∃A c vals,w.heap[P]?=some (.cells #[.slice A (k+1) c] 361 (0,0))∧w.ownsRow n₀ 139 1 (.slice A (k+1) c) (k+1) vals∧
  (∀j,j≤k→∃i h,vals[j]?=some (.slice i (szN sz j) h)∧w.ownsRow n₀ 2 1 (.slice i (szN sz j) h) (szN sz j) (ar .i64 (eC sz ps q x j)))∧Below n₀ o w
theorem zb (b:Nat) (sz ps:List Int) (q:Int) (A:Option Addr) (x:List Int) (c:Nat) (w:World) (h:jc 212 352 w b sz ps q) (hg:cO sz) (wp:W64 ps) (hA:Rd w A (ar .i64 x)) (hx:x.length=szN sz 0) (wx:W64 x):
  Calls Tryz.prog 256 #[.pointer (some ⟨b,0,none⟩),.slice A x.length c] w fun e N=>∃A' c' vals,e=.returned (.tuple #[.slice A' sz.length c',.bool true])∧Rd N A' vals∧lE N vals sz.length (eC sz ps q x)∧sz.length≤c'∧Below w.heap.size w N:=by
 have cv:=h.lt
 obtain ⟨S,Ap,cp,Al,cl,rows,h0,h1,h2,h3,h4,h5,h6⟩:=h
 obtain ⟨⟨r0,r1,r2,r3⟩,rf⟩:=bx4 h0
 have z0:=hg.1.at (k:=0) (by have:=hg.1.1.1;omega)
 have hs:=lQ S sz w h1 (by have:=hg.1.1.2;omega)
 have y:=fun N (k:Below w.heap.size w N)=>dF A x c N (hA.below k) (by omega)
 obtain ⟨n,hn⟩:∃n,sz.length-1=n:=⟨_,rfl⟩
 have b7:sz.length=n+1:=by have:=hg.1.1.1;omega
 have f7:1≤n∧n≤15:=by have:=hg.1.1;omega
 obtain ⟨m,hm⟩:∃m,szN sz 0=m:=⟨_,rfl⟩
 rw [hn] at r3 h4 h6
 rw [hx,hm] at y ⊢
 have b9:0<sz.length:=by omega
 have bo:((m:Int) != (m:Int))=false:=by simp
 have fr:m≤1048576:=by rw [←hm];exact z0.2.1
 rw [hm] at z0
 obtain ⟨Hs,Z0,ek,HG,Hn,b5,Hm,H0⟩:=aj hs z0.2.2 y hg hn b7 hm h0;obtain ⟨H3,H4,H5,H6,WP,WX,Hx,HA⟩:=aj h3 h4 h5 h6 wp wx hx hA;clear hs y h0 h1 h2 h3 h4 h5 h6 hg z0 hm hn b7 wp wx hx hA
 go_enter Tryz.func256,Tryz.ntmps256
 go_wp2_with fail
 refine Hs.out.mono ?_
 rintro e w1 ⟨A1,c1,rfl,ho,hb⟩
 obtain ⟨g,c',hv,_,_⟩:=ho.form b9
 simp only [FD] at hv
 obtain ⟨rfl,_,rfl⟩:=hv
 have p0:=cP ho b9
 rw [Z0.out] at p0
 have Hb:=aa hb;clear hb ho r0 r1 r2 r3 rf
 go_wp2_with fail
 refine (ek.out _ Hb.out).mono ?_
 rintro e w2 ⟨A2,c2,rfl,f6,cs,cr⟩
 have b2:=Hb.out.trans (cr.mono Hb.out.size)
 have ad:=(b2.block b cv).trans H0.out
 obtain ⟨⟨r0,r1,r2,r3⟩,rf⟩:=bx4 ad
 have ev:=EL ad
 have dw:=Hx.out
 rw [Hm.out] at dw
 have b8:=Hb.out.size
 obtain ⟨ds,a8,f0⟩:=ae (aA cs b8) b2 ad;clear cs cr b2 ad b8
 rw [Hn.out] at r3
 go_wp2_with fail
 go_loopw [37] (fun i wr=>∃k:Nat,k≤n∧i=FQ k∧Eb sz ps q x (w2.heap.size+1) w.heap.size k w wr) (fun i _=>n-(intOf i).toNat)
 case atStart=>
  refine ⟨0,EQ _,rfl,some ⟨w2.heap.size,0,none⟩,1,[.slice A2 m c2],?_,?_,?_,?_⟩
  ·have:=EN (w2.alloc (.cells #[.slice A2 m c2] 139)) (.cells #[.slice (some ⟨w2.heap.size,0,none⟩) 1 1] 361)
   simpa using this
  ·exact (xH w2 139 (.slice A2 m c2) w.heap.size a8.out.size).alloc _
  ·intro j hj
   obtain rfl:j=0:=by omega
   refine ⟨A2,c2,by rw [Hm.out];rfl,?_⟩
   rw [Hm.out]
   exact (ds.out.alloc _).alloc _
  ·have b2:=a8.out
   have f9:=a8.out.size
   exact ak
 case round=>
  obtain ⟨k,hk,rfl,Ao,co,vals,hP,ho,hv,hW⟩:=hrel
  have dr:k<sz.length:=by have:=b5.out;omega
  have b6:=(hW.block b cv).trans H0.out
  obtain ⟨⟨r0,r1,r2,r3⟩,rf⟩:=bx4 b6
  obtain ⟨p0,pf⟩:=bx1 hP
  obtain ⟨go,eM,d3,fs,_⟩:=ho.form (by omega)
  simp only [FD] at d3
  obtain ⟨rfl,e4,rfl⟩:=d3
  clear e4
  have e5:=EL hP
  have f4:b<wr.heap.size:=EL b6
  have hz:=hW.size
  obtain ⟨HP,Ho,Hv,HW,fi⟩:=ag hP ho hv hW b6;clear hP ho hv hW b6
  rw [Hn.out] at r3
  by_cases J:k<n
  ·have hR:=HG.out.1
   have d9:k+1<sz.length:=by have:=b5.out;omega
   have z0:=hR.at dr
   have z1:=hR.at d9
   have d4:=HG.out.mul d9
   obtain ⟨gl,ol,dl,Bl,el,cq,hd,cw,hrb⟩:=H6.out k J
   have hrl:(bK rows k).length=4:=H5.out _ (by rw [pp (by rw [H4.out];exact J)];exact List.getElem_mem _)
   have y:∀t,t<4→(List.flatten rows)[k*4+t]?=(bK rows k)[t]?:=fun t ht=>jm H5.out k t (by rw [H4.out];exact J) ht
   have e0:=y 0 (by omega);have Q:=y 1 (by omega);have e2:=y 2 (by omega);have e3:=y 3 (by omega)
   rw [cq] at e0 Q e2 e3
   simp only [Nat.add_zero,Fl,Fk] at e0 Q e2 e3
   obtain ⟨bl,oo,e7,q0⟩:=H3.out _ _ e0
   obtain ⟨_,_,U,q1⟩:=H3.out _ _ Q
   obtain ⟨_,_,R,q2⟩:=H3.out _ _ e2
   obtain ⟨_,_,Y,q3⟩:=H3.out _ _ e3
   subst e7
   injection U with U;injection U with i1 i2 _;subst i1;subst i2
   injection R with R;injection R with i1 i2 _;subst i1;subst i2
   injection Y with Y;injection Y with i1 i2 _;subst i1;subst i2
   have a7:bl<w.heap.size:=au q0
   have c9:=(HW.out.cell (p:=⟨bl,oo+k*4,none⟩) a7).trans q0
   have bv:=(HW.out.cell (p:=⟨bl,oo+(k*4+1),none⟩) a7).trans q1
   have bN:=(HW.out.cell (p:=⟨bl,oo+(k*4+2),none⟩) a7).trans q2
   have bG:=(HW.out.cell (p:=⟨bl,oo+(k*4+3),none⟩) a7).trans q3
   rw [←FH] at bv bN bG
   obtain ⟨Aj,cj,d6,cf⟩:=Hv.out k (EM _)
   have pj:=(Rd.own Ho.out) k _ d6
   obtain ⟨_,_,ej,pj⟩:=pj
   injection ej with ej;injection ej with i1 i2 _;subst i1;subst i2
   rw [FI] at pj
   have wv:=qT (sz:=sz) (ps:=ps) (q:=q) WX.out k
   have a6:=jd (sz:=sz) (ps:=ps) (q:=q) Hx.out k
   have a0:=fun W (h:Below wr.heap.size wr W)=>AT (szN sz (k+1)) (szN sz k) gl ol (szN sz (k+1)*szN sz k) dl (wL sz ps k) Aj (eC sz ps q x k) cj q W ⟨z1.1,z1.2.1⟩ ⟨z0.1,z0.2.1⟩ rfl hd (by omega) (td _ _ _) ((cw.below HW.out).below h) (yX WP.out sz k) ((Rd.own cf).below h) a6 wv
   obtain ⟨r,hr⟩:∃r,szN sz (k+1)=r:=⟨_,rfl⟩
   obtain ⟨c0,b3⟩:∃c0,szN sz k=c0:=⟨_,rfl⟩
   obtain ⟨nn,bO⟩:∃nn,szN sz (k+1)*szN sz k=nn:=⟨_,rfl⟩
   rw [bO] at a0 bN d4 hd
   rw [hr] at a0 c9 bG z1
   rw [b3] at a0 bv z0
   have bI:=pj
   rw [b3] at bI
   have bh:=hrb.below HW.out
   obtain ⟨e8,Hr,ef,ew,dk,f2⟩:=ah a0 hr b3 bO bh a6;clear a0 hr b3 bO hrb bh cw hd q0 q1 q2 q3 e0 Q e2 e3 y hrl cq pj a6 d6 cf
   go_wp2_with fail
   obtain ⟨V,hV⟩:∃V,V=wr.alloc (.cells #[FQ r,FQ c0,.slice (some ⟨gl,ol,none⟩) nn dl,.slice Bl r el] 358):=⟨_,rfl⟩
   have bs:V.heap[wr.heap.size]?=some (.cells #[FQ r,FQ c0,.slice (some ⟨gl,ol,none⟩) nn dl,.slice Bl r el] 358 (0,0)):=by rw [hV];exact EN wr _
   have O:Below wr.heap.size wr V:=by rw [hV];exact (EP _ _).alloc (EM _) _
   rw [←hV]
   clear hV
   have v2:=am O r2
   have v3:=am O r3
   have vp:=am O p0
   have vj:=am O bI
   obtain ⟨⟨y0,y1,y2,y3⟩,yf⟩:=bx4 bs
   have c7:b<V.heap.size:=au v2
   have ec:w2.heap.size+1<V.heap.size:=au vp
   have fn:wr.heap.size<V.heap.size:=au y0
   have f5:go<V.heap.size:=au vj
   obtain ⟨k1,a3⟩:∃k1,k+1=k1:=⟨_,rfl⟩
   have eX:k<k1:=by omega
   rw [a3] at vp
   have fc:=aa a3;clear a3;obtain ⟨D,f8⟩:=ab O bs;clear O bs r0 r1 r2 r3 rf p0 pf bI c9 bv bN bG
   go_region_held3 (fun N=>N.cell? ⟨wr.heap.size,0,none⟩=some (FQ r)∧N.cell? ⟨wr.heap.size,1,none⟩=some (FQ c0)∧N.cell? ⟨wr.heap.size,2,none⟩=some (.slice (some ⟨gl,ol,none⟩) nn dl)∧N.cell? ⟨w2.heap.size+1,0,none⟩=some (.slice (some ⟨go,0,none⟩) k1 co)∧N.cell? ⟨go,k,none⟩=some (.slice Aj c0 cj)∧N.cell? ⟨b,2,none⟩=some (FQ q)) (simp [go_sem, *])
    ((go_at_call 266;refine (e8.out V.drew D.out.drew).mono ?_;rintro e w5 ⟨A5,c5,rfl,bX,v⟩;have g0:=am v y0;have g1:=am v y1;have g2:=am v y2;have g3:=am v y3;have g4:=am v vp;have g5:=am v vj;have g6:=am v v2;have g7:=am v v3;obtain ⟨b4,b0⟩:=ab bX v;clear bX v))
   go_wp2_with fail
   have bn:Below wr.heap.size wr w5:=(D.out.drew).trans (b0.out.mono (by have:=D.out.size;simp;omega))
   have bo:∀a b',A5=some a→Bl=some b'→a.block≠b'.block:=fun a b' ha ea=>by
    obtain ⟨b1,o1,Q,eo⟩:=dk.out.num (k:=0) (by rw [Ch,Hr.out];omega)
    rw [ea] at Q
    injection Q with Q
    subst Q
    have l1:b1<wr.heap.size:=au eo
    have l2:=(b4.out.lt a.block (by rw [ha];rfl)).1
    have l3:=D.out.size
    simp at l2 ⊢
    omega
   refine (qM _ A5 Bl _ (bL sz ps k) r c5 el w5 b4.out (dk.out.below bn) (by rw [Ch,Hr.out]) (by omega) bo).mono ?_
   rintro e w6 ⟨rfl,a1,cn⟩
   have cb:qN (AM (wL sz ps k) r c0 (eC sz ps q x k) q) (bL sz ps k)=zL sz ps q k (eC sz ps q x k):=by unfold zL;rw [Hr.out,ef.out]
   rw [cb] at a1
   have a1:=aA (base':=V.heap.size) a1 (by simp)
   have a5:∀i,(Value.slice A5 r c5).ownBlock=some i→V.heap.size≤i:=fun i hi=>by have:=(b4.out.lt i hi).1;simpa using this
   have a4:Below V.heap.size V w6:=((EP _ V).drew.trans (b0.out.mono (by simp))).trans (cn.toBelow (by have:=b0.out.size;simpa using this) a5)
   have u2:=(a4.cell (p:=⟨b,2,none⟩) c7).trans v2
   have u3:=(a4.cell (p:=⟨b,3,none⟩) c7).trans v3
   have up:=(a4.cell (p:=⟨w2.heap.size+1,0,none⟩) ec).trans vp
   obtain ⟨d0,ct,es⟩:=ae a1 a4 a5
   have da:IntKind.i64.wrap ((k:Int)+1)=(k:Int)+1:=ER _ (by omega)
   have eY:=aa da;clear da a1 a4 cn cb a5 bo b4 b0 bn g0 g1 g2 g3 g4 g5 g6 g7 v2 v3 vp vj y0 y1 y2 y3 yf
   go_upto_if 67 with (fail)
   go_cut [] (fun wx=>Below V.heap.size V wx∧wx.ownsRow V.heap.size 2 1 (.slice A5 r c5) r (ar .i64 (eC sz ps q x (k+1))))
   case first=>
    by_cases bM:k+1<n
    ·have C:eC sz ps q x (k+1)=rv (zL sz ps q k (eC sz ps q x k)):=by
      have:=Hn.out
      show (if k+1<sz.length-1 then _ else _)=_
      rw [if_pos (by omega)]
     have T:=s9 sz ps q k (eC sz ps q x k)
     rw [Hr.out] at T
     obtain ⟨z,hz⟩:∃z,zL sz ps q k (eC sz ps q x k)=z:=⟨_,rfl⟩
     rw [hz] at T C
     have L:=d0.out
     rw [hz] at L
     have bd:=iv z (fun i=>max (nth z i) 0)
     unfold rv at C
     rw [←bd,T] at C
     obtain ⟨dp,bA,bz⟩:=ae T L C;clear bd T hz C L u2 u3 up
     go_wp2_with fail
     have bb:decide ((k:Int)+1<n)=true:=FJ (by omega)
     rw [bb]
     clear bM bb
     go_loopw [70] (fun i wx=>∃j:Nat,j≤r∧i=FQ j∧wx.ownsRow V.heap.size 2 1 (.slice A5 r c5) r (ar .i64 (iw z j (fun i=>max (nth z i) 0)))∧Below V.heap.size V wx) (fun i _=>r-(intOf i).toNat)
     case atStart=>exact ⟨0,EQ _,rfl,by rw [gn];exact bA.out,ct.out⟩
     case round=>
      obtain ⟨j,hj,rfl,o,B⟩:=hrel
      by_cases J:j<r
      ·obtain ⟨g7,d7,d5,eb,_⟩:=o.form (by omega)
       simp only [FD] at d5
       obtain ⟨rfl,ei,rfl⟩:=d5
       clear ei
       have bw:j<z.length:=by rw [dp.out];exact J
       have p1:=cP o J
       rw [fe _ bw,if_neg (by omega)] at p1
       have f1:=o.frozenAt j
       have cd:=iu (l:=z) (k:=j) (fun i=>max (nth z i) 0) bw
       obtain ⟨HO,HB,dv⟩:=ae o B cd;clear o B cd bw
       go_wp2_with fail
       refine (Aa _ _).mono ?_
       rintro e w9 ⟨rfl,rfl⟩
       go_wp2_with fail
       go_roundw
       case rel=>exact ⟨j+1,by omega,by go_num,by rw [←dv.out];exact eL HO.out j _,HB.out.setCell (p:=⟨g7,j,none⟩) eb _⟩
       case measure=>simp [intOf];omega
      ·obtain rfl:j=r:=by omega
       obtain ⟨HO,HB⟩:=ab o B;clear o B
       go_wp2_with fail
       go_meet
       exact ⟨HB.out,by rw [bz.out];exact HO.out⟩
    ·have C:eC sz ps q x (k+1)=zL sz ps q k (eC sz ps q x k):=by
      have:=Hn.out
      show (if k+1<sz.length-1 then _ else _)=_
      rw [if_neg (by omega)]
     have bz:=aa C;clear C
     go_wp2_with fail
     go_meet
     exact ⟨ct.out,by rw [bz.out];exact d0.out⟩
   case rest=>
    obtain ⟨B,L⟩:=hcut
    have I:Below wr.heap.size wr wc:=D.out.trans (B.mono D.out.size)
    have cx:=(I.block _ e5).trans HP.out
    have bi:=aq Ho.out I
    obtain ⟨f3,bA,bV,H,a2⟩:=ag B L cx bi I;clear B L cx bi I u2 u3 up
    have ci:w.heap.size≤wc.heap.size:=by have:=a2.out.size;omega
    have d8:w.heap.size≤w2.heap.size+1:=by have:=a8.out.size;omega
    have c6:=tp (w2.heap.size+1) w.heap.size (some ⟨go,0,none⟩) A5 (k+1) co r c5 vals wc bV.out H.out (by omega) ci d8
    have ee:=aa c6;clear c6
    go_wp2_with fail
    refine ee.out.mono ?_
    rintro e w8 ⟨⟨v8,rfl⟩,A8,c8,em,dG,d1⟩
    have dn:Below w.heap.size w w8:=(HW.out.trans (a2.out.mono HW.out.size)).trans (d1.toBelow ci (fun i hi=>by
     rcases hi with rfl | hi
     ·exact d8
     ·exact (H.out.lt i hi).1))
    have Z:∀{m:Nat} {u:Value} {ys:List Value},wc.ownsRow w.heap.size 2 1 u m ys→w8.ownsRow w.heap.size 2 1 u m ys:=fun h=>d1.own h (fun i hi e=>by
     rcases e with rfl | e
     ·exact an bV.out (by decide) h hi.symm
     ·exact lh H.out h (by decide) i e hi)
    have eu:=H.out.1
    go_wp2_with fail
    go_roundw
    case rel=>
     refine ⟨k+1,by omega,by go_num,A8,c8,vals++[.slice A5 r c5],em,dG,fun j hj=>?_,dn⟩
     rcases Fa j (k+1) with e6 | e6
     ·obtain ⟨Aj,cj,h1,h2⟩:=Hv.out j (by omega)
      exact ⟨Aj,cj,by rw [Ft (by omega)];exact h1,Z (aq h2 a2.out)⟩
     ·obtain rfl:j=k+1:=by omega
      refine ⟨A5,c5,?_,?_⟩
      ·rw [Fu (by omega),Hr.out]
       simp [show vals.length=k+1 by omega]
      ·rw [Hr.out]
       exact Z (aA bA.out (by have:=D.out.size;omega))
    case measure=>simp [intOf];omega
  ·obtain rfl:k=n:=by omega
   have b7:=b5.out
   have d2:lE wr vals sz.length (eC sz ps q x):=by
    refine ⟨?_,fun j hj=>?_⟩
    ·have:=Ho.out.1;omega
    ·obtain ⟨Aj,cj,h1,h2⟩:=Hv.out j (by omega)
     have a6:=jd (sz:=sz) (ps:=ps) (q:=q) Hx.out j
     obtain ⟨A',c',e,hc⟩:=av h2
     injection e with Q e2 e3
     subst Q;subst e3
     rw [a6]
     exact ⟨_,_,h1,hc,Rd.own h2⟩
   have dc:sz.length≤co:=by
    obtain ⟨A',c',e,hc⟩:=av Ho.out
    injection e with Q e2 e3
    omega
   have cc:=Rd.own Ho.out
   obtain ⟨dT,e9,en⟩:=ae cc d2 dc;clear cc d2 dc;clear b7
   go_wp2_with fail
   go_ret2
   exact ⟨some ⟨go,0,none⟩,co,vals,(by rw [b5.out];rfl),dT.out,e9.out,en.out,HW.out⟩
end Go.Proofs.YtgmajkppbhiopaaGreat
