/- No condition. -/
import Derived.Test.YtaccfnffmbndhaaGreatC00
import Derived.Test.YtaccfnffmbndhaaGreatC02
import Derived.Test.YtaccfnffmbndhaaGreatC07
import Derived.Test.YtaccfnffmbndhaaGreatC06
import Derived.IntWalk
import Derived.Test.YtaccfnffmbndhaaGreatProg
import Derived.Test.YtaccfnffmbndhaaGreatC01
set_option linter.unusedSimpArgs false
set_option linter.unusedVariables false
set_option maxRecDepth 100000
set_option maxHeartbeats 4000000
namespace Go.Proofs.YtaccfnffmbndhaaGreat
open Go.RowKit
theorem jE:dq Tryz.prog 26 2 (KL 0) 1 8:=⟨Tryz.underlying26,info_parts (by kernel_rfl),rfl,by decide⟩
theorem ET:dq Tryz.prog 216 26 (KN) 1 24:=⟨Tryz.underlying216,info_parts (by kernel_rfl),rfl,by decide⟩
def Ie (sz ps:List Int) (q:Int) (x:List Int) (X:Option Addr) (u n₀:Nat) (p:Obj) (k:Nat) (v:Value) (y w:World):Prop:=
 ∃A c vals,v=.slice A (k+1) c∧w.ownsRow n₀ 26 1 (.slice A (k+1) c) (k+1) vals∧vals[0]?=some (.slice X (szN sz 0) u)∧
  (∀j,1≤j→j≤k→∃o i,vals[j]?=some (.slice o (szN sz j) i)∧w.ownsRow n₀ 2 1 (.slice o (szN sz j) i) (szN sz j) (aq .i64 (cT sz ps q x j)))∧w.heap[n₀]?=some p∧Below n₀ y w
theorem xG (As Ap X:Option Addr) (sz ps x:List Int) (cs cp cx:Nat) (q:Int) (w:World) (h:nY w As Ap sz ps cs) (hX:Rd w X (aq .i64 x)) (hx:x.length=szN sz 0) (wx:W64 x) (bl:x.length≤cx):
  Calls Tryz.prog 156 #[.agg #[.slice As sz.length cs,.slice Ap ps.length cp,KL q],.slice X x.length cx] w fun e B=>∃A' c' vals,e=.returned (.slice A' sz.length c')∧Rd B A' vals∧iz B vals sz.length (cT sz ps q x)∧sz.length≤c'∧Below w.heap.size w B:=by
 have hg:=h.hg
 have cd:=hg.1.1
 have b9:=fun k r V v cv B (hb:Below w.heap.size w B) (hk:k+1<sz.length) (hr:r<szN sz (k+1)) (hV:Rd B V (aq .i64 v)) (hv:v.length=szN sz k) (wv:W64 v)=>DG As Ap sz ps cs cp k r q V v cv B (h.below hb) hk hr hV hv wv
 have aG:=fun B=>lN As Ap sz.length ps.length cs cp q B (by omega)
 obtain ⟨b,o,rfl,bX⟩:=h.hA.num (show 0<sz.length by omega)
 have dn:b<w.heap.size:=ar bX
 have bs:=h.hA
 have ci:=h.wp
 obtain ⟨m,hm⟩:∃m,ps.length=m:=⟨_,rfl⟩
 obtain ⟨n,hn⟩:∃n,sz.length-1=n:=⟨_,rfl⟩
 obtain ⟨L,hL⟩:∃L,sz.length=L:=⟨_,rfl⟩
 obtain ⟨x0,ao⟩:∃x0,x.length=x0:=⟨_,rfl⟩
 rw [hL] at hn
 rw [hL,hm] at b9 aG
 rw [hn] at aG
 rw [hL] at cd ⊢
 rw [hm,ao]
 rw [ao] at bl
 have bO:L=n+1:=by omega
 obtain ⟨dk,bh,HG,d6,WP,HX,Hx,WX⟩:=ak b9 aG hg bs ci hX hx wx;obtain ⟨HL,ct,b7,Hn⟩:=ag hL ao bO hn;clear b9 aG hg bs ci hX hx wx hL ao h bX hm bO hn
 go_enter Tryz.func156,Tryz.ntmps156
 go_wp2_with fail
 go_loopw [5,6] (fun v i wr=>∃k:Nat,k≤n∧i=KL k∧Ie sz ps q x X cx w.heap.size (.cells #[.slice (some ⟨b,o,none⟩) L cs,.slice Ap m cp,KL q] 214 (0,0)) k v w wr) (fun _ i _=>n-(intOf i).toNat)
 case atStart=>
  refine ⟨0,JH _,rfl,some ⟨w.heap.size+1,0,none⟩,1,[.slice X x0 cx],rfl,?_,?_,fun j h1 h2=>by omega,?_,?_⟩
  ·have:=sM (w.alloc (.cells #[.slice (some ⟨b,o,none⟩) L cs,.slice Ap m cp,KL q] 214)) 26 (.slice X x0 cx) w.heap.size (by simp)
   simpa using this
  ·rw [←Hx.out,ct.out];rfl
  ·exact (JP _ _ _ (by simp)).trans (JE w _)
  ·exact al
 case round=>
  obtain ⟨wq,rfl⟩:∃wq:World,wq=wr:=⟨_,rfl⟩
  obtain ⟨k,hk,rfl,Ao,co,vals,rfl,ho,cA,hv,A,hW⟩:=hrel
  obtain ⟨⟨y0,y1,y2⟩,yf⟩:=bx3 A
  have a0:=JC A
  have hz:=hW.size
  obtain ⟨Ho,be,Hv,bM,HW⟩:=ah ho cA hv A hW;clear ho cA hv A hW
  by_cases eb:k<n
  ·have hR:=HG.out.1
   have cf:k+1<sz.length:=by have:=b7.out;have:=HL.out;omega
   have z1:=hR.at cf
   have ea:=hR.1.2
   have p1:=(d6.out.num cf)
   obtain ⟨_,_,e',p1⟩:=p1
   injection e' with e';injection e' with e1 e2 _;subst e1;subst e2
   have b8:=(HW.out.cell (p:=⟨b,o+(k+1),none⟩) dn).trans p1
   rw [z1.2.2] at b8
   obtain ⟨go,e8,cc,ej,_⟩:=Ho.out.form (by omega)
   simp only [Ku] at cc
   obtain ⟨rfl,d5,rfl⟩:=cc
   clear d5
   have hcur:∃Ak ck,vals[k]?=some (.slice Ak (szN sz k) ck)∧Rd wq Ak (aq .i64 (cT sz ps q x k)):=by
    rcases Nat.eq_zero_or_pos k with rfl | a2
    ·exact ⟨X,cx,be.out,HX.out.below HW.out⟩
    ·obtain ⟨Aj,cj,h1,h2⟩:=Hv.out k a2 (JD _)
     exact ⟨Aj,cj,h1,Rd.own h2⟩
   obtain ⟨Ak,ck,c6,bn⟩:=hcur
   obtain ⟨_,_,ek,pk⟩:=(Rd.own Ho.out) k _ c6
   injection ek with ek;injection ek with i1 i2 _;subst i1;subst i2
   rw [Kz] at pk
   have Z:=eC (sz:=sz) (ps:=ps) (q:=q) Hx.out k
   have e0:=nl (sz:=sz) (ps:=ps) (q:=q) WX.out k
   have y:=fun r (hr:r<szN sz (k+1))=>Db (sz:=sz) (ps:=ps) (q:=q) (x:=x) (k:=k) (r:=r) WP.out Hx.out hr
   have bV:=HL.out
   have I:=fun r (hr:r<szN sz (k+1)) B (hb:Below wq.heap.size wq B)=>dk.out k r Ak (cT sz ps q x k) ck B (HW.out.trans (hb.mono HW.out.size)) (by omega) hr (bn.below hb) Z e0
   rw [Z] at I y
   rw [bV] at y
   rw [Hn.out] at y
   obtain ⟨r1,b4⟩:∃r1,szN sz (k+1)=r1:=⟨_,rfl⟩
   obtain ⟨c0,bb⟩:∃c0,szN sz k=c0:=⟨_,rfl⟩
   have bi:=eC (sz:=sz) (ps:=ps) (q:=q) Hx.out (k+1)
   rw [b4] at I y b8 z1 bi
   rw [bb] at I y pk
   obtain ⟨dp,d2,bG,ei,bw⟩:=ah I y b4 bb bi;clear I y b4 bb c6 bn Z p1 bi bV
   have ec:(k:Int)+1<L:=by have:=b7.out;omega
   have b3:IntKind.i64.wrap ((k:Int)+1)=(k:Int)+1:=JI _ (by omega)
   have ds:=aa b3;clear b3
   go_wp2_with fail
   refine (bh.out wq).mono ?_
   rintro e w3 ⟨rfl,U⟩
   have y0:=am U y0
   have pk:=am U pk
   have bU:go<w3.heap.size:=ar pk
   have d1:w.heap.size<w3.heap.size:=ar y0
   have T:=aa U;clear U
   go_wp2_with fail
   go_loopw [7,8] (fun v i wx=>∃r:Nat,r≤r1∧i=KL r∧wx.ownsRow w3.heap.size 2 1 v r (aq .i64 ((cT sz ps q x (k+1)).take r))∧Below w3.heap.size w3 wx) (fun _ i _=>r1-(intOf i).toNat)
   case atStart=>exact ⟨0,JH _,rfl,JO _ _ _ _,JG _ _⟩
   case round=>
    obtain ⟨wo,rfl⟩:∃wo:World,wo=wr:=⟨_,rfl⟩
    obtain ⟨r,hr,rfl,ad,A⟩:=hrel
    obtain ⟨Al,cl,rfl,dG⟩:=aw ad
    have J:Below wq.heap.size wq wo:=T.out.trans (A.mono T.out.size)
    have x0:=(A.cell (p:=⟨w.heap.size,0,none⟩) d1).trans y0
    have x1:=(J.cell (p:=⟨w.heap.size,1,none⟩) a0).trans y1
    have x2:=(J.cell (p:=⟨w.heap.size,2,none⟩) a0).trans y2
    have ef:=(J.cell (p:=⟨b,o+(k+1),none⟩) (show b<_ by omega)).trans b8
    have b6:=(A.cell (p:=⟨go,k,none⟩) bU).trans pk
    have d8:w.heap.size<wo.heap.size:=ar x0
    have e5:go<wo.heap.size:=ar b6
    have d7:w3.heap.size≤wo.heap.size:=A.size
    obtain ⟨b2,bo,C⟩:=af ad A J;clear ad A J dG
    have b3:=ds.out
    have e4:(0:Int)≤(k:Int)+1:=by omega
    have e6:((k:Int)+1).toNat=k+1:=by omega
    by_cases b5:r<r1
    ·have I:=dp.out r b5
     have c9:=aa I;clear I
     go_wp2_with fail
     have d3:k<k+1:=Nat.lt_succ_self k
     have cy:(k:Int)<(k:Int)+1:=by omega
     have R:(fun B:World=>B.cell? ⟨w.heap.size,0,none⟩=some (.slice (some ⟨b,o,none⟩) L cs)∧B.cell? ⟨w.heap.size,1,none⟩=some (.slice Ap m cp)∧B.cell? ⟨w.heap.size,2,none⟩=some (KL q)∧B.cell? ⟨go,k,none⟩=some (.slice Ak c0 ck)) wo.drew:=⟨x0,x1,x2,b6⟩
     refine HA.g (fun B:World=>B.cell? ⟨w.heap.size,0,none⟩=some (.slice (some ⟨b,o,none⟩) L cs)∧B.cell? ⟨w.heap.size,1,none⟩=some (.slice Ap m cp)∧B.cell? ⟨w.heap.size,2,none⟩=some (KL q)∧B.cell? ⟨go,k,none⟩=some (.slice Ak c0 ck)) ?_
     refine HA.t ?_ [0,1,2,3,4,5,6] R ?_
     refine HA.o 7 (fun K hK=>?_)
     go_simp
     refine (c9.out _ C.out.drew).mono ?_
     rintro e w5 ⟨rfl,H⟩
     have bA:=JL (am H x0) (JL (am H x1) (JL (am H x2) (am H b6)))
     have g0:=am H x0
     have aP:=bo.out.trans (((JG wo.heap.size wo).drew.trans H).mono d7)
     have a8:=ap b2.out ((JG wo.heap.size wo).drew.trans H)
     have da:=H.size
     simp only [Kt] at da
     obtain ⟨b1,bd⟩:=ae aP a8;clear H aP a8 R d3 cy
     dsimp only
     refine hK.out _ _ bA (fun R=>?_)
     clear hK K bA
     refine HA.t ?_ [8] R ?_
     refine HA.d ?_
     have g1:=R.2.1
     have g2:=R.2.2.1
     clear R
     go_wp2_with fail
     refine (bh.out _).mono ?_
     rintro e w6 ⟨rfl,av⟩
     have y:=d2.out r b5
     have a5:=b1.out.trans (av.mono b1.out.size)
     have a1:=ap bd.out av
     have ee:=av.size
     have e7:=a5.size
     obtain ⟨aR,ab⟩:=ae a5 a1;clear av a5 a1 g0 g1 g2 x0 x1 x2
     have bv:r<(cT sz ps q x (k+1)).length:=by rw [bw.out];exact b5
     have cr:=eJ _ r bv
     have c8:=aa cr;clear cr bv
     by_cases D:k+1<n
     ·have d0:((k:Int)+1<n):=by omega
      have bz:decide ((k:Int)+1<n)=true:=KA (by omega)
      rw [if_pos D] at y
      have a6:=aa y;clear y D
      go_wp2_with fail
      refine (sC _ _ _).mono ?_
      rintro e w7 ⟨rfl,rfl⟩
      rw [←a6.out]
      go_wp2_with (at_builtin;refine aQ jE w6 rfl (.tmp 44) (.tmp 46) rfl w3.heap.size (.slice Al r cl) r _ rfl ab.out [KL (nth (cT sz ps q x (k+1)) r)] rfl rfl (by simp [Value.oneCell']) (by omega) (by unfold maxLen;omega) (by omega) ?_)
      intro g7 c7 w7 N Q Y
      have O:=aR.out.trans Q
      obtain ⟨a4,a7⟩:=ae N O;clear N Q Y O
      go_wp2_with fail
      go_roundw
      case rel=>exact ⟨r+1,by omega,by go_num,by rw [c8.out,cD];exact a4.out,a7.out⟩
      case measure=>simp [intOf];omega
     ·have d0:¬((k:Int)+1<n):=by omega
      have bz:decide ((k:Int)+1<n)=false:=KD (by omega)
      rw [if_neg D] at y
      have a6:=aa y;clear y D
      go_wp2_with (at_builtin;refine aQ jE w6 rfl (.tmp 44) (.tmp 46) rfl w3.heap.size (.slice Al r cl) r _ rfl ab.out [KL (pU sz ps q k r (cT sz ps q x k) c0)] rfl rfl (by simp [Value.oneCell']) (by omega) (by unfold maxLen;omega) (by omega) ?_)
      rw [←a6.out]
      intro g7 c7 w7 N Q Y
      have O:=aR.out.trans Q
      obtain ⟨a4,a7⟩:=ae N O;clear N Q Y O
      go_wp2_with fail
      go_roundw
      case rel=>exact ⟨r+1,by omega,by go_num,by rw [c8.out,cD];exact a4.out,a7.out⟩
      case measure=>simp [intOf];omega
    ·obtain rfl:r=r1:=by omega
     have bI:=ap Ho.out C.out
     have bf:=aa bI;clear bI
     go_wp2_with (at_builtin;refine aQ ET wo rfl (.tmp 48) (.tmp 50) rfl w.heap.size (.slice (some ⟨go,0,none⟩) (k+1) co) (k+1) vals rfl bf.out [.slice Al r cl] rfl rfl (by simp [Value.oneCell']) (by omega) (by unfold maxLen;omega) (by omega) ?_)
     intro g7 c7 w7 N Q Y
     have Z:=Ho.out.1
     have a3:∀{mm:Nat} {u:Value} {ys:List Value} {b0:Nat},wo.ownsRow b0 2 1 u mm ys→w7.ownsRow b0 2 1 u mm ys:=fun h=>h.kept Y (by
      rename_i u _ _
      cases hu:u.ownBlock with
      | none=>exact .inl rfl
      | some i=>exact .inr fun e9=>iO bf.out h (by decide) i e9.symm hu)
     have aM:=(Y.block _ d8 (an ((C.out.block _ a0).trans bM.out) (by decide) bf.out)).trans ((C.out.block _ a0).trans bM.out)
     have O:=(HW.out.trans (C.out.mono HW.out.size)).trans Q
     obtain ⟨a4,a7,dr⟩:=af N O aM;clear N Q Y O aM
     go_wp2_with fail
     go_roundw
     case rel=>
      refine ⟨k+1,by omega,by go_num,some ⟨g7,0,none⟩,c7,vals++[.slice Al r cl],rfl,a4.out,?_,fun j h1 h2=>?_,dr.out,a7.out⟩
      ·rw [Ki (by omega)];exact be.out
      ·rcases JR j (k+1) with d9 | d9
       ·obtain ⟨Aj,cj,e1,e2⟩:=Hv.out j h1 (by omega)
        exact ⟨Aj,cj,by rw [Ki (by omega)];exact e1,a3 (ap e2 C.out)⟩
       ·obtain rfl:j=k+1:=by omega
        refine ⟨Al,cl,?_,?_⟩
        ·rw [Kj (by omega),bG.out]
         simp [show vals.length=k+1 by omega]
        ·have:=a3 b2.out
         rw [List.take_of_length_le (by rw [bw.out];exact JD _)] at this
         rw [bG.out]
         exact ax this (by have:=T.out.size;omega)
     case measure=>simp [intOf];omega
  ·obtain rfl:k=n:=by omega
   have cO:=b7.out
   have cb:iz wq vals sz.length (cT sz ps q x):=by
    refine ⟨?_,fun j hj=>?_⟩
    ·have:=Ho.out.1;have:=HL.out;omega
    ·have Z:=eC (sz:=sz) (ps:=ps) (q:=q) Hx.out j
     rcases Nat.eq_zero_or_pos j with rfl | a2
     ·refine ⟨X,cx,?_,?_,HX.out.below HW.out⟩
      ·rw [Z];exact be.out
      ·show x.length≤cx
       rw [ct.out];exact bl
     ·obtain ⟨Aj,cj,h1,h2⟩:=Hv.out j a2 (by have:=HL.out;omega)
      obtain ⟨A',c',e,hc⟩:=aw h2
      injection e with e1 e2 e3
      subst e1;subst e3
      rw [Z]
      exact ⟨_,_,h1,hc,Rd.own h2⟩
   have cw:L≤co:=by
    obtain ⟨A',c',e,hc⟩:=aw Ho.out
    injection e with e1 e2 e3
    omega
   have bN:=Rd.own Ho.out
   obtain ⟨d4,dc,dv,dT⟩:=ag bN cb cw cO;clear bN cb cw cO
   go_wp2_with fail
   refine (bh.out wq).mono ?_
   rintro e w3 ⟨rfl,U⟩
   have T:=aa U;clear U
   go_wp2_with fail
   go_ret
   refine ⟨Ao,co,vals,by rw [dT.out];rfl,d4.out.below T.out,?_,dv.out,HW.out.trans (T.out.mono HW.out.size)⟩
   have:=dc.out.below T.out
   rwa [HL.out] at this
theorem GW:dq Tryz.prog 27 231 (.int .u64 0) 1 8:=⟨Tryz.underlying27,info_parts (by kernel_rfl),rfl,by decide⟩
theorem xq (A:Option Addr) (zs:List Int) (c:Nat) (w:World) (hA:Rd w A (aq .u64 zs)) (hl:zs.length≤17592186043904):
  Calls Tryz.prog 138 #[.slice A zs.length c] w fun e x=>∃v,e=.returned v∧x.ownsRow w.heap.size 231 1 v zs.length (aq .u64 zs)∧Below w.heap.size w x:=by
 have q:=fun (w:World)=>Lib.run_eql_slice_nil (P:=Tryz.prog) w 27 231 A zs.length c 0 0 Tryz.underlying27
 cases A with
 | none=>
  have B:zs=[]:=by
   cases zs with
   | nil=>rfl
   | cons z l=>obtain ⟨b,o,h,_⟩:=hA 0 _ rfl;cases h
  subst B
  clear q
  have q:=fun (w:World)=>Lib.run_eql_slice_nil (P:=Tryz.prog) w 27 231 none 0 c 0 0 Tryz.underlying27
  simp only [Option.isNone_none] at q
  rw [List.length_nil]
  go_enter Tryz.func138,Tryz.ntmps138
  go_wp2
  go_ret
  exact ⟨_,rfl,JO _ _ _ _,JG _ _⟩
 | some a=>
  go_enter Tryz.func138,Tryz.ntmps138
  go_wp2_with (at_builtin;refine dX GW _ rfl (.tmp 5) (.tmp 6) rfl w.heap.size _ 0 [] rfl (fq w 231 1) _ zs.length c (aq .u64 zs) rfl (hA.alloc _) (by rw [a9];omega) (bP _ _) (by omega) (by unfold maxLen;omega) (by simp) ?_)
  intro H D C i y _ _
  have p:=((JG _ w).alloc (JD _) (.cells #[] 231)).trans y
  obtain ⟨j,u⟩:=ae i p;clear i y p
  go_wp2
  go_ret
  exact ⟨_,rfl,j.out,u.out⟩
def U64 (l:List Int):Prop:=∀k,k<l.length→0≤nth l k∧nth l k≤18446744073709551615
theorem Keep.below2 {S:Nat→Prop} {w j o:World} (h:Keep S w j) (i:Below w.heap.size j o):Keep S w o:=
 ⟨i.os.trans h.os,i.tape.trans h.tape,i.output.trans h.output,JJ h.size i.size,fun k p hn=>(i.block k p).trans (h.block k p hn)⟩
structure bS (w:World) (b:Nat) (A:Option Addr) (c:Nat) (l:List Int) (i:Nat):Prop where
 blk:w.heap[b]?=some (.cells #[.slice A l.length c,KL (i:Int)] 235 (0,0))
 rd:Rd w A (aq .u64 l)
 ne:∀a,A=some a→a.block≠b
theorem bS.lt {w:World} {b c i:Nat} {A:Option Addr} {l:List Int} (h:bS w b A c l i):b<w.heap.size:=JC h.blk
theorem bS.below {w j:World} {b c i:Nat} {A:Option Addr} {l:List Int} (h:bS w b A c l i) (o:Below w.heap.size w j):bS j b A c l i:=
 ⟨(o.block b h.lt).trans h.blk,h.rd.below o,h.ne⟩
theorem bS.drewN {w:World} {b c i:Nat} {A:Option Addr} {l:List Int} (h:bS w b A c l i) (n:Nat):bS (w.drewN n) b A c l i:=⟨h.blk,h.rd.drewN n,h.ne⟩
theorem bS.keep {w j:World} {b c i:Nat} {A:Option Addr} {l:List Int} (h:bS w b A c l i) {S:Nat→Prop} (k:Keep S w j) (o:¬S b) (hA:∀a,A=some a→¬S a.block):bS j b A c l i:=
 ⟨(k.block b h.lt o).trans h.blk,k.rd h.rd hA,h.ne⟩
theorem Fg (A:Option Addr) (l:List Int) (c:Nat) (w:World) (hA:Rd w A (aq .u64 l)) (hl:l.length≤17592186043904):
  Calls Tryz.prog 95 #[.slice A l.length c] w fun e D=>∃b p x,e=.returned (.pointer (some ⟨b,0,none⟩))∧bS D b p x l 0∧(∀a,p=some a→w.heap.size≤a.block)∧w.heap.size≤b∧Below w.heap.size w D:=by
 have hc:=xq A l c w hA hl
 have J:=aa hc;clear hc hA
 go_enter Tryz.func95,Tryz.ntmps95
 go_wp2_with fail
 refine J.out.mono ?_
 rintro e C ⟨v,rfl,q,H⟩
 obtain ⟨p,x,rfl,_⟩:=aw q
 have i:=q.lt
 obtain ⟨B,y,u⟩:=af q H i;clear q H i
 go_wp2
 go_ret
 have o:∀a,p=some a→w.heap.size≤a.block∧a.block<C.heap.size:=fun a j=>by
  subst j
  rcases B.out.2 with ⟨hn,_⟩ | ⟨g,cap,I,hv,_⟩
  ·cases hn
  ·simp only [Ku,Option.some.injEq] at hv
   obtain ⟨rfl,_,_⟩:=hv
   exact u.out g rfl
 exact ⟨_,p,x,rfl,⟨JE C _,(Rd.own B.out).alloc _,fun a j L=>by have:=(o a j).2;omega⟩,fun a j=>(o a j).1,y.out.size,y.out.alloc y.out.size _⟩
theorem pH (b c i:Nat) (A:Option Addr) (l:List Int) (w:World) (h:bS w b A c l i) (q:i≤l.length) (hl:l.length≤17592186043904):
  Calls Tryz.prog 164 #[.pointer (some ⟨b,0,none⟩)] w fun e j=>e=.returned (KL ((l.length-i:Nat):Int))∧∃d,j=w.drewN d:=by
 obtain ⟨h1,o,p⟩:=h
 obtain ⟨n,hn⟩:∃n,l.length=n:=⟨_,rfl⟩
 rw [hn] at h1 q hl ⊢
 obtain ⟨⟨u,x⟩,v⟩:=bx2 h1
 have y:=JC h1
 clear h1 o p hn
 go_enter Tryz.func164,Tryz.ntmps164
 go_wp2_with fail
 go_quiet (fail)
 go_wp2_with fail
 go_ret
 exact ⟨aV (by omega),_,rfl⟩
theorem uQ (b c i m:Nat) (A:Option Addr) (l:List Int) (w:World) (h:bS w b A c l i) (C:i<l.length) (hl:l.length≤17592186043904) (hu:U64 l) (hm:1≤m) (L:m≤1048576):
  Calls Tryz.prog 166 #[.pointer (some ⟨b,0,none⟩),KL m] w fun e u=>e=.returned (.tuple #[KL (nth l i%m),.bool true])∧bS u b A c l (i+1)∧Keep (fun j=>j=b) w u:=by
 have o:=pH b c i A l w h (by omega) hl
 obtain ⟨h1,q,I⟩:=h
 obtain ⟨bA,V,rfl,p⟩:=q.num C
 obtain ⟨x,hx⟩:∃x,nth l i=x:=⟨_,rfl⟩
 have B:=hu i C
 rw [hx] at p B ⊢
 obtain ⟨n,hn⟩:∃n,l.length=n:=⟨_,rfl⟩
 obtain ⟨N,R,D,Hn⟩:=ag h1 q I hn
 rw [hn] at h1 C hl o
 obtain ⟨⟨X,x1⟩,Y⟩:=bx2 h1
 have Z:=JC h1
 have v:=aa o;clear h1 q I hn hx o hu
 have J:(((n-i:Nat):Int)==0)=false:=by rw [beq_eq_false_iff_ne];omega
 have U:¬((m:Int)<1):=by omega
 have Q:(i:Int)<n:=by omega
 have hw:wrap64 (x%(m:Int))=x%(m:Int):=by
  have h1:=Int.emod_nonneg x (show (m:Int)≠0 by omega)
  have q:=Int.emod_lt_of_pos x (show (0:Int)<(m:Int) by omega)
  generalize x%(m:Int)=y at h1 q ⊢
  unfold wrap64;omega
 have O:=aa hw;clear hw
 go_enter Tryz.func166,Tryz.ntmps166
 go_wp2_with fail
 refine v.out.mono ?_
 rintro e u ⟨rfl,d,rfl⟩
 go_wp2_with fail
 go_quiet (fail)
 go_wp2_with fail
 go_ret2
 have H:Keep (fun j=>j=b) w ((w.drewN (d+nq)).setCell ⟨b,1,none⟩ (KL ((i:Int)+1))):=Keep.setCell (S:=fun j=>j=b) ((Keep.refl _ w).drewN _) ⟨b,1,none⟩ (.inr rfl) _
 refine ⟨by rw [O.out];rfl,⟨?_,H.rd R.out (fun a T=>D.out a T),D.out⟩,H⟩
 have:=KG (w.drewN (d+nq)) b 1 _ _ (KL ((i:Int)+1)) N.out
 simpa using this
end Go.Proofs.YtaccfnffmbndhaaGreat
namespace Go.Proofs.YtaccfnffmbndhaaGreat
open Go.RowKit Go.ChangeShapes Go.WideShapes Go.ChangeAt
theorem iG:fR Tryz.prog 3 1 (Gi .i64):=oL Tryz.underlying3 (by kernel_rfl)
theorem km:fR Tryz.prog 26 1 (zJ .i64):=mV Tryz.underlying26 Tryz.underlying2 (by kernel_rfl) (by kernel_rfl) (by kernel_rfl)
theorem yx:fR Tryz.prog 22 1 (zJ .i64):=mV Tryz.underlying22 Tryz.underlying3 (by kernel_rfl) (by kernel_rfl) (by kernel_rfl)
theorem xk {l:List Int} (h:∀z∈l,(Lit.int .i64 z).wf=true):W64 l:=fun k i=>by
 have:=h _ (ul i)
 simpa [Lit.wf,IntKind.min,IntKind.max,IntKind.signed,IntKind.bits] using this
end Go.Proofs.YtaccfnffmbndhaaGreat
namespace Go.Proofs.YtaccfnffmbndhaaGreat
open Go.RowKit
theorem Fb:dq Tryz.prog 25 107 (.agg #[KN,KN]) 2 48:=⟨Tryz.underlying25,info_parts (by kernel_rfl),rfl,by decide⟩
abbrev Ex:=List Int×List Int
structure bD (w:World) (A:Option Addr) (l:List Int) (c:Nat):Prop where
 hc:l.length≤c
 hl:l.length≤17592186043904
 hr:Rd w A (aq .i64 l)
 hw:W64 l
theorem bD.below {w i:World} {A:Option Addr} {l:List Int} {c:Nat} (h:bD w A l c) (j:Below w.heap.size w i):bD i A l c:=⟨h.hc,h.hl,h.hr.below j,h.hw⟩
def rEx:dD Ex:=fun w i e=>∃A c B d,i=[.slice A e.1.length c,.slice B e.2.length d]∧bD w A e.1 c∧bD w B e.2 d
theorem cY:AA rEx:=fun i ⟨A,c,B,d,h1,j,o⟩=>⟨A,c,B,d,h1,j.below i,o.below i⟩
def dz (w:World) (base:Nat) (i:List Value) (e:Ex):Prop:=∃u v,i=[u,v]∧w.ownsRow base 2 1 u e.1.length (aq .i64 e.1)∧w.ownsRow base 2 1 v e.2.length (aq .i64 e.2)∧
 e.1.length≤17592186043904∧e.2.length≤17592186043904∧W64 e.1∧W64 e.2
theorem dz.rd {w:World} {base:Nat} {j:List Value} {e:Ex} (h:dz w base j e):rEx w j e:=by
 obtain ⟨u,v,rfl,h1,i,y,q,x,p⟩:=h
 obtain ⟨A,c,rfl,hc⟩:=aw h1
 obtain ⟨B,d,rfl,o⟩:=aw i
 exact ⟨A,c,B,d,rfl,⟨hc,y,Rd.own h1,x⟩,⟨o,q,Rd.own i,p⟩⟩
theorem dz.below {w i:World} {base:Nat} {j:List Value} {e:Ex} (h:dz w base j e) (o:Below w.heap.size w i):dz i base j e:=by
 obtain ⟨u,v,rfl,h1,p,q⟩:=h
 exact ⟨u,v,rfl,ap h1 o,ap p o,q⟩
theorem dz.base {w:World} {base base':Nat} {j:List Value} {e:Ex} (h:dz w base j e) (i:base'≤base):dz w base' j e:=by
 obtain ⟨u,v,rfl,h1,o,p⟩:=h
 exact ⟨u,v,rfl,ax h1 i,ax o i,p⟩
theorem fh {W o:World} {j e i size n m:Nat} {v u:Value} {xs ys:List Value} {base base':Nat} (hu:W.ownsRow base' j i u m ys) (hv:W.ownsRow base e size v n xs) (hg:W.grownBy o v.ownBlock) (h1:e≠j):o.ownsRow base' j i u m ys:=by
 refine hu.kept hg ?_
 cases hub:u.ownBlock with
 | none=>exact .inl rfl
 | some k=>exact .inr fun p=>iO hv hu h1 k p.symm hub
theorem dz.pushed {W j:World} {e size n:Nat} {v:Value} {xs:List Value} {base base':Nat} {i:List Value} {x:Ex} (h:dz W base' i x) (hv:W.ownsRow base e size v n xs) (hg:W.grownBy j v.ownBlock) (h1:e≠2):dz j base' i x:=by
 obtain ⟨u,v',rfl,o,p,q⟩:=h
 exact ⟨u,v',rfl,fh o hv hg h1,fh p hv hg h1,q⟩
theorem qY (A:Option Addr) (zs:List Int) (c:Nat) (w:World) (hA:Rd w A (aq .i64 zs)) (hl:zs.length≤17592186043904):
  Calls Tryz.prog 129 #[.slice A zs.length c] w fun e x=>∃v,e=.returned v∧x.ownsRow w.heap.size 2 1 v zs.length (aq .i64 zs)∧Below w.heap.size w x:=by
 have q:=fun (w:World)=>Lib.run_eql_slice_nil (P:=Tryz.prog) w 26 2 A zs.length c 0 0 Tryz.underlying26
 cases A with
 | none=>
  have B:zs=[]:=by
   cases zs with
   | nil=>rfl
   | cons z l=>obtain ⟨b,o,h,_⟩:=hA 0 _ rfl;cases h
  subst B
  clear q
  have q:=fun (w:World)=>Lib.run_eql_slice_nil (P:=Tryz.prog) w 26 2 none 0 c 0 0 Tryz.underlying26
  simp only [Option.isNone_none] at q
  rw [List.length_nil]
  go_enter Tryz.func129,Tryz.ntmps129
  go_wp2
  go_ret
  exact ⟨_,rfl,JO _ _ _ _,JG _ _⟩
 | some a=>
  go_enter Tryz.func129,Tryz.ntmps129
  go_wp2_with (at_builtin;refine dX jE _ rfl (.tmp 5) (.tmp 6) rfl w.heap.size _ 0 [] rfl (fq w 2 1) _ zs.length c (aq .i64 zs) rfl (hA.alloc _) (by rw [a9];omega) (bP _ _) (by omega) (by unfold maxLen;omega) (by simp) ?_)
  intro H D C i y _ _
  have p:=((JG _ w).alloc (JD _) (.cells #[] 2)).trans y
  obtain ⟨j,u⟩:=ae i p;clear i y p
  go_wp2
  go_ret
  exact ⟨_,rfl,j.out,u.out⟩
theorem yZ (cs:List Value) (x:Ex) (w:World) (h:rEx w cs x):
  Calls Tryz.prog 104 #[.agg cs.toArray] w fun e q=>∃us:List Value,e=.returned (.agg us.toArray)∧dz q w.heap.size us x∧Below w.heap.size w q:=by
 obtain ⟨A,c,B,d,rfl,h1,h2⟩:=h
 obtain ⟨x,y⟩:=x
 dsimp only at h1 h2 ⊢
 have Q:=fun q (k:Below w.heap.size w q)=>qY A x c q (h1.hr.below k) h1.hl
 have U:=fun q (k:Below w.heap.size w q)=>qY B y d q (h2.hr.below k) h2.hl
 obtain ⟨H1,H2⟩:=ae h1 h2
 obtain ⟨n,hn⟩:∃n,x.length=n:=⟨_,rfl⟩
 obtain ⟨m,hm⟩:∃m,y.length=m:=⟨_,rfl⟩
 rw [hn] at Q ⊢
 rw [hm] at U ⊢
 obtain ⟨av,aP,Hn,Hm⟩:=ag Q U hn hm;clear Q U hn hm h1 h2
 go_enter Tryz.func104,Tryz.ntmps104
 go_wp2_with fail
 have hz:=JE (w.alloc (.cells #[.slice A n c,.slice B m d] 107)) (.cells #[KN,KN] 107)
 rw [show (w.alloc (.cells #[.slice A n c,.slice B m d] 107)).heap.size=w.heap.size+1 by simp] at hz
 have hy:=(JP (w.alloc (.cells #[.slice A n c,.slice B m d] 107)) (.cells #[KN,KN] 107) w.heap.size (by simp)).trans (JE w _)
 have V:Below w.heap.size w ((w.alloc (.cells #[.slice A n c,.slice B m d] 107)).alloc (.cells #[KN,KN] 107)):=((JG _ w).alloc (JD _) _).alloc (by simp) _
 have R:((w.alloc (.cells #[.slice A n c,.slice B m d] 107)).alloc (.cells #[KN,KN] 107)).heap.size=w.heap.size+2:=by simp
 obtain ⟨W0,hW0⟩:∃W0,W0=(w.alloc (.cells #[.slice A n c,.slice B m d] 107)).alloc (.cells #[KN,KN] 107):=⟨_,rfl⟩
 rw [←hW0] at hz hy V R ⊢
 obtain ⟨⟨y0,y1⟩,yf⟩:=bx2 hy
 obtain ⟨Hz,Z,I⟩:=af hz V R;clear hz hy V R hW0
 have i:(fun q:World=>q.cell? ⟨w.heap.size,0,none⟩=some (.slice A n c)∧q.cell? ⟨w.heap.size,1,none⟩=some (.slice B m d)) W0.drew:=⟨y0,y1⟩
 refine XA.g 7 (fun q:World=>q.cell? ⟨w.heap.size,0,none⟩=some (.slice A n c)∧q.cell? ⟨w.heap.size,1,none⟩=some (.slice B m d)) ?_
 refine XA.t ?_ [0,1,3,4] i ?_
 refine XA.o 2 (fun K hK=>?_)
 go_simp
 refine (av.out _ Z.out.drew).mono ?_
 rintro e w1 ⟨u,rfl,D,C⟩
 obtain ⟨A1,c1,rfl,_⟩:=aw D
 have a2:=JL (am C i.1) (am C i.2)
 have a1:=(C.block (w.heap.size+1) (by simp [I.out])).trans Hz.out
 have a0:=Z.out.drew.trans (C.mono (by simp [I.out]))
 have aM:=C.size
 simp only [Kt,I.out] at aM
 have D:=ax (base':=w.heap.size) D (by simp [I.out])
 obtain ⟨aG,ad,L⟩:=af D a1 a0;clear D a1 a0 C i
 dsimp only
 refine hK.out _ _ a2 (fun i=>?_)
 clear hK K a2
 refine XA.o 5 (fun K hK=>?_)
 go_simp
 refine (aP.out _ L.out).mono ?_
 rintro e Y ⟨v,rfl,H,p⟩
 obtain ⟨X,c2,rfl,_⟩:=aw H
 have a3:=JL (am p i.1) (am p i.2)
 have J:=(p.block (w.heap.size+1) (by omega)).trans ad.out
 have a4:=L.out.trans (p.mono L.out.size)
 have b1:=p.size
 have H:=ax (base':=w.heap.size) H L.out.size
 have O:=ap aG.out p
 obtain ⟨⟨z0,z1⟩,zf⟩:=bx2 J
 have l2:w.heap.size+1<Y.heap.size:=JC J
 obtain ⟨a6,N,T,aR⟩:=ag H O J a4;clear H O J a4 p i
 dsimp only
 refine hK.out _ _ a3 (fun i=>?_)
 clear hK K a3
 refine XA.t ?_ [6] i ?_
 refine XA.e ?_
 clear i
 simp only [Kc,Ke]
 go_wp2_with fail
 have e1:=KG Y (w.heap.size+1) 0 _ _ (.slice A1 n c1) T.out
 have e2:=KG _ (w.heap.size+1) 1 _ _ (.slice X m c2) e1
 have e3:((Y.setCell ⟨w.heap.size+1,0,none⟩ (.slice A1 n c1)).setCell ⟨w.heap.size+1,1,none⟩ (.slice X m c2)).heap[w.heap.size+1]?=some (.cells #[(.slice A1 n c1),(.slice X m c2)] 107 (0,0)):=by simpa using e2
 have hk:Keep (fun j=>j=w.heap.size+1) Y ((Y.setCell ⟨w.heap.size+1,0,none⟩ (.slice A1 n c1)).setCell ⟨w.heap.size+1,1,none⟩ (.slice X m c2)):=Keep.setCell (S:=fun j=>j=w.heap.size+1) (Keep.setCell (S:=fun j=>j=w.heap.size+1) (Keep.refl _ _) ⟨w.heap.size+1,0,none⟩ (.inr rfl) _) ⟨w.heap.size+1,1,none⟩ (.inr rfl) _
 obtain ⟨W9,ao⟩:∃W9,W9=(Y.setCell ⟨w.heap.size+1,0,none⟩ (.slice A1 n c1)).setCell ⟨w.heap.size+1,1,none⟩ (.slice X m c2):=⟨_,rfl⟩
 rw [←ao] at e3 hk ⊢
 obtain ⟨⟨x0,x1⟩,xf⟩:=bx2 e3
 have b0:=hk.own N.out (fun j hj e=>an T.out (by decide) N.out (by rw [hj,e]))
 have ab:=hk.own a6.out (fun j hj e=>an T.out (by decide) a6.out (by rw [hj,e]))
 have a8:Below w.heap.size w W9:=aR.out.trans (hk.toBelow (by omega) (fun j hj=>by omega))
 have a5:=H1.out;have a7:=H2.out
 exact JQ (v:=.agg #[(.slice A1 n c1),(.slice X m c2)]) (by simp [results,Tryz.results104,go_sem,x0,x1]) rfl ⟨[(.slice A1 n c1),(.slice X m c2)],rfl,⟨_,_,rfl,by rw [Hn.out];exact b0,by rw [Hm.out];exact ab,a5.hl,a7.hl,a5.hw,a7.hw⟩,a8⟩
theorem fl {w:World} {A:Option Addr} {l:List Ex} (h:cE rEx 2 w A l) {j:Nat} {x:Ex} (hx:l[j]?=some x):
  ∃b o A1 c1 i c2,A=some ⟨b,o,none⟩∧b<w.heap.size∧w.cell? ⟨b,o+j*2,none⟩=some (.slice A1 x.1.length c1)∧w.cell? ⟨b,o+j*2+1,none⟩=some (.slice i x.2.length c2)∧bD w A1 x.1 c1∧bD w i x.2 c2:=by
 obtain ⟨b,o,B,rfl,y,hl,⟨A1,c1,i,c2,rfl,p,q⟩,u,v⟩:=h.get (by decide) hx
 exact ⟨b,o,A1,c1,i,c2,rfl,y,u,v 1 (by decide),p,q⟩
def iA (w wr:World) (l:List Ex) (k:Nat) (v:Value):Prop:=∃i,wr.ownsRow w.heap.size 107 2 v k (List.flatten i)∧i.length=k∧(∀r∈i,r.length=2)∧
 (∀j x,j<k→l[j]?=some x→dz wr w.heap.size (bq i j) x)∧Below w.heap.size w wr
theorem iA.zero (w:World) (l:List Ex):iA w w l 0 (KN):=⟨[],JO _ _ _ _,rfl,by simp,fun j x h=>by omega,JG _ _⟩
theorem iA.form {w wr:World} {l:List Ex} {k:Nat} {v:Value} (h:iA w wr l k v):∃A c,v=.slice A k c:=by
 obtain ⟨i,h1,_⟩:=h
 obtain ⟨A,c,e,_⟩:=aw h1
 exact ⟨A,c,e⟩
theorem iA.b {w wr:World} {l:List Ex} {k:Nat} {v:Value} (h:iA w wr l k v):Below w.heap.size w wr:=by
 obtain ⟨i,_,_,_,_,h⟩:=h
 exact h
theorem iA.below {w wr p:World} {l:List Ex} {k:Nat} {v:Value} (h:iA w wr l k v) (o:Below wr.heap.size wr p):iA w p l k v:=by
 obtain ⟨i,h1,y,B,A,q⟩:=h
 exact ⟨i,ap h1 o,y,B,fun j x u hx=>(A j x u hx).below o,q.trans (o.mono q.size)⟩
theorem iA.done {w wr:World} {l:List Ex} {A:Option Addr} {n c:Nat} (h:iA w wr l n (.slice A n c)) (hn:l.length=n):cE rEx 2 wr A l:=by
 obtain ⟨i,h1,q,p,o,u⟩:=h
 exact ⟨i,Rd.own h1,by omega,p,fun j x hx=>(o j x (by have:=(Kg.1 hx).1;omega) hx).rd⟩
theorem iA.doneT {w wr:World} {l:List Ex} {A:Option Addr} {n c:Nat} (h:iA w wr l n (.slice A n c)) (hn:l.length=n):cE rEx 2 (fB w.heap.size wr) A l:=by
 obtain ⟨i,h1,C,B,y,D⟩:=h
 exact ⟨i,Rd.own (eO h1 (JD _)),by omega,B,fun j x hx=>by
  obtain ⟨u,v,e,o,p,q⟩:=y j x (by have:=(Kg.1 hx).1;omega) hx
  exact dz.rd ⟨u,v,e,eO o (JD _),eO p (JD _),q⟩⟩
theorem iA.push {w o A:World} {l:List Ex} {k:Nat} {v v':Value} {q p:Value} {x:Ex} {i:List (List Value)} (h1:o.ownsRow w.heap.size 107 2 v k (List.flatten i)) (B:i.length=k) (I:∀r∈i,r.length=2) (D:∀j x,j<k→l[j]?=some x→dz o w.heap.size (bq i j) x) (H:Below w.heap.size w o)
  (hx:l[k]?=some x) (hu:dz o w.heap.size [q,p] x) (C:A.ownsRow w.heap.size 107 2 v' (k+1) (List.flatten i++[q,p])) (J:Below w.heap.size o A) (hg:o.grownBy A v.ownBlock):iA w A l (k+1) v':=by
 refine ⟨i++[[q,p]],by rw [Kr,List.flatten_cons,List.flatten_nil,List.append_nil];exact C,by simp [B],?_,?_,H.trans J⟩
 ·intro r hr
  rcases Kv.1 hr with hr | hr
  ·exact I r hr
  ·rw [List.mem_singleton.1 hr];rfl
 ·intro j y L u
  rcases JR j k with h | h
  ·have e:bq (i++[[q,p]]) j=bq i j:=by simp [bq,Ki (show j<i.length by omega)]
   rw [e];exact (D j y h u).pushed h1 hg (by decide)
  ·obtain rfl:j=k:=by omega
   rw [hx] at u
   injection u with u
   subst u
   have e:bq (i++[[q,p]]) j=[q,p]:=by rw [←B];simp [bq]
   rw [e];exact hu.pushed h1 hg (by decide)
def tF (w:World) (x:Ex) (e:Ending) (j:World):Prop:=∃A1 c1 i c2,e=.returned (.tuple #[.agg #[.slice A1 x.1.length c1,.slice i x.2.length c2],.bool true])∧dz j w.heap.size [.slice A1 x.1.length c1,.slice i x.2.length c2] x∧Below w.heap.size w j
theorem CG (A:Option Addr) (c:Nat) (B:Option Addr) (d:Nat) (x:Ex) (w:World) (h1:bD w A x.1 c) (q:bD w B x.2 d):
  Calls Tryz.prog 104 #[.agg #[.slice A x.1.length c,.slice B x.2.length d]] w fun e j=>∃A1 c1 i c2,e=.returned (.agg #[.slice A1 x.1.length c1,.slice i x.2.length c2])∧dz j w.heap.size [.slice A1 x.1.length c1,.slice i x.2.length c2] x∧Below w.heap.size w j:=by
 refine (yZ [.slice A x.1.length c,.slice B x.2.length d] x w ⟨A,c,B,d,rfl,h1,q⟩).mono ?_
 rintro e j ⟨D,rfl,⟨u,v,rfl,p,o,y⟩,C⟩
 obtain ⟨A1,c1,rfl,_⟩:=aw p
 obtain ⟨i,c2,rfl,_⟩:=aw o
 exact ⟨A1,c1,i,c2,rfl,⟨_,_,rfl,p,o,y⟩,C⟩
theorem tv (n m:Nat) (A:Option Addr) (c:Nat) (B:Option Addr) (d:Nat) (x:Ex) (w:World) (hn:x.1.length=n) (hm:x.2.length=m) (h1:bD w A x.1 c) (o:bD w B x.2 d):
  Calls Tryz.prog 104 #[.agg #[.slice A n c,.slice B m d]] w fun e j=>∃A1 c1 i c2,e=.returned (.agg #[.slice A1 n c1,.slice i m c2])∧dz j w.heap.size [.slice A1 n c1,.slice i m c2] x∧Below w.heap.size w j:=by
 subst hn;subst hm;exact CG A c B d x w h1 o
theorem zb (A:Option Addr) (c:Nat) (B:Option Addr) (d:Nat) (x:Ex) (w:World) (h1:bD w A x.1 c) (X:bD w B x.2 d):
  Calls Tryz.prog 103 #[.agg #[.slice A x.1.length c,.slice B x.2.length d]] w (tF w x):=by
 have i:=fun n m (hn:x.1.length=n) (hm:x.2.length=m) V (k:Below w.heap.size w V)=>tv n m A c B d x V hn hm (h1.below k) (X.below k)
 unfold tF
 obtain ⟨n,hn⟩:∃n,x.1.length=n:=⟨_,rfl⟩
 obtain ⟨m,hm⟩:∃m,x.2.length=m:=⟨_,rfl⟩
 have i:=i n m hn hm
 rw [hn,hm]
 have O:=aa i;clear i hn hm h1 X
 go_enter Tryz.func103,Tryz.ntmps103
 go_wp2_with fail
 refine (O.out _ ?_).mono ?_
 ·exact al
 rintro e p ⟨A1,c1,o,c2,rfl,Y,q⟩
 have I:p.heap[w.heap.size+1]?=some (.cells #[KN,KN] 107 (0,0)):=(q.block (w.heap.size+1) (by simp)).trans (by rw [←show (w.alloc (.cells #[.slice A n c,.slice B m d] 107)).heap.size=w.heap.size+1 by simp];exact JE (w.alloc (.cells #[.slice A n c,.slice B m d] 107)) (.cells #[KN,KN] 107))
 have y:Below w.heap.size w p:=(((JG _ w).alloc (JD _) _).alloc (by simp) _).trans (q.mono (by first | omega | (simp;done) | (simp;omega)))
 have C:=Y.base (base':=w.heap.size) (by first | omega | (simp;done) | (simp;omega))
 have lz:=JC I
 obtain ⟨⟨z0,z1⟩,zf⟩:=bx2 I
 obtain ⟨N,D,R⟩:=af I y C;clear I y C q Y
 go_wp2_with fail
 have e1:=KG p (w.heap.size+1) 0 _ _ (.slice A1 n c1) N.out
 have e2:=KG _ (w.heap.size+1) 1 _ _ (.slice o m c2) e1
 have e3:((p.setCell ⟨w.heap.size+1,0,none⟩ (.slice A1 n c1)).setCell ⟨w.heap.size+1,1,none⟩ (.slice o m c2)).heap[w.heap.size+1]?=some (.cells #[.slice A1 n c1,.slice o m c2] 107 (0,0)):=by simpa using e2
 have H:Keep (fun j=>j=w.heap.size+1) p ((p.setCell ⟨w.heap.size+1,0,none⟩ (.slice A1 n c1)).setCell ⟨w.heap.size+1,1,none⟩ (.slice o m c2)):=Keep.setCell (S:=fun j=>j=w.heap.size+1) (Keep.setCell (S:=fun j=>j=w.heap.size+1) (Keep.refl _ _) ⟨w.heap.size+1,0,none⟩ (.inr rfl) _) ⟨w.heap.size+1,1,none⟩ (.inr rfl) _
 obtain ⟨T,Q⟩:∃T,T=(p.setCell ⟨w.heap.size+1,0,none⟩ (.slice A1 n c1)).setCell ⟨w.heap.size+1,1,none⟩ (.slice o m c2):=⟨_,rfl⟩
 rw [←Q] at e3 H ⊢
 obtain ⟨⟨x0,x1⟩,xf⟩:=bx2 e3
 have L:dz T w.heap.size [.slice A1 n c1,.slice o m c2] x:=by
  obtain ⟨u,v,e,U,Z,k3⟩:=R.out
  exact ⟨u,v,e,H.own U (fun j J e=>an N.out (by decide) U (by rw [J,e])),H.own Z (fun j J e=>an N.out (by decide) Z (by rw [J,e])),k3⟩
 exact JQ (v:=.tuple #[.agg #[.slice A1 n c1,.slice o m c2],.bool true]) (by simp [results,Tryz.results103,go_sem,x0,x1]) rfl ⟨A1,c1,o,c2,rfl,L,D.out.trans (H.toBelow D.out.size (fun j J=>by omega))⟩
theorem Ci (A:Option Addr) (l:List Ex) (c:Nat) (w:World) (h:cE rEx 2 w A l) (hl:l.length≤1048576):
  Calls Tryz.prog 102 #[.slice A l.length c,.func (.func 103) #[] #[]] w fun e U=>∃v,e=.returned (.tuple #[v,.bool true])∧iA w U l l.length v:=by
 obtain ⟨n,hn⟩:∃n,l.length=n:=⟨_,rfl⟩
 rw [hn] at hl ⊢
 obtain ⟨H,Hn⟩:=ae h hn;clear h hn
 go_enter Tryz.func102,Tryz.ntmps102
 go_wp2_with fail
 go_loopw [6,13] (fun v i wr=>∃k:Nat,k≤n∧i=KL k∧iA w wr l k v) (fun _ i _=>n-(intOf i).toNat)
 case atStart=>exact ⟨0,JH _,rfl,iA.zero w l⟩
 case round=>
  obtain ⟨k,hk,rfl,hM⟩:=hrel
  obtain ⟨Al,cl,rfl⟩:=hM.form
  by_cases a0:k<n
  ·obtain ⟨x,hx⟩:∃x,l[k]?=some x:=⟨_,Kh (by rw [Hn.out];exact a0)⟩
   have hb:=hM.b
   obtain ⟨b,o,A1,c1,A2,c2,rfl,a6,p1,p2,r1,r2⟩:=fl (H.out.below cY hb) hx
   have j:=fun U (q:Below wr.heap.size wr U)=>zb A1 c1 A2 c2 x U (r1.below q) (r2.below q)
   unfold tF at j
   obtain ⟨u,C⟩:∃u,x.1.length=u:=⟨_,rfl⟩
   obtain ⟨y,O⟩:∃y,x.2.length=y:=⟨_,rfl⟩
   rw [C] at p1 j;rw [O] at p2 j
   obtain ⟨a1,V,Hx⟩:=af j hM hx;clear j hM hx r1 r2 C O hb
   go_wp2_with fail
   refine (a1.out _ ?_).mono ?_
   ·exact al
   rintro e w3 ⟨Y,X,Z,T,rfl,ho,Q⟩
   have p:Below wr.heap.size wr w3:=((JG _ wr).alloc (JD _) _).trans (Q.mono (by first | omega | (simp;done) | (simp;omega)))
   have D:=(V.out.below p).below ((JG _ _).alloc (JD _) (.cells #[.slice Y u X,.slice Z y T] 107))
   have I:=(ho.base (base':=w.heap.size) (by have:=V.out.b.size;first | omega | (simp;done) | (simp;omega))).below ((JG _ _).alloc (JD _) (.cells #[.slice Y u X,.slice Z y T] 107))
   obtain ⟨a3,a4⟩:=ae D I;clear D I ho Q p p1 p2
   obtain ⟨a5,h1,h2,h3,h4,h5⟩:=a3.out
   obtain ⟨R1,R2,R3,R4,R5⟩:=ah h1 h2 h3 h4 h5;clear h1 h2 h3 h4 h5;have N:=aa (show (w3.alloc (.cells #[.slice Y u X,.slice Z y T] 107)).heap.size=w3.heap.size+1 by simp)
   go_wp2_with (at_builtin;refine aQ Fb _ rfl (.tmp 25) (.tmp 27) rfl w.heap.size (.slice Al k cl) k _ rfl R1.out [.slice Y u X,.slice Z y T] (congrArg (fun b:Nat=>Value.slice (some ⟨b,0,none⟩) 1 1) N.out.symm) rfl (by simp [Value.oneCell']) (by omega) (by unfold maxLen;omega) R5.out.size ?_)
   intro g6 c6 w6 B J L
   have R:=iA.push R1.out R2.out R3.out R4.out R5.out Hx.out a4.out B J L
   have a2:=aa R;clear B J L R
   go_wp2_with fail
   go_roundw
   case rel=>exact ⟨k+1,by omega,by go_num,a2.out⟩
   case measure=>simp [intOf];omega
  ·obtain rfl:n=k:=by omega
   have V:=aa hM;clear hM
   go_wp2_with fail
   go_ret2
   exact ⟨_,rfl,V.out⟩
theorem wO (A:Option Addr) (l:List Ex) (c:Nat) (w:World) (h:cE rEx 2 w A l) (hl:l.length≤1048576):
  Calls Tryz.prog 48 #[.slice A l.length c] w fun e j=>∃i o,e=.returned (.slice i l.length o)∧cE rEx 2 (fB w.heap.size j) i l∧Below w.heap.size w j:=by
 have hm:=Ci A l c w h hl
 obtain ⟨n,hn⟩:∃n,l.length=n:=⟨_,rfl⟩
 rw [hn] at hm ⊢
 obtain ⟨q,u⟩:=ae hm hn;clear hm hn h
 go_enter Tryz.func48,Tryz.ntmps48
 go_wp2_with fail
 refine q.out.mono ?_
 rintro e x ⟨v,rfl,hM⟩
 obtain ⟨i,o,rfl⟩:=hM.form
 have p:=aa hM;clear hM
 go_wp2
 go_ret
 exact ⟨_,_,rfl,p.out.doneT u.out,p.out.b⟩
def di (l:List Ex) (j:List Int):List Ex:=j.map fun i=>l.getD i.toNat ([],[])
theorem lT (l:List Ex) (i:List Int):(di l i).length=i.length:=by simp [di]
theorem vy (l:List Ex) (i:List Int) {k:Nat} (h:k<i.length):(di l i)[k]?=some (l.getD (nth i k).toNat ([],[])):=by simp [di,dI _ _ h,h]
theorem Bw (P n c:Nat) (A:Option Addr) (i:Int) (w:World) (hP:w.heap[P]?=some (.cells #[.slice A n c] 25 (0,0))) (B:i<0∨(n:Int)≤i):
  Calls Tryz.prog 174 #[KL i,.pointer (some ⟨P,0,none⟩)] w fun e C=>e=.returned (.tuple #[.agg #[KN,KN],.bool false])∧Below w.heap.size w C:=by
 obtain ⟨J,N⟩:=bx1 hP
 have H:=JC hP
 clear hP
 rcases Int.lt_or_le i 0 with y | y
 ·have I:i<0:=y
  clear B
  go_enter Tryz.func174,Tryz.ntmps174
  go_wp2_with fail
  have p:=JE w (.cells #[KN,KN] 107)
  obtain ⟨o,j⟩:∃o,o=w.alloc (.cells #[KN,KN] 107):=⟨_,rfl⟩
  have x:Below w.heap.size w o:=by rw [j];exact (JG _ _).alloc (JD _) _
  rw [←j] at p ⊢
  obtain ⟨⟨q,u⟩,D⟩:=bx2 p
  exact JQ (v:=.tuple #[.agg #[KN,KN],.bool false]) (by simp [results,Tryz.results174,go_sem,q,u]) rfl ⟨rfl,x⟩
 ·have h1:(n:Int)≤i:=by omega
  have L:¬i<0:=by omega
  clear B
  go_enter Tryz.func174,Tryz.ntmps174
  go_wp2_with fail
  have p:=JE w (.cells #[KN,KN] 107)
  obtain ⟨o,j⟩:∃o,o=w.alloc (.cells #[KN,KN] 107):=⟨_,rfl⟩
  have x:Below w.heap.size w o:=by rw [j];exact (JG _ _).alloc (JD _) _
  rw [←j] at p ⊢
  obtain ⟨⟨q,u⟩,D⟩:=bx2 p
  exact JQ (v:=.tuple #[.agg #[KN,KN],.bool false]) (by simp [results,Tryz.results174,go_sem,q,u]) rfl ⟨rfl,x⟩
theorem yr (P c j:Nat) (A:Option Addr) (l:List Ex) (x:Ex) (w:World) (hP:w.heap[P]?=some (.cells #[.slice A l.length c] 25 (0,0))) (h:cE rEx 2 w A l) (hx:l[j]?=some x):
  Calls Tryz.prog 174 #[KL j,.pointer (some ⟨P,0,none⟩)] w (tF w x):=by
 have H:=(Kg.1 hx).1
 obtain ⟨b,o,A1,c1,A2,c2,rfl,a0,p1,p2,r1,r2⟩:=fl h hx
 have i:=fun n m (hn:x.1.length=n) (hm:x.2.length=m) w' (k:Below w.heap.size w w')=>tv n m A1 c1 A2 c2 x w' hn hm (r1.below k) (r2.below k)
 unfold tF
 obtain ⟨n,hn⟩:∃n,x.1.length=n:=⟨_,rfl⟩
 obtain ⟨m,hm⟩:∃m,x.2.length=m:=⟨_,rfl⟩
 have i:=i n m hn hm
 rw [hn] at p1;rw [hm] at p2
 rw [hn,hm]
 obtain ⟨N,hN⟩:∃N,l.length=N:=⟨_,rfl⟩
 rw [hN] at hP H
 obtain ⟨p0,pf⟩:=bx1 hP
 have a3:=JC hP
 have a2:(j:Int)<N:=by omega
 have a4:¬((j:Int)<0):=by omega
 have a1:¬((N:Int)≤j):=by omega
 have U:=aa i;clear i hn hm r1 r2 hx h hN hP
 go_enter Tryz.func174,Tryz.ntmps174
 go_wp2_with fail
 refine (U.out _ ?_).mono ?_
 ·exact al
 rintro e C ⟨y,q,B,p,rfl,ho,D⟩
 have Q:C.heap[w.heap.size]?=some (.cells #[KN,KN] 107 (0,0)):=(D.block w.heap.size (by simp)).trans (JE w _)
 have I:Below w.heap.size w C:=((JG _ w).alloc (JD _) _).trans (D.mono (by first | omega | (simp;done) | (simp;omega)))
 have J:=ho.base (base':=w.heap.size) (by first | omega | (simp;done) | (simp;omega))
 have lz:=JC Q
 obtain ⟨⟨z0,z1⟩,zf⟩:=bx2 Q
 obtain ⟨T,L,X⟩:=af Q I J;clear Q I J D ho p0 pf p1 p2
 go_wp2_with fail
 have e1:=KG C w.heap.size 0 _ _ (.slice y n q) T.out
 have e2:=KG _ w.heap.size 1 _ _ (.slice B m p) e1
 have e3:((C.setCell ⟨w.heap.size,0,none⟩ (.slice y n q)).setCell ⟨w.heap.size,1,none⟩ (.slice B m p)).heap[w.heap.size]?=some (.cells #[.slice y n q,.slice B m p] 107 (0,0)):=by simpa using e2
 have O:Keep (fun j=>j=w.heap.size) C ((C.setCell ⟨w.heap.size,0,none⟩ (.slice y n q)).setCell ⟨w.heap.size,1,none⟩ (.slice B m p)):=Keep.setCell (S:=fun j=>j=w.heap.size) (Keep.setCell (S:=fun j=>j=w.heap.size) (Keep.refl _ _) ⟨w.heap.size,0,none⟩ (.inr rfl) _) ⟨w.heap.size,1,none⟩ (.inr rfl) _
 obtain ⟨Y,V⟩:∃Y,Y=(C.setCell ⟨w.heap.size,0,none⟩ (.slice y n q)).setCell ⟨w.heap.size,1,none⟩ (.slice B m p):=⟨_,rfl⟩
 rw [←V] at e3 O ⊢
 obtain ⟨⟨x0,x1⟩,xf⟩:=bx2 e3
 have R:dz Y w.heap.size [.slice y n q,.slice B m p] x:=by
  obtain ⟨u,v,e,Z,k2,k3⟩:=X.out
  exact ⟨u,v,e,O.own Z (fun j H e=>an T.out (by decide) Z (by rw [H,e])),O.own k2 (fun j H e=>an T.out (by decide) k2 (by rw [H,e])),k3⟩
 exact JQ (v:=.tuple #[.agg #[.slice y n q,.slice B m p],.bool true]) (by simp [results,Tryz.results174,go_sem,x0,x1]) rfl ⟨y,q,B,p,rfl,R,L.out.trans (O.toBelow L.out.size (fun j H=>by omega))⟩
def jn (n:Nat) (i:Int):Prop:=0≤i∧i<n
instance (n:Nat) (i:Int):Decidable (jn n i):=by unfold jn;exact inferInstance
def zq (l:List Ex) (i:List Int) (w:World) (e:Ending) (j:World):Prop:=Below w.heap.size w j∧
 (((∀k,k<i.length→jn l.length (nth i k))∧∃v,e=.returned (.tuple #[v,.bool true])∧iA w j (di l i) i.length v)∨((¬∀k,k<i.length→jn l.length (nth i k))∧e=.returned (.tuple #[KN,.bool false])))
theorem yJ (P c d:Nat) (A B:Option Addr) (l:List Ex) (q:List Int) (w:World) (hP:w.heap[P]?=some (.cells #[.slice A l.length c] 25 (0,0))) (h:cE rEx 2 w A l) (hl:l.length≤1048576) (hB:Rd w B (aq .i64 q)) (hi:q.length≤1048576):
  Calls Tryz.prog 173 #[.slice B q.length d,.func (.func 174) #[] #[.pointer (some ⟨P,0,none⟩)]] w (zq l q w):=by
 obtain ⟨n,hn⟩:∃n,q.length=n:=⟨_,rfl⟩
 unfold zq
 rw [hn] at hi ⊢
 obtain ⟨N,hN⟩:∃N,l.length=N:=⟨_,rfl⟩
 have Q:=lT l q
 have T:=fun k (hk:k<q.length)=>vy l q hk
 rw [hn] at Q T
 have ad:=hP
 rw [hN] at hl hP ⊢
 obtain ⟨H,Hn,HN,HB,HP,b1,b2,av⟩:=ak h hn hN hB hP ad Q T;clear h hn hN hB hP ad Q T
 go_enter Tryz.func173,Tryz.ntmps173
 go_wp2_with fail
 go_loopw [6,13] (fun v i wr=>∃k:Nat,k≤n∧i=KL k∧iA w wr (di l q) k v∧Hid (∀j,j<k→jn N (nth q j))) (fun _ i _=>n-(intOf i).toNat)
 case atStart=>exact ⟨0,JH _,rfl,iA.zero w _,Lib.hid fun j hj=>by omega⟩
 case round=>
  obtain ⟨k,hk,rfl,hM,L⟩:=hrel
  obtain ⟨Al,cl,rfl⟩:=hM.form
  by_cases O:k<n
  ·have Z:=hM.b
   obtain ⟨b,o,rfl,p⟩:=(HB.out.below Z).num (show k<q.length by rw [Hn.out];exact O)
   obtain ⟨i,y⟩:∃i,nth q k=i:=⟨_,rfl⟩
   rw [y] at p
   have D:=(Z.block P (JC HP.out)).trans HP.out
   by_cases hg:jn N i
   ·obtain ⟨j,rfl⟩:∃j:Nat,i=(j:Int):=⟨i.toNat,by have:=hg.1;omega⟩
    have aP:j<N:=by have:=hg.2;omega
    have I:=av.out k O
    rw [y,Int.toNat_natCast] at I
    have a5:j<l.length:=by rw [HN.out];exact aP
    obtain ⟨x,hx⟩:∃x,l[j]?=some x:=⟨_,Kh a5⟩
    have Y:l.getD j ([],[])=x:=by simp [hx]
    rw [Y] at I
    have u:=yr P c j A l x wr (by rw [HN.out];exact D) (H.out.below cY Z) hx
    unfold tF at u
    obtain ⟨V,a0⟩:∃V,x.1.length=V:=⟨_,rfl⟩
    obtain ⟨U,ab⟩:∃U,x.2.length=U:=⟨_,rfl⟩
    rw [a0,ab] at u
    obtain ⟨R,J,Hx,Hg,Hi⟩:=ah u hM I hg y;clear u hM hx a0 ab Z hg y I Y D a5
    go_wp2_with fail
    refine R.out.mono ?_
    rintro e w3 ⟨B1,d1,B2,d2,rfl,ho,C⟩
    have a1:=(J.out.below C).below ((JG _ _).alloc (JD _) (.cells #[.slice B1 V d1,.slice B2 U d2] 107))
    have a2:=(ho.base (base':=w.heap.size) J.out.b.size).below ((JG _ _).alloc (JD _) (.cells #[.slice B1 V d1,.slice B2 U d2] 107))
    obtain ⟨aM,aR⟩:=ae a1 a2;clear a1 a2 ho C p
    obtain ⟨b0,h1,h2,h3,h4,h5⟩:=aM.out
    obtain ⟨R1,R2,R3,R4,R5⟩:=ah h1 h2 h3 h4 h5;clear h1 h2 h3 h4 h5;have a8:=aa (show (w3.alloc (.cells #[.slice B1 V d1,.slice B2 U d2] 107)).heap.size=w3.heap.size+1 by simp)
    go_wp2_with (at_builtin;refine aQ Fb _ rfl (.tmp 25) (.tmp 27) rfl w.heap.size (.slice Al k cl) k _ rfl R1.out [.slice B1 V d1,.slice B2 U d2] (congrArg (fun b:Nat=>Value.slice (some ⟨b,0,none⟩) 1 1) a8.out.symm) rfl (by simp [Value.oneCell']) (by omega) (by unfold maxLen;omega) R5.out.size ?_)
    intro g6 c6 w6 X a6 a7
    have ao:=iA.push R1.out R2.out R3.out R4.out R5.out Hx.out aR.out X a6 a7
    have aG:=aa ao;clear X a6 a7 ao
    go_wp2_with fail
    go_roundw
    case rel=>exact ⟨k+1,by omega,by go_num,aG.out,Lib.hid (p:=∀j,j<k+1→jn N (nth q j)) fun t ht=>by
     rcases JR t k with h | h
     ·exact L.out t h
     ·obtain rfl:t=k:=by omega
      rw [Hi.out];exact Hg.out⟩
    case measure=>simp [intOf];omega
   ·have a3:i<0∨(N:Int)≤i:=by unfold jn at hg;omega
    have u:=Bw P N c A i wr D a3
    obtain ⟨R,J,Hg,Hi⟩:=ag u hM hg y;clear u hM Z hg a3 y D
    go_wp2_with fail
    refine R.out.mono ?_
    rintro e w3 ⟨rfl,C⟩
    have a4:=aa (J.out.b.trans (C.mono J.out.b.size));clear C p
    go_wp2_with fail
    go_ret2
    exact ⟨a4.out.alloc a4.out.size _,.inr ⟨fun h=>Hg.out (by have:=h k O;rwa [Hi.out] at this),rfl⟩⟩
  ·obtain rfl:n=k:=by omega
   have J:=aa hM;clear hM
   go_wp2_with fail
   go_ret2
   exact ⟨J.out.b,.inl ⟨L.out,_,rfl,J.out⟩⟩
def eH (a b:Nat) (x:Ex):Prop:=x.1.length=a∧x.2.length=b
instance (a b:Nat) (x:Ex):Decidable (eH a b x):=by unfold eH;exact inferInstance
theorem zc (v x n m a b c d:Nat) (A B:Option Addr) (w:World) (h1:w.heap[v]?=some (.cells #[KL a] 3 (0,0))) (q:w.heap[x]?=some (.cells #[KL b] 3 (0,0))):
  Calls Tryz.prog 134 #[.agg #[.slice A n c,.slice B m d],.pointer (some ⟨v,0,none⟩),.pointer (some ⟨x,0,none⟩)] w fun e y=>e=.returned (.bool (!decide (n=a∧m=b)))∧Below w.heap.size w y:=by
 obtain ⟨H,L⟩:=bx1 h1
 obtain ⟨D,C⟩:=bx1 q
 have I:=JC h1
 have J:=JC q
 clear h1 q
 by_cases j:n=a
 ·by_cases p:m=b
  ·have o:((n:Int) != (a:Int))=false:=by rw [j];simp
   have u:((m:Int) != (b:Int))=false:=by rw [p];simp
   have i:(!decide (n=a∧m=b))=false:=by simp [j,p]
   rw [i]
   clear j p i
   go_enter Tryz.func134,Tryz.ntmps134
   go_wp2
   go_ret
   exact ⟨rfl,(JG _ w).alloc (JD _) _⟩
  ·have o:((n:Int) != (a:Int))=false:=by rw [j];simp
   have u:((m:Int) != (b:Int))=true:=by rw [bne_iff_ne];omega
   have i:(!decide (n=a∧m=b))=true:=by simp [p]
   rw [i]
   clear j p i
   go_enter Tryz.func134,Tryz.ntmps134
   go_wp2
   go_ret
   exact ⟨rfl,(JG _ w).alloc (JD _) _⟩
 ·have o:((n:Int) != (a:Int))=true:=by rw [bne_iff_ne];omega
  have i:(!decide (n=a∧m=b))=true:=by simp [j]
  rw [i]
  clear j i
  go_enter Tryz.func134,Tryz.ntmps134
  go_wp2
  go_ret
  exact ⟨rfl,(JG _ w).alloc (JD _) _⟩
def uK (l:List Ex) (a b:Nat) (w:World) (e:Ending) (i:World):Prop:=∃d:Int,e=.returned (KL d)∧ -1≤d∧d≤1048576∧(d<0↔∀x∈l,eH a b x)∧Below w.heap.size w i
theorem wE (V X a b c:Nat) (A:Option Addr) (l:List Ex) (w:World) (h1:w.heap[V]?=some (.cells #[KL a] 3 (0,0))) (R:w.heap[X]?=some (.cells #[KL b] 3 (0,0))) (h:cE rEx 2 w A l) (hl:l.length≤1048576):
  Calls Tryz.prog 133 #[.slice A l.length c,.func (.func 134) #[] #[.pointer (some ⟨V,0,none⟩),.pointer (some ⟨X,0,none⟩)]] w (uK l a b w):=by
 unfold uK
 have L:=fun n m A c B d Z (k:Below w.heap.size w Z)=>zc V X n m a b c d A B Z ((k.block _ (JC h1)).trans h1) ((k.block _ (JC R)).trans R)
 obtain ⟨n,hn⟩:∃n,l.length=n:=⟨_,rfl⟩
 rw [hn] at hl ⊢
 obtain ⟨H,Hn,T⟩:=af h hn L;clear h hn L h1 R
 go_enter Tryz.func133,Tryz.ntmps133
 go_wp2_with fail
 go_loopw [5,8] (fun _ i wr=>∃k:Nat,k≤n∧i=KL k∧Hid (∀j x,j<k→l[j]?=some x→eH a b x)∧Below w.heap.size w wr) (fun _ i _=>n-(intOf i).toNat)
 case atStart=>exact ⟨0,JH _,rfl,Lib.hid fun j x N=>by omega,JG _ _⟩
 case round=>
  obtain ⟨k,hk,rfl,v,u⟩:=hrel
  by_cases O:k<n
  ·obtain ⟨x,hx⟩:∃x,l[k]?=some x:=⟨_,Kh (by rw [Hn.out];exact O)⟩
   obtain ⟨b',o,A1,c1,A2,c2,rfl,a0,p1,p2,r1,r2⟩:=fl (H.out.below cY u) hx
   have hc:=T.out x.1.length x.2.length A1 c1 A2 c2 wr u
   by_cases I:eH a b x
   ·have J:(!decide (x.1.length=a∧x.2.length=b))=false:=by
     have:=I;unfold eH at this;simp [this.1,this.2]
    rw [J] at hc
    obtain ⟨U,Q,Y,C⟩:=ag hc hx I u;clear hc hx I J r1 r2 u
    go_wp2_with fail
    refine U.out.mono ?_
    rintro e w1 ⟨rfl,q⟩
    have D:=aa (C.out.trans (q.mono C.out.size));clear q p1 p2
    go_wp2_with fail
    go_roundw
    case rel=>exact ⟨k+1,by omega,by go_num,Lib.hid (p:=∀j x,j<k+1→l[j]?=some x→eH a b x) fun j y N hy=>by
     rcases JR j k with h | h
     ·exact v.out j y h hy
     ·obtain rfl:j=k:=by omega
      have:=Q.out;rw [hy] at this;injection this with this;rw [this];exact Y.out,D.out⟩
    case measure=>simp [intOf];omega
   ·have J:(!decide (x.1.length=a∧x.2.length=b))=true:=by
     have:=I;unfold eH at this;simp only [Bool.not_eq_true',KE];exact this
    rw [J] at hc
    obtain ⟨U,Q,Y,C⟩:=ag hc hx I u;clear hc hx I J r1 r2 u
    go_wp2_with fail
    refine U.out.mono ?_
    rintro e w1 ⟨rfl,q⟩
    have D:=aa (C.out.trans (q.mono C.out.size));clear q p1 p2
    go_wp2_with fail
    go_ret
    exact ⟨k,rfl,by omega,by omega,⟨fun h=>by omega,fun h=>absurd (h x (List.mem_of_getElem? Q.out)) Y.out⟩,D.out⟩
  ·obtain rfl:n=k:=by omega
   have C:=aa u;clear u
   go_wp2_with fail
   go_ret
   refine ⟨-1,rfl,by omega,by omega,⟨fun _ x hx=>?_,fun _=>by omega⟩,C.out⟩
   obtain ⟨j,N⟩:=List.getElem?_of_mem hx
   exact v.out j x (by have:=(Kg.1 N).1;have:=Hn.out;omega) N
def pw (l:List Ex) (a b:Nat) (w:World) (e:Ending) (i:World):Prop:=Below w.heap.size w i∧∃d:Int,((∀x∈l,eH a b x)∧e=.returned (.tuple #[KL d,.bool true]))∨((¬∀x∈l,eH a b x)∧e=.returned (.tuple #[KL d,.bool false]))
theorem yY (a b c:Nat) (A:Option Addr) (l:List Ex) (w:World) (h:cE rEx 2 w A l) (hl:l.length≤1048576):
  Calls Tryz.prog 89 #[.slice A l.length c,KL a,KL b] w (pw l a b w):=by
 have p:∀(x v:Obj),Below w.heap.size w ((w.alloc x).alloc v):=fun x v=>((JG _ w).alloc (JD _) _).alloc (by simp) _
 have o:=wE w.heap.size (w.heap.size+1) a b c A l ((w.alloc (.cells #[KL a] 3)).alloc (.cells #[KL b] 3)) ((JP _ _ _ (by simp)).trans (JE w _))
  (by have:=JE (w.alloc (.cells #[KL a] 3)) (.cells #[KL b] 3);rwa [show (w.alloc (.cells #[KL a] 3)).heap.size=w.heap.size+1 by simp] at this) (h.below cY (p _ _)) hl
 obtain ⟨n,hn⟩:∃n,l.length=n:=⟨_,rfl⟩
 unfold uK at o
 unfold pw
 rw [hn] at o ⊢
 obtain ⟨H,I⟩:=ae o p;clear o p h hn
 go_enter Tryz.func89,Tryz.ntmps89
 go_wp2_with fail
 refine H.out.mono ?_
 rintro e J ⟨d,rfl,B,y,j,u⟩
 obtain ⟨q,i⟩:=ae ((I.out (.cells #[KL a] 3) (.cells #[KL b] 3)).trans (u.mono (by simp;omega))) j;clear u j
 by_cases D:d<0
 ·have C:decide (d<0)=true:=by simp;omega
  go_wp2_with fail
  all_goals
   go_ret2
   exact ⟨q.out,_,.inl ⟨i.out.1 D,rfl⟩⟩
 ·have C:decide (d<0)=false:=by simp;omega
  go_wp2_with fail
  all_goals
   go_ret2
   exact ⟨q.out,_,.inr ⟨fun h=>by have:=i.out.2 h;omega,rfl⟩⟩
def swp (p:List Int) (i j:Nat):List Int:=(p.set i (nth p j)).set j (nth p i)
theorem FV (p:List Int) (i j:Nat):(swp p i j).length=p.length:=by simp [swp]
theorem zu {p:List Int} {i j:Nat} (q:i<p.length) (o:j<p.length) (k:Nat):nth (swp p i j) k=if k=j then nth p i else if k=i then nth p j else nth p k:=by
 unfold swp
 rw [fZ,fZ,List.length_set]
 simp only [q,o,and_true]
theorem uN {p:List Int} {i j:Nat} (u:i<p.length) (q:j<p.length):(p.set j (nth p i)).set i (nth p j)=swp p i j:=by
 refine iH (by simp [swp]) fun k v=>?_
 rw [zu u q,fZ,fZ,List.length_set]
 simp only [u,q,and_true]
 by_cases h1:k=i
 ·subst h1
  by_cases o:k=j
  ·subst o;simp
  ·simp [o]
 ·simp [h1]
def rj (n:Nat):List Int:=dh n fun k=>(k:Int)
theorem EF (n:Nat):(rj n).length=n:=bR _ _
def fU (n:Nat) (d:Nat→Nat):Nat→List Int
 | 0=>rj n
 | k+1=>swp (fU n d k) (n-1-k) (d k)
theorem jS (n:Nat) (d:Nat→Nat) (k:Nat):(fU n d k).length=n:=by
 induction k with
 | zero=>exact EF n
 | succ k ih=>rw [fU,FV,ih]
theorem Ds {n:Nat} {d:Nat→Nat} (k:Nat) (q:∀j,j<k→d j<n-j) (u:k≤n-1):∀i,i<n→0≤nth (fU n d k) i∧nth (fU n d k) i<n:=by
 induction k with
 | zero=>intro i p;unfold fU rj;rw [bj _ p];omega
 | succ k o=>
  have o:=o (fun j v=>q j (by omega)) (by omega)
  have h1:=q k (by omega)
  intro i p
  rw [fU,zu (by rw [jS];omega) (by rw [jS];omega)]
  split
  ·exact o _ (by omega)
  ·split
   ·exact o _ (by omega)
   ·exact o _ p
def gr (l:List Int) (n i k:Nat):Nat:=(nth l (i+k)%((n-k:Nat):Int)).toNat
theorem rE (l:List Int) {n i k:Nat} (h:k<n):gr l n i k<n-k:=by
 unfold gr
 have h1:=Int.emod_nonneg (nth l (i+k)) (show ((n-k:Nat):Int)≠0 by omega)
 have j:=Int.emod_lt_of_pos (nth l (i+k)) (show (0:Int)<((n-k:Nat):Int) by omega)
 omega
theorem tt (l:List Int) {n i k:Nat} (h:k<n):(gr l n i k:Int)=nth l (i+k)%((n-k:Nat):Int):=by
 unfold gr
 have h1:=Int.emod_nonneg (nth l (i+k)) (show ((n-k:Nat):Int)≠0 by omega)
 omega
def fz (l:List Int) (n i:Nat):List Int:=fU n (gr l n i) (n-1)
theorem iN (l:List Int) (n i:Nat):(fz l n i).length=n:=jS _ _ _
theorem D5 (l:List Int) (n i:Nat):∀k,k<n→0≤nth (fz l n i) k∧nth (fz l n i) k<n:=Ds _ (fun j o=>rE l (by omega)) (JD _)
def iF (l:List Int) (n e:Nat):List (List Int):=(List.range e).map fun k=>fz l n (k*(n-1))
theorem pM (l:List Int) (n e:Nat):(iF l n e).length=e:=by simp [iF]
theorem qQ (l:List Int) (n:Nat) {e k:Nat} (h:k<e):(iF l n e)[k]?=some (fz l n (k*(n-1))):=by simp [iF,h]
end Go.Proofs.YtaccfnffmbndhaaGreat
