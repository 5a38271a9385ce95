/- No condition. -/
import Derived.Test.YtaccfnffmbndhaaGreatC00
import Derived.Test.YtaccfnffmbndhaaGreatC08
import Derived.RegionTactic
import Derived.BigRegion
import Derived.Test.YtaccfnffmbndhaaGreatC02
import Derived.Test.YtaccfnffmbndhaaGreatC03
import Derived.Test.YtaccfnffmbndhaaGreatC01
import Derived.Deep.DeepCutAuto
import Derived.Test.YtaccfnffmbndhaaGreatC05
set_option linter.unusedSimpArgs false
set_option linter.unusedVariables false
set_option maxRecDepth 100000
set_option maxHeartbeats 4000000
namespace Go.Proofs.YtaccfnffmbndhaaGreat
open Go.RowKit
theorem EC (n:Int) (w:World) (h:1≤n):Calls Tryz.prog 165 #[KL n] w fun e i=>e=.returned (.bool false)∧w=i:=by
 have h1:¬n<1:=by omega
 go_enter Tryz.func165,Tryz.ntmps165
 go_wp2
 go_ret
 exact ⟨cP (by first | rfl | (simp;omega) | (simp;done)),rfl⟩
theorem yE (A:Option Addr) (l:List Int) (c:Nat) (w:World) (hA:Rd w A (aq .i64 l)) (hl:l.length≤17592186043904) (x:∀k,k<l.length→1≤nth l k):
  Calls Tryz.prog 137 #[.slice A l.length c,.func (.func 165) #[] #[]] w fun e v=>e=.returned (KL (-1))∧w=v:=by
 obtain ⟨n,hn⟩:∃n,l.length=n:=⟨_,rfl⟩
 have hw:=fun k (u:k<l.length)=>EC (nth l k) w (x k u)
 rw [hn] at hl hw ⊢
 obtain ⟨HA,B,y⟩:=af hA hn hw;clear hA hn hw x
 go_enter Tryz.func137,Tryz.ntmps137
 go_wp2_with fail
 go_loop [5,8] (fun _ i=>∃k:Nat,k≤n∧i=KL k) (fun _ i=>n-(intOf i).toNat)
 case atStart=>exact ⟨0,JH _,rfl⟩
 case round=>
  obtain ⟨k,u,rfl⟩:=hrel
  by_cases j:k<n
  ·obtain ⟨b,o,rfl,p⟩:=HA.out.num (show k<l.length by rw [B.out];exact j)
   have hw:=y.out k j
   have q:=aa hw;clear hw
   go_wp2_with fail
   refine q.out.mono ?_
   rintro e v ⟨rfl,rfl⟩
   go_wp2_with fail
   go_round
   case rel=>exact ⟨k+1,by omega,by go_num⟩
   case measure=>simp [intOf];omega
  ·obtain rfl:k=n:=by omega
   go_wp2_with fail
   go_ret
   exact ⟨rfl,rfl⟩
theorem um (A:Option Addr) (l:List Int) (c:Nat) (w:World) (hA:Rd w A (aq .i64 l)) (hl:l.length≤17592186043904) (j:∀k,k<l.length→1≤nth l k):
  Calls Tryz.prog 92 #[.slice A l.length c,.func (.func 165) #[] #[]] w fun e i=>e=.returned (.bool false)∧w=i:=by
 have o:=yE A l c w hA hl j
 have p:=aa o;clear o hA j
 go_enter Tryz.func92,Tryz.ntmps92
 go_wp2_with fail
 refine p.out.mono ?_
 rintro e i ⟨rfl,rfl⟩
 go_wp2
 go_ret
 exact ⟨rfl,rfl⟩
theorem Cv (n:Nat) (w:World) (hn:n≤1048576):
  Calls Tryz.prog 140 #[KL n] w fun e D=>∃v,e=.returned v∧D.ownsRow w.heap.size 3 1 v n (aq .i64 (rj n))∧Below w.heap.size w D:=by
 go_enter Tryz.func140,Tryz.ntmps140
 go_wp2_with fail
 go_loopw [3,6] (fun v i wr=>∃k:Nat,k≤n∧i=KL k∧wr.ownsRow w.heap.size 3 1 v k (aq .i64 (rj k))∧Below w.heap.size w wr) (fun _ i _=>n-(intOf i).toNat)
 case atStart=>exact ⟨0,JH _,rfl,JO _ _ _ _,JG _ _⟩
 case round=>
  obtain ⟨k,O,rfl,j,x⟩:=hrel
  by_cases H:k<n
  ·obtain ⟨I,J,rfl,_⟩:=aw j
   obtain ⟨o,y⟩:=ae j x;clear j x
   go_wp2_with (at_builtin;refine aQ gq _ rfl (.tmp 9) (.tmp 11) rfl w.heap.size (.slice I k J) k _ rfl o.out [KL (k:Int)] rfl rfl (bP .i64 [_]) (by omega) (by unfold maxLen;omega) y.out.size ?_)
   intro L Q N q u C
   have p:=y.out.trans u
   obtain ⟨B,A⟩:=ae q p;clear q u C p
   go_wp2_with fail
   go_roundw
   case rel=>
    refine ⟨k+1,by omega,by go_num,?_,A.out⟩
    have:rj (k+1)=rj k++[(k:Int)]:=gK _ _
    rw [this,cD];exact B.out
   case measure=>simp [intOf];omega
  ·obtain rfl:k=n:=by omega
   obtain ⟨o,y⟩:=ae j x;clear j x
   go_wp2_with fail
   go_ret
   exact ⟨_,rfl,o.out,y.out⟩
theorem EB (b c i:Nat) (A:Option Addr) (l:List Int) (B:Option Addr) (q:List Int) (d:Nat) (w:World) (h:bS w b A c l i) (hi:i+q.length≤l.length) (hl:l.length≤1048576) (hu:U64 l)
  (hB:Rd w B (aq .i64 q)) (V:∀a,B=some a→a.block≠b) (hbs:∀k,k<q.length→1≤nth q k∧nth q k≤1048576):
  Calls Tryz.prog 139 #[.pointer (some ⟨b,0,none⟩),.slice B q.length d] w fun e I=>∃v,e=.returned (.tuple #[v,.bool true])∧I.ownsRow w.heap.size 3 1 v q.length (aq .i64 (dh q.length fun k=>nth l (i+k)%nth q k))∧bS I b A c l (i+q.length)∧Keep (fun j=>j=b) w I:=by
 have Q:=pH b c i A l w h (by omega) (by omega)
 have J:=fun n=>um B q d (w.drewN n) (hB.drewN n) (by omega) (fun k hk=>(hbs k hk).1)
 have hnx:=fun j m I (h:bS I b A c l j) (hj:j<l.length)=>uQ b c j m A l I h hj (by omega) hu
 obtain ⟨n,hn⟩:∃n,q.length=n:=⟨_,rfl⟩
 rw [hn] at hi J hbs ⊢
 obtain ⟨N,hN⟩:∃N,l.length=N:=⟨_,rfl⟩
 rw [hN] at hi hl Q hnx
 have a7:=h.lt
 obtain ⟨a6,a5,a4,H,HB,Hn,aG,ao⟩:=ak Q J hnx h hB hn hbs V;clear Q J hnx h hB hn hbs hu V hN
 have hq:decide (((N-i:Nat):Int)<(n:Int))=false:=by simp;omega
 have aR:decide (N-i<n)=false:=by simp;omega
 go_enter Tryz.func139,Tryz.ntmps139
 go_wp2_with fail
 refine a6.out.mono ?_
 rintro e I ⟨rfl,a,rfl⟩
 go_wp2_with fail
 refine (a5.out a).mono ?_
 rintro e I ⟨rfl,rfl⟩
 clear hq aR
 go_wp2_with fail
 go_loopw [6,26] (fun v x wr=>∃k:Nat,k≤n∧x=KL k∧wr.ownsRow w.heap.size 3 1 v k (aq .i64 (dh k fun k=>nth l (i+k)%nth q k))∧bS wr b A c l (i+k)∧Keep (fun j=>j=b) w wr) (fun _ x _=>n-(intOf x).toNat)
 case atStart=>exact ⟨0,JH _,rfl,JO _ _ _ _,H.out.drewN a,(Keep.refl _ _).drewN a⟩
 case round=>
  obtain ⟨k,hk,rfl,o,hS,R⟩:=hrel
  by_cases U:k<n
  ·obtain ⟨Al,cl,rfl,_⟩:=aw o
   have a0:=R.rd HB.out (fun a ha e=>ao.out a ha e)
   obtain ⟨bB,oB,rfl,p⟩:=a0.num (show k<q.length by rw [Hn.out];exact U)
   have aP:=aG.out k U
   obtain ⟨m,hm⟩:∃m:Nat,nth q k=(m:Int):=⟨(nth q k).toNat,by omega⟩
   rw [hm] at p aP
   have hnx:=a4.out (i+k) m wr hS (by omega) (by omega) (by omega)
   obtain ⟨y,hy⟩:∃y,nth l (i+k)%(m:Int)=y:=⟨_,rfl⟩
   rw [hy] at hnx
   have b1:=R.size
   have a2:=o.lt
   obtain ⟨u,HK,Hm,a1,Hy,ab⟩:=ai o R hm hnx hy a2;clear o R hS a0 hm hnx hy a2
   go_wp2_with fail
   refine a1.out.mono ?_
   rintro e w1 ⟨rfl,Z,D⟩
   have C:=D.own u.out (fun x hx e=>by have:=(ab.out x hx).1;omega)
   have b0:=D.size
   obtain ⟨a8,ad,O⟩:=af Z D C;clear Z D C
   go_wp2_with (at_builtin;refine aQ gq _ rfl (.tmp 36) (.tmp 38) rfl w.heap.size (.slice Al k cl) k _ rfl O.out [KL y] rfl rfl (bP .i64 [_]) (by omega) (by unfold maxLen;omega) (by omega) ?_)
   intro g6 c6 w6 T L aM
   obtain ⟨av,a3⟩:=ae T L
   have X:=(HK.out.trans ad.out).below2 L
   have Y:=aa X;clear T L aM X
   go_wp2_with fail
   go_roundw
   case rel=>
    refine ⟨k+1,by omega,by go_num,?_,?_,Y.out⟩
    ·rw [gK,cD,Hm.out,Hy.out];exact av.out
    ·exact ⟨(a3.out.block b a7).trans a8.out.blk,Y.out.rd H.out.rd (fun a ha e=>H.out.ne a ha e),H.out.ne⟩
   case measure=>simp [intOf];omega
  ·obtain rfl:k=n:=by omega
   obtain ⟨u,HK,HS⟩:=af o R hS;clear o R hS
   go_wp2_with fail
   go_ret2
   exact ⟨_,rfl,u.out,HS.out,HK.out⟩
theorem jo {w:World} {p q:Addr} {x v:Value} (h:w.cell? q=some v):∃v',(w.setCell p x).cell? q=some v':=by
 by_cases e:p=q
 ·subst e;exact ⟨x,World.cell?_setCell_same w p x h⟩
 ·exact ⟨v,(World.cell?_setCell_other w p q x e).trans h⟩
theorem fG {w:World} {base size n c m:Nat} {e:TypeId} {A:Option Addr} {xs:List Value} (h:w.ownsRow base e size (.slice A n c) m xs):∀a,A=some a→base≤a.block∧a.block<w.heap.size:=fun a j=>by
 subst j
 rcases h.2 with ⟨hn,_⟩ | ⟨g,cap,i,hv,_⟩
 ·cases hn
 ·simp only [Ku,Option.some.injEq] at hv
  obtain ⟨rfl,_,_⟩:=hv
  exact h.lt g rfl
theorem Dk (P g n c base i j:Nat) (p:List Int) (w:World) (hP:w.heap[P]?=some (.cells #[.slice (some ⟨g,0,none⟩) n c] 22 (0,0))) (o:w.ownsRow base 3 1 (.slice (some ⟨g,0,none⟩) n c) n (aq .i64 p)) (T:i<n) (V:j<n) (hn:n≤1048576):
  Calls Tryz.prog 141 #[KL i,KL j,.pointer (some ⟨P,0,none⟩)] w fun e B=>e=.returned (.tuple #[])∧B.ownsRow base 3 1 (.slice (some ⟨g,0,none⟩) n c) n (aq .i64 (swp p i j))∧Keep (fun k=>k=g) w B:=by
 have y:=jz o
 have O:=cq o T
 have D:=cq o V
 have Y:=o.frozenAt i
 have Z:=o.frozenAt j
 have v:=uN (p:=p) (i:=i) (j:=j) (by omega) (by omega)
 obtain ⟨A,X⟩:=bx1 hP
 have R:(i:Int)<n:=by omega
 have N:(j:Int)<n:=by omega
 have u:g≠P:=fun e=>an hP (by decide) o (by rw [←e];rfl)
 have L:=(World.cell?_setCell_other w ⟨g,i,none⟩ ⟨P,0,none⟩ (KL (nth p j)) (by simp [u])).trans A
 have C:=(World.cell?_setCell_other w ⟨g,j,none⟩ ⟨P,0,none⟩ (KL (nth p i)) (by simp [u])).trans A
 obtain ⟨v1,H⟩:=jo (w:=w) (p:=⟨g,i,none⟩) (x:=KL (nth p j)) (q:=⟨g,j,none⟩) D
 obtain ⟨v2,I⟩:=jo (w:=w) (p:=⟨g,j,none⟩) (x:=KL (nth p i)) (q:=⟨g,i,none⟩) O
 obtain ⟨Q,U,J⟩:=af o y v;clear o y hP v
 go_enter Tryz.func141,Tryz.ntmps141
 go_wp2_with fail
 go_region
 all_goals go_wp2_with fail
 all_goals
  go_end0
  refine ⟨rfl,?_,?_⟩
 ·exact bC (dA (dA Q.out i _) j _) 1
 ·exact (Keep.setCell (S:=fun k=>k=g) (Keep.setCell (S:=fun k=>k=g) (Keep.refl _ w) ⟨g,i,none⟩ (.inr rfl) _) ⟨g,j,none⟩ (.inr rfl) _).drew
theorem uV (n b c i:Nat) (A:Option Addr) (l:List Int) (w:World) (h:bS w b A c l i) (hn:1≤n) (b1:n≤1048576) (hi:i+(n-1)≤l.length) (hl:l.length≤1048576) (hu:U64 l):
  Calls Tryz.prog 97 #[KL n,.pointer (some ⟨b,0,none⟩)] w fun e L=>∃v,e=.returned (.tuple #[v,.bool true])∧L.ownsRow w.heap.size 3 1 v n (aq .i64 (fz l n i))∧bS L b A c l (i+(n-1))∧Keep (fun j=>j=b) w L:=by
 obtain ⟨m,hm⟩:∃m,n-1=m:=⟨_,rfl⟩
 rw [hm] at hi ⊢
 have b2:fz l n i=fU n (gr l n i) m:=by unfold fz;rw [hm]
 rw [b2]
 have bV:m<n:=by omega
 have bN:n≤m+1:=by omega
 clear hm b2
 have N:=fun B d L (h:bS L b A c l i) (hB:Rd L B (aq .i64 (dh m fun k=>((n-k:Nat):Int)))) C=>EB b c i A l B (dh m fun k=>((n-k:Nat):Int)) d L h (by rw [bR];exact hi) hl hu hB C (fun k hk=>by rw [bR] at hk;rw [bj _ hk];omega)
 simp only [bR] at N
 have he:(dh m fun k=>nth l (i+k)%nth (dh m fun k=>((n-k:Nat):Int)) k)=dh m fun k=>(gr l n i k:Int):=fK fun k hk=>by rw [bj _ hk,tt l (by omega)]
 rw [he] at N
 have aG:=fun L=>Cv n L b1
 have bX:=h.lt
 obtain ⟨bG,a6,H⟩:=af N aG h;clear N he aG h hu
 go_enter Tryz.func97,Tryz.ntmps97
 go_wp2_with fail
 go_loopw [6,7] (fun v x wr=>∃k:Nat,k≤m∧x=KL ((n:Int)-k)∧wr.ownsRow w.heap.size 3 1 v k (aq .i64 (dh k fun k=>((n-k:Nat):Int)))∧Below w.heap.size w wr) (fun _ x _=>(intOf x).toNat)
 case atStart=>exact ⟨0,JH _,by go_num,JO _ _ _ _,JG _ _⟩
 case round=>
  obtain ⟨k,hk,rfl,o,hb⟩:=hrel
  by_cases U:k<m
  ·obtain ⟨Al,cl,rfl,_⟩:=aw o
   obtain ⟨y,Hb⟩:=ae o hb;clear o hb
   go_wp2_with (at_builtin;refine aQ gq _ rfl (.tmp 29) (.tmp 31) rfl w.heap.size (.slice Al k cl) k _ rfl y.out [KL ((n:Int)-k)] rfl rfl (bP .i64 [_]) (by omega) (by unfold maxLen;omega) Hb.out.size ?_)
   intro g6 c6 w6 ab ao bv
   have Q:=Hb.out.trans ao
   obtain ⟨bs,b9⟩:=ae ab Q;clear ab ao bv Q
   go_wp2_with fail
   go_roundw
   case rel=>
    refine ⟨k+1,by omega,by go_num,?_,b9.out⟩
    rw [gK,cD,show ((n-k:Nat):Int)=(n:Int)-k by omega];exact bs.out
   case measure=>simp [intOf];omega
  ·obtain rfl:m=k:=by omega
   obtain ⟨Al,cl,rfl,_⟩:=aw o
   have C:∀a,Al=some a→a.block≠b:=fun a ha e=>by
    subst ha
    have:=fG o a rfl
    omega
   have b3:=bG.out Al cl wr (H.out.below hb) (Rd.own o) C
   obtain ⟨bo,Hb⟩:=ae b3 hb;clear o hb b3 C
   obtain ⟨wq,rfl⟩:∃wq:World,wq=wr:=⟨_,rfl⟩
   go_wp2_with fail
   refine bo.out.mono ?_
   rintro e w1 ⟨v1,rfl,J,b0,R⟩
   obtain ⟨A1,c1,rfl,_⟩:=aw J
   have a0:=fG J
   have a4:=Rd.own J
   have c7:=R.size
   have V:=(Keep.below (S:=fun j=>j=b) Hb.out).trans R
   have bU:=V.size
   obtain ⟨b4,b5,b8,b6⟩:=ag b0 V a4 a0;clear b0 R a4 J a0 V
   go_wp2_with fail
   refine (a6.out w1).mono ?_
   rintro e w2 ⟨v2,rfl,I,Y⟩
   obtain ⟨g,c2,rfl,_⟩:=I.form hn
   have b7:=Y.size
   have bO:=I.lt g rfl
   have hP:=JE w2 (.cells #[.slice (some ⟨g,0,none⟩) n c2] 22)
   have T:=Y.alloc b7 (.cells #[.slice (some ⟨g,0,none⟩) n c2] 22)
   have aP:=I.alloc (.cells #[.slice (some ⟨g,0,none⟩) n c2] 22)
   have a8:=b8.out.below T
   obtain ⟨HP,ad,a5,aM⟩:=ag hP T aP a8;clear hP T aP a8 I Y
   go_wp2_with fail
   obtain ⟨O,u⟩:∃O,O=w2.alloc (.cells #[.slice (some ⟨g,0,none⟩) n c2] 22):=⟨_,rfl⟩
   have bM:w2.heap.size<O.heap.size:=by rw [u];simp
   have bd:Hid (O.heap[w2.heap.size]?=some (.cells #[.slice (some ⟨g,0,none⟩) n c2] 22 (0,0))):=Lib.hid (by rw [u];exact HP.out)
   have av:Hid (Below w1.heap.size w1 O):=Lib.hid (by rw [u];exact ad.out)
   have bi:Hid (O.ownsRow w1.heap.size 3 1 (.slice (some ⟨g,0,none⟩) n c2) n (aq .i64 (rj n))):=Lib.hid (by rw [u];exact a5.out)
   have bI:Hid (Rd O A1 (aq .i64 (dh m fun k=>(gr l n i k:Int)))):=Lib.hid (by rw [u];exact aM.out)
   rw [←u]
   clear HP ad a5 aM u
   go_loopw [46] (fun x wr=>∃k:Nat,k≤m∧x=KL k∧wr.heap[w2.heap.size]?=some (.cells #[.slice (some ⟨g,0,none⟩) n c2] 22 (0,0))∧wr.ownsRow w1.heap.size 3 1 (.slice (some ⟨g,0,none⟩) n c2) n (aq .i64 (fU n (gr l n i) k))∧Keep (fun j=>j=g) O wr) (fun x _=>m-(intOf x).toNat)
   case atStart=>exact ⟨0,JH _,rfl,bd.out,bi.out,Keep.refl _ _⟩
   case round=>
    obtain ⟨k,hk,rfl,hP,o,hK⟩:=hrel
    by_cases U:k<m
    ·have hr:=hK.rd bI.out (fun a ha e=>by have:=(b6.out a ha).2;omega)
     obtain ⟨bA,oA,rfl,p⟩:=hr.num (show k<_ by rw [bR];exact U)
     rw [bj _ U] at p
     have be:=rE l (n:=n) (i:=i) (k:=k) (by omega)
     have q:=Dk w2.heap.size g n c2 w1.heap.size (n-1-k) (gr l n i k) (fU n (gr l n i) k) wr hP o (by omega) (by omega) b1
     rw [show ((n-1-k:Nat):Int)=(n:Int)-1-k by omega] at q
     have bf:=JC hP
     obtain ⟨a1,HP,HK⟩:=af q hP hK;clear q hP o hK hr
     obtain ⟨dk,D⟩:∃dk,gr l n i k=dk:=⟨_,rfl⟩
     rw [D] at p
     have q:=a1.out
     rw [D] at q be
     obtain ⟨a7,bb⟩:=ae q D;clear a1 q D
     go_wp2_with fail
     refine a7.out.mono ?_
     rintro e w5 ⟨rfl,a2,X⟩
     have a3:=(X.block _ bf (by omega)).trans HP.out
     obtain ⟨bz,bn,bw⟩:=af a3 a2 (HK.out.trans X);clear a3 a2 X p
     go_wp2_with fail
     go_roundw
     case rel=>
      refine ⟨k+1,by omega,by go_num,bz.out,?_,bw.out⟩
      rw [fU,bb.out];exact bn.out
     case measure=>simp [intOf];omega
    ·obtain rfl:m=k:=by omega
     obtain ⟨x0,xf⟩:=bx1 hP
     have Z:Keep (fun j=>j=b) w wr:=b5.out.below2 ((av.out.mono (by omega)).trans (hK.toBelow (by omega) (fun j hj=>by omega)))
     have aR:bS wr b A c l (i+m):=⟨(hK.block b (by omega) (by omega)).trans ((av.out.block b (by omega)).trans b4.out.blk),Z.rd H.out.rd (fun a ha e=>H.out.ne a ha e),H.out.ne⟩
     obtain ⟨bh,bl,y⟩:=af Z aR (ax (base':=w.heap.size) o (by omega));clear Z aR o hK hP
     go_wp2_with fail
     go_ret2
     exact ⟨_,rfl,y.out,bl.out,bh.out⟩
theorem wI:dq Tryz.prog 157 22 (KN) 1 24:=⟨Tryz.underlying157,info_parts (by kernel_rfl),rfl,by decide⟩
def Ii (S n b c i k base:Nat) (A:Option Addr) (l:List Int) (u x y:Value) (vs:List Value) (w:World) (e:Ending) (o:World):Prop:=
 e=.returned (.bool true)∧∃A1 c1 q p,o.heap[S]?=some (.cells #[u,x,y,.slice q (k+1) p] 190 (0,0))∧
  o.ownsRow base 22 1 (.slice q (k+1) p) (k+1) (vs++[.slice A1 n c1])∧n≤c1∧o.ownsRow base 3 1 (.slice A1 n c1) n (aq .i64 (fz l n i))∧
  o.heap[b]?=some (.cells #[.slice A l.length c,KL ((i+(n-1):Nat):Int)] 235 (0,0))∧
  (∀base' m v xs,w.ownsRow base' 3 1 v m xs→o.ownsRow base' 3 1 v m xs)∧Keep (fun j=>j=b∨j=S∨base≤j) w o
theorem CD (N P1 P2 S n b c i k base:Nat) (A:Option Addr) (l:List Int) (Ao:Option Addr) (co:Nat) (x0 x1 x2:Value) (vs:List Value) (w:World)
  (hN:w.heap[N]?=some (.cells #[KL n] 3 (0,0))) (aG:w.heap[P1]?=some (.cells #[.pointer (some ⟨b,0,none⟩)] 191 (0,0))) (J:w.heap[P2]?=some (.cells #[.pointer (some ⟨S,0,none⟩)] 112 (0,0)))
  (hS:w.heap[S]?=some (.cells #[x0,x1,x2,.slice Ao k co] 190 (0,0))) (h:bS w b A c l i) (a0:w.ownsRow base 22 1 (.slice Ao k co) k vs) (Y:base≤w.heap.size)
  (hk:k≤1048576) (hn:1≤n) (bs:n≤1048576) (hi:i+(n-1)≤l.length) (hl:l.length≤1048576) (hu:U64 l):
  Calls Tryz.prog 96 #[.pointer (some ⟨N,0,none⟩),.pointer (some ⟨P1,0,none⟩),.pointer (some ⟨P2,0,none⟩)] w (Ii S n b c i k base A l x0 x1 x2 vs w):=by
 have b1:=uV n b c i A l w h hn bs hi hl hu
 have av:b≠S:=fun e=>by
  have h1:=h.blk;rw [e,hS] at h1;simp at h1
 have aP:b≠P2:=fun e=>by
  have h1:=h.blk;rw [e,J] at h1;simp at h1
 have a7:∀j,(Value.slice Ao k co).ownBlock=some j→j≠b:=fun j H e=>an h.blk (by decide) a0 (by rw [←e,H])
 have Q:∀base' m v xs,w.ownsRow base' 3 1 v m xs→∀j,v.ownBlock=some j→j≠b:=fun base' m v xs hr j H e=>an h.blk (by decide) hr (by rw [←e,H])
 obtain ⟨p0,pf⟩:=bx1 hN
 obtain ⟨q0,qf⟩:=bx1 aG
 have b5:=JC J
 have b9:=JC hS
 obtain ⟨bd,b7,HS,bi,bf,a5,ad,bb⟩:=ak b1 J hS a0 a7 Q av aP;clear b1 J hS a0 a7 Q av aP hN aG h hu
 go_enter Tryz.func96,Tryz.ntmps96
 go_wp2_with fail
 refine bd.out.mono ?_
 rintro e w1 ⟨v1,rfl,a1,aR,x⟩
 obtain ⟨A1,c1,rfl,b2⟩:=aw a1
 have X:=(x.block P2 b5 (fun e=>bb.out e.symm)).trans b7.out
 have V:=(x.block S b9 (fun e=>ad.out e.symm)).trans HS.out
 have T:=x.own bi.out (fun j H e=>bf.out j H e)
 have bG:=x.size
 obtain ⟨t0,tf⟩:=bx1 X
 obtain ⟨⟨y0,y1,y2,y3⟩,yf⟩:=bx4 V
 obtain ⟨bn,b4,C,bo,b8,q,bw⟩:=aj a1 aR x X V T b2;clear a1 aR x X V T b2 p0 pf q0 qf
 go_wp2_with fail
 have y:(fun w':World=>w'.cell? ⟨P2,0,none⟩=some (.pointer (some ⟨S,0,none⟩))∧w'.cell? ⟨S,3,none⟩=some (.slice Ao k co)) w1.drew:=⟨t0,y3⟩
 refine XA.g 8 (fun w':World=>w'.cell? ⟨P2,0,none⟩=some (.pointer (some ⟨S,0,none⟩))∧w'.cell? ⟨S,3,none⟩=some (.slice Ao k co)) ?_
 refine XA.t ?_ [0,1,2,3,4,5] y ?_
 refine XA.o 6 (fun K hK=>?_)
 go_simp
 refine hK.out _ _ ⟨aA y.1 _,aA y.2 _⟩ (fun y=>?_)
 clear hK K
 refine XA.o 7 (fun K hK=>?_)
 refine bF wI (.tmp 16) (.tmp 18) rfl rfl base (.slice Ao k co) k vs rfl (bC (q.out.alloc _) 1) (some ⟨w1.heap.size,0,none⟩) 1 1 [.slice A1 n c1] rfl (dZ w1 _ _ _ rfl) rfl (by simp [Value.oneCell']) (by omega) (by unfold maxLen;omega) (by simp;omega) ?_
 intro A7 c7 L a8 b0 u _
 have u:=nM u
 have I:=dm (o:=.cells #[.slice A1 n c1] 22 (0,0)) b8.out (by decide) q.out u
 have ao:=dm (o:=.cells #[.slice A1 n c1] 22 (0,0)) bo.out (by decide) q.out u
 have R:=dm (o:=.cells #[.slice A1 n c1] 22 (0,0)) b4.out.blk (by decide) q.out u
 have i0:=JF L _ 0 _ _ _ ao
 have i3:=JF L _ 3 _ _ _ I
 have bA:=JM L _ 3 _ _ I
 obtain ⟨ab,a2,b3,B,aM⟩:=ah a8 I u b0 R;clear a8 I u b0 ao R
 dsimp only
 refine hK.out _ _ ⟨i0,i3⟩ (fun y=>?_)
 clear hK K y
 refine XA.e ?_
 simp only [Kc,Ke]
 go_wp2_with fail
 have a3:=KG L S 3 _ _ (.slice A7 (k+1) c7) a2.out
 have p:Keep (fun j=>j=S) L (L.setCell ⟨S,3,none⟩ (.slice A7 (k+1) c7)):=Keep.setCell (S:=fun j=>j=S) (Keep.refl _ _) ⟨S,3,none⟩ (.inr rfl) _
 have a4:=p.own ab.out (fun j H e=>an a2.out (by decide) ab.out (by rw [H,e]))
 have a6:=(p.block b (by have:=JC aM.out;omega) (fun e=>ad.out e)).trans aM.out
 have U:∀base' m v xs,w1.ownsRow base' 3 1 v m xs→(L.setCell ⟨S,3,none⟩ (.slice A7 (k+1) c7)).ownsRow base' 3 1 v m xs:=fun base' m v xs h=>vB h q.out b3.out a2.out (by decide) (by decide)
 have D:Keep (fun j=>j=b∨j=S∨base≤j) w (L.setCell ⟨S,3,none⟩ (.slice A7 (k+1) c7)):=by
  refine ⟨p.os.trans (B.out.os.trans C.out.os),p.tape.trans (B.out.tape.trans C.out.tape),p.output.trans (B.out.output.trans C.out.output),?_,fun j H hn=>?_⟩
  ·have:=B.out.size;have:=p.size;simp at *;omega
  ·have be:¬j=b:=fun e=>hn (.inl e)
   have bl:¬j=S:=fun e=>hn (.inr (.inl e))
   have bz:j<base:=by rcases JR j base with h | h;exact h;exact absurd (.inr (.inr h)) hn
   have h1:=C.out.block j H be
   have h2:=B.out.block j bz
   have h3:=p.block j (by have:=B.out.size;simp at this;omega) bl
   refine h3.trans (h2.trans (Eq.trans ?_ h1))
   exact JP w1 _ j (by omega)
 obtain ⟨bh,bv,b6,O,Z⟩:=ah a3 a4 a6 U D;clear a3 p a4 a6 U D
 go_ret
 refine ⟨rfl,A1,c1,A7,c7,bh.out,bv.out,bw.out,?_,b6.out,fun base' m v xs hr=>O.out _ _ _ _ (C.out.own hr (fun j H e=>a5.out _ _ _ _ hr j H e)),Z.out⟩
 exact O.out _ _ _ _ (ax bn.out Y)
def epN (n batch steps:Nat):Nat:=cZ steps (n/batch)
def eN (w:World) (S n batch steps:Nat) (l:List Int):Prop:=
 ∃i u p v vs,w.heap[S]?=some (.cells #[KL batch,KL steps,.slice i (n/batch) u,.slice p (epN n batch steps) v] 190 (0,0))∧
  Rd w i (fy (n-n%batch) batch (n/batch))∧Rd w p vs∧vs.length=epN n batch steps∧
  ∀j,j<epN n batch steps→∃q o,vs[j]?=some (.slice q n o)∧n≤o∧Rd w q (aq .i64 (fz l n (j*(n-1))))
theorem Dd {B:Nat} {u v:World} {S n batch steps:Nat} {l:List Int} (h:eN (fB B u) S n batch steps l) (hv:Agr B u v):eN v S n batch steps l:=by
 obtain ⟨o,p,L,I,vs,h1,A,J,C,H⟩:=h
 exact ⟨o,p,L,I,vs,qp h1 hv,j3 A hv,j3 J hv,C,fun j y=>by
  obtain ⟨N,D,i,q,x⟩:=H j y
  exact ⟨N,D,i,q,j3 x hv⟩⟩
theorem eN.below {w o:World} {S n batch steps:Nat} {l:List Int} (h:eN w S n batch steps l) (i:Below w.heap.size w o):eN o S n batch steps l:=by
 obtain ⟨q,u,J,H,vs,h1,A,I,B,D⟩:=h
 exact ⟨q,u,J,H,vs,(i.block _ (JC h1)).trans h1,A.below i,I.below i,B,fun j y=>by
  obtain ⟨L,C,p,v,x⟩:=D j y
  exact ⟨L,C,p,v,x.below i⟩⟩
theorem eN.lt {w:World} {S n batch steps:Nat} {l:List Int} (h:eN w S n batch steps l):S<w.heap.size:=by
 obtain ⟨i,j,p,o,vs,h1,_⟩:=h
 exact JC h1
def Io (i wr:World) (S n b c k:Nat) (A:Option Addr) (l:List Int) (v x y:Value):Prop:=
 ∃q p vs,wr.heap[S]?=some (.cells #[v,x,y,.slice q k p] 190 (0,0))∧wr.ownsRow i.heap.size 22 1 (.slice q k p) k vs∧
  (∀j,j<k→∃u o,vs[j]?=some (.slice u n o)∧n≤o∧wr.ownsRow i.heap.size 3 1 (.slice u n o) n (aq .i64 (fz l n (j*(n-1)))))∧
  wr.heap[b]?=some (.cells #[.slice A l.length c,KL ((k*(n-1):Nat):Int)] 235 (0,0))∧Keep (fun j=>j=b∨j=S) i wr
theorem tU (A:Option Addr) (l:List Int) (c n batch steps:Nat) (w:World) (hA:Rd w A (aq .u64 l)) (hl:l.length≤1048576) (hu:U64 l) (hb:1≤batch) (cr:batch≤n) (hn:n≤1048576) (ad:steps≤1048576) (hd:epN n batch steps*(n-1)≤l.length):
  Calls Tryz.prog 44 #[KL n,KL batch,KL steps,.slice A l.length c] w fun e w'=>∃S,e=.returned (.tuple #[.pointer (some ⟨S,0,none⟩),KL 0])∧eN (fB w.heap.size w') S n batch steps l∧w.heap.size≤S∧Below w.heap.size w w':=by
 have eb:¬((n:Int)<1):=by omega
 have e6:¬((1048576:Int)<n):=by omega
 have e2:¬((steps:Int)<0):=by omega
 have e3:¬((1048576:Int)<steps):=by omega
 have ec:¬((batch:Int)<1):=by omega
 have ee:¬((n:Int)<batch):=by omega
 obtain ⟨N,hN⟩:∃N,l.length=N:=⟨_,rfl⟩
 have a2:=fun w'=>kH (n-n%batch) batch w' (by omega) hb (by omega)
 rw [za n batch hb cr] at a2
 obtain ⟨nb,a0⟩:∃nb,n/batch=nb:=⟨_,rfl⟩
 have cf:1≤nb:=by rw [←a0];exact Nat.div_pos cr hb
 have dv:nb≤n:=by rw [←a0];exact Nat.div_le_self _ _
 obtain ⟨r,hr⟩:∃r,n%batch=r:=⟨_,rfl⟩
 have dG:r≤n:=by rw [←hr];exact Nat.mod_le _ _
 rw [hr,a0] at a2
 have ea:(n:Int).tmod (batch:Int)=(r:Int):=by rw [←hr];rfl
 have dT:(n:Int)%(batch:Int)=(r:Int):=by rw [←hr];rfl
 have e9:IntKind.i64.wrap (r:Int)=(r:Int):=JI _ (by omega)
 have e0:IntKind.i64.wrap ((n:Int)-(r:Int))=((n-r:Nat):Int):=by rw [JI _ (by omega)];omega
 have e4:¬(batch=0):=by omega
 obtain ⟨HA,Hu,Hd,HN,cj,bs,Hr⟩:=aj hA hu hd hN a2 a0 hr
 rw [hN] at hl ⊢
 clear hA hu hd hN a2 a0 hr
 go_enter Tryz.func44,Tryz.ntmps44
 go_wp2_with fail
 go_cut [10] (fun v wx=>∃P2 S D H,v=.pointer (some ⟨P2,0,none⟩)∧wx.heap[P2]?=some (.cells #[.pointer (some ⟨S,0,none⟩)] 112 (0,0))∧wx.heap[S]?=some (.cells #[KL batch,KL steps,.slice D nb H,KN] 190 (0,0))∧
  wx.ownsRow (w.heap.size+1) 52 2 (.slice D nb H) nb (fy (n-r) batch nb)∧w.heap.size+1≤P2∧w.heap.size+1≤S∧Below (w.heap.size+1) (w.alloc (.cells #[KL n] 3)) wx)
 case first=>
  have d9:=JF (w.alloc (.cells #[KL n] 3)) w.heap.size 0 _ _ _ (JE w _)
  have i:(fun w':World=>w'.cell? ⟨w.heap.size,0,none⟩=some (KL n)) (w.alloc (.cells #[KL n] 3)).drew:=d9
  refine jq 12 (fun w':World=>w'.cell? ⟨w.heap.size,0,none⟩=some (KL n)) (by kernel_rfl) ?_
  refine wX 0 i ?_
  refine wX 1 i ?_
  refine wX 2 i ?_
  refine wX 3 i ?_
  refine wX 4 i ?_
  refine wX 5 i ?_
  refine wX 6 i ?_
  refine wX 7 i ?_
  simp only [JT,JU,JV,Act.put,JW,JX,J0]
  refine cn (rs:=[8,11]) (by kernel_rfl) (by simp) ?_
  refine aL.cons rfl (fun K o=>?_) (aL.cons rfl (fun K o=>?_) aL.nil)
  ·simp only [JT,JU,JV]
   go_simp
   refine (cj.out _).mono ?_
   rintro e q ⟨v,rfl,ho,u⟩
   obtain ⟨D,H,rfl,_⟩:=aw ho
   have a5:=am u i
   simp only [Kt,JS] at ho u
   obtain ⟨Ho,O⟩:=ae ho u;clear ho u i
   dsimp only
   refine o.out _ _ a5 (fun i=>?_)
   clear o K a5
   refine wX 9 i ?_
   simp only [JT,JU,JV,Act.put,JW,JX,J0]
   refine cn (rs:=[10,11]) (by kernel_rfl) (by simp) ?_
   refine aL.cons rfl (fun K o=>?_) (aL.cons rfl (fun K o=>?_) aL.nil)
   ·simp only [JT,JU,JV]
    go_simp
    refine o.out _ _ (aA i _) (fun i=>?_)
    clear o K
    refine cn (rs:=[11]) (by kernel_rfl) (by simp) ?_
    refine aL.cons rfl (fun K o=>?_) aL.nil
    simp only [JT,JU,JV]
    go_simp
    refine o.out _ _ (aA i _) (fun i=>?_)
    clear o K i
    refine dV (by rfl) (by kernel_rfl) ?_
    simp only [Kc,Ke]
    go_wp2_with fail
    go_meet
    have a3:=O.out.size
    simp at a3
    refine ⟨q.heap.size+1,q.heap.size,D,H,rfl,?_,?_,(Ho.out.alloc _).alloc _,by omega,by omega,?_⟩
    ·have:=JE (q.alloc (.cells #[KL batch,KL steps,.slice D nb H,KN] 190)) (.cells #[.pointer (some ⟨q.heap.size,0,none⟩)] 112)
     simpa using this
    ·exact (JP _ _ _ (by simp)).trans (JE q _)
    ·exact ((((JG _ _).drew).trans O.out).alloc (by omega) _).alloc (by simp;omega) _
   ·simp only [JT,JU,JV]
    go_simp
    refine o.out _ _ (aA i _) (fun i=>?_)
    clear o K
    refine cn (rs:=[10]) (by kernel_rfl) (by simp) ?_
    refine aL.cons rfl (fun K o=>?_) aL.nil
    simp only [JT,JU,JV]
    go_simp
    refine o.out _ _ (aA i _) (fun i=>?_)
    clear o K i
    refine dV (by rfl) (by kernel_rfl) ?_
    simp only [Kc,Ke]
    go_wp2_with fail
    go_meet
    have a3:=O.out.size
    simp at a3
    refine ⟨q.heap.size,q.heap.size+1,D,H,rfl,?_,?_,(Ho.out.alloc _).alloc _,by omega,by omega,?_⟩
    ·exact (JP _ _ _ (by simp)).trans (JE q _)
    ·have:=JE (q.alloc (.cells #[.pointer (some ⟨q.heap.size+1,0,none⟩)] 112)) (.cells #[KL batch,KL steps,.slice D nb H,KN] 190)
     simpa using this
    ·exact ((((JG _ _).drew).trans O.out).alloc (by omega) _).alloc (by simp;omega) _
  ·simp only [JT,JU,JV]
   go_simp
   refine o.out _ _ (aA i _) (fun i=>?_)
   clear o K
   refine cn (rs:=[8]) (by kernel_rfl) (by simp) ?_
   refine aL.cons rfl (fun K o=>?_) aL.nil
   simp only [JT,JU,JV]
   go_simp
   refine (cj.out _).mono ?_
   rintro e q ⟨v,rfl,ho,u⟩
   have y:q.heap[w.heap.size+1]?=some (.cells #[.pointer none] 112 (0,0)):=(u.block (w.heap.size+1) (by simp)).trans (by rw [←show (w.alloc (.cells #[KL n] 3)).heap.size=w.heap.size+1 by simp];exact JE _ _)
   obtain ⟨t0,tf⟩:=bx1 y
   have cx:=JC y
   have X:=aa y;clear y
   obtain ⟨D,H,rfl,_⟩:=aw ho
   have a5:=am u i
   simp only [Kt,JS] at ho u
   obtain ⟨Ho,O⟩:=ae ho u;clear ho u i
   dsimp only
   refine o.out _ _ a5 (fun i=>?_)
   clear o K a5
   refine wX 9 i ?_
   simp only [JT,JU,JV,Act.put,JW,JX,J0]
   refine cn (rs:=[10]) (by kernel_rfl) (by simp) ?_
   refine aL.cons rfl (fun K o=>?_) aL.nil
   simp only [JT,JU,JV]
   go_simp
   refine o.out _ _ (aA i _) (fun i=>?_)
   clear o K i
   refine dV (by rfl) (by kernel_rfl) ?_
   simp only [Kc,Ke]
   go_wp2_with fail
   go_meet
   have a3:=O.out.size
   simp at a3
   have hk:Keep (fun j=>j=w.heap.size+1) q (q.setCell ⟨w.heap.size+1,0,none⟩ (.pointer (some ⟨q.heap.size,0,none⟩))):=Keep.setCell (S:=fun j=>j=w.heap.size+1) (Keep.refl _ _) ⟨w.heap.size+1,0,none⟩ (.inr rfl) _
   have h0:Below (w.heap.size+1) (w.alloc (.cells #[KL n] 3)) q:=((JG _ _).alloc (by simp) _).drew.trans (O.out.mono (by omega))
   refine ⟨w.heap.size+1,q.heap.size,D,H,rfl,?_,?_,?_,by omega,by omega,?_⟩
   ·exact (JP _ _ _ (by simpa using cx)).trans (KG q (w.heap.size+1) 0 _ _ _ X.out)
   ·have:=JE (q.setCell ⟨w.heap.size+1,0,none⟩ (.pointer (some ⟨q.heap.size,0,none⟩))) (.cells #[KL batch,KL steps,.slice D nb H,KN] 190)
    rwa [show (q.setCell ⟨w.heap.size+1,0,none⟩ (.pointer (some ⟨q.heap.size,0,none⟩))).heap.size=q.heap.size by simp] at this
   ·exact ax ((hk.own Ho.out (fun j I e=>an X.out (by decide) Ho.out (by rw [I,e]))).alloc _) (by omega)
   ·exact (h0.trans (hk.toBelow (by omega) (fun j I=>by omega))).alloc (by simp;omega) _
 case rest=>
  obtain ⟨P2,S,D,H,rfl,y,hS,bV,e8,e7,be⟩:=hcut
  have bo:Below w.heap.size w wc:=((JG _ w).alloc (JD _) _).trans (be.mono (by omega))
  have bN:=(be.block w.heap.size (by omega)).trans (JE w (.cells #[KL n] 3))
  have bi:=Fg A l c wc (HA.out.below bo) (by have:=HN.out;omega)
  rw [HN.out] at bi
  obtain ⟨X,HS,d2,bh,cc,cy⟩:=ai y hS bV bo bN bi;clear y hS bV bo bN bi be
  go_wp2_with fail
  refine cy.out.mono ?_
  rintro e w3 ⟨b,A3,c3,rfl,b1,cd,d6,J⟩
  have ao:=(J.block _ (JC X.out)).trans X.out
  have a8:=(J.block _ (JC HS.out)).trans HS.out
  have bA:=(J.block _ (JC cc.out)).trans cc.out
  have b5:=ap d2.out J
  have aP:=bh.out.trans (J.mono bh.out.size)
  have e1:=J.size
  obtain ⟨t0,tf⟩:=bx1 ao
  obtain ⟨⟨y0,y1,y2,y3⟩,yf⟩:=bx4 a8
  have l1:=JC ao
  have l2:=JC a8
  obtain ⟨bU,bX,bn,aG,b9,b2,d8⟩:=aj ao a8 bA b5 aP b1 cd;clear ao a8 bA b5 aP b1 cd J
  go_wp2_with fail
  have he:epN n batch steps=cZ steps nb:=by unfold epN;rw [bs.out]
  have d7:=fu steps nb
  have hd:=Hd.out
  rw [he] at hd
  rw [HN.out] at hd
  obtain ⟨E,hE⟩:∃E,cZ steps nb=E:=⟨_,rfl⟩
  rw [hE] at he d7 hd
  have bf:=tu steps nb (w3.alloc (.cells #[.pointer (some ⟨b,0,none⟩)] 191)) ad cf (by omega)
  rw [hE] at bf
  obtain ⟨He,dr,bw⟩:=af he hd bf;clear he hd bf hE
  refine bw.out.mono ?_
  rintro e w' ⟨rfl,rfl⟩
  obtain ⟨U,hW0⟩:∃U,U=w3.alloc (.cells #[.pointer (some ⟨b,0,none⟩)] 191):=⟨_,rfl⟩
  have av:U.heap[w3.heap.size]?=some (.cells #[.pointer (some ⟨b,0,none⟩)] 191 (0,0)):=by rw [hW0];exact JE w3 _
  have L:Below w3.heap.size w3 U:=by rw [hW0];exact (JG _ _).alloc (JD _) _
  have d1:w3.heap.size<U.heap.size:=JC av
  have Y:=(L.block _ l2).trans bX.out
  have a4:=(L.block _ l1).trans bU.out
  have ab:=(L.block _ (JC bn.out)).trans bn.out
  have C:=ap aG.out L
  have p:=b2.out.below L
  have b4:=b9.out.trans (L.mono b9.out.size)
  rw [←hW0]
  have dn:=JC ab
  have a2:=p.lt
  have c9:b≠S:=fun e=>by
   have h1:=p.blk;rw [e,Y] at h1;simp at h1
  have Q:∀{x t},U.heap[x]?=some (.cells #[t] 3 (0,0))∨U.heap[x]?=some (.cells #[t] 191 (0,0))∨U.heap[x]?=some (.cells #[t] 112 (0,0))→¬(x=b∨x=S):=fun h=>by
   rintro (rfl | rfl)
   ·have h1:=p.blk;rcases h with h | h | h<;>(rw [h1] at h;simp at h)
   ·rcases h with h | h | h<;>(rw [Y] at h;simp at h)
  have cs:=Q (.inl ab)
  have bb:=Q (.inr (.inl av))
  have b0:=Q (.inr (.inr a4))
  have bG:=C.lt
  have bO:∀a,A3=some a→¬(a.block=b∨a.block=S):=fun a ha=>by
   rintro (h | h)
   ·exact p.ne a ha h
   ·have:=d8.out a ha;have:=JC HS.out;omega
  have bd:∀j,(Value.slice D nb H).ownBlock=some j→¬(j=b∨j=S):=fun j I=>by
   rintro (rfl | rfl)
   ·exact an p.blk (by decide) C I.symm
   ·exact an Y (by decide) C I.symm
  obtain ⟨dp,cA,aR,cw,c7,a1,a6,dc⟩:=ak av Y a4 ab C p b4 cs;obtain ⟨c8,b8,ds,c6,e5⟩:=ah bb b0 bO bd c9;clear av Y a4 ab C p b4 cs bb b0 bO bd c9 Q bG L hW0 bw bU bX bn aG b2 t0 tf y0 y1 y2 y3 yf
  go_wp2_with fail
  go_loopw [57] (fun x wr=>∃k:Nat,k≤E∧x=KL k∧Io U wr S n b c3 k A3 l (KL batch) (KL steps) (.slice D nb H)) (fun x _=>E-(intOf x).toNat)
  case atStart=>
   refine ⟨0,JH _,rfl,none,0,[],cA.out,JO _ _ _ _,fun j I=>by omega,?_,Keep.refl _ _⟩
   rw [Nat.zero_mul];exact a1.out.blk
  case round=>
   obtain ⟨k,hk,rfl,Ao,co,vs,hS,Z,B,bv,o⟩:=hrel
   by_cases cO:k<E
   ·have d0:k*(n-1)+(n-1)≤N:=by
     have h1:(k+1)*(n-1)≤E*(n-1):=KH _ cO
     rw [Kx] at h1
     have:=dr.out
     omega
    have ad:bS wr b A3 c3 l (k*(n-1)):=⟨bv,o.rd a1.out.rd (fun a ha e=>ds.out a ha e),a1.out.ne⟩
    have ci:=CD w.heap.size w3.heap.size P2 S n b c3 (k*(n-1)) k U.heap.size A3 l Ao co (KL batch) (KL steps) (.slice D nb H) vs wr
     ((o.block _ dn dc.out).trans cw.out) ((o.block _ d1 c8.out).trans dp.out) ((o.block _ (by omega) b8.out).trans aR.out) hS ad Z o.size (by omega) (by omega) hn (by rw [HN.out];exact d0) (by rw [HN.out];exact hl) Hu.out
    obtain ⟨d3,bl,HK⟩:=af ci B o;clear ci B o ad hS Z bv
    go_wp2_with fail
    refine d3.out.mono ?_
    rintro e w5 ⟨rfl,A1,c1,da,cv,bI,a7,ct,bz,cl,V,T⟩
    have aM:Keep (fun j=>j=b∨j=S) U w5:=⟨T.os.trans HK.out.os,T.tape.trans HK.out.tape,T.output.trans HK.out.output,JJ HK.out.size T.size,fun j I hn=>(T.block j (JK I HK.out.size) (fun h=>by
     rcases h with h | h | h
     ·exact hn (.inl h)
     ·exact hn (.inr h)
     ·omega)).trans (HK.out.block j I hn)⟩
    have R:∀j,j<k+1→∃A' c',(vs++[Value.slice A1 n c1])[j]?=some (.slice A' n c')∧n≤c'∧w5.ownsRow U.heap.size 3 1 (.slice A' n c') n (aq .i64 (fz l n (j*(n-1)))):=fun j I=>by
     have dk:vs.length=k:=by have:=a7.1;simp at this;omega
     rcases JR j k with h | h
     ·obtain ⟨A',c',k1,k2,k3⟩:=bl.out j h
      exact ⟨A',c',by rw [Ki (by omega)];exact k1,k2,V _ _ _ _ k3⟩
     ·obtain rfl:j=k:=by omega
      exact ⟨A1,c1,by rw [Kj (by omega),dk];simp,ct,bz⟩
    have b3:Io U w5 S n b c3 (k+1) A3 l (KL batch) (KL steps) (.slice D nb H):=⟨da,cv,_,bI,a7,R,by rw [Kx];exact cl,aM⟩
    have d4:=aa b3;clear b3 bI a7 ct bz cl V T aM R
    go_wp2_with fail
    go_roundw
    case rel=>exact ⟨k+1,by omega,by go_num,d4.out⟩
    case measure=>simp [intOf];omega
   ·obtain rfl:E=k:=by omega
    have y:=(o.block _ (by omega) b8.out).trans aR.out
    have hW0:=a6.out.size
    have b7:eN (fB w.heap.size wr) S n batch steps l∧w.heap.size≤S:=by
     refine ⟨?_,by omega⟩
     refine ⟨D,H,Ao,co,vs,?_,?_,Rd.own (eO Z hW0),?_,?_⟩
     ·rw [He.out,bs.out,gY (by omega)];exact hS
     ·rw [Hr.out,bs.out];exact Rd.own (eO (o.own c7.out c6.out) (by omega))
     ·have:=Z.1;rw [He.out];omega
     ·intro j I
      rw [He.out] at I
      obtain ⟨A',c',k1,k2,k3⟩:=B j I
      exact ⟨A',c',k1,k2,Rd.own (eO k3 hW0)⟩
    have bM:Below w.heap.size w wr:=a6.out.trans (o.toBelow a6.out.size (fun j I=>by have:=d6;have:=bh.out.size;rcases I with h | h<;>omega))
    obtain ⟨t0,tf⟩:=bx1 y
    obtain ⟨b6,d5⟩:=ae b7 bM;clear b7 bM hS Z B bv o y
    go_wp2_with fail
    go_ret2
    exact ⟨S,rfl,b6.out.1,b6.out.2,d5.out⟩
structure Inp where
 cfg:Cfg
 data:List Ex
 start:List Int
 draws:List Int
def lj (n b st:Nat):Nat:=epN n b st*(n-1)
theorem IQ (n b st:Nat):epN n b st≤st:=fu _ _
theorem vO {n b st:Nat} (hn:n≤1048576) (hs:st≤1048576):lj n b st≤1099511627776:=by
 have h1:=IQ n b st
 have i:epN n b st*(n-1)≤1048576*1048576:=Nat.mul_le_mul (by omega) (by omega)
 unfold lj
 omega
def inN (i:Inp):Nat:=szN i.cfg.sizes 0
def ug (i:Inp):Nat:=szN i.cfg.sizes (i.cfg.sizes.length-1)
def cnt (i:Inp):Nat:=aZ i.cfg.sizes (i.cfg.sizes.length-1)
def lH (i:Inp):Bool:=decide (i.cfg.batch≤i.data.length∧i.data.length≤1048576)
def IN (i:Inp):Bool:=decide (∀x∈i.data,eH (inN i) (ug i) x)
def j5 (i:Inp):Bool:=IN i&&decide (i.start.length=cnt i)
def oW (i:Inp):Bool:=decide (lj i.data.length i.cfg.batch.toNat i.cfg.steps.toNat≤i.draws.length)
noncomputable def dd (i:Inp):Int:=if bQ i.cfg≠0 then bQ i.cfg else if lH i=false then 7 else if j5 i=false then 5 else if oW i=false then 8 else 0
theorem II {i:Inp} (h:bQ i.cfg≠0):dd i=bQ i.cfg:=by unfold dd;rw [if_pos h]
theorem IK {i:Inp} (j:bQ i.cfg=0) (h:lH i=false):dd i=7:=by unfold dd;rw [if_neg (by simp [j]),if_pos h]
theorem IL {i:Inp} (j:bQ i.cfg=0) (h1:lH i=true) (h:j5 i=false):dd i=5:=by unfold dd;rw [if_neg (by simp [j]),if_neg (by simp [h1]),if_pos h]
theorem IJ {i:Inp} (o:bQ i.cfg=0) (h1:lH i=true) (j:j5 i=true) (h:oW i=false):dd i=8:=by unfold dd;rw [if_neg (by simp [o]),if_neg (by simp [h1]),if_neg (by simp [j]),if_pos h]
theorem IM {i:Inp} (o:bQ i.cfg=0) (h1:lH i=true) (j:j5 i=true) (h:oW i=true):dd i=0:=by unfold dd;rw [if_neg (by simp [o]),if_neg (by simp [h1]),if_neg (by simp [j]),if_neg (by simp [h])]
structure kQ (i:Inp):Prop where
 c:iL i.cfg
 b:i.cfg.batch≤i.data.length∧i.data.length≤1048576
 f:∀x∈i.data,eH (inN i) (ug i) x
 s:i.start.length=cnt i
 d:lj i.data.length i.cfg.batch.toNat i.cfg.steps.toNat≤i.draws.length
theorem qe {i:Inp}:dd i=0↔kQ i:=by
 constructor
 ·intro h
  by_cases j:bQ i.cfg=0
  ·cases h1:lH i with
   | false=>rw [IK j h1] at h;omega
   | true=>
    cases h2:j5 i with
    | false=>rw [IL j h1 h2] at h;omega
    | true=>
     cases h3:oW i with
     | false=>rw [IJ j h1 h2 h3] at h;omega
     | true=>
      simp only [j5,Bool.and_eq_true] at h2
      exact ⟨gu.1 j,of_decide_eq_true h1,of_decide_eq_true h2.1,of_decide_eq_true h2.2,of_decide_eq_true h3⟩
  ·rw [II j] at h;exact absurd h j
 ·intro h
  refine IM (gu.2 h.c) (KA h.b) ?_ (KA h.d)
  simp only [j5,Bool.and_eq_true]
  exact ⟨KA h.f,KA h.s⟩
theorem jR (n:Int) (w:World):Calls Tryz.prog 132 #[KL n] w fun e i=>e=.returned (.bool (okB n))∧w=i:=by
 by_cases h1:n<1
 ·go_enter Tryz.func132,Tryz.ntmps132
  go_wp2
  go_ret
  exact ⟨cP (by unfold okB;simp;omega),rfl⟩
 ·by_cases j:1048576<n
  ·go_enter Tryz.func132,Tryz.ntmps132
   go_wp2
   go_ret
   exact ⟨cP (by unfold okB;simp;omega),rfl⟩
  ·go_enter Tryz.func132,Tryz.ntmps132
   go_wp2
   go_ret
   exact ⟨cP (by unfold okB;simp;omega),rfl⟩
def Jd (sz:List Int) (w:World) (e:Ending) (i:World):Prop:=Below w.heap.size w i∧((dy sz∧∃b,e=.returned (.tuple #[.pointer (some ⟨b,0,none⟩),KL 0])∧bY 186 i b sz∧w.heap.size≤b)∨(¬dy sz∧e=.returned (.tuple #[.pointer none,KL (dQ sz)])))
def IW (sz:List Int) (w:World) (e:Ending) (i:World):Prop:=Below w.heap.size w i∧((dy sz∧∃b,e=.returned (.tuple #[.pointer (some ⟨b,0,none⟩),KL 0])∧bY 186 (fB w.heap.size i) b sz∧w.heap.size≤b)∨(¬dy sz∧e=.returned (.tuple #[.pointer none,KL (dQ sz)])))
theorem qy (A:Option Addr) (sz:List Int) (c:Nat) (w:World) (hA:Rd w A (aq .i64 sz)) (hc:sz.length≤c) (hm:c≤9223372036854775807):
  Calls Tryz.prog 43 #[.slice A sz.length c] w (IW sz w):=by
 by_cases h1:2≤sz.length∧sz.length≤16
 ·by_cases i:∀k,k<sz.length→1≤nth sz k∧nth sz k≤1048576
  ·refine (uT A sz c w hA hc hm ⟨h1,i⟩).mono fun e j ⟨o,h⟩=>⟨o,?_⟩
   rcases h with ⟨h,he⟩ | ⟨h,b,he,hs,p⟩
   ·have hg:¬dy sz:=fun hg=>by have:=hg.2;omega
    exact .inr ⟨hg,by rw [kY hg ⟨h1,i⟩];exact he⟩
   ·exact .inl ⟨⟨⟨h1,i⟩,h⟩,b,he,hs,p⟩
  ·refine (xB A sz c w hA hc hm h1 i).mono fun e j ⟨he,hw⟩=>?_
   subst hw
   exact ⟨JG _ _,.inr ⟨fun hg=>i hg.1.2,by rw [fT (fun hr=>i hr.2)];exact he⟩⟩
 ·refine (xC A sz c w hc hm h1).mono fun e j ⟨he,hw⟩=>?_
  subst hw
  exact ⟨JG _ _,.inr ⟨fun hg=>h1 hg.1.1,by rw [fT (fun hr=>h1 hr.1)];exact he⟩⟩
theorem su (A:Option Addr) (sz:List Int) (c:Nat) (w:World) (hA:Rd w A (aq .i64 sz)) (hc:sz.length≤c) (hm:c≤9223372036854775807):
  Calls Tryz.prog 43 #[.slice A sz.length c] w (Jd sz w):=by
 refine (qy A sz c w hA hc hm).mono ?_
 rintro e o ⟨i,⟨hg,b,he,hs,j⟩ | h⟩
 ·exact ⟨i,.inl ⟨hg,b,he,lK hs (Agr.refl _ _),j⟩⟩
 ·exact ⟨i,.inr h⟩
abbrev cS (A:Option Addr) (c:Nat) (k:Cfg):Array Value:=#[.slice A k.sizes.length c,KL k.shift,KL k.rate,KL k.mom,KL k.workers,KL k.batch,KL k.micros,KL k.steps,KL k.bucket,KL k.chunk,KL k.window,KL k.cap]
structure jG (w:World) (A:Option Addr) (c:Nat) (k:Cfg):Prop where
 hc:k.sizes.length≤c
 hm:c≤9223372036854775807
 hl:k.sizes.length≤17592186043904
 hr:Rd w A (aq .i64 k.sizes)
theorem jG.below {w i:World} {A:Option Addr} {c:Nat} {k:Cfg} (h:jG w A c k) (j:Below w.heap.size w i):jG i A c k:=⟨h.hc,h.hm,h.hl,h.hr.below j⟩
theorem oY (A:Option Addr) (c:Nat) (k:Cfg) (w:World) (h:jG w A c k):
  Calls Tryz.prog 88 #[.agg (cS A c k)] w fun e B=>e=.returned (KL (bQ k))∧Below w.heap.size w B:=by
 have H:=fun B (q:Below w.heap.size w B)=>su A k.sizes c B (h.hr.below q) h.hc h.hm
 have f6:=@Fq k;have f9:=@Fo k;have fs:=@Fm k;have f2:=@Fr k;have f7:=@Fp k;have f0:=@Ft k
 unfold wkB shB nI baB qv at *
 obtain ⟨x,y⟩:∃x,bQ k=x:=⟨_,rfl⟩
 rw [y] at f6 f9 fs f2 f7 f0 ⊢
 clear y h
 obtain ⟨sz,sh,ra,mo,C,ba,mi,st,bu,ch,wi,ca⟩:=k
 dsimp only [cS] at *
 obtain ⟨L,hL⟩:∃L,sz.length=L:=⟨_,rfl⟩
 rw [hL] at H ⊢
 obtain ⟨a3,F6,F9,Fs,U,F7,F0⟩:=aj H f6 f9 fs f2 f7 f0;clear H f6 f9 fs f2 f7 f0 hL
 go_enter Tryz.func88,Tryz.ntmps88
 go_wp2_with fail
 have hz:=JE w (.cells #[.slice A L c,KL sh,KL ra,KL mo,KL C,KL ba,KL mi,KL st,KL bu,KL ch,KL wi,KL ca] 24)
 have hB:=(JG _ w).alloc (JD _) (.cells #[.slice A L c,KL sh,KL ra,KL mo,KL C,KL ba,KL mi,KL st,KL bu,KL ch,KL wi,KL ca] 24)
 refine (a3.out _ hB).mono ?_
 rintro e w1 ⟨u,hs⟩
 have a0:=(u.block _ (JC hz)).trans hz
 have j:=aa (hB.trans (u.mono hB.size))
 obtain ⟨⟨z0,z1,z2,z3,z4,z5,z6,z7,z8,z9,a4,a7⟩,zf⟩:=jN a0
 clear hz hB u a0
 -- the sizes' x
 obtain ⟨p,X,rfl,a1⟩:∃p X,e=.returned (.tuple #[.pointer p,KL X])∧dQ sz=X:=by
  rcases hs with ⟨hg,b,rfl,_⟩ | ⟨hg,rfl⟩
  ·exact ⟨_,0,rfl,js hg⟩
  ·exact ⟨_,_,rfl,rfl⟩
 have i:=aa a1;clear hs a1
 by_cases h1:C<1
 ·go_wp2_with fail
  go_ret
  exact ⟨aV (F6.out (by rw [KE];omega)).symm,j.out⟩
 by_cases a6:64<C
 ·go_wp2_with fail
  go_ret
  exact ⟨aV (F6.out (by rw [KE];omega)).symm,j.out⟩
 have o:=aa (show decide (1≤C∧C≤64)=true by rw [KF];omega)
 by_cases h2:sh<1
 ·go_wp2_with fail
  go_ret
  exact ⟨aV (F9.out o.out (by rw [KE];omega)).symm,j.out⟩
 by_cases a5:62<sh
 ·go_wp2_with fail
  go_ret
  exact ⟨aV (F9.out o.out (by rw [KE];omega)).symm,j.out⟩
 have v:=aa (show decide (1≤sh∧sh≤62)=true by rw [KF];omega)
 by_cases h3:X≠0
 ·have hq:(X != 0)=true:=by rw [bne_iff_ne];exact h3
  have H3:=aa h3;clear h3
  go_wp2_with fail
  go_ret
  exact ⟨aV (by rw [Fs.out o.out v.out (by rw [i.out];exact H3.out)];exact i.out.symm),j.out⟩
 obtain rfl:X=0:=by omega
 clear h3
 go_wp2_with fail
 refine (jR mi _).mono ?_
 rintro e B ⟨rfl,rfl⟩
 obtain ⟨b0,N⟩:∃b,okB mi=b:=⟨_,rfl⟩
 have D:=aa N
 rw [N]
 clear N
 rcases dB b0 with rfl | rfl
 ·go_wp2_with fail
  go_ret
  exact ⟨aV (U.out o.out v.out i.out (by simp [D.out])).symm,j.out⟩
 go_wp2_with fail
 refine (jR bu _).mono ?_
 rintro e B ⟨rfl,rfl⟩
 obtain ⟨b1,u⟩:∃b,okB bu=b:=⟨_,rfl⟩
 have R:=aa u
 rw [u]
 clear u
 rcases dB b1 with rfl | rfl
 ·go_wp2_with fail
  go_ret
  exact ⟨aV (U.out o.out v.out i.out (by simp [D.out,R.out])).symm,j.out⟩
 go_wp2_with fail
 refine (jR ch _).mono ?_
 rintro e B ⟨rfl,rfl⟩
 obtain ⟨b2,O⟩:∃b,okB ch=b:=⟨_,rfl⟩
 have V:=aa O
 rw [O]
 clear O
 rcases dB b2 with rfl | rfl
 ·go_wp2_with fail
  go_ret
  exact ⟨aV (U.out o.out v.out i.out (by simp [D.out,R.out,V.out])).symm,j.out⟩
 go_wp2_with fail
 refine (jR wi _).mono ?_
 rintro e B ⟨rfl,rfl⟩
 obtain ⟨b3,T⟩:∃b,okB wi=b:=⟨_,rfl⟩
 have Y:=aa T
 rw [T]
 clear T
 rcases dB b3 with rfl | rfl
 ·go_wp2_with fail
  go_ret
  exact ⟨aV (U.out o.out v.out i.out (by simp [D.out,R.out,V.out,Y.out])).symm,j.out⟩
 go_wp2_with fail
 refine (jR ca _).mono ?_
 rintro e B ⟨rfl,rfl⟩
 obtain ⟨b4,Q⟩:∃b,okB ca=b:=⟨_,rfl⟩
 have O4:=aa Q
 rw [Q]
 clear Q
 rcases dB b4 with rfl | rfl
 ·go_wp2_with fail
  go_ret
  exact ⟨aV (U.out o.out v.out i.out (by simp [D.out,R.out,V.out,Y.out,O4.out])).symm,j.out⟩
 by_cases Z:st=0
 ·have hq:(st != 0)=false:=by rw [Z];rfl
  have I:=aa (show (okB mi&&okB bu&&okB ch&&okB wi&&okB ca&&decide (0≤st∧st≤1048576))=true by rw [D.out,R.out,V.out,Y.out,O4.out];simp;omega);clear Z
  by_cases h5:ba<C
  ·go_wp2_with fail
   go_ret
   exact ⟨aV (F7.out o.out v.out i.out I.out (by rw [KE];omega)).symm,j.out⟩
  by_cases a2:1048576<ba
  ·go_wp2_with fail
   go_ret
   exact ⟨aV (F7.out o.out v.out i.out I.out (by rw [KE];omega)).symm,j.out⟩
  go_wp2_with fail
  go_ret
  exact ⟨aV (F0.out o.out v.out i.out I.out (by rw [KF];omega)).symm,j.out⟩
 ·have hq:(st != 0)=true:=by rw [bne_iff_ne];exact Z
  have H4:=aa Z;clear Z
  go_wp2_with fail
  refine (jR st _).mono ?_
  rintro e B ⟨rfl,rfl⟩
  obtain ⟨b5,J⟩:∃b,okB st=b:=⟨_,rfl⟩
  have O5:=aa J
  rw [J]
  clear J
  rcases dB b5 with rfl | rfl
  ·go_wp2_with fail
   go_ret
   exact ⟨aV (U.out o.out v.out i.out (by rw [D.out,R.out,V.out,Y.out,O4.out];have:=BK O5.out;have:=H4.out;simp;omega)).symm,j.out⟩
  have I:=aa (show (okB mi&&okB bu&&okB ch&&okB wi&&okB ca&&decide (0≤st∧st≤1048576))=true by rw [D.out,R.out,V.out,Y.out,O4.out];have:=jT O5.out;simp;omega)
  by_cases h5:ba<C
  ·go_wp2_with fail
   go_ret
   exact ⟨aV (F7.out o.out v.out i.out I.out (by rw [KE];omega)).symm,j.out⟩
  by_cases a2:1048576<ba
  ·go_wp2_with fail
   go_ret
   exact ⟨aV (F7.out o.out v.out i.out I.out (by rw [KE];omega)).symm,j.out⟩
  go_wp2_with fail
  go_ret
  exact ⟨aV (F0.out o.out v.out i.out I.out (by rw [KF];omega)).symm,j.out⟩
theorem Bt (n:Nat) (w:World) (hn:1≤n) (j:n≤1048576):Calls Tryz.prog 136 #[KL n] w fun e i=>e=.returned (KL ((n-1:Nat):Int))∧w=i:=by
 have h1:(0:Int)≤(n:Int)-1:=by omega
 go_enter Tryz.func136,Tryz.ntmps136
 go_wp2
 all_goals
  go_ret
  exact ⟨aV (by omega),rfl⟩
theorem yV (A:Option Addr) (c n:Nat) (k:Cfg) (w:World) (h:jG w A c k) (hg:iL k) (hn:k.batch≤n∧(n:Int)≤1048576):
  Calls Tryz.prog 135 #[.agg (cS A c k),KL n] w fun e B=>e=.returned (KL (epN n k.batch.toNat k.steps.toNat:Int))∧Below w.heap.size w B:=by
 have u:=fun B (q:Below w.heap.size w B)=>oY A c k B (h.below q)
 rw [gu.2 hg] at u
 have g1:=hg.w;have g2:=hg.ba;have g3:=hg.st
 clear h hg
 obtain ⟨sz,sh,ra,J,O,ba,mi,st,bu,ch,wi,ca⟩:=k
 dsimp only [cS] at *
 obtain ⟨bt,rfl⟩:∃bt:Nat,ba=bt:=⟨ba.toNat,by omega⟩
 obtain ⟨sn,rfl⟩:∃sn:Nat,st=sn:=⟨st.toNat,by omega⟩
 rw [Int.toNat_natCast,Int.toNat_natCast]
 obtain ⟨L,hL⟩:∃L,sz.length=L:=⟨_,rfl⟩
 rw [hL] at u ⊢
 obtain ⟨i,j⟩:∃i,n/bt=i:=⟨_,rfl⟩
 have v:1≤i:=by rw [←j];exact Nat.div_pos (by omega) (by omega)
 have H:i≤n:=by rw [←j];exact Nat.div_le_self _ _
 have Q:epN n bt sn=(sn+i-1)/i:=by unfold epN;rw [j,qj _ _ v]
 rw [Q]
 have D:(sn+i-1)/i≤sn+i-1:=Nat.div_le_self _ _
 obtain ⟨E,p⟩:∃E,(sn+i-1)/i=E:=⟨_,rfl⟩
 rw [p] at D ⊢
 have T:(n:Int).tdiv (bt:Int)=(i:Int):=by rw [←j];rfl
 have R:(n:Int)/(bt:Int)=(i:Int):=by rw [←j];rfl
 have o:(sn:Int)+i-1=((sn+i-1:Nat):Int):=by omega
 have a2:((sn:Int)+i-1).tdiv (i:Int)=(E:Int):=by rw [o,←p];rfl
 have N:((sn:Int)+i-1)/(i:Int)=(E:Int):=by rw [o,←p];rfl
 have Z:¬(bt=0):=by omega
 have a1:¬(i=0):=by omega
 have Y:¬((n:Int)<bt):=by omega
 have V:¬((1048576:Int)<n):=by omega
 have C:=aa u;clear u hL j Q p o
 go_enter Tryz.func135,Tryz.ntmps135
 go_wp2_with fail
 have I:=JE w (.cells #[.slice A L c,KL sh,KL ra,KL J,KL O,KL bt,KL mi,KL sn,KL bu,KL ch,KL wi,KL ca] 24)
 have hB:=(JG _ w).alloc (JD _) (.cells #[.slice A L c,KL sh,KL ra,KL J,KL O,KL bt,KL mi,KL sn,KL bu,KL ch,KL wi,KL ca] 24)
 refine (C.out _ hB).mono ?_
 rintro e w1 ⟨rfl,x⟩
 have y:=(x.block _ (JC I)).trans I
 have X:=aa (hB.trans (x.mono hB.size))
 obtain ⟨⟨z0,z1,z2,z3,z4,z5,z6,z7,z8,z9,U,a0⟩,zf⟩:=jN y
 clear I hB x y
 go_wp2_with fail
 go_ret
 exact ⟨rfl,X.out⟩
theorem Eh (A:Option Addr) (c n:Nat) (k:Cfg) (w:World) (h:jG w A c k) (hg:iL k) (hn:k.batch≤n∧(n:Int)≤1048576):
  Calls Tryz.prog 90 #[.agg (cS A c k),KL n] w fun e p=>e=.returned (KL (lj n k.batch.toNat k.steps.toNat:Int))∧Below w.heap.size w p:=by
 have i:=fun p (q:Below w.heap.size w p)=>yV A c n k p (h.below q) hg hn
 have R:=hg.w;have Q:=hg.ba;have U:=hg.st
 have o:=fun p=>Bt n p (by omega) (by omega)
 have j:=vO (n:=n) (b:=k.batch.toNat) (st:=k.steps.toNat) (by omega) (by omega)
 unfold lj at j ⊢
 clear h hg
 obtain ⟨sz,sh,ra,C,D,ba,mi,st,bu,ch,wi,ca⟩:=k
 dsimp only [cS] at *
 obtain ⟨L,hL⟩:∃L,sz.length=L:=⟨_,rfl⟩
 rw [hL] at i ⊢
 obtain ⟨E,H⟩:∃E,epN n ba.toNat st.toNat=E:=⟨_,rfl⟩
 obtain ⟨m,hm⟩:∃m,n-1=m:=⟨_,rfl⟩
 rw [H] at i j ⊢
 rw [hm] at o j ⊢
 obtain ⟨y,B⟩:∃y,E*m=y:=⟨_,rfl⟩
 rw [B] at j ⊢
 have I:(E:Int)*(m:Int)=(y:Int):=by rw [←B];push_cast;rfl
 obtain ⟨v,x⟩:=ae i o;clear i o hL H hm B
 go_enter Tryz.func90,Tryz.ntmps90
 go_wp2_with fail
 have N:=JE w (.cells #[.slice A L c,KL sh,KL ra,KL C,KL D,KL ba,KL mi,KL st,KL bu,KL ch,KL wi,KL ca] 24)
 have hB:=(JG _ w).alloc (JD _) (.cells #[.slice A L c,KL sh,KL ra,KL C,KL D,KL ba,KL mi,KL st,KL bu,KL ch,KL wi,KL ca] 24)
 refine (v.out _ hB).mono ?_
 rintro e O ⟨rfl,u⟩
 have J:=aa (hB.trans (u.mono hB.size));clear N hB u
 go_wp2_with fail
 refine (x.out _).mono ?_
 rintro e T ⟨rfl,rfl⟩
 go_wp2_with fail
 go_ret
 exact ⟨rfl,J.out⟩
end Go.Proofs.YtaccfnffmbndhaaGreat
