/- No condition. -/
import Derived.Test.YtaccfnffmbndhaaGreatC00
import Derived.Test.YtaccfnffmbndhaaGreatC13
import Derived.Test.YtaccfnffmbndhaaGreatC11
import Derived.Test.YtaccfnffmbndhaaGreatC04
import Derived.Test.YtaccfnffmbndhaaGreatC05
import Derived.Test.YtaccfnffmbndhaaGreatC12
set_option linter.unusedSimpArgs false
set_option linter.unusedVariables false
set_option maxRecDepth 100000
set_option maxHeartbeats 4000000
namespace Go.Proofs.YtaccfnffmbndhaaGreat
open Go.RowKit
structure jP (w:World) (A:Option Addr) (c:Nat) (D:Option Addr) (T:Option Addr) (ct:Nat) (R:Option Addr) (i:Inp):Prop where
 c:jG w A c i.cfg
 d:cE rEx 2 w D i.data
 dl:i.data.length≤17592186043904
 t:bD w T i.start ct
 r:Rd w R (aq .u64 i.draws)
 rl:i.draws.length≤17592186043904
 ru:U64 i.draws
 ra: -9223372036854775808≤i.cfg.rate∧i.cfg.rate≤9223372036854775807
 rm: -9223372036854775808≤i.cfg.mom∧i.cfg.mom≤9223372036854775807
theorem jP.below {w o:World} {A:Option Addr} {c:Nat} {D T R:Option Addr} {p:Nat} {i:Inp} (h:jP w A c D T p R i) (j:Below w.heap.size w o):jP o A c D T p R i:=
 ⟨h.c.below j,h.d.below cY j,h.dl,h.t.below j,h.r.below j,h.rl,h.ru,h.ra,h.rm⟩
def kO (i:Inp):Prop:=i.data.length≤60∧i.start.length≤600∧i.draws.length≤2000∧i.cfg.sizes.length≤40
theorem jP.rd {w:World} {A:Option Addr} {c:Nat} {D T R:Option Addr} {j:Nat} {i:Inp} (h:jP w A c D T j R i) (hs:kO i):gF w A c D T j R i:=
 ⟨h.c,h.d,by have:=hs.1;omega,h.t,by have:=hs.2.1;omega,h.r,by have:=hs.2.2.1;omega,h.ru,h.ra,h.rm⟩
def xi (q:Prop) (w:World) (e:Ending) (i:World):Prop:=(∃b:Bool,e=.returned (.bool b)∧(b=true→q))∧Below w.heap.size w i
theorem rr {q:Prop} {w i:World} (b:Bool) (o:q) (j:Below w.heap.size w i):xi q w (.returned (.bool b)) i:=⟨⟨b,rfl,fun _=>o⟩,j⟩
theorem uv {q:Prop} {w i:World} (j:Below w.heap.size w i):xi q w (.returned (.bool false)) i:=⟨⟨false,rfl,fun h=>by cases h⟩,j⟩
theorem EO {p:Prop} [Decidable p] {q:Prop} {w i:World} (o:p→q) (j:Below w.heap.size w i):xi q w (.returned (.bool (decide p))) i:=⟨⟨_,rfl,fun h=>o (of_decide_eq_true h)⟩,j⟩
theorem EG (A:Option Addr) (c:Nat) (D:Option Addr) (u:Nat) (T:Option Addr) (x:Nat) (R:Option Addr) (y:Nat) (i:Inp) (w:World) (h:jP w A c D T x R i):
  Calls Tryz.prog 86 #[.agg (aH A c D u T x R y i)] w (xi (kO i) w):=by
 have Y:=fun w' (q:Below w.heap.size w w')=>DN u D i.data w' (h.d.below cY q) h.dl
 have X:i.data.length≤60→i.start.length≤600→i.draws.length≤2000→i.cfg.sizes.length≤40→kO i:=fun a b c d=>⟨a,b,c,d⟩
 generalize kO i=Q at X ⊢
 clear h
 unfold Ih at Y
 obtain ⟨⟨sz,sh,ra,B,O,ba,mi,st,bu,ch,wi,ca⟩,data,start,draws⟩:=i
 dsimp only [aH,cS] at *
 obtain ⟨L,hL⟩:∃L,sz.length=L:=⟨_,rfl⟩
 obtain ⟨N,Z⟩:∃N,data.length=N:=⟨_,rfl⟩
 obtain ⟨M,hM⟩:∃M,start.length=M:=⟨_,rfl⟩
 obtain ⟨P,hP⟩:∃P,draws.length=P:=⟨_,rfl⟩
 rw [hL,Z,hM,hP] at X
 rw [Z] at Y
 rw [hL,Z,hM,hP]
 obtain ⟨Hf,Hq⟩:=ae Y X;clear Y X hL Z hM hP
 have J:¬(L≤40)→¬((L:Int)≤40):=by omega
 have H:L≤40→(L:Int)≤40:=by omega
 have V:¬(M≤600)→¬((M:Int)≤600):=by omega
 have I:M≤600→(M:Int)≤600:=by omega
 have U:¬(P≤2000)→¬((P:Int)≤2000):=by omega
 have C:P≤2000→(P:Int)≤2000:=by omega
 obtain ⟨NL,YL,NM,YM,NP,YP⟩:=ai J H V I U C;clear J H V I U C
 by_cases h1:¬(L≤40)
 ·have k1:=NL.out h1
  go_enter Tryz.func86,Tryz.ntmps86
  go_wp2_with fail
  all_goals
   go_ret
   exact uv ((JG _ w).alloc (JD _) _)
 have v:L≤40:=by omega
 have k1:=YL.out v
 have G1:=aa v;clear h1 v
 go_enter Tryz.func86,Tryz.ntmps86
 go_wp2_with fail
 have hz:=JE w (.cells #[.slice A L c,KL sh,KL ra,KL B,KL O,KL ba,KL mi,KL st,KL bu,KL ch,KL wi,KL ca,.slice D N u,.slice T M x,.slice R P y] 29)
 have hB:=(JG _ w).alloc (JD _) (.cells #[.slice A L c,KL sh,KL ra,KL B,KL O,KL ba,KL mi,KL st,KL bu,KL ch,KL wi,KL ca,.slice D N u,.slice T M x,.slice R P y] 29)
 refine (Hf.out _ hB).mono ?_
 rintro e w' ⟨⟨b,rfl,hb⟩,d,rfl⟩
 have o:((w.alloc (.cells #[.slice A L c,KL sh,KL ra,KL B,KL O,KL ba,KL mi,KL st,KL bu,KL ch,KL wi,KL ca,.slice D N u,.slice T M x,.slice R P y] 29)).drewN d).heap[w.heap.size]?=some (.cells #[.slice A L c,KL sh,KL ra,KL B,KL O,KL ba,KL mi,KL st,KL bu,KL ch,KL wi,KL ca,.slice D N u,.slice T M x,.slice R P y] 29 (0,0)):=hz
 have j:=JN hB d
 have Hb:=aa hb;clear hz hB hb
 generalize (w.alloc (.cells #[.slice A L c,KL sh,KL ra,KL B,KL O,KL ba,KL mi,KL st,KL bu,KL ch,KL wi,KL ca,.slice D N u,.slice T M x,.slice R P y] 29)).drewN d=W1 at o j ⊢
 have HB:=aa j
 obtain ⟨⟨z0,z1,z2,z3,z4,z5,z6,z7,z8,z9,a0,a4,a3,a1,a2⟩,zf⟩:=jM o
 clear o j
 rcases dB b with rfl | rfl
 ·go_wp2_with fail
  all_goals
   go_ret
   exact uv HB.out
 by_cases h2:¬(M≤600)
 ·have k2:=NM.out h2
  go_wp2_with fail
  all_goals
   go_ret
   exact uv HB.out
 have p:M≤600:=by omega
 have k2:=YM.out p
 have G2:=aa p;clear h2 p;clear NL YL NM YM YP
 go_wp2_with fail
 all_goals
  go_ret
  exact EO (fun h=>Hq.out (Hb.out trivial) G2.out (by omega) G1.out) HB.out
theorem yT (A:Option Addr) (c:Nat) (D:Option Addr) (X:Nat) (T:Option Addr) (J:Nat) (R:Option Addr) (V:Nat) (i:Inp) (w:World) (h:jP w A c D T J R i):
  Calls Tryz.prog 40 #[.agg (aH A c D X T J R V i)] w (xi (kO i) w):=by
 have j:=fun o (q:Below w.heap.size w o)=>EG A c D X T J R V i o (h.below q)
 have H:=fun o (q:Below w.heap.size w o)=>nD A c i.cfg o (h.c.below q)
 have O:=fun (hR:cG i.cfg.sizes) o (q:Below w.heap.size w o)=>i9 A i.cfg.sizes i.cfg.sizes.length c o (h.c.hr.below q) hR (by have:=hR.1;omega) (JD _)
 have Y:=@gu i.cfg
 generalize kO i=QQ at j ⊢
 clear h
 have j:∀o,Below w.heap.size w o→Calls Tryz.prog 86 #[.agg (aH A c D X T J R V i)] o (fun e aM=>∃b:Bool,e=.returned (.bool b)∧(b=true→QQ)∧Below o.heap.size o aM):=fun o q=>(j o q).mono fun e aM ⟨⟨b,h1,h2⟩,h3⟩=>⟨b,h1,h2,h3⟩
 obtain ⟨⟨sz,sh,ra,B,C,ba,mi,st,bu,ch,wi,ca⟩,data,start,draws⟩:=i
 dsimp only [aH,cS] at *
 obtain ⟨cc,aP⟩:∃cc,bQ ⟨sz,sh,ra,B,C,ba,mi,st,bu,ch,wi,ca⟩=cc:=⟨_,rfl⟩
 rw [aP] at H Y
 have ao:cc=0→cG sz:=fun e=>(Y.1 e).z.1
 obtain ⟨L,hL⟩:∃L,sz.length=L:=⟨_,rfl⟩
 obtain ⟨N,hN⟩:∃N,data.length=N:=⟨_,rfl⟩
 obtain ⟨M,hM⟩:∃M,start.length=M:=⟨_,rfl⟩
 obtain ⟨Q,hQ⟩:∃Q,draws.length=Q:=⟨_,rfl⟩
 rw [hL] at H O j ⊢
 rw [hN,hM,hQ] at j ⊢
 obtain ⟨CN,aG⟩:∃CN,aZ sz (L-1)=CN:=⟨_,rfl⟩
 rw [aG] at O
 obtain ⟨b2,b1,ab,b0⟩:=ag H O j ao;clear H O j Y hL hN hM hQ aP aG ao
 go_enter Tryz.func40,Tryz.ntmps40
 go_wp2_with fail
 have hz:=(JP (w.alloc (.cells #[.slice A L c,KL sh,KL ra,KL B,KL C,KL ba,KL mi,KL st,KL bu,KL ch,KL wi,KL ca,.slice D N X,.slice T M J,.slice R Q V] 29)) (.cells #[.slice A L c,KL sh,KL ra,KL B,KL C,KL ba,KL mi,KL st,KL bu,KL ch,KL wi,KL ca] 24) w.heap.size (by simp)).trans (JE w _)
 have hy:=JE (w.alloc (.cells #[.slice A L c,KL sh,KL ra,KL B,KL C,KL ba,KL mi,KL st,KL bu,KL ch,KL wi,KL ca,.slice D N X,.slice T M J,.slice R Q V] 29)) (.cells #[.slice A L c,KL sh,KL ra,KL B,KL C,KL ba,KL mi,KL st,KL bu,KL ch,KL wi,KL ca] 24)
 rw [show (w.alloc (.cells #[.slice A L c,KL sh,KL ra,KL B,KL C,KL ba,KL mi,KL st,KL bu,KL ch,KL wi,KL ca,.slice D N X,.slice T M J,.slice R Q V] 29)).heap.size=w.heap.size+1 by simp] at hy
 have hB:Below w.heap.size w ((w.alloc (.cells #[.slice A L c,KL sh,KL ra,KL B,KL C,KL ba,KL mi,KL st,KL bu,KL ch,KL wi,KL ca,.slice D N X,.slice T M J,.slice R Q V] 29)).alloc (.cells #[.slice A L c,KL sh,KL ra,KL B,KL C,KL ba,KL mi,KL st,KL bu,KL ch,KL wi,KL ca] 24)):=((JG _ w).alloc (JD _) _).alloc (by simp) _
 obtain ⟨W0,hW0⟩:∃W0,W0=(w.alloc (.cells #[.slice A L c,KL sh,KL ra,KL B,KL C,KL ba,KL mi,KL st,KL bu,KL ch,KL wi,KL ca,.slice D N X,.slice T M J,.slice R Q V] 29)).alloc (.cells #[.slice A L c,KL sh,KL ra,KL B,KL C,KL ba,KL mi,KL st,KL bu,KL ch,KL wi,KL ca] 24):=⟨_,rfl⟩
 rw [←hW0] at hz hy hB ⊢
 clear hW0
 refine (ab.out _ hB).mono ?_
 rintro e w1 ⟨b,rfl,hb,U⟩
 have v:=(U.block _ (JC hz)).trans hz
 have p:=(U.block _ (JC hy)).trans hy
 obtain ⟨HB,Hb⟩:=ae (hB.trans (U.mono hB.size)) hb
 obtain ⟨⟨z0,z1,z2,z3,z4,z5,z6,z7,z8,z9,Z,ad,a8,a1,a4⟩,zf⟩:=jM v
 obtain ⟨⟨y0,y1,y2,y3,y4,y5,y6,y7,y8,y9,a0,a2⟩,yf⟩:=jN p
 obtain ⟨HZ,HY⟩:=ae v p;clear hz hy hB U hb
 rcases dB b with rfl | rfl
 ·clear v p
  go_wp2_with fail
  refine (ab.out _ HB.out).mono ?_
  rintro e w2 ⟨b',rfl,y,x⟩
  obtain ⟨a5,a6⟩:=ae (HB.out.trans (x.mono HB.out.size)) y;clear x y
  go_wp2_with fail
  go_ret
  exact ⟨⟨b',rfl,a6.out⟩,a5.out⟩
 have HQ:=aa (Hb.out rfl)
 go_wp2_with fail
 refine (b2.out _ HB.out).mono ?_
 rintro e w3 ⟨rfl,I⟩
 have av:=(I.block _ (JC v)).trans v
 have aR:=(I.block _ (JC p)).trans p
 have u:=aa (HB.out.trans (I.mono HB.out.size));clear z0 z1 z2 z3 z4 z5 z6 z7 z8 z9 Z ad a8 a1 a4 zf y0 y1 y2 y3 y4 y5 y6 y7 y8 y9 a0 a2 yf v p I HZ HY
 obtain ⟨⟨z0,z1,z2,z3,z4,z5,z6,z7,z8,z9,Z,ad,a8,a1,a4⟩,zf⟩:=jM av
 obtain ⟨⟨y0,y1,y2,y3,y4,y5,y6,y7,y8,y9,a0,a2⟩,yf⟩:=jN aR
 clear av aR
 by_cases h3:cc≠0
 ·have hq:(cc != 0)=true:=by rw [bne_iff_ne];exact h3
  go_wp2_with fail
  refine (ab.out _ u.out).mono ?_
  rintro e w2 ⟨b',rfl,y,x⟩
  obtain ⟨a5,a6⟩:=ae (u.out.trans (x.mono u.out.size)) y;clear x y
  go_wp2_with fail
  go_ret
  exact ⟨⟨b',rfl,a6.out⟩,a5.out⟩
 obtain rfl:cc=0:=by omega
 clear h3
 have HR:=aa (b0.out rfl)
 by_cases h4:12<st
 ·have hq:¬(st≤12):=by omega
  go_wp2_with fail
  all_goals
   go_ret
   exact rr _ HQ.out u.out
 have hq:st≤12:=by omega
 go_wp2_with fail
 refine (b1.out HR.out _ u.out).mono ?_
 rintro e w4 ⟨rfl,d,rfl⟩
 have a7:=aa (JN u.out d)
 obtain ⟨W4,a3⟩:∃W4,W4=w3.drewN d:=⟨_,rfl⟩
 have b3:W4.cell? ⟨w.heap.size+1,5,none⟩=some (KL ba):=by rw [a3];exact y5
 rw [←a3] at a7 ⊢
 clear a3 z0 z1 z2 z3 z4 z5 z6 z7 z8 z9 Z ad a8 a1 a4 zf y0 y1 y2 y3 y4 y5 y6 y7 y8 y9 a0 a2 yf
 by_cases h5:CN≤150
 ·have k5:(CN:Int)≤150:=by omega
  go_wp2_with fail
  all_goals
   go_ret
   exact rr _ HQ.out a7.out
 ·have k5:¬((CN:Int)≤150):=by omega
  go_wp2_with fail
  all_goals
   go_ret
   exact rr _ HQ.out a7.out
theorem gW:dq Tryz.prog 41 136 (.agg KR) 12 88:=⟨Tryz.underlying41,info_parts (by kernel_rfl),rfl,by decide⟩
def iB (w:World) (v:Value) (i:World) (v':Value):Prop:=Keep (fun j=>v.ownBlock=some j) w i∧(v'.ownBlock=v.ownBlock∨∀k,v'.ownBlock=some k→w.heap.size≤k)
theorem iB.trans {a b c:World} {v v' i:Value} (h:iB a v b v') (k:iB b v' c i):iB a v c i:=by
 refine ⟨⟨k.1.os.trans h.1.os,k.1.tape.trans h.1.tape,k.1.output.trans h.1.output,JJ h.1.size k.1.size,fun j o hn=>(k.1.block j (JK o h.1.size) fun u=>?_).trans (h.1.block j o hn)⟩,?_⟩
 ·rcases h.2 with q | q
  ·exact hn (q▸u)
  ·have:=q j u;omega
 ·rcases k.2 with p | p
  ·rw [p];exact h.2
  ·exact .inr fun j o=>JJ h.1.size (p j o)
theorem iB.below {b c:World} {v:Value} (h:Below b.heap.size b c):iB b v c v:=⟨Keep.below h,.inl rfl⟩
theorem iB.refl (w:World) (v:Value):iB w v w v:=⟨Keep.refl _ _,.inl rfl⟩
theorem fS {P:Program} {t e:TypeId} {z:Value} {size i:Nat} (T:dq P t e z size i) (w:World) {ops:Array Oper} {rest:List Oper} {o:Oper} {a:Act} {Q:Exit→Act→World→Prop}
  (A:o.guard=none) (s x:Operand) (B:o.op=.call {callee:=.builtin .append,args:=#[s,x],argTypes:=#[t,t]})
  (base:Nat) (v:Value) (n:Nat) (xs:List Value) (hs:a.eval s=v) (hown:w.ownsRow base e size v n xs)
  (us:List Value) (hx:a.eval x=.slice (some ⟨w.heap.size,0,none⟩) 1 1) (hus:us.length=size) (h1:∀u∈us,u.oneCell'=true)
  (hb:(n+1)*i≤140737488355328) (h63:n+1≤maxLen) (hbase:base≤w.heap.size)
  (h:∀q p j,j.ownsRow base e size (.slice q (n+1) p) (n+1) (xs++us)→iB w v j (.slice q (n+1) p)→
   wpList P ops Q rest (a.put o.dst (.slice q (n+1) p)) j):wpList P ops Q (o::rest) a (w.alloc (.cells us.toArray e)):=by
 refine dX T (w:=w.alloc (.cells us.toArray e)) A s x B base v n xs hs (hown.alloc _) (some ⟨w.heap.size,0,none⟩) 1 1 us hx (dZ w us e w.heap.size rfl) (by omega) h1 hb h63 (by simp;omega) ?_
 intro q p j C _ hg hn
 refine h q p j C ⟨((Keep.refl _ w).alloc _).grown hg (fun k y=>.inr y),?_⟩
 rcases hn with hn | hn
 ·exact .inl hn
 ·exact .inr fun k y=>by rw [hn] at y;simp at y;omega
theorem ss6 {w:World} {b:Nat} {t:TypeId} {u o i q j p v0 v1 v2 v3 v4 v5:Value} (h:w.heap[b]?=some (.cells #[u,o,i,q,j,p] t (0,0))):
  ((((((w.setCell ⟨b,0,none⟩ v0).setCell ⟨b,1,none⟩ v1).setCell ⟨b,2,none⟩ v2).setCell ⟨b,3,none⟩ v3).setCell ⟨b,4,none⟩ v4).setCell ⟨b,5,none⟩ v5).heap[b]?=some (.cells #[v0,v1,v2,v3,v4,v5] t (0,0)):=
 ss (ss (ss3 (ss h rfl) rfl) rfl) (by simp)
theorem nE (p:Pln) (O Q R H I N C j o:Value) (w:World) (L:cN p) (x:p.bu≤1048576):
  Calls Tryz.prog 73 #[.agg #[O,Q,R,H,KL (p.W:Nat),I,N,C,KL (p.bu:Nat),KL (p.ck:Nat),j,o,KL (p.n:Nat)]] w fun e B=>∃v,e=.returned v∧B.ownsRow w.heap.size 132 2 v p.buks.length (aF p.buks)∧Below w.heap.size w B:=by
 obtain ⟨u,hW0⟩:∃u,w.alloc (.cells #[O,Q,R,H,KL (p.W:Nat),I,N,C,KL (p.bu:Nat),KL (p.ck:Nat),j,o,KL (p.n:Nat)] 79)=u:=⟨_,rfl⟩
 have q:Below w.heap.size w u:=by rw [←hW0];exact (br w).alloc (JD _) _
 have D:=yj p.n p.bu u (by have:=L.n;omega) L.bu x
 obtain ⟨y,i,U⟩:=af hW0 q D;clear hW0 q D
 go_enter Tryz.func73,Tryz.ntmps73
 go_wp2_with fail
 rw [y.out]
 refine U.out.mono ?_
 rintro e X ⟨v,rfl,J,A⟩
 obtain ⟨V,T⟩:=ae (ax (base':=w.heap.size) J i.out.size) (i.out.trans (A.mono i.out.size));clear J A
 go_wp2_with fail
 go_ret
 exact ⟨_,rfl,V.out,T.out⟩
theorem DL (p:Pln) (V Y X O Q U L o u:Value) (st j:Nat) (w:World) (hp:cN p) (a4:p.bu≤1048576) (hj:j<p.buks.length):
  Calls Tryz.prog 126 #[.agg #[V,Y,X,O,KL (p.W:Nat),Q,U,L,KL (p.bu:Nat),KL (p.ck:Nat),o,u,KL (p.n:Nat)],KL (st:Nat),KL (j:Nat)] w fun e J=>e=.returned (.agg #[KL (st:Nat),KL (j:Nat),KL ((aO p.buks j).1:Nat),KL ((aO p.buks j).2:Nat),KL (p.W:Nat),KL (p.ck:Nat)])∧Below w.heap.size w J:=by
 obtain ⟨i,hW0⟩:∃i,(w.alloc (.cells #[V,Y,X,O,KL (p.W:Nat),Q,U,L,KL (p.bu:Nat),KL (p.ck:Nat),o,u,KL (p.n:Nat)] 79)).alloc (.cells KW 220)=i:=⟨_,rfl⟩
 have g0:i.heap[w.heap.size]?=some (.cells #[V,Y,X,O,KL (p.W:Nat),Q,U,L,KL (p.bu:Nat),KL (p.ck:Nat),o,u,KL (p.n:Nat)] 79 (0,0)):=by
  rw [←hW0,JP _ _ _ (by simp)];exact JE w _
 have g1:i.heap[w.heap.size+1]?=some (.cells KW 220 (0,0)):=by
  rw [←hW0];have:=JE (w.alloc (.cells #[V,Y,X,O,KL (p.W:Nat),Q,U,L,KL (p.bu:Nat),KL (p.ck:Nat),o,u,KL (p.n:Nat)] 79)) (.cells KW 220);simpa using this
 have T:Below w.heap.size w i:=by rw [←hW0];exact ((br w).alloc (JD _) _).alloc (by simp) _
 have t0:=fun J (q:Keep (fun j=>j=w.heap.size+1) i J)=>uC ((q.block _ (JC g0) (by omega)).trans g0)
 have av:(j:Int)<p.buks.length:=by omega
 obtain ⟨ab,I,G1⟩:=af hW0 T g1
 have q0:Keep (fun j=>j=w.heap.size+1) i i.drew:=(Keep.refl _ _).drew
 clear hW0 g0 g1 T
 go_enter Tryz.func126,Tryz.ntmps126
 go_wp2_with fail
 rw [ab.out]
 refine HA.g (fun J:World=>Keep (fun j=>j=w.heap.size+1) i J) ?_
 refine HA.t ?_ [0,1,2,4,7,8,9,10,11,12] q0 ?_
 refine HA.c 3 (nE p V Y X O Q U L o u _ hp a4) ?_
 rintro e C ⟨v2,rfl,o2,k2⟩
 have b2:=bt (br i).drew k2
 have D:Keep (fun j=>j=w.heap.size+1) i C:=Keep.below b2
 obtain ⟨g,c2,rfl,_⟩:=o2.form (by omega)
 obtain ⟨d0,d1⟩:=ie o2 hj
 obtain ⟨H,A⟩:∃b,(aO p.buks j).1=b:=⟨_,rfl⟩
 obtain ⟨R,y⟩:∃b,(aO p.buks j).2=b:=⟨_,rfl⟩
 rw [A] at d0
 rw [y] at d1
 refine ⟨_,rfl,D,fun _=>?_⟩
 refine HA.v 5 C (.pointer (some ⟨g,j*2,none⟩)) D ?_
 refine HA.v 6 C (.agg #[KL (H:Nat),KL (R:Nat)]) D ?_
 refine HA.v 13 C (.agg #[KL (st:Nat),KL (j:Nat),KL (H:Nat),KL (R:Nat),KL (p.W:Nat),KL (p.ck:Nat)]) D ?_
 have Z:=sb G1.out C b2
 have u2:=bx6 Z
 have N:=ss6 (v0:=KL (st:Nat)) (v1:=KL (j:Nat)) (v2:=KL (H:Nat)) (v3:=KL (R:Nat)) (v4:=KL (p.W:Nat)) (v5:=KL (p.ck:Nat)) Z
 have a8:=JC Z
 obtain ⟨W9,x⟩:∃W9,((((((C.setCell ⟨w.heap.size+1,0,none⟩ (KL (st:Nat))).setCell ⟨w.heap.size+1,1,none⟩ (KL (j:Nat))).setCell ⟨w.heap.size+1,2,none⟩ (KL (H:Nat))).setCell ⟨w.heap.size+1,3,none⟩ (KL (R:Nat))).setCell ⟨w.heap.size+1,4,none⟩ (KL (p.W:Nat))).setCell ⟨w.heap.size+1,5,none⟩ (KL (p.ck:Nat)))=W9:=⟨_,rfl⟩
 have k9:Keep (fun j=>j=w.heap.size+1) C W9:=by rw [←x];exact Keep.setCell (S:=fun j=>j=w.heap.size+1) (Keep.setCell (S:=fun j=>j=w.heap.size+1) (Keep.setCell (S:=fun j=>j=w.heap.size+1) (Keep.setCell (S:=fun j=>j=w.heap.size+1) (Keep.setCell (S:=fun j=>j=w.heap.size+1) (Keep.setCell (S:=fun j=>j=w.heap.size+1) (Keep.refl _ _) _ (.inr rfl) _) _ (.inr rfl) _) _ (.inr rfl) _) _ (.inr rfl) _) _ (.inr rfl) _) _ (.inr rfl) _
 refine HA.s 14 W9 (D.trans k9) ?_ (he:=by subst x;go_simp)
 refine HA.d ?_
 rw [x] at N
 obtain ⟨E6,HB⟩:=ae N (I.out.trans ((D.trans k9).toBelow (B:=w.heap.size) I.out.size (fun j hj=>by omega)))
 obtain ⟨⟨r0,r1,r2,r3,r4,r5⟩,rf⟩:=bx6 N
 have aG:=JC N
 obtain ⟨ao,ad⟩:=ae A y;clear N Z u2 a8 q0 D b2 k9 k2 t0 o2 d0 d1 A y
 go_wp2_with fail
 rw [ao.out,ad.out]
 exact JQ (v:=.agg #[KL (st:Nat),KL (j:Nat),KL (H:Nat),KL (R:Nat),KL (p.W:Nat),KL (p.ck:Nat)]) (by simp [results,Tryz.results126,go_sem,r0,r1,r2,r3,r4,r5]) rfl ⟨rfl,HB.out⟩
abbrev fQ (w:World) (base:Nat) (v:Value) (l:List Itm):Prop:=w.ownsRow base 136 12 v l.length (bH l)
theorem xY (p:Pln) (base st x lo o:Nat) (a0 a1 a2 a3 a5 a6 a7 a4 a8:Value) (v:Value) (l:List Itm) (w:World)
  (hp:cN p) (dr:p.bu≤1048576) (hl:fQ w base v l) (hb:base≤w.heap.size) (hx:x<p.W) (bi:lo≤o) (hg:o≤p.buks.length) (ds:l.length≤8000000):
  Calls Tryz.prog 78 #[v,.agg #[a0,a1,a2,a3,KL (p.W:Nat),a5,a6,a7,KL (p.bu:Nat),KL (p.ck:Nat),a4,a8,KL (p.n:Nat)],KL x,KL (st:Nat),.agg #[KL (lo:Nat),KL (o:Nat)]] w fun e u=>∃v',e=.returned v'∧fQ u base v' (l++de p x st (lo,o))∧iB w v u v':=by
 obtain ⟨H,hW0⟩:∃H,(w.alloc (.cells #[a0,a1,a2,a3,KL (p.W:Nat),a5,a6,a7,KL (p.bu:Nat),KL (p.ck:Nat),a4,a8,KL (p.n:Nat)] 79)).alloc (.cells #[KL (lo:Nat),KL (o:Nat)] 132)=H:=⟨_,rfl⟩
 have g0:H.heap[w.heap.size]?=some (.cells #[a0,a1,a2,a3,KL (p.W:Nat),a5,a6,a7,KL (p.bu:Nat),KL (p.ck:Nat),a4,a8,KL (p.n:Nat)] 79 (0,0)):=by
  rw [←hW0,JP _ _ _ (by simp)];exact JE w _
 have g1:H.heap[w.heap.size+1]?=some (.cells #[KL (lo:Nat),KL (o:Nat)] 132 (0,0)):=by
  rw [←hW0];have:=JE (w.alloc (.cells #[a0,a1,a2,a3,KL (p.W:Nat),a5,a6,a7,KL (p.bu:Nat),KL (p.ck:Nat),a4,a8,KL (p.n:Nat)] 79)) (.cells #[KL (lo:Nat),KL (o:Nat)] 132);simpa using this
 have av:Below w.heap.size w H:=by rw [←hW0];exact ((br w).alloc (JD _) _).alloc (by simp) _
 have aP:fQ H base v l:=ap hl av
 have kP:=fun u (q:Keep (fun j=>v.ownBlock=some j) H u)=>(q.block _ (JC g0) (fun h=>an g0 (by decide) aP h.symm)).trans g0
 have kG:=fun u (q:Keep (fun j=>v.ownBlock=some j) H u)=>(q.block _ (JC g1) (fun h=>an g1 (by decide) aP h.symm)).trans g1
 obtain ⟨m,hm⟩:∃m,p.W-1=m:=⟨_,rfl⟩
 have dc:=hp.W1;have e9:=hp.W8;have d0:=hp.ck;have cd:=hp.ck2;have ec:=hp.buks
 have bX:=fun j=>hp.buk j
 have L:=fun ph r j=>hp.round x st ph r j
 have eb:(p.W:Int)-1=(m:Int):=by omega
 have e7:IntKind.i64.wrap (m:Int)=m:=JI _ (by omega)
 have heq:=tj p x st lo o
 rw [hm] at heq
 have bU:=JJ hb av.size
 have d8:=av.size
 obtain ⟨dG,d9,cy,HP,HG,d5,b6,Hm⟩:=ak hW0 av aP kP kG bX L hm;obtain ⟨dT,b0⟩:=ae heq bU
 have tG:=fun u (q:Below H.heap.size H u)=>bx2 (kG u (Keep.below q))
 have q0:=br H
 clear hW0 g0 g1 av aP hl kP kG bX L hm bU heq d8
 go_enter Tryz.func78,Tryz.ntmps78
 go_wp2_with fail
 rw [dG.out]
 clear tG q0
 have cj:=aa ds
 go_loopw [0,11] (fun D y wr=>∃j:Nat,lo≤j∧j≤o∧y=KL j∧fQ wr base D (l++cR st lo (j-lo) 2)∧iB H v wr D) (fun _ y _=>o-(intOf y).toNat)
 case atStart=>exact ⟨lo,JD _,bi,rfl,by simpa [cR] using cy.out,iB.refl _ _⟩
 case round=>
  obtain ⟨j,hj,cs,rfl,l3,J⟩:=hrel
  have uR:=fun u (q:Below wr.heap.size wr u)=>bx2 (sb (HG.out wr J.1) u q)
  have q1:=br wr
  have A:(l++cR st lo (j-lo) 2).length≤8388608:=by
   have:=cj.out
   simp only [Kf,iS]
   omega
  obtain ⟨Av,cv,rfl,_⟩:=aw l3
  obtain ⟨n,hn⟩:∃n,(l++cR st lo (j-lo) 2).length=n:=⟨_,rfl⟩
  have T:wr.ownsRow base 136 12 (.slice Av n cv) n (bH (l++cR st lo (j-lo) 2)):=by rw [←hn];exact l3
  rw [hn] at A J ⊢
  have Z:=J.1.size
  by_cases bA:j<o
  ·have ao:(j:Int)<o:=by omega
   have cO:IntKind.i64.wrap ((j:Int)+1)=((j+1:Nat):Int):=by rw [JI _ (by omega)];push_cast;rfl
   have e:l++cR st lo (j+1-lo) 2=(l++cR st lo (j-lo) 2)++[(⟨2,st,j,none⟩:Itm)]:=by rw [show j+1-lo=(j-lo)+1 by omega,kv,show lo+(j-lo)=j by omega];simp only [Kl]
   obtain ⟨Q,L3,He,V⟩:=ag J T e hn;clear l3 T J e hn
   go_wp2_with (at_builtin;refine fS gW _ rfl (.tmp 27) (.tmp 31) rfl base (.slice Av n cv) n _ rfl L3.out [KL 2,KL (st:Nat),KL (j:Nat),.bool false,.bool false,KL 0,KL 0,KL 0,KL 0,KL 0,KL 0,KL 0] rfl rfl (by simp [Value.oneCell']) (by omega) (by unfold maxLen;omega) (JJ b0.out Z) ?_)
   intro g6 c6 w6 B C
   obtain ⟨R,U⟩:=ae B (Q.out.trans C);clear B C
   go_wp2_with fail
   go_roundw
   case rel=>exact ⟨j+1,by omega,by omega,by go_num,by unfold fQ;rw [He.out,Kf,V.out,fk];exact R.out,U.out⟩
   case measure=>simp [intOf];omega
  ·have ao:¬((j:Int)<o):=by omega
   obtain rfl:o=j:=by omega
   obtain ⟨L3,Q,V⟩:=af l3 J hn;clear l3 T J A hn
   obtain ⟨l1,b4⟩:∃l1,l++cR st lo (o-lo) 2=l1:=⟨_,rfl⟩
   have bb:l1.length≤8000060:=by
    have:=cj.out
    rw [←b4]
    simp only [Kf,iS]
    omega
   rw [V.out] at L3
   have L4:Hid (wr.ownsRow base 136 12 (.slice Av n cv) l1.length (bH l1)):=Lib.hid (by have:=L3.out;unfold fQ at this;rw [V.out] at this;rw [←b4,V.out];exact this)
   obtain ⟨d6,b9⟩:=ae b4 bb;clear b4 bb L3
   go_wp2_with fail
   clear uR q1
   go_loopw [0,12] (fun D y wr=>∃ph:Nat,ph≤2∧y=KL ph∧fQ wr base D (l1++bT p x st (lo,o) (ph*m))∧iB H v wr D) (fun _ y _=>2-(intOf y).toNat)
   case atStart=>exact ⟨0,JH _,rfl,by simpa [bT] using L4.out,Q.out⟩
   case round=>
    obtain ⟨ph,ea,rfl,l2,A2⟩:=hrel
    by_cases dk:ph<2
    ·have da:(ph:Int)<2:=by omega
     have e3:IntKind.i64.wrap ((ph:Int)+1)=((ph+1:Nat):Int):=by rw [JI _ (by omega)];push_cast;rfl
     obtain ⟨L2,O⟩:=ae l2 A2;clear l2 A2
     go_wp2_with fail
     go_loopw [0,13] (fun D y wr=>∃r:Nat,r≤m∧y=KL r∧fQ wr base D (l1++bT p x st (lo,o) (ph*m+r))∧iB H v wr D) (fun _ y _=>m-(intOf y).toNat)
     case atStart=>exact ⟨0,JH _,rfl,L2.out,O.out⟩
     case round=>
      obtain ⟨r,hr,rfl,l2,A2⟩:=hrel
      have uP:=fun u (q:Below wr.heap.size wr u)=>uC (sb (HP.out wr A2.1) u q)
      have uR:=fun u (q:Below wr.heap.size wr u)=>bx2 (sb (HG.out wr A2.1) u q)
      have q1:=br wr
      by_cases L:r<m
      ·have d2:(r:Int)<m:=by omega
       have e6:IntKind.i64.wrap ((r:Int)+1)=((r+1:Nat):Int):=by rw [JI _ (by omega)];push_cast;rfl
       obtain ⟨k,hk⟩:∃k,ph*m+r=k:=⟨_,rfl⟩
       have cb:k/m=ph:=by rw [←hk,Nat.mul_comm,Nat.mul_add_div (by omega),Nat.div_eq_of_lt L,Nat.add_zero]
       have bz:k%m=r:=by rw [←hk,Nat.mul_comm,Nat.mul_add_mod,Nat.mod_eq_of_lt L]
       have bN:k≤14:=by
        have:ph*m≤1*7:=Nat.mul_le_mul (by omega) (by have:=Hm.out;omega)
        omega
       rw [hk] at l2
       obtain ⟨L2,O,Hk,dv,cx⟩:=ah l2 A2 hk cb bz;clear l2 A2 hk cb bz
       go_wp2_with fail
       clear uP uR q1
       go_loopw [0,14] (fun D y wr=>∃j:Nat,lo≤j∧j≤o∧y=KL j∧fQ wr base D (l1++bT p x st (lo,o) k++fO p x st k lo (j-lo))∧iB H v wr D) (fun _ y _=>o-(intOf y).toNat)
       case atStart=>exact ⟨lo,JD _,bi,rfl,by simpa [fO] using L2.out,O.out⟩
       case round=>
        obtain ⟨j,hj,cs,rfl,I,A4⟩:=hrel
        have uP:=fun u (q:Below wr.heap.size wr u)=>uC (sb (HP.out wr A4.1) u q)
        have uR:=fun u (q:Below wr.heap.size wr u)=>bx2 (sb (HG.out wr A4.1) u q)
        have q1:=br wr
        by_cases bA:j<o
        ·have ao:(j:Int)<o:=by omega
         have dn:j<p.buks.length:=by omega
         obtain ⟨wj,rfl⟩:∃wj:World,wj=wr:=⟨_,rfl⟩
         obtain ⟨Aw,cw,rfl,_⟩:=aw I
         obtain ⟨l4,b5⟩:∃l4,l1++bT p x st (lo,o) k++fO p x st k lo (j-lo)=l4:=⟨_,rfl⟩
         have b7:l4.length≤8200000:=by
          have h1:=iY (w:=x) (st:=st) (k:=k) (g:=(lo,o)) (M:=120) (p:=p) (fun ph r j=>b6.out ph r j)
          have h2:=qZ (w:=x) (st:=st) (k:=k) (lo:=lo) (n:=j-lo) (M:=120) (p:=p) (fun ph r j=>b6.out ph r j)
          have h4:k*((o-lo)*120)≤14*(60*120):=Nat.mul_le_mul bN (Nat.mul_le_mul (by omega) (JD _))
          have h5:(j-lo)*120≤60*120:=Nat.mul_le_mul (by omega) (JD _)
          have h6:=b9.out
          rw [←b5]
          simp only [Kf]
          dsimp only at h1
          omega
         rw [b5] at I A4 ⊢
         obtain ⟨v4,bO⟩:∃v4,Value.slice Aw l4.length cw=v4:=⟨_,rfl⟩
         rw [bO] at I A4 ⊢
         have bh:=d5.out j
         have e8:cC p x st (k/(p.W-1)) (k%(p.W-1)) j=(dF st j (aO p.buks j) p.W p.ck x ph r).map (gh st):=by
          unfold cC
          rw [Hm.out,dv.out,cx.out]
         have aM:=b6.out (k/(p.W-1)) (k%(p.W-1)) j
         rw [e8,List.length_map] at aM
         obtain ⟨b1,b2,bI⟩:∃b1 b2,aO p.buks j=(b1,b2):=⟨_,_,rfl⟩
         have Y:=DL p a0 a1 a2 a3 a5 a6 a7 a4 a8 st j wj hp dr dn
         rw [bI] at bh e8 aM Y
         dsimp only at bh Y
         obtain ⟨cc,E8,aR,ab,b3,d1,ct⟩:=aj Y e8 aM I A4 b5 b7;clear Y e8 aM I A4 b5 b7 bI bO
         go_wp2_with fail
         refine cc.out.mono ?_
         rintro e w7 ⟨rfl,k7⟩
         have q7:=bt q1 k7
         go_wp2_with fail
         refine (xO st j b1 b2 p.W p.ck x ph r w7 dc (by omega) hx dk (by have:=Hm.out;omega) bh.1 (by omega) d0 cd).mono ?_
         rintro e w8 ⟨v8,rfl,o8,k8⟩
         have q8:=bt q7 k8
         obtain ⟨A8,c8,rfl,_⟩:=aw o8
         obtain ⟨X,hX⟩:∃X,dF st j (b1,b2) p.W p.ck x ph r=X:=⟨_,rfl⟩
         rw [hX] at E8 aR o8 ⊢
         obtain ⟨N,hN⟩:∃N,X.length=N:=⟨_,rfl⟩
         rw [hN] at aR o8 ⊢
         have l8:fQ w8 base v4 l4:=ap ab.out q8
         have bG:iB H v w8 v4:=b3.out.trans (iB.below q8)
         have ci:=fun u (q:Keep (fun j=>v4.ownBlock=some j) w8 u)=>q.own o8 (fun k hk e=>by
          have h1:=(o8.lt k hk).1
          have h5:k<wj.heap.size:=(ab.out.lt k e).2
          have h6:=q7.size
          omega)
         obtain ⟨L8,be,d7,HN⟩:=ag l8 bG ci hN;clear o8 l8 bG ci k8 k7 q8 q7 q1 hX hN uP uR ab b3
         go_wp2_with fail
         go_loopw [0,16] (fun D y wr=>∃i:Nat,i≤N∧y=KL i∧fQ wr base D (l4++(X.take i).map (gh st))∧iB w8 v4 wr D) (fun _ y _=>N-(intOf y).toNat)
         case atStart=>exact ⟨0,JH _,rfl,by simpa using L8.out,iB.refl _ _⟩
         case round=>
          obtain ⟨i,e4,rfl,l5,A5⟩:=hrel
          by_cases e1:i<N
          ·have e0:(i:Int)<N:=by omega
           have e5:IntKind.i64.wrap ((i:Int)+1)=((i+1:Nat):Int):=by rw [JI _ (by have:=aR.out;omega)];push_cast;rfl
           have oX:=d7.out wr A5.1
           obtain ⟨ga,rfl⟩:∃ga,A8=some ⟨ga,0,none⟩:=by
            obtain ⟨g,e,hv,_⟩:=oX.form (by omega)
            simp only [Ku] at hv
            exact ⟨g,hv.1⟩
           have dp:i<X.length:=by rw [HN.out];exact e1
           obtain ⟨a,ha⟩:∃a,X[i]=a:=⟨_,rfl⟩
           have cr:X[i]?=some a:=by rw [←ha];simp
           have cf:=xe oX cr HN.out
           have cl:X.take (i+1)=X.take i++[a]:=by rw [List.take_succ_eq_append_getElem dp,ha]
           have A:(l4++(X.take i).map (gh st)).length≤8388607:=by
            have:=ct.out
            have:=aR.out
            simp only [Kf,List.length_map,Kk]
            omega
           obtain ⟨snd,ad,bn,bv,bd,bf,bo,bs,bl⟩:=a
           have c0:wr.cell? ⟨ga,i*9,none⟩=some (.bool snd):=cf 0 (by omega)
           have c1:wr.cell? ⟨ga,i*9+1,none⟩=some (.bool ad):=cf 1 (by omega)
           have c2:wr.cell? ⟨ga,i*9+2,none⟩=some (KL (bn:Nat)):=cf 2 (by omega)
           have c3:wr.cell? ⟨ga,i*9+3,none⟩=some (KL (bv:Nat)):=cf 3 (by omega)
           have c4:wr.cell? ⟨ga,i*9+4,none⟩=some (KL (bd:Nat)):=cf 4 (by omega)
           have c5:wr.cell? ⟨ga,i*9+5,none⟩=some (KL (bf:Nat)):=cf 5 (by omega)
           have c6:wr.cell? ⟨ga,i*9+6,none⟩=some (KL (bo:Nat)):=cf 6 (by omega)
           have c7:wr.cell? ⟨ga,i*9+7,none⟩=some (KL (bs:Nat)):=cf 7 (by omega)
           have c8:wr.cell? ⟨ga,i*9+8,none⟩=some (KL (bl:Nat)):=cf 8 (by omega)
           obtain ⟨Av,cv,rfl,_⟩:=aw l5
           obtain ⟨n,hn⟩:∃n,(l4++(X.take i).map (gh st)).length=n:=⟨_,rfl⟩
           have co:wr.ownsRow base 136 12 (.slice Av n cv) n (bH (l4++(X.take i).map (gh st))):=by rw [←hn];exact l5
           rw [hn] at A A5 ⊢
           have Z:=A5.1.size
           obtain ⟨bM,L5,c9,V⟩:=ag A5 co cl hn;clear oX cf l5 co A5 cl cr hn ha
           cases snd
           ·go_wp2_with (at_builtin;refine fS gW _ rfl (.tmp 72) (.tmp 80) rfl base (.slice Av n cv) n _ rfl L5.out [KL 4,KL (st:Nat),KL 0,.bool false,.bool ad,KL (bn:Nat),KL (bv:Nat),KL (bd:Nat),KL (bf:Nat),KL (bo:Nat),KL (bs:Nat),KL (bl:Nat)] rfl rfl (by simp [Value.oneCell']) (by omega) (by unfold maxLen;omega) (JJ (JJ b0.out be.out.1.size) Z) ?_)
            intro g6 cA w6 B C
            obtain ⟨R,U⟩:=ae B (bM.out.trans C);clear B C
            go_wp2_with fail
            go_roundw
            case rel=>exact ⟨i+1,by omega,by go_num,by unfold fQ;rw [c9.out,List.map_append,←Kl,Kf,V.out,List.map_cons,List.map_nil,fk,List.map_take];exact R.out,U.out⟩
            case measure=>simp [intOf];omega
           ·go_wp2_with (at_builtin;refine fS gW _ rfl (.tmp 72) (.tmp 80) rfl base (.slice Av n cv) n _ rfl L5.out [KL 3,KL (st:Nat),KL 0,.bool true,.bool ad,KL (bn:Nat),KL (bv:Nat),KL (bd:Nat),KL (bf:Nat),KL (bo:Nat),KL (bs:Nat),KL (bl:Nat)] rfl rfl (by simp [Value.oneCell']) (by omega) (by unfold maxLen;omega) (JJ (JJ b0.out be.out.1.size) Z) ?_)
            intro g6 cA w6 B C
            obtain ⟨R,U⟩:=ae B (bM.out.trans C);clear B C
            go_wp2_with fail
            go_roundw
            case rel=>exact ⟨i+1,by omega,by go_num,by unfold fQ;rw [c9.out,List.map_append,←Kl,Kf,V.out,List.map_cons,List.map_nil,fk,List.map_take];exact R.out,U.out⟩
            case measure=>simp [intOf];omega
          ·obtain rfl:N=i:=by omega
           have e0:¬((N:Int)<N):=by omega
           have e2:IntKind.i64.wrap ((j:Int)+1)=((j+1:Nat):Int):=by rw [JI _ (by omega)];push_cast;rfl
           rw [List.take_of_length_le (by rw [HN.out];exact JD _),←E8.out,←d1.out,Kl,show fO p x st k lo (j-lo)++cC p x st (k/(p.W-1)) (k%(p.W-1)) j=fO p x st k lo (j+1-lo) from by rw [show j+1-lo=(j-lo)+1 by omega,mX,show lo+(j-lo)=j by omega]] at l5
           obtain ⟨L5,B5⟩:=ae l5 (be.out.trans A5);clear l5 A5
           go_wp2_with fail
           go_roundw
           case rel=>exact ⟨j+1,by omega,by omega,by go_num,L5.out,B5.out⟩
           case measure=>simp [intOf];omega
        ·have ao:¬((j:Int)<o):=by omega
         obtain rfl:o=j:=by omega
         have e:=fW p x st (lo,o) k
         dsimp only at e
         rw [Kl,←e,←Hk.out,Ky] at I
         obtain ⟨ab,b3⟩:=ae I A4;clear I A4 e uP
         go_wp2_with fail
         go_roundw
         case rel=>exact ⟨r+1,by omega,by go_num,ab.out,b3.out⟩
         case measure=>simp [intOf];omega
      ·have d2:¬((r:Int)<m):=by omega
       obtain rfl:m=r:=by omega
       rw [←Kx] at l2
       obtain ⟨L2,O⟩:=ae l2 A2;clear l2 A2 uR
       go_wp2_with fail
       go_roundw
       case rel=>exact ⟨ph+1,by omega,by go_num,L2.out,O.out⟩
       case measure=>simp [intOf];omega
    ·have da:¬((ph:Int)<2):=by omega
     obtain rfl:ph=2:=by omega
     have L:(bT p x st (lo,o) (2*m)).length≤100800:=by
      have h1:=iY (w:=x) (st:=st) (k:=2*m) (g:=(lo,o)) (M:=120) (p:=p) (fun ph r j=>b6.out ph r j)
      have h4:2*m*((o-lo)*120)≤14*(60*120):=Nat.mul_le_mul (by have:=Hm.out;omega) (Nat.mul_le_mul (by omega) (JD _))
      dsimp only at h1
      omega
     have aG:(l1++bT p x st (lo,o) (2*m)).length≤8200000:=by
      have:=b9.out
      rw [Kf];omega
     obtain ⟨l9,bw⟩:∃l9,l1++bT p x st (lo,o) (2*m)=l9:=⟨_,rfl⟩
     rw [bw] at l2 aG
     have uR:=fun u (q:Below wr.heap.size wr u)=>bx2 (sb (HG.out wr A2.1) u q)
     have q1:=br wr
     obtain ⟨L2,O,d4,bV⟩:=ag l2 A2 bw aG;clear l2 A2 bw aG L
     go_wp2_with fail
     clear uR q1
     go_loopw [0,18] (fun D y wr=>∃j:Nat,lo≤j∧j≤o∧y=KL j∧fQ wr base D (l9++cR st lo (j-lo) 5)∧iB H v wr D) (fun _ y _=>o-(intOf y).toNat)
     case atStart=>exact ⟨lo,JD _,bi,rfl,by simpa [cR] using L2.out,O.out⟩
     case round=>
      obtain ⟨j,hj,cs,rfl,l3,J⟩:=hrel
      have uR:=fun u (q:Below wr.heap.size wr u)=>bx2 (sb (HG.out wr J.1) u q)
      have q1:=br wr
      have A:(l9++cR st lo (j-lo) 5).length≤8388608:=by
       have:=bV.out
       simp only [Kf,iS]
       omega
      obtain ⟨Av,cv,rfl,_⟩:=aw l3
      obtain ⟨n,hn⟩:∃n,(l9++cR st lo (j-lo) 5).length=n:=⟨_,rfl⟩
      have T:wr.ownsRow base 136 12 (.slice Av n cv) n (bH (l9++cR st lo (j-lo) 5)):=by rw [←hn];exact l3
      rw [hn] at A J ⊢
      have Z:=J.1.size
      by_cases bA:j<o
      ·have ao:(j:Int)<o:=by omega
       have cO:IntKind.i64.wrap ((j:Int)+1)=((j+1:Nat):Int):=by rw [JI _ (by omega)];push_cast;rfl
       have e:l9++cR st lo (j+1-lo) 5=(l9++cR st lo (j-lo) 5)++[(⟨5,st,j,none⟩:Itm)]:=by rw [show j+1-lo=(j-lo)+1 by omega,kv,show lo+(j-lo)=j by omega];simp only [Kl]
       obtain ⟨Q,L3,He,V⟩:=ag J T e hn;clear l3 T J e hn
       go_wp2_with (at_builtin;refine fS gW _ rfl (.tmp 90) (.tmp 94) rfl base (.slice Av n cv) n _ rfl L3.out [KL 5,KL (st:Nat),KL (j:Nat),.bool false,.bool false,KL 0,KL 0,KL 0,KL 0,KL 0,KL 0,KL 0] rfl rfl (by simp [Value.oneCell']) (by omega) (by unfold maxLen;omega) (JJ b0.out Z) ?_)
       intro g6 c6 w6 B C
       obtain ⟨R,U⟩:=ae B (Q.out.trans C);clear B C
       go_wp2_with fail
       go_roundw
       case rel=>exact ⟨j+1,by omega,by omega,by go_num,by unfold fQ;rw [He.out,Kf,V.out,fk];exact R.out,U.out⟩
       case measure=>simp [intOf];omega
      ·have ao:¬((j:Int)<o):=by omega
       obtain rfl:o=j:=by omega
       obtain ⟨L3,Q,V⟩:=af l3 J hn;clear l3 T J A hn
       rw [V.out] at L3
       have b8:l9++cR st lo (o-lo) 5=l++de p x st (lo,o):=by
        rw [←d4.out,←d6.out,dT.out];simp only [Kl]
       have L9:Hid (fQ wr base (.slice Av n cv) (l++de p x st (lo,o))):=Lib.hid (by have:=L3.out;unfold fQ at this ⊢;rw [V.out] at this;rw [←b8,V.out];exact this)
       have d3:=aa ((iB.below (v:=v) d9.out).trans Q.out);clear b8 L3
       go_wp2_with fail
       go_ret
       exact ⟨_,rfl,L9.out,d3.out⟩
def yF (st k:Nat):List Itm:=(List.range k).map (fun a=>(⟨1,st,a,none⟩:Itm))
theorem Cd (st k:Nat):yF st (k+1)=yF st k++[(⟨1,st,k,none⟩:Itm)]:=pP st k
theorem Es (st k:Nat):(yF st k).length=k:=by simp [yF]
theorem xX (p:Pln) (st x:Nat) (a0 a1 a2 a3 a5 a7 A:Value) (w:World) (T:cN p) (b4:p.bu≤1048576) (bi:p.wi≤1048576) (hx:x<p.W):
  Calls Tryz.prog 26 #[.agg #[a0,a1,a2,a3,KL (p.W:Nat),a5,KL (p.mi:Nat),a7,KL (p.bu:Nat),KL (p.ck:Nat),KL (p.wi:Nat),A,KL (p.n:Nat)],KL x,KL (st:Nat)] w fun e o=>∃v,e=.returned v∧o.ownsRow w.heap.size 136 12 v (aD p x st).length (bH (aD p x st))∧Below w.heap.size w o:=by
 obtain ⟨i,hW0⟩:∃i,w.alloc (.cells #[a0,a1,a2,a3,KL (p.W:Nat),a5,KL (p.mi:Nat),a7,KL (p.bu:Nat),KL (p.ck:Nat),KL (p.wi:Nat),A,KL (p.n:Nat)] 79)=i:=⟨_,rfl⟩
 have g0:i.heap[w.heap.size]?=some (.cells #[a0,a1,a2,a3,KL (p.W:Nat),a5,KL (p.mi:Nat),a7,KL (p.bu:Nat),KL (p.ck:Nat),KL (p.wi:Nat),A,KL (p.n:Nat)] 79 (0,0)):=by rw [←hW0];exact JE w _
 have b3:Below w.heap.size w i:=by rw [←hW0];exact (br w).alloc (JD _) _
 have bM:¬((p.W:Int)≤x):=by omega
 have bI:=T.buks;have bA:=T.grps;have bN:=T.mi;have av:=T.wi
 have bG:w.heap.size<i.heap.size:=JC g0
 have Q:p.grps=eR p.buks.length p.wi:=rfl
 obtain ⟨bw,a8,G0,aP⟩:=ag hW0 b3 g0 Q
 have tP:=fun o (q:Below i.heap.size i o)=>uC (sb g0 o q)
 have q0:=br i
 clear hW0 g0 b3 Q
 go_enter Tryz.func26,Tryz.ntmps26
 go_wp2_with fail
 rw [bw.out]
 clear q0
 go_loopw [7,8] (fun vv y wr=>∃k:Nat,k≤p.mi∧y=KL k∧wr.ownsRow i.heap.size 136 12 vv k (bH (yF st k))∧Below i.heap.size i wr) (fun _ y _=>p.mi-(intOf y).toNat)
 case atStart=>exact ⟨0,JH _,rfl,JO _ _ _ _,br i⟩
 case round=>
  obtain ⟨k,hk,rfl,ho,q⟩:=hrel
  obtain ⟨Av,cv,rfl,_⟩:=aw ho
  have I:=q.size
  by_cases J:k<p.mi
  ·have Y:(k:Int)<p.mi:=by omega
   have be:IntKind.i64.wrap ((k:Int)+1)=((k+1:Nat):Int):=by rw [JI _ (by omega)];push_cast;rfl
   obtain ⟨Ho,Hq⟩:=ae ho q;clear ho
   go_wp2_with (at_builtin;refine aQ gW _ rfl (.tmp 27) (.tmp 31) rfl i.heap.size (.slice Av k cv) k _ rfl Ho.out [KL 1,KL (st:Nat),KL (k:Nat),.bool false,.bool false,KL 0,KL 0,KL 0,KL 0,KL 0,KL 0,KL 0] rfl rfl (by simp [Value.oneCell']) (by omega) (by unfold maxLen;omega) I ?_)
   intro g6 c6 w6 H b1 bv
   obtain ⟨bs,X⟩:=ae H (Hq.out.trans b1);clear H b1 bv q
   go_wp2_with fail
   go_roundw
   case rel=>exact ⟨k+1,by omega,by go_num,by rw [Cd,fk];exact bs.out,X.out⟩
   case measure=>simp [intOf];omega
  ·obtain rfl:p.mi=k:=by omega
   have Y:¬((p.mi:Int)<p.mi):=by omega
   have Ho:=aa ho;clear ho
   go_wp2_with fail
   refine HA.g (fun o:World=>Below i.heap.size i o) ?_
   refine HA.t ?_ [0,3,4,5] q.drew ?_
   refine HA.c 1 (nE p a0 a1 a2 a3 a5 (KL (p.mi:Nat)) a7 (KL (p.wi:Nat)) A _ T b4) ?_
   rintro e w2 ⟨v2,rfl,o2,k2⟩
   have q2:=bt q.drew k2
   obtain ⟨C,c2,rfl,_⟩:=aw o2
   refine ⟨_,rfl,q2,fun _=>?_⟩
   refine HA.t ?_ [2] q2 ?_
   refine HA.c 6 (vc p.buks.length p.wi w2 (by omega) av bi) ?_
   rintro e w3 ⟨v3,rfl,o3,k3⟩
   have q3:=bt q2 k3
   obtain ⟨A3,c3,rfl,_⟩:=aw o3
   rw [←aP.out] at o3 ⊢
   refine ⟨_,rfl,q3,fun _=>?_⟩
   refine HA.t ?_ [7] q3 ?_
   refine HA.d ?_
   try simp only [Exit.then]
   have aR:=Rd.own o3
   have l3:fQ w3 i.heap.size (.slice Av p.mi cv) (yF st p.mi):=by
    unfold fQ
    rw [Es]
    exact ap (ap (bC Ho.out 1) k2) k3
   have aM:∀y,A3=some y→w2.heap.size≤y.block∧y.block<w3.heap.size:=fun y hy=>jc o3 y hy
   have b5:∀k,(Value.slice Av p.mi cv).ownBlock=some k→k<w2.heap.size:=fun k hk=>by
    have:=(Ho.out.lt k hk).2
    have:=k2.size
    have e:wr.drew.heap.size=wr.heap.size:=rfl
    omega
   obtain ⟨bn,L3,b7,a4,Q3⟩:=ah aR l3 aM b5 q3;clear aR l3 aM b5 o2 o3 k2 k3 q q2
   go_wp2_with fail
   obtain ⟨v3,b2⟩:∃v,Value.slice Av p.mi cv=v:=⟨_,rfl⟩
   rw [b2] at L3 a4 ⊢
   clear b2
   go_loopw [7,10] (fun vv y wr=>∃k:Nat,k≤p.grps.length∧y=KL k∧fQ wr i.heap.size vv (dg p x st k)∧iB w3 v3 wr vv) (fun _ y _=>p.grps.length-(intOf y).toNat)
   case atStart=>exact ⟨0,JH _,rfl,by simpa [dg,yF] using L3.out,iB.refl _ _⟩
   case round=>
    obtain ⟨k,hk,rfl,R,C⟩:=hrel
    obtain ⟨Aw,cw,rfl,_⟩:=aw R
    have O:=lB T x st hk
    have I:=JJ Q3.out.size C.1.size
    by_cases J:k<p.grps.length
    ·have Y:(k:Int)<p.grps.length:=by omega
     have be:IntKind.i64.wrap ((k:Int)+1)=((k+1:Nat):Int):=by rw [JI _ (by omega)];push_cast;rfl
     have ab:=C.1.rd bn.out (fun y hy e=>by
      have h1:=(b7.out y hy).1
      have h2:=a4.out _ e
      omega)
     have U:=dH J
     obtain ⟨bb,bo,rfl,L⟩:=ab _ _ U.1
     obtain ⟨ad,bz,e',D⟩:=ab _ _ U.2
     obtain ⟨rfl,rfl⟩:ad=bb∧bz=bo:=by simpa using e'.symm
     rw [←Ky] at D
     have N:=T.grp J
     have u:=mZ (p:=p) x st J
     obtain ⟨lo,hi,bd⟩:∃lo hi,aO p.grps k=(lo,hi):=⟨_,_,rfl⟩
     rw [bd] at N L D u
     dsimp only at N L D
     obtain ⟨lk,aG⟩:∃lk,dg p x st k=lk:=⟨_,rfl⟩
     rw [aG] at R C u O ⊢
     obtain ⟨v2,b0⟩:∃v,Value.slice Aw lk.length cw=v:=⟨_,rfl⟩
     rw [b0] at R C ⊢
     have kP:wr.heap[w.heap.size]?=some (.cells #[a0,a1,a2,a3,KL (p.W:Nat),a5,KL (p.mi:Nat),a7,KL (p.bu:Nat),KL (p.ck:Nat),KL (p.wi:Nat),A,KL (p.n:Nat)] 79 (0,0)):=(C.1.block _ (by have:=Q3.out.size;omega) (fun e=>by have:=(L3.out.lt _ e).1;omega)).trans (sb G0.out w3 Q3.out)
     have nP:¬v2.ownBlock=some w.heap.size:=fun e=>by have:=(R.lt _ e).1;omega
     have nB:¬v2.ownBlock=some ad:=fun e=>by
      have h1:=b7.out _ rfl
      dsimp only at h1
      rcases C.2 with h | h
      ·rw [h] at e
       have h2:=a4.out _ e
       omega
      ·have h2:=h _ e
       omega
     have uP:=fun o (q':Keep (fun j=>v2.ownBlock=some j) wr o)=>uC ((q'.block _ (JC kP) nP).trans kP)
     have d0:=fun o (q':Keep (fun j=>v2.ownBlock=some j) wr o)=>q'.cell L nB
     have d1:=fun o (q':Keep (fun j=>v2.ownBlock=some j) wr o)=>q'.cell D nB
     have V:=xY p i.heap.size st x lo hi a0 a1 a2 a3 a5 (KL (p.mi:Nat)) a7 (KL (p.wi:Nat)) A v2 lk wr.drew T b4 (bC R 1) I hx N.1 N.2 (by omega)
     rw [←u] at V
     obtain ⟨bh,a6⟩:=ae V C
     have q1:Keep (fun j=>v2.ownBlock=some j) wr wr.drew:=(Keep.refl _ _).drew
     clear V R C u aG b0 kP L D ab U e' bd
     go_wp2_with fail
     refine HA.g (fun o:World=>Keep (fun j=>v2.ownBlock=some j) wr o) ?_
     refine HA.t ?_ [0,1,2,3,4,5,6,7] q1 ?_
     refine HA.c 8 bh.out ?_
     rintro e w8 ⟨v8,rfl,l8,ao⟩
     have A8:iB wr v2 w8 v8:=(iB.below (br wr).drew).trans ao
     have q8:Keep (fun j=>v2.ownBlock=some j) wr w8:=A8.1
     refine ⟨_,rfl,q8,fun _=>?_⟩
     refine HA.t ?_ [9] q8 ?_
     refine HA.d ?_
     try simp only [Exit.then]
     obtain ⟨L8,B8⟩:=ae l8 (a6.out.trans A8);clear l8 A8 ao q8 q1 uP d0 d1 nP nB
     go_wp2_with fail
     go_roundw
     case rel=>exact ⟨k+1,by omega,by go_num,L8.out,B8.out⟩
     case measure=>simp [intOf];omega
    ·have Y:¬((p.grps.length:Int)<p.grps.length):=by omega
     have bf:k=p.grps.length:=by omega
     subst bf
     obtain ⟨n,hn⟩:∃n,(dg p x st p.grps.length).length=n:=⟨_,rfl⟩
     have b9:wr.ownsRow i.heap.size 136 12 (.slice Aw n cw) n (bH (dg p x st p.grps.length)):=by rw [←hn];exact R
     rw [hn] at C O ⊢
     have e:bH (dg p x st p.grps.length)++[KL 6,KL (st:Nat),KL 0,.bool false,.bool false,KL 0,KL 0,KL 0,KL 0,KL 0,KL 0,KL 0]=bH (aD p x st):=by
      have:aD p x st=dg p x st p.grps.length++[(⟨6,st,0,none⟩:Itm)]:=by
       unfold dg aD
       rw [Ks]
      rw [this,fk];rfl
     have b8:n+1=(aD p x st).length:=by
      rw [←hn]
      unfold dg aD
      rw [Ks];simp only [Kf,List.length_cons,List.length_nil]
     obtain ⟨a6,L2,He,bl⟩:=ag C b9 e b8;clear R b9 C hn e b8
     go_wp2_with (at_builtin;refine fS gW _ rfl (.tmp 55) (.tmp 58) rfl i.heap.size (.slice Aw n cw) n _ rfl L2.out [KL 6,KL (st:Nat),KL 0,.bool false,.bool false,KL 0,KL 0,KL 0,KL 0,KL 0,KL 0,KL 0] rfl rfl (by simp [Value.oneCell']) (by omega) (by unfold maxLen;omega) I ?_)
     intro g6 c6 w6 H b6
     have Z:w6.ownsRow i.heap.size 136 12 (.slice g6 (n+1) c6) (n+1) (bH (dg p x st p.grps.length)++[KL 6,KL (st:Nat),KL 0,.bool false,.bool false,KL 0,KL 0,KL 0,KL 0,KL 0,KL 0,KL 0]):=H
     rw [He.out] at Z
     have B6:=(a6.out.trans b6).1.toBelow (B:=i.heap.size) Q3.out.size (fun j hj=>(L3.out.lt j hj).1)
     have O6:Hid (w6.ownsRow w.heap.size 136 12 (.slice g6 (n+1) c6) (aD p x st).length (bH (aD p x st))):=Lib.hid (by rw [←bl.out];exact ax Z a8.out.size)
     have X:=aa (a8.out.trans ((Q3.out.trans B6).mono a8.out.size));clear H Z b6 B6
     go_wp2_with fail
     go_ret
     exact ⟨_,rfl,O6.out,X.out⟩
noncomputable def oJ (k:Cfg) (n:Int):Bool:=decide (bQ k=0)&&(decide (1≤n)&&decide (n≤1048576))
theorem tX (A:Option Addr) (c:Nat) (k:Cfg) (n:Int) (w:World) (h:jG w A c k):
  Calls Tryz.prog 87 #[.agg #[.slice A k.sizes.length c,KL k.shift,KL k.rate,KL k.mom,KL k.workers,KL k.batch,KL k.micros,KL k.steps,KL k.bucket,KL k.chunk,KL k.window,KL k.cap,KL n]] w fun e H=>e=.returned (.bool (oJ k n))∧Below w.heap.size w H:=by
 obtain ⟨y,hW0⟩:∃y,w.alloc (.cells #[.slice A k.sizes.length c,KL k.shift,KL k.rate,KL k.mom,KL k.workers,KL k.batch,KL k.micros,KL k.steps,KL k.bucket,KL k.chunk,KL k.window,KL k.cap,KL n] 79)=y:=⟨_,rfl⟩
 have g0:y.heap[w.heap.size]?=some (.cells #[.slice A k.sizes.length c,KL k.shift,KL k.rate,KL k.mom,KL k.workers,KL k.batch,KL k.micros,KL k.steps,KL k.bucket,KL k.chunk,KL k.window,KL k.cap,KL n] 79 (0,0)):=by rw [←hW0];exact JE w _
 have x:Below w.heap.size w y:=by rw [←hW0];exact (br w).alloc (JD _) _
 have hc:=nD A c k y (h.below x)
 have t0:=fun H q=>uC (sb g0 H q)
 obtain ⟨u,i,B⟩:=af hW0 x hc
 have C:=br y
 clear hW0 g0 x hc h
 unfold oJ
 obtain ⟨p,o⟩:∃p,bQ k=p:=⟨_,rfl⟩
 rw [o] at B ⊢
 clear o
 by_cases h1:p=0
 ·by_cases I:1≤n
  ·by_cases J:n≤1048576
   ·go_enter Tryz.func87,Tryz.ntmps87
    go_wp2_with fail
    rw [u.out]
    refine B.out.mono ?_
    rintro e D ⟨rfl,j⟩
    have q1:=bt C j
    have v:=aa (i.out.trans (q1.mono i.out.size));clear j
    go_wp2_with fail
    go_ret
    exact ⟨by simp [h1,I,J],v.out⟩
   ·go_enter Tryz.func87,Tryz.ntmps87
    go_wp2_with fail
    rw [u.out]
    refine B.out.mono ?_
    rintro e D ⟨rfl,j⟩
    have q1:=bt C j
    have v:=aa (i.out.trans (q1.mono i.out.size));clear j
    go_wp2_with fail
    go_ret
    exact ⟨by rw [show decide (n≤1048576)=false from KD (by omega)];simp,v.out⟩
  ·go_enter Tryz.func87,Tryz.ntmps87
   go_wp2_with fail
   rw [u.out]
   refine B.out.mono ?_
   rintro e D ⟨rfl,j⟩
   have q1:=bt C j
   have v:=aa (i.out.trans (q1.mono i.out.size));clear j
   go_wp2_with fail
   go_ret
   exact ⟨by rw [show decide (1≤n)=false from KD (by omega)];simp,v.out⟩
 ·go_enter Tryz.func87,Tryz.ntmps87
  go_wp2_with fail
  rw [u.out]
  refine B.out.mono ?_
  rintro e D ⟨rfl,j⟩
  have q1:=bt C j
  have v:=aa (i.out.trans (q1.mono i.out.size));clear j
  go_wp2_with fail
  go_ret
  exact ⟨by simp [h1],v.out⟩
def zp (k:Cfg) (n:Int) (r:Bool):Prop:=r=true→n≤60∧k.workers≤8∧k.micros≤20∧k.steps≤12
def Jy (q:Prop) (w:World) (e:Ending) (i:World):Prop:=(∃b:Bool,e=.returned (.bool b)∧(b=true→q))∧Below w.heap.size w i
theorem ya (A:Option Addr) (c:Nat) (k:Cfg) (n:Int) (w:World) (h:jG w A c k):
  Calls Tryz.prog 41 #[.agg #[.slice A k.sizes.length c,KL k.shift,KL k.rate,KL k.mom,KL k.workers,KL k.batch,KL k.micros,KL k.steps,KL k.bucket,KL k.chunk,KL k.window,KL k.cap,KL n]] w (Jy (zp k n (oJ k n)) w):=by
 obtain ⟨y,hW0⟩:∃y,w.alloc (.cells #[.slice A k.sizes.length c,KL k.shift,KL k.rate,KL k.mom,KL k.workers,KL k.batch,KL k.micros,KL k.steps,KL k.bucket,KL k.chunk,KL k.window,KL k.cap,KL n] 79)=y:=⟨_,rfl⟩
 have g0:y.heap[w.heap.size]?=some (.cells #[.slice A k.sizes.length c,KL k.shift,KL k.rate,KL k.mom,KL k.workers,KL k.batch,KL k.micros,KL k.steps,KL k.bucket,KL k.chunk,KL k.window,KL k.cap,KL n] 79 (0,0)):=by rw [←hW0];exact JE w _
 have x:Below w.heap.size w y:=by rw [←hW0];exact (br w).alloc (JD _) _
 have hc:=tX A c k n y (h.below x)
 have t0:=fun O q=>uC (sb g0 O q)
 obtain ⟨j,i,v⟩:=af hW0 x hc
 have B:=br y
 clear hW0 g0 x hc h
 obtain ⟨r,hr⟩:∃r,oJ k n=r:=⟨_,rfl⟩
 rw [hr] at v ⊢
 clear hr
 obtain ⟨L,hL⟩:∃L,k.sizes.length=L:=⟨_,rfl⟩
 rw [hL] at j v t0 ⊢
 clear hL
 by_cases hl:(L:Int)≤40
 ·have I:¬(40<(L:Int)):=by omega
  cases r with
  | false=>
   go_enter Tryz.func41,Tryz.ntmps41
   go_wp2_with fail
   rw [j.out]
   refine v.out.mono ?_
   rintro e D ⟨rfl,o⟩
   have q1:=bt B o
   have u:=aa (i.out.trans (q1.mono i.out.size));clear o
   go_wp2_with fail
   go_ret
   exact ⟨⟨_,rfl,fun _ h=>by cases h⟩,u.out⟩
  | true=>
   have C:∀b:Bool,(b=true→n≤60∧k.workers≤8∧k.micros≤20∧k.steps≤12)→b=true→zp k n true:=fun b p H _=>p H
   have Fin:=aa C;clear C
   by_cases h1:n≤60
   ·by_cases J:k.workers≤8
    ·by_cases N:k.micros≤20
     ·go_enter Tryz.func41,Tryz.ntmps41
      go_wp2_with fail
      rw [j.out]
      refine v.out.mono ?_
      rintro e D ⟨rfl,o⟩
      have q1:=bt B o
      have u:=aa (i.out.trans (q1.mono i.out.size));clear o
      go_wp2_with fail
      go_ret
      exact ⟨⟨_,rfl,Fin.out _ (fun p=>⟨h1,J,N,by simpa using p⟩)⟩,u.out⟩
     ·go_enter Tryz.func41,Tryz.ntmps41
      go_wp2_with fail
      rw [j.out]
      refine v.out.mono ?_
      rintro e D ⟨rfl,o⟩
      have q1:=bt B o
      have u:=aa (i.out.trans (q1.mono i.out.size));clear o
      go_wp2_with fail
      go_ret
      exact ⟨⟨_,rfl,fun p=>by simp [N] at p⟩,u.out⟩
    ·go_enter Tryz.func41,Tryz.ntmps41
     go_wp2_with fail
     rw [j.out]
     refine v.out.mono ?_
     rintro e D ⟨rfl,o⟩
     have q1:=bt B o
     have u:=aa (i.out.trans (q1.mono i.out.size));clear o
     go_wp2_with fail
     go_ret
     exact ⟨⟨_,rfl,fun p=>by simp [J] at p⟩,u.out⟩
   ·go_enter Tryz.func41,Tryz.ntmps41
    go_wp2_with fail
    rw [j.out]
    refine v.out.mono ?_
    rintro e D ⟨rfl,o⟩
    have q1:=bt B o
    have u:=aa (i.out.trans (q1.mono i.out.size));clear o
    go_wp2_with fail
    go_ret
    exact ⟨⟨_,rfl,fun p=>by simp [h1] at p⟩,u.out⟩
 ·have I:40<(L:Int):=by omega
  go_enter Tryz.func41,Tryz.ntmps41
  go_wp2_with fail
  rw [j.out]
  try go_wp2_with fail
  go_ret
  exact ⟨⟨_,rfl,fun p=>by simp at p⟩,i.out⟩
theorem lZ {p:Pln} (i:cN p) (x st:Nat):(aD p x st).length≤8000000:=by
 have h1:=lB i x st (JD p.grps.length)
 have j:=i.grps
 have:(aD p x st).length=(dg p x st p.grps.length).length+1:=by simp [aD,dg];omega
 omega
def Ig (i:Inp):Prop:=kO i∧(dd i=0→zp i.cfg i.start.length (oJ i.cfg i.start.length)∧i.cfg.steps≤6∧i.data.length≤40)
theorem Ig.sm {i:Inp} (h:Ig i) (j:dd i=0):cU i:=by
 have hg:=qe.1 j
 obtain ⟨hs,hr⟩:=h
 obtain ⟨h1,u,v⟩:=hr j
 have hc:=gu.2 hg.c
 have o:=Ah hg.c.z
 have he:=hg.s
 have hn:1≤i.start.length:=by rw [he];exact o
 have hm:=hs.2.1
 obtain ⟨x,p,q,_⟩:=h1 (by simp only [oJ,hc,Bool.and_eq_true,KF];exact ⟨trivial,by omega,by omega⟩)
 exact ⟨hg,by omega,p,q,u,v⟩
theorem x6 (A:Option Addr) (c:Nat) (D:Option Addr) (H:Nat) (T:Option Addr) (y:Nat) (R:Option Addr) (B:Nat) (i:Inp) (w:World) (h:jP w A c D T y R i):
  Calls Tryz.prog 8 #[.agg (aH A c D H T y R B i)] w (xi (Ig i) w):=by
 obtain ⟨o,hW0⟩:∃o,w.alloc (.cells (aH A c D H T y R B i) 29)=o:=⟨_,rfl⟩
 have g0:o.heap[w.heap.size]?=some (.cells (aH A c D H T y R B i) 29 (0,0)):=by rw [←hW0];exact JE w _
 have j:Below w.heap.size w o:=by rw [←hW0];exact (br w).alloc (JD _) _
 have hf:=yT A c D H T y R B i o (h.below j)
 have O:=fun (hs:kO i) p (q:Below o.heap.size o p)=>kg A c D H T y R B i p (((h.rd hs).below j).below q)
 have J:=jw A i.cfg.sizes.length c i.cfg.shift i.cfg.rate i.cfg.mom i.cfg.workers i.cfg.batch i.cfg.micros i.cfg.steps i.cfg.bucket i.cfg.chunk i.cfg.window i.cfg.cap D i.data.length H T i.start.length y R i.draws.length B
 have N:=fun p (q:Below o.heap.size o p)=>ya A c i.cfg i.start.length p ((h.c.below j).below q)
 unfold xi Ig
 dsimp only [aH] at *
 have t0:=fun p q=>jM (sb g0 p q)
 obtain ⟨Y,I,Hf,a2,a1,X⟩:=ai hW0 j hf O J N
 have q0:=br o
 clear hW0 g0 j hf O J N h
 go_enter Tryz.func8,Tryz.ntmps8
 go_wp2_with fail
 rw [Y.out]
 refine Hf.out.mono ?_
 rintro e w1 ⟨⟨b,rfl,hb⟩,U⟩
 have q1:=bt q0 U
 obtain ⟨u,Hb⟩:=ae (I.out.trans (U.mono I.out.size)) hb;clear hb U q0
 cases b with
 | false=>
  go_wp2_with fail
  go_ret
  exact ⟨⟨false,rfl,fun h=>by cases h⟩,u.out⟩
 | true=>
  go_wp2_with fail
  refine (a2.out (Hb.out (by trivial)) w1 q1).mono ?_
  rintro e w2 ⟨rfl,k2⟩
  have q2:=bt q1 k2
  have v:=aa (u.out.trans (k2.mono u.out.size));clear k2 q1
  obtain ⟨C,V⟩:∃C,dd i=C:=⟨_,rfl⟩
  rw [V]
  have HC:=aa V;clear V
  by_cases h0:C=0
  ·subst h0
   go_wp2_with fail
   refine (a1.out w2).mono ?_
   rintro e w3 ⟨rfl,Z⟩
   have q3:=bt q2 Z
   have L:=aa (v.out.trans (Z.mono v.out.size));clear Z q2
   go_wp2_with fail
   refine (X.out w3 q3).mono ?_
   rintro e w4 ⟨⟨b2,rfl,Q⟩,k4⟩
   have q4:=bt q3 k4
   obtain ⟨x,a0⟩:=ae (L.out.trans (k4.mono L.out.size)) Q;clear Q k4 q3
   cases b2 with
   | false=>
    go_wp2_with fail
    go_ret
    exact ⟨⟨false,rfl,fun h=>by cases h⟩,x.out⟩
   | true=>
    by_cases h6:i.cfg.steps≤6
    ·go_wp2_with fail
     go_ret
     exact ⟨⟨_,rfl,fun h=>⟨Hb.out (by trivial),fun _=>⟨a0.out (by trivial),h6,by simp at h;omega⟩⟩⟩,x.out⟩
    ·go_wp2_with fail
     go_ret
     exact ⟨.inl rfl,x.out⟩
  ·go_wp2_with fail
   go_ret
   exact ⟨⟨true,rfl,fun _=>⟨Hb.out (by trivial),fun h=>absurd (HC.out.symm.trans h) h0⟩⟩,v.out⟩
theorem AS (p:Pln) (st i x:Nat) (A:Option Addr) (J c:Nat) (I H L D j:Int) (w:World) (Z:cN p) (O:p.bu≤1048576) (N:p.wi≤1048576) (hx:x<p.W) (X:st<i):
  Calls Tryz.prog 53 #[.agg #[.slice A J c,KL I,KL H,KL L,KL (p.W:Nat),KL D,KL (p.mi:Nat),KL (i:Nat),KL (p.bu:Nat),KL (p.ck:Nat),KL (p.wi:Nat),KL j,KL (p.n:Nat)],KL (x:Nat),KL (st:Nat)] w fun e C=>∃v,e=.returned v∧C.ownsRow w.heap.size 136 12 v (aD p x st).length (bH (aD p x st))∧Below w.heap.size w C:=by
 obtain ⟨u,hW0⟩:∃u,w.alloc (.cells #[.slice A J c,KL I,KL H,KL L,KL (p.W:Nat),KL D,KL (p.mi:Nat),KL (i:Nat),KL (p.bu:Nat),KL (p.ck:Nat),KL (p.wi:Nat),KL j,KL (p.n:Nat)] 79)=u:=⟨_,rfl⟩
 have g0:u.heap[w.heap.size]?=some (.cells #[.slice A J c,KL I,KL H,KL L,KL (p.W:Nat),KL D,KL (p.mi:Nat),KL (i:Nat),KL (p.bu:Nat),KL (p.ck:Nat),KL (p.wi:Nat),KL j,KL (p.n:Nat)] 79 (0,0)):=by rw [←hW0];exact JE w _
 have B:Below w.heap.size w u:=by rw [←hW0];exact (br w).alloc (JD _) _
 have hc:=xX p st x (.slice A J c) (KL I) (KL H) (KL L) (KL D) (KL (i:Nat)) (KL j) u Z O N hx
 have h1:¬((st:Int)<0):=by omega
 have h2:¬((i:Int)≤st):=by omega
 have t0:=fun C q=>uC (sb g0 C q)
 obtain ⟨Q,o,Y⟩:=af hW0 B hc
 have q0:=br u
 clear hW0 g0 B hc
 go_enter Tryz.func53,Tryz.ntmps53
 go_wp2_with fail
 rw [Q.out]
 refine Y.out.mono ?_
 rintro e w1 ⟨v,rfl,V,T⟩
 have y:=ax V o.out.size
 have U:=o.out.trans (T.mono o.out.size)
 obtain ⟨Fin,R⟩:=ae y U;clear y U V T
 go_wp2_with fail
 go_ret
 exact ⟨v,rfl,Fin.out,R.out⟩
theorem gM:cL Tryz.prog 29 15:=⟨⟨_,Tryz.underlying29,rfl⟩,by kernel_rfl⟩
theorem cI:cL Tryz.prog 43 22:=⟨⟨_,Tryz.underlying43,rfl⟩,by kernel_rfl⟩
theorem eE (w:World) (X Z:Array Value) (t u:TypeId):∃i W1,w.alloc (.cells X t)=i∧i.alloc (.cells Z u)=W1∧W1.heap[w.heap.size]?=some (.cells X t (0,0))∧W1.heap[w.heap.size+1]?=some (.cells Z u (0,0))∧Below w.heap.size w W1∧W1.heap.size=w.heap.size+1+1:=by
 refine ⟨_,_,rfl,rfl,?_,?_,?_,?_⟩
 ·exact sb (JE w _) _ ((br _).alloc (JD _) _)
 ·have:=JE (w.alloc (.cells X t)) (.cells Z u)
  rwa [show (w.alloc (.cells X t)).heap.size=w.heap.size+1 from Array.size_push _] at this
 ·exact ((br w).alloc (JD _) _).alloc (by simp) _
 ·simp
theorem Bd (A:Option Addr) (c:Nat) (D:Option Addr) (y:Nat) (T:Option Addr) (v:Nat) (R:Option Addr) (x:Nat) (i:Inp) (z:Int) (w:World) (h:gF w A c D T v R i) (hc:dd i≠0):
  Calls Tryz.prog 13 #[.agg (aH A c D y T v R x i),KL z] w fun e X=>e=.returned (.tuple #[.agg KP,KL (dd i)])∧Below w.heap.size w X:=by
 obtain ⟨W0,W1,hW0,p,g0,U,B,_⟩:=eE w (aH A c D y T v R x i) KP 29 43
 have o:=kg A c D y T v R x i W1 (h.below B)
 obtain ⟨C,J⟩:∃C,dd i=C:=⟨_,rfl⟩
 rw [J] at o hc ⊢
 obtain ⟨q,u,H,G0,G1,Q⟩:=ai hW0 p o g0 U B;clear hW0 p g0 U o h J B
 go_enter Tryz.func13,Tryz.ntmps13
 go_wp2_with (refine aJ (b:=w.heap.size) (aH A c D y T v R x i) (by rw [q.out,u.out];exact G0.out) gM rfl rfl rfl rfl ?_)
 rw [q.out,u.out]
 refine H.out.mono ?_
 rintro e V ⟨rfl,I⟩
 obtain ⟨Z,N⟩:=ae (sb G1.out V I) (Q.out.trans (I.mono Q.out.size));clear I
 go_wp2_with (refine az Z.out cI rfl rfl rfl rfl rfl rfl rfl ?_;intro w9 L O;obtain ⟨Y,K9⟩:=ae L O;clear L O)
 exact JQ (iE rfl rfl Y.out cI) rfl ⟨rfl,N.out.trans (K9.out.toBelow N.out.size (fun j hj=>by rw [hj];exact Nat.le_succ _))⟩
theorem Bc (A:Option Addr) (c:Nat) (D:Option Addr) (B:Nat) (T:Option Addr) (v:Nat) (R:Option Addr) (y:Nat) (i:Inp) (z:Int) (w:World) (h:gF w A c D T v R i) (hc:dd i=0) (hz:z<0∨i.cfg.workers≤z):
  Calls Tryz.prog 13 #[.agg (aH A c D B T v R y i),KL z] w fun e V=>e=.returned (.tuple #[.agg KP,KL 2])∧Below w.heap.size w V:=by
 obtain ⟨W0,W1,hW0,p,g0,U,H,_⟩:=eE w (aH A c D B T v R y i) KP 29 43
 have o:=kg A c D B T v R y i W1 (h.below H)
 rw [hc] at o
 obtain ⟨q,u,J,G0,G1,Q⟩:=ai hW0 p o g0 U H;clear hW0 p g0 U o h hc H
 go_enter Tryz.func13,Tryz.ntmps13
 go_wp2_with (refine aJ (b:=w.heap.size) (aH A c D B T v R y i) (by rw [q.out,u.out];exact G0.out) gM rfl rfl rfl rfl ?_)
 rw [q.out,u.out]
 refine J.out.mono ?_
 rintro e I ⟨rfl,C⟩
 have x:=sb G0.out I C
 obtain ⟨Z,N⟩:=ae (sb G1.out I C) (Q.out.trans (C.mono Q.out.size))
 dsimp only [aH] at x
 have t4:=JF I w.heap.size 4 _ _ _ x
 have hl:=JC x
 clear C x
 rcases Classical.em (z<0) with X | X
 rotate_left
 have h1:i.cfg.workers≤z:=by omega
 all_goals go_wp2_with (refine az Z.out cI rfl rfl rfl rfl rfl rfl rfl ?_;intro w9 L O;obtain ⟨Y,K9⟩:=ae L O;clear L O)
 all_goals exact JQ (iE rfl rfl Y.out cI) rfl ⟨rfl,N.out.trans (K9.out.toBelow N.out.size (fun j hj=>by rw [hj];exact Nat.le_succ _))⟩
end Go.Proofs.YtaccfnffmbndhaaGreat
