/- No condition. -/
import Derived.Test.YtgmajkppbhiopaaGreatA00
import Derived.Test.YtgmajkppbhiopaaGreatA12
import Derived.Test.YtgmajkppbhiopaaGreatA11
import Derived.Test.YtgmajkppbhiopaaGreatA05
set_option linter.unusedSimpArgs false
set_option linter.unusedVariables false
set_option maxRecDepth 100000
set_option maxHeartbeats 4000000
namespace Go.Proofs.YtgmajkppbhiopaaGreat
open Go.RowKit
structure gF (w:World) (A:Option Addr) (c:Nat) (D:Option Addr) (T:Option Addr) (ct:Nat) (R:Option Addr) (i:Inp):Prop where
 c:fI w A c i.cfg
 d:cZ rEx 2 w D i.data
 dl:i.data.length≤17592186043904
 t:bY w T i.start ct
 r:Rd w R (ar .u64 i.draws)
 rl:i.draws.length≤17592186043904
 ru:U64 i.draws
 ra: -9223372036854775808≤i.cfg.rate∧i.cfg.rate≤9223372036854775807
 rm: -9223372036854775808≤i.cfg.mom∧i.cfg.mom≤9223372036854775807
theorem gF.below {w o:World} {A:Option Addr} {c:Nat} {D T R:Option Addr} {u:Nat} {i:Inp} (h:gF w A c D T u R i) (hb:Below w.heap.size w o):gF o A c D T u R i:=
 ⟨h.c.below hb,h.d.below dH hb,h.dl,h.t.below hb,h.r.below hb,h.rl,h.ru,h.ra,h.rm⟩
def ie (i:Inp):Prop:=i.data.length≤60∧i.start.length≤600∧i.draws.length≤2000∧i.cfg.sizes.length≤40
theorem gF.rd {w:World} {A:Option Addr} {c:Nat} {D T R:Option Addr} {u:Nat} {i:Inp} (h:gF w A c D T u R i) (o:ie i):iC w A c D T u R i:=
 ⟨h.c,h.d,by have:=o.1;omega,h.t,by have:=o.2.1;omega,h.r,by have:=o.2.2.1;omega,h.ru,h.ra,h.rm⟩
def oq (q:Prop) (w:World) (e:Ending) (h:World):Prop:=(∃b:Bool,e=.returned (.bool b)∧(b=true→q))∧Below w.heap.size w h
theorem nF {q:Prop} {w h:World} (b:Bool) (i:q) (hb:Below w.heap.size w h):oq q w (.returned (.bool b)) h:=⟨⟨b,rfl,fun _=>i⟩,hb⟩
theorem qG {q:Prop} {w i:World} (hb:Below w.heap.size w i):oq q w (.returned (.bool false)) i:=⟨⟨false,rfl,fun h=>by cases h⟩,hb⟩
theorem Bt {p:Prop} [Decidable p] {q:Prop} {w i:World} (o:p→q) (hb:Below w.heap.size w i):oq q w (.returned (.bool (decide p))) i:=⟨⟨_,rfl,fun h=>o (of_decide_eq_true h)⟩,hb⟩
theorem Bh (A:Option Addr) (c:Nat) (D:Option Addr) (x:Nat) (T:Option Addr) (B:Nat) (R:Option Addr) (C:Nat) (i:Inp) (w:World) (h:gF w A c D T B R i):
  Calls Tryz.prog 110 #[.agg (aP A c D x T B R C i)] w (oq (ie i) w):=by
 have hf:=fun w' (q:Below w.heap.size w w')=>zV x D i.data w' (h.d.below dH q) h.dl
 have hq:i.data.length≤60→i.start.length≤600→i.draws.length≤2000→i.cfg.sizes.length≤40→ie i:=fun a b c d=>⟨a,b,c,d⟩
 generalize ie i=Q at hq ⊢
 clear h
 unfold Dy at hf
 obtain ⟨⟨sz,sh,ra,H,V,ba,mi,st,bu,ch,wi,ca⟩,data,start,draws⟩:=i
 dsimp only [aP,bZ] at *
 obtain ⟨L,hL⟩:∃L,sz.length=L:=⟨_,rfl⟩
 obtain ⟨N,hN⟩:∃N,data.length=N:=⟨_,rfl⟩
 obtain ⟨M,hM⟩:∃M,start.length=M:=⟨_,rfl⟩
 obtain ⟨P,hP⟩:∃P,draws.length=P:=⟨_,rfl⟩
 rw [hL,hN,hM,hP] at hq
 rw [hN] at hf
 rw [hL,hN,hM,hP]
 obtain ⟨Hf,Hq⟩:=ab hf hq;clear hf hq hL hN hM hP
 have U:¬(L≤40)→¬((L:Int)≤40):=by omega
 have J:L≤40→(L:Int)≤40:=by omega
 have Z:¬(M≤600)→¬((M:Int)≤600):=by omega
 have O:M≤600→(M:Int)≤600:=by omega
 have Y:¬(P≤2000)→¬((P:Int)≤2000):=by omega
 have I:P≤2000→(P:Int)≤2000:=by omega
 obtain ⟨NL,YL,NM,YM,NP,YP⟩:=ah U J Z O Y I;clear U J Z O Y I
 by_cases h1:¬(L≤40)
 ·have k1:=NL.out h1
  go_enter Tryz.func110,Tryz.ntmps110
  go_wp2_with fail
  all_goals
   go_ret
   exact qG ((EP _ w).alloc (EM _) _)
 have y:L≤40:=by omega
 have k1:=YL.out y
 have G1:=aa y;clear h1 y
 go_enter Tryz.func110,Tryz.ntmps110
 go_wp2_with fail
 have hz:=EN w (.cells #[.slice A L c,FQ sh,FQ ra,FQ H,FQ V,FQ ba,FQ mi,FQ st,FQ bu,FQ ch,FQ wi,FQ ca,.slice D N x,.slice T M B,.slice R P C] 29)
 have hB:=(EP _ w).alloc (EM _) (.cells #[.slice A L c,FQ sh,FQ ra,FQ H,FQ V,FQ ba,FQ mi,FQ st,FQ bu,FQ ch,FQ wi,FQ ca,.slice D N x,.slice T M B,.slice R P C] 29)
 refine (Hf.out _ hB).mono ?_
 rintro e w' ⟨⟨b,rfl,hb⟩,d,rfl⟩
 have u:((w.alloc (.cells #[.slice A L c,FQ sh,FQ ra,FQ H,FQ V,FQ ba,FQ mi,FQ st,FQ bu,FQ ch,FQ wi,FQ ca,.slice D N x,.slice T M B,.slice R P C] 29)).drewN d).heap[w.heap.size]?=some (.cells #[.slice A L c,FQ sh,FQ ra,FQ H,FQ V,FQ ba,FQ mi,FQ st,FQ bu,FQ ch,FQ wi,FQ ca,.slice D N x,.slice T M B,.slice R P C] 29 (0,0)):=hz
 have o:=EW hB d
 have Hb:=aa hb;clear hz hB hb
 generalize (w.alloc (.cells #[.slice A L c,FQ sh,FQ ra,FQ H,FQ V,FQ ba,FQ mi,FQ st,FQ bu,FQ ch,FQ wi,FQ ca,.slice D N x,.slice T M B,.slice R P C] 29)).drewN d=W1 at u o ⊢
 have HB:=aa o
 obtain ⟨⟨z0,z1,z2,z3,z4,z5,z6,z7,z8,z9,a0,a4,a3,a1,a2⟩,zf⟩:=hZ u
 clear u o
 rcases cQ b with rfl | rfl
 ·go_wp2_with fail
  all_goals
   go_ret
   exact qG HB.out
 by_cases h2:¬(M≤600)
 ·have k2:=NM.out h2
  go_wp2_with fail
  all_goals
   go_ret
   exact qG HB.out
 have v:M≤600:=by omega
 have k2:=YM.out v
 have G2:=aa v;clear h2 v;clear NL YL NM YM YP
 go_wp2_with fail
 all_goals
  go_ret
  exact Bt (fun h=>Hq.out (Hb.out trivial) G2.out (by omega) G1.out) HB.out
theorem uT (A:Option Addr) (c:Nat) (D:Option Addr) (cd:Nat) (T:Option Addr) (U:Nat) (R:Option Addr) (Z:Nat) (i:Inp) (w:World) (h:gF w A c D T U R i):
  Calls Tryz.prog 74 #[.agg (aP A c D cd T U R Z i)] w (oq (ie i) w):=by
 have o:=fun u (q:Below w.heap.size w u)=>Bh A c D cd T U R Z i u (h.below q)
 have J:=fun u (q:Below w.heap.size w u)=>kj A c i.cfg u (h.c.below q)
 have V:=fun (hR:bE i.cfg.sizes) u (q:Below w.heap.size w u)=>jR A i.cfg.sizes i.cfg.sizes.length c u (h.c.hr.below q) hR (by have:=hR.1;omega) (EM _)
 have a0:=@dN i.cfg
 generalize ie i=QQ at o ⊢
 clear h
 have o:∀u,Below w.heap.size w u→Calls Tryz.prog 110 #[.agg (aP A c D cd T U R Z i)] u (fun e b7=>∃b:Bool,e=.returned (.bool b)∧(b=true→QQ)∧Below u.heap.size u b7):=fun u q=>(o u q).mono fun e b7 ⟨⟨b,h1,h2⟩,h3⟩=>⟨b,h1,h2,h3⟩
 obtain ⟨⟨sz,sh,ra,H,I,ba,mi,st,bu,ch,wi,ca⟩,data,start,draws⟩:=i
 dsimp only [aP,bZ] at *
 obtain ⟨cc,b8⟩:∃cc,aM ⟨sz,sh,ra,H,I,ba,mi,st,bu,ch,wi,ca⟩=cc:=⟨_,rfl⟩
 rw [b8] at J a0
 have b3:cc=0→bE sz:=fun e=>(a0.1 e).z.1
 obtain ⟨L,hL⟩:∃L,sz.length=L:=⟨_,rfl⟩
 obtain ⟨N,hN⟩:∃N,data.length=N:=⟨_,rfl⟩
 obtain ⟨M,hM⟩:∃M,start.length=M:=⟨_,rfl⟩
 obtain ⟨Q,hQ⟩:∃Q,draws.length=Q:=⟨_,rfl⟩
 rw [hL] at J V o ⊢
 rw [hN,hM,hQ] at o ⊢
 obtain ⟨CN,b5⟩:∃CN,aZ sz (L-1)=CN:=⟨_,rfl⟩
 rw [b5] at V
 obtain ⟨bh,bd,b1,bb⟩:=af J V o b3;clear J V o a0 hL hN hM hQ b8 b5 b3
 go_enter Tryz.func74,Tryz.ntmps74
 go_wp2_with fail
 have hz:=(E0 (w.alloc (.cells #[.slice A L c,FQ sh,FQ ra,FQ H,FQ I,FQ ba,FQ mi,FQ st,FQ bu,FQ ch,FQ wi,FQ ca,.slice D N cd,.slice T M U,.slice R Q Z] 29)) (.cells #[.slice A L c,FQ sh,FQ ra,FQ H,FQ I,FQ ba,FQ mi,FQ st,FQ bu,FQ ch,FQ wi,FQ ca] 24) w.heap.size (by simp)).trans (EN w _)
 have hy:=EN (w.alloc (.cells #[.slice A L c,FQ sh,FQ ra,FQ H,FQ I,FQ ba,FQ mi,FQ st,FQ bu,FQ ch,FQ wi,FQ ca,.slice D N cd,.slice T M U,.slice R Q Z] 29)) (.cells #[.slice A L c,FQ sh,FQ ra,FQ H,FQ I,FQ ba,FQ mi,FQ st,FQ bu,FQ ch,FQ wi,FQ ca] 24)
 rw [show (w.alloc (.cells #[.slice A L c,FQ sh,FQ ra,FQ H,FQ I,FQ ba,FQ mi,FQ st,FQ bu,FQ ch,FQ wi,FQ ca,.slice D N cd,.slice T M U,.slice R Q Z] 29)).heap.size=w.heap.size+1 by simp] at hy
 have hB:Below w.heap.size w ((w.alloc (.cells #[.slice A L c,FQ sh,FQ ra,FQ H,FQ I,FQ ba,FQ mi,FQ st,FQ bu,FQ ch,FQ wi,FQ ca,.slice D N cd,.slice T M U,.slice R Q Z] 29)).alloc (.cells #[.slice A L c,FQ sh,FQ ra,FQ H,FQ I,FQ ba,FQ mi,FQ st,FQ bu,FQ ch,FQ wi,FQ ca] 24)):=((EP _ w).alloc (EM _) _).alloc (by simp) _
 obtain ⟨W0,b6⟩:∃W0,W0=(w.alloc (.cells #[.slice A L c,FQ sh,FQ ra,FQ H,FQ I,FQ ba,FQ mi,FQ st,FQ bu,FQ ch,FQ wi,FQ ca,.slice D N cd,.slice T M U,.slice R Q Z] 29)).alloc (.cells #[.slice A L c,FQ sh,FQ ra,FQ H,FQ I,FQ ba,FQ mi,FQ st,FQ bu,FQ ch,FQ wi,FQ ca] 24):=⟨_,rfl⟩
 rw [←b6] at hz hy hB ⊢
 clear b6
 refine (b1.out _ hB).mono ?_
 rintro e w1 ⟨b,rfl,hb,Y⟩
 have y:=(Y.block _ (EL hz)).trans hz
 have v:=(Y.block _ (EL hy)).trans hy
 obtain ⟨HB,Hb⟩:=ab (hB.trans (Y.mono hB.size)) hb
 obtain ⟨⟨z0,z1,z2,z3,z4,z5,z6,z7,z8,z9,a1,b2,b0,a3,a6⟩,zf⟩:=hZ y
 obtain ⟨⟨y0,y1,y2,y3,y4,y5,y6,y7,y8,y9,a2,a4⟩,yf⟩:=fx v
 obtain ⟨HZ,HY⟩:=ab y v;clear hz hy hB Y hb
 rcases cQ b with rfl | rfl
 ·clear y v
  go_wp2_with fail
  refine (b1.out _ HB.out).mono ?_
  rintro e w2 ⟨b',rfl,C,B⟩
  obtain ⟨a7,a8⟩:=ab (HB.out.trans (B.mono HB.out.size)) C;clear B C
  go_wp2_with fail
  go_ret
  exact ⟨⟨b',rfl,a8.out⟩,a7.out⟩
 have HQ:=aa (Hb.out rfl)
 go_wp2_with fail
 refine (bh.out _ HB.out).mono ?_
 rintro e w3 ⟨rfl,O⟩
 have b4:=(O.block _ (EL y)).trans y
 have b9:=(O.block _ (EL v)).trans v
 have x:=aa (HB.out.trans (O.mono HB.out.size));clear z0 z1 z2 z3 z4 z5 z6 z7 z8 z9 a1 b2 b0 a3 a6 zf y0 y1 y2 y3 y4 y5 y6 y7 y8 y9 a2 a4 yf y v O HZ HY
 obtain ⟨⟨z0,z1,z2,z3,z4,z5,z6,z7,z8,z9,a1,b2,b0,a3,a6⟩,zf⟩:=hZ b4
 obtain ⟨⟨y0,y1,y2,y3,y4,y5,y6,y7,y8,y9,a2,a4⟩,yf⟩:=fx b9
 clear b4 b9
 by_cases h3:cc≠0
 ·have hq:(cc != 0)=true:=by rw [bne_iff_ne];exact h3
  go_wp2_with fail
  refine (b1.out _ x.out).mono ?_
  rintro e w2 ⟨b',rfl,C,B⟩
  obtain ⟨a7,a8⟩:=ab (x.out.trans (B.mono x.out.size)) C;clear B C
  go_wp2_with fail
  go_ret
  exact ⟨⟨b',rfl,a8.out⟩,a7.out⟩
 obtain rfl:cc=0:=by omega
 clear h3
 have HR:=aa (bb.out rfl)
 by_cases h4:12<st
 ·have hq:¬(st≤12):=by omega
  go_wp2_with fail
  all_goals
   go_ret
   exact nF _ HQ.out x.out
 have hq:st≤12:=by omega
 go_wp2_with fail
 refine (bd.out HR.out _ x.out).mono ?_
 rintro e w4 ⟨rfl,d,rfl⟩
 have ad:=aa (EW x.out d)
 obtain ⟨W4,a5⟩:∃W4,W4=w3.drewN d:=⟨_,rfl⟩
 have bi:W4.cell? ⟨w.heap.size+1,5,none⟩=some (FQ ba):=by rw [a5];exact y5
 rw [←a5] at ad ⊢
 clear a5 z0 z1 z2 z3 z4 z5 z6 z7 z8 z9 a1 b2 b0 a3 a6 zf y0 y1 y2 y3 y4 y5 y6 y7 y8 y9 a2 a4 yf
 by_cases h5:CN≤150
 ·have k5:(CN:Int)≤150:=by omega
  go_wp2_with fail
  all_goals
   go_ret
   exact nF _ HQ.out ad.out
 ·have k5:¬((CN:Int)≤150):=by omega
  go_wp2_with fail
  all_goals
   go_ret
   exact nF _ HQ.out ad.out
theorem fT:cH Tryz.prog 104 191 (.agg FU) 12 88:=⟨Tryz.underlying104,info_parts (by kernel_rfl),rfl,by decide⟩
def fE (w:World) (v:Value) (i:World) (h:Value):Prop:=Keep (fun j=>v.ownBlock=some j) w i∧(h.ownBlock=v.ownBlock∨∀k,h.ownBlock=some k→w.heap.size≤k)
theorem fE.trans {a b c:World} {v y i:Value} (h:fE a v b y) (k:fE b y c i):fE a v c i:=by
 refine ⟨⟨k.1.os.trans h.1.os,k.1.tape.trans h.1.tape,k.1.output.trans h.1.output,ES h.1.size k.1.size,fun j o hn=>(k.1.block j (ET o h.1.size) fun A=>?_).trans (h.1.block j o hn)⟩,?_⟩
 ·rcases h.2 with x | x
  ·exact hn (x▸A)
  ·have:=x j A;omega
 ·rcases k.2 with u | u
  ·rw [u];exact h.2
  ·exact .inr fun j o=>ES h.1.size (u j o)
theorem fE.below {b c:World} {v:Value} (h:Below b.heap.size b c):fE b v c v:=⟨Keep.below h,.inl rfl⟩
theorem fE.refl (w:World) (v:Value):fE w v w v:=⟨Keep.refl _ _,.inl rfl⟩
theorem eG {P:Program} {t e:TypeId} {z:Value} {size i:Nat} (T:cH P t e z size i) (w:World) {ops:Array Oper} {rest:List Oper} {o:Oper} {a:Act} {Q:Exit→Act→World→Prop}
  (C:o.guard=none) (s x:Operand) (D:o.op=.call {callee:=.builtin .append,args:=#[s,x],argTypes:=#[t,t]})
  (base:Nat) (v:Value) (n:Nat) (xs:List Value) (hs:a.eval s=v) (hown:w.ownsRow base e size v n xs)
  (us:List Value) (hx:a.eval x=.slice (some ⟨w.heap.size,0,none⟩) 1 1) (hus:us.length=size) (h1:∀u∈us,u.oneCell'=true)
  (hb:(n+1)*i≤140737488355328) (h63:n+1≤maxLen) (hbase:base≤w.heap.size)
  (h:∀B A y,y.ownsRow base e size (.slice B (n+1) A) (n+1) (xs++us)→fE w v y (.slice B (n+1) A)→
   wpList P ops Q rest (a.put o.dst (.slice B (n+1) A)) y):wpList P ops Q (o::rest) a (w.alloc (.cells us.toArray e)):=by
 refine dE T (w:=w.alloc (.cells us.toArray e)) C s x D base v n xs hs (hown.alloc _) (some ⟨w.heap.size,0,none⟩) 1 1 us hx (fk w us e w.heap.size rfl) (by omega) h1 hb h63 (by simp;omega) ?_
 intro B A y H _ I hn
 refine h B A y H ⟨((Keep.refl _ w).alloc _).grown I (fun k hk=>.inr hk),?_⟩
 rcases hn with hn | hn
 ·exact .inl hn
 ·exact .inr fun k hk=>by rw [hn] at hk;simp at hk;omega
theorem ss6 {w:World} {b:Nat} {t:TypeId} {y u i x o v v0 v1 v2 v3 v4 v5:Value} (h:w.heap[b]?=some (.cells #[y,u,i,x,o,v] t (0,0))):
  ((((((w.setCell ⟨b,0,none⟩ v0).setCell ⟨b,1,none⟩ v1).setCell ⟨b,2,none⟩ v2).setCell ⟨b,3,none⟩ v3).setCell ⟨b,4,none⟩ v4).setCell ⟨b,5,none⟩ v5).heap[b]?=some (.cells #[v0,v1,v2,v3,v4,v5] t (0,0)):=
 ss (ss (ss3 (ss h rfl) rfl) rfl) (by simp)
theorem rA (p:Pln) (Q a1 R I J O H o u:Value) (w:World) (N:aT p) (A:p.bu≤1048576):
  Calls Tryz.prog 91 #[.agg #[Q,a1,R,I,FQ (p.W:Nat),J,O,H,FQ (p.bu:Nat),FQ (p.ck:Nat),o,u,FQ (p.n:Nat)]] w fun e D=>∃v,e=.returned v∧D.ownsRow w.heap.size 187 2 v p.buks.length (az p.buks)∧Below w.heap.size w D:=by
 obtain ⟨y,i⟩:∃y,w.alloc (.cells #[Q,a1,R,I,FQ (p.W:Nat),J,O,H,FQ (p.bu:Nat),FQ (p.ck:Nat),o,u,FQ (p.n:Nat)] 64)=y:=⟨_,rfl⟩
 have x:Below w.heap.size w y:=by rw [←i];exact (br w).alloc (EM _) _
 have hb:=uc p.n p.bu y (by have:=N.n;omega) N.bu A
 obtain ⟨B,h,U⟩:=ae i x hb;clear i x hb
 go_enter Tryz.func91,Tryz.ntmps91
 go_wp2_with fail
 rw [B.out]
 refine U.out.mono ?_
 rintro e Y ⟨v,rfl,L,C⟩
 obtain ⟨V,T⟩:=ab (aA (base':=w.heap.size) L h.out.size) (h.out.trans (C.mono h.out.size));clear L C
 go_wp2_with fail
 go_ret
 exact ⟨_,rfl,V.out,T.out⟩
theorem zT (p:Pln) (V a1 Y O Q U L o u:Value) (st j:Nat) (w:World) (hp:aT p) (a4:p.bu≤1048576) (hj:j<p.buks.length):
  Calls Tryz.prog 150 #[.agg #[V,a1,Y,O,FQ (p.W:Nat),Q,U,L,FQ (p.bu:Nat),FQ (p.ck:Nat),o,u,FQ (p.n:Nat)],FQ (st:Nat),FQ (j:Nat)] w fun e J=>e=.returned (.agg #[FQ (st:Nat),FQ (j:Nat),FQ ((ay p.buks j).1:Nat),FQ ((ay p.buks j).2:Nat),FQ (p.W:Nat),FQ (p.ck:Nat)])∧Below w.heap.size w J:=by
 obtain ⟨h,i⟩:∃h,(w.alloc (.cells #[V,a1,Y,O,FQ (p.W:Nat),Q,U,L,FQ (p.bu:Nat),FQ (p.ck:Nat),o,u,FQ (p.n:Nat)] 64)).alloc (.cells FW 261)=h:=⟨_,rfl⟩
 have g0:h.heap[w.heap.size]?=some (.cells #[V,a1,Y,O,FQ (p.W:Nat),Q,U,L,FQ (p.bu:Nat),FQ (p.ck:Nat),o,u,FQ (p.n:Nat)] 64 (0,0)):=by
  rw [←i,E0 _ _ _ (by simp)];exact EN w _
 have g1:h.heap[w.heap.size+1]?=some (.cells FW 261 (0,0)):=by
  rw [←i];have:=EN (w.alloc (.cells #[V,a1,Y,O,FQ (p.W:Nat),Q,U,L,FQ (p.bu:Nat),FQ (p.ck:Nat),o,u,FQ (p.n:Nat)] 64)) (.cells FW 261);simpa using this
 have T:Below w.heap.size w h:=by rw [←i];exact ((br w).alloc (EM _) _).alloc (by simp) _
 have t0:=fun J (q:Keep (fun j=>j=w.heap.size+1) h J)=>oH ((q.block _ (EL g0) (by omega)).trans g0)
 have b4:(j:Int)<p.buks.length:=by omega
 obtain ⟨ad,I,G1⟩:=ae i T g1
 have q0:Keep (fun j=>j=w.heap.size+1) h h.drew:=(Keep.refl _ _).drew
 clear i g0 g1 T
 go_enter Tryz.func150,Tryz.ntmps150
 go_wp2_with fail
 rw [ad.out]
 refine HA.g (fun J:World=>Keep (fun j=>j=w.heap.size+1) h J) ?_
 refine HA.t ?_ [0,1,2,4,7,8,9,10,11,12] q0 ?_
 refine HA.c 3 (rA p V a1 Y O Q U L o u _ hp a4) ?_
 rintro e C ⟨v2,rfl,o2,k2⟩
 have b2:=bt (br h).drew k2
 have D:Keep (fun j=>j=w.heap.size+1) h C:=Keep.below b2
 obtain ⟨g,c2,rfl,_⟩:=o2.form (by omega)
 obtain ⟨d0,d1⟩:=fj o2 hj
 obtain ⟨H,A⟩:∃b,(ay p.buks j).1=b:=⟨_,rfl⟩
 obtain ⟨R,y⟩:∃b,(ay p.buks j).2=b:=⟨_,rfl⟩
 rw [A] at d0
 rw [y] at d1
 refine ⟨_,rfl,D,fun _=>?_⟩
 refine HA.v 5 C (.pointer (some ⟨g,j*2,none⟩)) D ?_
 refine HA.v 6 C (.agg #[FQ (H:Nat),FQ (R:Nat)]) D ?_
 refine HA.v 13 C (.agg #[FQ (st:Nat),FQ (j:Nat),FQ (H:Nat),FQ (R:Nat),FQ (p.W:Nat),FQ (p.ck:Nat)]) D ?_
 have Z:=sb G1.out C b2
 have u2:=bx6 Z
 have N:=ss6 (v0:=FQ (st:Nat)) (v1:=FQ (j:Nat)) (v2:=FQ (H:Nat)) (v3:=FQ (R:Nat)) (v4:=FQ (p.W:Nat)) (v5:=FQ (p.ck:Nat)) Z
 have a8:=EL Z
 obtain ⟨W9,x⟩:∃W9,((((((C.setCell ⟨w.heap.size+1,0,none⟩ (FQ (st:Nat))).setCell ⟨w.heap.size+1,1,none⟩ (FQ (j:Nat))).setCell ⟨w.heap.size+1,2,none⟩ (FQ (H:Nat))).setCell ⟨w.heap.size+1,3,none⟩ (FQ (R:Nat))).setCell ⟨w.heap.size+1,4,none⟩ (FQ (p.W:Nat))).setCell ⟨w.heap.size+1,5,none⟩ (FQ (p.ck:Nat)))=W9:=⟨_,rfl⟩
 have k9:Keep (fun j=>j=w.heap.size+1) C W9:=by rw [←x];exact Keep.setCell (S:=fun j=>j=w.heap.size+1) (Keep.setCell (S:=fun j=>j=w.heap.size+1) (Keep.setCell (S:=fun j=>j=w.heap.size+1) (Keep.setCell (S:=fun j=>j=w.heap.size+1) (Keep.setCell (S:=fun j=>j=w.heap.size+1) (Keep.setCell (S:=fun j=>j=w.heap.size+1) (Keep.refl _ _) _ (.inr rfl) _) _ (.inr rfl) _) _ (.inr rfl) _) _ (.inr rfl) _) _ (.inr rfl) _) _ (.inr rfl) _
 refine HA.s 14 W9 (D.trans k9) ?_ (he:=by subst x;go_simp)
 refine HA.d ?_
 rw [x] at N
 obtain ⟨E6,HB⟩:=ab N (I.out.trans ((D.trans k9).toBelow (B:=w.heap.size) I.out.size (fun j hj=>by omega)))
 obtain ⟨⟨r0,r1,r2,r3,r4,r5⟩,rf⟩:=bx6 N
 have b5:=EL N
 obtain ⟨b3,b0⟩:=ab A y;clear N Z u2 a8 q0 D b2 k9 k2 t0 o2 d0 d1 A y
 go_wp2_with fail
 rw [b3.out,b0.out]
 exact E7 (v:=.agg #[FQ (st:Nat),FQ (j:Nat),FQ (H:Nat),FQ (R:Nat),FQ (p.W:Nat),FQ (p.ck:Nat)]) (by simp [results,Tryz.results150,go_sem,r0,r1,r2,r3,r4,r5]) rfl ⟨rfl,HB.out⟩
abbrev eB (w:World) (base:Nat) (v:Value) (l:List Itm):Prop:=w.ownsRow base 191 12 v l.length (bJ l)
theorem tW (p:Pln) (base st x lo o:Nat) (a0 a1 a2 a3 a5 a6 a7 a4 a8:Value) (v:Value) (l:List Itm) (w:World)
  (hp:aT p) (e7:p.bu≤1048576) (hl:eB w base v l) (hb:base≤w.heap.size) (hx:x<p.W) (bI:lo≤o) (hg:o≤p.buks.length) (e9:l.length≤8000000):
  Calls Tryz.prog 103 #[v,.agg #[a0,a1,a2,a3,FQ (p.W:Nat),a5,a6,a7,FQ (p.bu:Nat),FQ (p.ck:Nat),a4,a8,FQ (p.n:Nat)],FQ x,FQ (st:Nat),.agg #[FQ (lo:Nat),FQ (o:Nat)]] w fun e u=>∃v',e=.returned v'∧eB u base v' (l++bU p x st (lo,o))∧fE w v u v':=by
 obtain ⟨H,b3⟩:∃H,(w.alloc (.cells #[a0,a1,a2,a3,FQ (p.W:Nat),a5,a6,a7,FQ (p.bu:Nat),FQ (p.ck:Nat),a4,a8,FQ (p.n:Nat)] 64)).alloc (.cells #[FQ (lo:Nat),FQ (o:Nat)] 187)=H:=⟨_,rfl⟩
 have g0:H.heap[w.heap.size]?=some (.cells #[a0,a1,a2,a3,FQ (p.W:Nat),a5,a6,a7,FQ (p.bu:Nat),FQ (p.ck:Nat),a4,a8,FQ (p.n:Nat)] 64 (0,0)):=by
  rw [←b3,E0 _ _ _ (by simp)];exact EN w _
 have g1:H.heap[w.heap.size+1]?=some (.cells #[FQ (lo:Nat),FQ (o:Nat)] 187 (0,0)):=by
  rw [←b3];have:=EN (w.alloc (.cells #[a0,a1,a2,a3,FQ (p.W:Nat),a5,a6,a7,FQ (p.bu:Nat),FQ (p.ck:Nat),a4,a8,FQ (p.n:Nat)] 64)) (.cells #[FQ (lo:Nat),FQ (o:Nat)] 187);simpa using this
 have b5:Below w.heap.size w H:=by rw [←b3];exact ((br w).alloc (EM _) _).alloc (by simp) _
 have b8:eB H base v l:=aq hl b5
 have kP:=fun u (q:Keep (fun j=>v.ownBlock=some j) H u)=>(q.block _ (EL g0) (fun h=>an g0 (by decide) b8 h.symm)).trans g0
 have kG:=fun u (q:Keep (fun j=>v.ownBlock=some j) H u)=>(q.block _ (EL g1) (fun h=>an g1 (by decide) b8 h.symm)).trans g1
 obtain ⟨m,hm⟩:∃m,p.W-1=m:=⟨_,rfl⟩
 have e3:=hp.W1;have eo:=hp.W8;have dn:=hp.ck;have d1:=hp.ck2;have ev:=hp.buks
 have cs:=fun j=>hp.buk j
 have hrl:=fun ph r j=>hp.round x st ph r j
 have eu:(p.W:Int)-1=(m:Int):=by omega
 have en:IntKind.i64.wrap (m:Int)=m:=ER _ (by omega)
 have bO:=pT p x st lo o
 rw [hm] at bO
 have cq:=ES hb b5.size
 have e0:=b5.size
 obtain ⟨eb,e1,da,HP,HG,dw,bl,Hm⟩:=aj b3 b5 b8 kP kG cs hrl hm;obtain ⟨ec,bb⟩:=ab bO cq
 have tG:=fun u (q:Below H.heap.size H u)=>bx2 (kG u (Keep.below q))
 have q0:=br H
 clear b3 g0 g1 b5 b8 hl kP kG cs hrl hm cq bO e0
 go_enter Tryz.func103,Tryz.ntmps103
 go_wp2_with fail
 rw [eb.out]
 clear tG q0
 have d3:=aa e9
 go_loopw [0,11] (fun D y wr=>∃j:Nat,lo≤j∧j≤o∧y=FQ j∧eB wr base D (l++bR st lo (j-lo) 2)∧fE H v wr D) (fun _ y _=>o-(intOf y).toNat)
 case atStart=>exact ⟨lo,EM _,bI,rfl,by simpa [bR] using da.out,fE.refl _ _⟩
 case round=>
  obtain ⟨j,hj,d7,rfl,l3,J⟩:=hrel
  have uR:=fun u (q:Below wr.heap.size wr u)=>bx2 (sb (HG.out wr J.1) u q)
  have q1:=br wr
  have A:(l++bR st lo (j-lo) 2).length≤8388608:=by
   have:=d3.out
   simp only [Fp,fQ]
   omega
  obtain ⟨Av,cv,rfl,_⟩:=av l3
  obtain ⟨n,hn⟩:∃n,(l++bR st lo (j-lo) 2).length=n:=⟨_,rfl⟩
  have R:wr.ownsRow base 191 12 (.slice Av n cv) n (bJ (l++bR st lo (j-lo) 2)):=by rw [←hn];exact l3
  rw [hn] at A J ⊢
  have Y:=J.1.size
  by_cases cd:j<o
  ·have b4:(j:Int)<o:=by omega
   have dk:IntKind.i64.wrap ((j:Int)+1)=((j+1:Nat):Int):=by rw [ER _ (by omega)];push_cast;rfl
   have e:l++bR st lo (j+1-lo) 2=(l++bR st lo (j-lo) 2)++[(⟨2,st,j,none⟩:Itm)]:=by rw [show j+1-lo=(j-lo)+1 by omega,iT,show lo+(j-lo)=j by omega];simp only [Fw]
   obtain ⟨O,L3,He,U⟩:=af J R e hn;clear l3 R J e hn
   go_wp2_with (at_builtin;refine eG fT _ rfl (.tmp 27) (.tmp 31) rfl base (.slice Av n cv) n _ rfl L3.out [FQ 2,FQ (st:Nat),FQ (j:Nat),.bool false,.bool false,FQ 0,FQ 0,FQ 0,FQ 0,FQ 0,FQ 0,FQ 0] rfl rfl (by simp [Value.oneCell']) (by omega) (by unfold maxLen;omega) (ES bb.out Y) ?_)
   intro g6 c6 w6 B C
   obtain ⟨Q,T⟩:=ab B (O.out.trans C);clear B C
   go_wp2_with fail
   go_roundw
   case rel=>exact ⟨j+1,by omega,by omega,by go_num,by unfold eB;rw [He.out,Fp,U.out,dJ];exact Q.out,T.out⟩
   case measure=>simp [intOf];omega
  ·have b4:¬((j:Int)<o):=by omega
   obtain rfl:o=j:=by omega
   obtain ⟨L3,O,U⟩:=ae l3 J hn;clear l3 R J A hn
   obtain ⟨l1,bh⟩:∃l1,l++bR st lo (o-lo) 2=l1:=⟨_,rfl⟩
   have bv:l1.length≤8000060:=by
    have:=d3.out
    rw [←bh]
    simp only [Fp,fQ]
    omega
   rw [U.out] at L3
   have L4:Hid (wr.ownsRow base 191 12 (.slice Av n cv) l1.length (bJ l1)):=Lib.hid (by have:=L3.out;unfold eB at this;rw [U.out] at this;rw [←bh,U.out];exact this)
   obtain ⟨dG,bs⟩:=ab bh bv;clear bh bv L3
   go_wp2_with fail
   clear uR q1
   go_loopw [0,12] (fun D y wr=>∃ph:Nat,ph≤2∧y=FQ ph∧eB wr base D (l1++aX p x st (lo,o) (ph*m))∧fE H v wr D) (fun _ y _=>2-(intOf y).toNat)
   case atStart=>exact ⟨0,EQ _,rfl,by simpa [aX] using L4.out,O.out⟩
   case round=>
    obtain ⟨ph,es,rfl,Z,A2⟩:=hrel
    by_cases e4:ph<2
    ·have e2:(ph:Int)<2:=by omega
     have ej:IntKind.i64.wrap ((ph:Int)+1)=((ph+1:Nat):Int):=by rw [ER _ (by omega)];push_cast;rfl
     obtain ⟨L2,L⟩:=ab Z A2;clear Z A2
     go_wp2_with fail
     go_loopw [0,13] (fun D y wr=>∃r:Nat,r≤m∧y=FQ r∧eB wr base D (l1++aX p x st (lo,o) (ph*m+r))∧fE H v wr D) (fun _ y _=>m-(intOf y).toNat)
     case atStart=>exact ⟨0,EQ _,rfl,L2.out,L.out⟩
     case round=>
      obtain ⟨r,hr,rfl,Z,A2⟩:=hrel
      have uP:=fun u (q:Below wr.heap.size wr u)=>oH (sb (HP.out wr A2.1) u q)
      have uR:=fun u (q:Below wr.heap.size wr u)=>bx2 (sb (HG.out wr A2.1) u q)
      have q1:=br wr
      by_cases hrl:r<m
      ·have dr:(r:Int)<m:=by omega
       have em:IntKind.i64.wrap ((r:Int)+1)=((r+1:Nat):Int):=by rw [ER _ (by omega)];push_cast;rfl
       obtain ⟨k,hk⟩:∃k,ph*m+r=k:=⟨_,rfl⟩
       have cx:k/m=ph:=by rw [←hk,Nat.mul_comm,Nat.mul_add_div (by omega),Nat.div_eq_of_lt hrl,Nat.add_zero]
       have cc:k%m=r:=by rw [←hk,Nat.mul_comm,Nat.mul_add_mod,Nat.mod_eq_of_lt hrl]
       have cn:k≤14:=by
        have:ph*m≤1*7:=Nat.mul_le_mul (by omega) (by have:=Hm.out;omega)
        omega
       rw [hk] at Z
       obtain ⟨L2,L,Hk,ea,d9⟩:=ag Z A2 hk cx cc;clear Z A2 hk cx cc
       go_wp2_with fail
       clear uP uR q1
       go_loopw [0,14] (fun D y wr=>∃j:Nat,lo≤j∧j≤o∧y=FQ j∧eB wr base D (l1++aX p x st (lo,o) k++eA p x st k lo (j-lo))∧fE H v wr D) (fun _ y _=>o-(intOf y).toNat)
       case atStart=>exact ⟨lo,EM _,bI,rfl,by simpa [eA] using L2.out,L.out⟩
       case round=>
        obtain ⟨j,hj,d7,rfl,I,A4⟩:=hrel
        have uP:=fun u (q:Below wr.heap.size wr u)=>oH (sb (HP.out wr A4.1) u q)
        have uR:=fun u (q:Below wr.heap.size wr u)=>bx2 (sb (HG.out wr A4.1) u q)
        have q1:=br wr
        by_cases cd:j<o
        ·have b4:(j:Int)<o:=by omega
         have e5:j<p.buks.length:=by omega
         obtain ⟨wj,rfl⟩:∃wj:World,wj=wr:=⟨_,rfl⟩
         obtain ⟨Aw,cw,rfl,_⟩:=av I
         obtain ⟨l4,bi⟩:∃l4,l1++aX p x st (lo,o) k++eA p x st k lo (j-lo)=l4:=⟨_,rfl⟩
         have bn:l4.length≤8200000:=by
          have h1:=fY (w:=x) (st:=st) (k:=k) (g:=(lo,o)) (M:=120) (p:=p) (fun ph r j=>bl.out ph r j)
          have h2:=nu (w:=x) (st:=st) (k:=k) (lo:=lo) (n:=j-lo) (M:=120) (p:=p) (fun ph r j=>bl.out ph r j)
          have h4:k*((o-lo)*120)≤14*(60*120):=Nat.mul_le_mul cn (Nat.mul_le_mul (by omega) (EM _))
          have h5:(j-lo)*120≤60*120:=Nat.mul_le_mul (by omega) (EM _)
          have h6:=bs.out
          rw [←bi]
          simp only [Fp]
          dsimp only at h1
          omega
         rw [bi] at I A4 ⊢
         obtain ⟨v4,co⟩:∃v4,Value.slice Aw l4.length cw=v4:=⟨_,rfl⟩
         rw [co] at I A4 ⊢
         have bG:=dw.out j
         have e8:aN p x st (k/(p.W-1)) (k%(p.W-1)) j=(bH st j (ay p.buks j) p.W p.ck x ph r).map (eO st):=by
          unfold aN
          rw [Hm.out,ea.out,d9.out]
         have b7:=bl.out (k/(p.W-1)) (k%(p.W-1)) j
         rw [e8,List.length_map] at b7
         obtain ⟨b1,b2,cj⟩:∃b1 b2,ay p.buks j=(b1,b2):=⟨_,_,rfl⟩
         have V:=zT p a0 a1 a2 a3 a5 a6 a7 a4 a8 st j wj hp e7 e5
         rw [cj] at bG e8 b7 V
         dsimp only at bG V
         obtain ⟨d0,E8,b9,b0,bd,dp,d8⟩:=ai V e8 b7 I A4 bi bn;clear V e8 b7 I A4 bi bn cj co
         go_wp2_with fail
         refine d0.out.mono ?_
         rintro e w7 ⟨rfl,k7⟩
         have q7:=bt q1 k7
         go_wp2_with fail
         refine (tM st j b1 b2 p.W p.ck x ph r w7 e3 (by omega) hx e4 (by have:=Hm.out;omega) bG.1 (by omega) dn d1).mono ?_
         rintro e w8 ⟨v8,rfl,o8,k8⟩
         have q8:=bt q7 k8
         obtain ⟨A8,c8,rfl,_⟩:=av o8
         obtain ⟨X,hX⟩:∃X,bH st j (b1,b2) p.W p.ck x ph r=X:=⟨_,rfl⟩
         rw [hX] at E8 b9 o8 ⊢
         obtain ⟨N,hN⟩:∃N,X.length=N:=⟨_,rfl⟩
         rw [hN] at b9 o8 ⊢
         have l8:eB w8 base v4 l4:=aq b0.out q8
         have ci:fE H v w8 v4:=bd.out.trans (fE.below q8)
         have d2:=fun u (q:Keep (fun j=>v4.ownBlock=some j) w8 u)=>q.own o8 (fun k hk e=>by
          have h1:=(o8.lt k hk).1
          have h5:k<wj.heap.size:=(b0.out.lt k e).2
          have h6:=q7.size
          omega)
         obtain ⟨L8,bz,dT,HN⟩:=af l8 ci d2 hN;clear o8 l8 ci d2 k8 k7 q8 q7 q1 hX hN uP uR b0 bd
         go_wp2_with fail
         go_loopw [0,16] (fun D y wr=>∃i:Nat,i≤N∧y=FQ i∧eB wr base D (l4++(X.take i).map (eO st))∧fE w8 v4 wr D) (fun _ y _=>N-(intOf y).toNat)
         case atStart=>exact ⟨0,EQ _,rfl,by simpa using L8.out,fE.refl _ _⟩
         case round=>
          obtain ⟨i,ek,rfl,l5,A5⟩:=hrel
          by_cases ef:i<N
          ·have ee:(i:Int)<N:=by omega
           have el:IntKind.i64.wrap ((i:Int)+1)=((i+1:Nat):Int):=by rw [ER _ (by have:=b9.out;omega)];push_cast;rfl
           have oX:=dT.out wr A5.1
           obtain ⟨ga,rfl⟩:∃ga,A8=some ⟨ga,0,none⟩:=by
            obtain ⟨g,e,hv,_⟩:=oX.form (by omega)
            simp only [FD] at hv
            exact ⟨g,hv.1⟩
           have e6:i<X.length:=by rw [HN.out];exact ef
           obtain ⟨a,ha⟩:∃a,X[i]=a:=⟨_,rfl⟩
           have d6:X[i]?=some a:=by rw [←ha];simp
           have cf:=sZ oX d6 HN.out
           have d4:X.take (i+1)=X.take i++[a]:=by rw [List.take_succ_eq_append_getElem e6,ha]
           have A:(l4++(X.take i).map (eO st)).length≤8388607:=by
            have:=d8.out
            have:=b9.out
            simp only [Fp,List.length_map,Fv]
            omega
           obtain ⟨snd,ad,bN,c9,bw,bA,bV,bX,bM⟩:=a
           have c0:wr.cell? ⟨ga,i*9,none⟩=some (.bool snd):=cf 0 (by omega)
           have c1:wr.cell? ⟨ga,i*9+1,none⟩=some (.bool ad):=cf 1 (by omega)
           have c2:wr.cell? ⟨ga,i*9+2,none⟩=some (FQ (bN:Nat)):=cf 2 (by omega)
           have c3:wr.cell? ⟨ga,i*9+3,none⟩=some (FQ (c9:Nat)):=cf 3 (by omega)
           have c4:wr.cell? ⟨ga,i*9+4,none⟩=some (FQ (bw:Nat)):=cf 4 (by omega)
           have c5:wr.cell? ⟨ga,i*9+5,none⟩=some (FQ (bA:Nat)):=cf 5 (by omega)
           have c6:wr.cell? ⟨ga,i*9+6,none⟩=some (FQ (bV:Nat)):=cf 6 (by omega)
           have c7:wr.cell? ⟨ga,i*9+7,none⟩=some (FQ (bX:Nat)):=cf 7 (by omega)
           have c8:wr.cell? ⟨ga,i*9+8,none⟩=some (FQ (bM:Nat)):=cf 8 (by omega)
           obtain ⟨Av,cv,rfl,_⟩:=av l5
           obtain ⟨n,hn⟩:∃n,(l4++(X.take i).map (eO st)).length=n:=⟨_,rfl⟩
           have d5:wr.ownsRow base 191 12 (.slice Av n cv) n (bJ (l4++(X.take i).map (eO st))):=by rw [←hn];exact l5
           rw [hn] at A A5 ⊢
           have Y:=A5.1.size
           obtain ⟨cl,L5,ct,U⟩:=af A5 d5 d4 hn;clear oX cf l5 d5 A5 d4 d6 hn ha
           cases snd
           ·go_wp2_with (at_builtin;refine eG fT _ rfl (.tmp 72) (.tmp 80) rfl base (.slice Av n cv) n _ rfl L5.out [FQ 4,FQ (st:Nat),FQ 0,.bool false,.bool ad,FQ (bN:Nat),FQ (c9:Nat),FQ (bw:Nat),FQ (bA:Nat),FQ (bV:Nat),FQ (bX:Nat),FQ (bM:Nat)] rfl rfl (by simp [Value.oneCell']) (by omega) (by unfold maxLen;omega) (ES (ES bb.out bz.out.1.size) Y) ?_)
            intro g6 dc w6 B C
            obtain ⟨Q,T⟩:=ab B (cl.out.trans C);clear B C
            go_wp2_with fail
            go_roundw
            case rel=>exact ⟨i+1,by omega,by go_num,by unfold eB;rw [ct.out,List.map_append,←Fw,Fp,U.out,List.map_cons,List.map_nil,dJ,List.map_take];exact Q.out,T.out⟩
            case measure=>simp [intOf];omega
           ·go_wp2_with (at_builtin;refine eG fT _ rfl (.tmp 72) (.tmp 80) rfl base (.slice Av n cv) n _ rfl L5.out [FQ 3,FQ (st:Nat),FQ 0,.bool true,.bool ad,FQ (bN:Nat),FQ (c9:Nat),FQ (bw:Nat),FQ (bA:Nat),FQ (bV:Nat),FQ (bX:Nat),FQ (bM:Nat)] rfl rfl (by simp [Value.oneCell']) (by omega) (by unfold maxLen;omega) (ES (ES bb.out bz.out.1.size) Y) ?_)
            intro g6 dc w6 B C
            obtain ⟨Q,T⟩:=ab B (cl.out.trans C);clear B C
            go_wp2_with fail
            go_roundw
            case rel=>exact ⟨i+1,by omega,by go_num,by unfold eB;rw [ct.out,List.map_append,←Fw,Fp,U.out,List.map_cons,List.map_nil,dJ,List.map_take];exact Q.out,T.out⟩
            case measure=>simp [intOf];omega
          ·obtain rfl:N=i:=by omega
           have ee:¬((N:Int)<N):=by omega
           have ei:IntKind.i64.wrap ((j:Int)+1)=((j+1:Nat):Int):=by rw [ER _ (by omega)];push_cast;rfl
           rw [List.take_of_length_le (by rw [HN.out];exact EM _),←E8.out,←dp.out,Fw,show eA p x st k lo (j-lo)++aN p x st (k/(p.W-1)) (k%(p.W-1)) j=eA p x st k lo (j+1-lo) from by rw [show j+1-lo=(j-lo)+1 by omega,jX,show lo+(j-lo)=j by omega]] at l5
           obtain ⟨L5,B5⟩:=ab l5 (bz.out.trans A5);clear l5 A5
           go_wp2_with fail
           go_roundw
           case rel=>exact ⟨j+1,by omega,by omega,by go_num,L5.out,B5.out⟩
           case measure=>simp [intOf];omega
        ·have b4:¬((j:Int)<o):=by omega
         obtain rfl:o=j:=by omega
         have e:=eJ p x st (lo,o) k
         dsimp only at e
         rw [Fw,←e,←Hk.out,FH] at I
         obtain ⟨b0,bd⟩:=ab I A4;clear I A4 e uP
         go_wp2_with fail
         go_roundw
         case rel=>exact ⟨r+1,by omega,by go_num,b0.out,bd.out⟩
         case measure=>simp [intOf];omega
      ·have dr:¬((r:Int)<m):=by omega
       obtain rfl:m=r:=by omega
       rw [←FG] at Z
       obtain ⟨L2,L⟩:=ab Z A2;clear Z A2 uR
       go_wp2_with fail
       go_roundw
       case rel=>exact ⟨ph+1,by omega,by go_num,L2.out,L.out⟩
       case measure=>simp [intOf];omega
    ·have e2:¬((ph:Int)<2):=by omega
     obtain rfl:ph=2:=by omega
     have hrl:(aX p x st (lo,o) (2*m)).length≤100800:=by
      have h1:=fY (w:=x) (st:=st) (k:=2*m) (g:=(lo,o)) (M:=120) (p:=p) (fun ph r j=>bl.out ph r j)
      have h4:2*m*((o-lo)*120)≤14*(60*120):=Nat.mul_le_mul (by have:=Hm.out;omega) (Nat.mul_le_mul (by omega) (EM _))
      dsimp only at h1
      omega
     have b6:(l1++aX p x st (lo,o) (2*m)).length≤8200000:=by
      have:=bs.out
      rw [Fp];omega
     obtain ⟨l9,cb⟩:∃l9,l1++aX p x st (lo,o) (2*m)=l9:=⟨_,rfl⟩
     rw [cb] at Z b6
     have uR:=fun u (q:Below wr.heap.size wr u)=>bx2 (sb (HG.out wr A2.1) u q)
     have q1:=br wr
     obtain ⟨L2,L,dv,cr⟩:=af Z A2 cb b6;clear Z A2 cb b6 hrl
     go_wp2_with fail
     clear uR q1
     go_loopw [0,18] (fun D y wr=>∃j:Nat,lo≤j∧j≤o∧y=FQ j∧eB wr base D (l9++bR st lo (j-lo) 5)∧fE H v wr D) (fun _ y _=>o-(intOf y).toNat)
     case atStart=>exact ⟨lo,EM _,bI,rfl,by simpa [bR] using L2.out,L.out⟩
     case round=>
      obtain ⟨j,hj,d7,rfl,l3,J⟩:=hrel
      have uR:=fun u (q:Below wr.heap.size wr u)=>bx2 (sb (HG.out wr J.1) u q)
      have q1:=br wr
      have A:(l9++bR st lo (j-lo) 5).length≤8388608:=by
       have:=cr.out
       simp only [Fp,fQ]
       omega
      obtain ⟨Av,cv,rfl,_⟩:=av l3
      obtain ⟨n,hn⟩:∃n,(l9++bR st lo (j-lo) 5).length=n:=⟨_,rfl⟩
      have R:wr.ownsRow base 191 12 (.slice Av n cv) n (bJ (l9++bR st lo (j-lo) 5)):=by rw [←hn];exact l3
      rw [hn] at A J ⊢
      have Y:=J.1.size
      by_cases cd:j<o
      ·have b4:(j:Int)<o:=by omega
       have dk:IntKind.i64.wrap ((j:Int)+1)=((j+1:Nat):Int):=by rw [ER _ (by omega)];push_cast;rfl
       have e:l9++bR st lo (j+1-lo) 5=(l9++bR st lo (j-lo) 5)++[(⟨5,st,j,none⟩:Itm)]:=by rw [show j+1-lo=(j-lo)+1 by omega,iT,show lo+(j-lo)=j by omega];simp only [Fw]
       obtain ⟨O,L3,He,U⟩:=af J R e hn;clear l3 R J e hn
       go_wp2_with (at_builtin;refine eG fT _ rfl (.tmp 90) (.tmp 94) rfl base (.slice Av n cv) n _ rfl L3.out [FQ 5,FQ (st:Nat),FQ (j:Nat),.bool false,.bool false,FQ 0,FQ 0,FQ 0,FQ 0,FQ 0,FQ 0,FQ 0] rfl rfl (by simp [Value.oneCell']) (by omega) (by unfold maxLen;omega) (ES bb.out Y) ?_)
       intro g6 c6 w6 B C
       obtain ⟨Q,T⟩:=ab B (O.out.trans C);clear B C
       go_wp2_with fail
       go_roundw
       case rel=>exact ⟨j+1,by omega,by omega,by go_num,by unfold eB;rw [He.out,Fp,U.out,dJ];exact Q.out,T.out⟩
       case measure=>simp [intOf];omega
      ·have b4:¬((j:Int)<o):=by omega
       obtain rfl:o=j:=by omega
       obtain ⟨L3,O,U⟩:=ae l3 J hn;clear l3 R J A hn
       rw [U.out] at L3
       have bo:l9++bR st lo (o-lo) 5=l++bU p x st (lo,o):=by
        rw [←dv.out,←dG.out,ec.out];simp only [Fw]
       have L9:Hid (eB wr base (.slice Av n cv) (l++bU p x st (lo,o))):=Lib.hid (by have:=L3.out;unfold eB at this ⊢;rw [U.out] at this;rw [←bo,U.out];exact this)
       have ds:=aa ((fE.below (v:=v) e1.out).trans O.out);clear bo L3
       go_wp2_with fail
       go_ret
       exact ⟨_,rfl,L9.out,ds.out⟩
def uu (st k:Nat):List Itm:=(List.range k).map (fun a=>(⟨1,st,a,none⟩:Itm))
theorem yb (st k:Nat):uu st (k+1)=uu st k++[(⟨1,st,k,none⟩:Itm)]:=lY st k
theorem AV (st k:Nat):(uu st k).length=k:=by simp [uu]
theorem tV (p:Pln) (st x:Nat) (a0 a1 a2 a3 a5 a7 A:Value) (w:World) (U:aT p) (bl:p.bu≤1048576) (bN:p.wi≤1048576) (hx:x<p.W):
  Calls Tryz.prog 67 #[.agg #[a0,a1,a2,a3,FQ (p.W:Nat),a5,FQ (p.mi:Nat),a7,FQ (p.bu:Nat),FQ (p.ck:Nat),FQ (p.wi:Nat),A,FQ (p.n:Nat)],FQ x,FQ (st:Nat)] w fun e o=>∃v,e=.returned v∧o.ownsRow w.heap.size 191 12 v (aw p x st).length (bJ (aw p x st))∧Below w.heap.size w o:=by
 obtain ⟨i,L⟩:∃i,w.alloc (.cells #[a0,a1,a2,a3,FQ (p.W:Nat),a5,FQ (p.mi:Nat),a7,FQ (p.bu:Nat),FQ (p.ck:Nat),FQ (p.wi:Nat),A,FQ (p.n:Nat)] 64)=i:=⟨_,rfl⟩
 have g0:i.heap[w.heap.size]?=some (.cells #[a0,a1,a2,a3,FQ (p.W:Nat),a5,FQ (p.mi:Nat),a7,FQ (p.bu:Nat),FQ (p.ck:Nat),FQ (p.wi:Nat),A,FQ (p.n:Nat)] 64 (0,0)):=by rw [←L];exact EN w _
 have bi:Below w.heap.size w i:=by rw [←L];exact (br w).alloc (EM _) _
 have cf:¬((p.W:Int)≤x):=by omega
 have cd:=U.buks;have cb:=U.grps;have ci:=U.mi;have b4:=U.wi
 have cc:w.heap.size<i.heap.size:=EL g0
 have R:p.grps=dA p.buks.length p.wi:=rfl
 obtain ⟨c8,b0,G0,b7⟩:=af L bi g0 R
 have tP:=fun o (q:Below i.heap.size i o)=>oH (sb g0 o q)
 have q0:=br i
 clear L g0 bi R
 go_enter Tryz.func67,Tryz.ntmps67
 go_wp2_with fail
 rw [c8.out]
 clear q0
 go_loopw [7,8] (fun vv y wr=>∃k:Nat,k≤p.mi∧y=FQ k∧wr.ownsRow i.heap.size 191 12 vv k (bJ (uu st k))∧Below i.heap.size i wr) (fun _ y _=>p.mi-(intOf y).toNat)
 case atStart=>exact ⟨0,EQ _,rfl,EZ _ _ _ _,br i⟩
 case round=>
  obtain ⟨k,hk,rfl,ho,q⟩:=hrel
  obtain ⟨Av,cv,rfl,_⟩:=av ho
  have I:=q.size
  by_cases J:k<p.mi
  ·have a4:(k:Int)<p.mi:=by omega
   have bG:IntKind.i64.wrap ((k:Int)+1)=((k+1:Nat):Int):=by rw [ER _ (by omega)];push_cast;rfl
   obtain ⟨Ho,Hq⟩:=ab ho q;clear ho
   go_wp2_with (at_builtin;refine be fT _ rfl (.tmp 27) (.tmp 31) rfl i.heap.size (.slice Av k cv) k _ rfl Ho.out [FQ 1,FQ (st:Nat),FQ (k:Nat),.bool false,.bool false,FQ 0,FQ 0,FQ 0,FQ 0,FQ 0,FQ 0,FQ 0] rfl rfl (by simp [Value.oneCell']) (by omega) (by unfold maxLen;omega) I ?_)
   intro g6 c6 w6 H bd c7
   obtain ⟨bX,Z⟩:=ab H (Hq.out.trans bd);clear H bd c7 q
   go_wp2_with fail
   go_roundw
   case rel=>exact ⟨k+1,by omega,by go_num,by rw [yb,dJ];exact bX.out,Z.out⟩
   case measure=>simp [intOf];omega
  ·obtain rfl:p.mi=k:=by omega
   have a4:¬((p.mi:Int)<p.mi):=by omega
   have Ho:=aa ho;clear ho
   go_wp2_with fail
   refine HA.g (fun o:World=>Below i.heap.size i o) ?_
   refine HA.t ?_ [0,3,4,5] q.drew ?_
   refine HA.c 1 (rA p a0 a1 a2 a3 a5 (FQ (p.mi:Nat)) a7 (FQ (p.wi:Nat)) A _ U bl) ?_
   rintro e w2 ⟨v2,rfl,o2,k2⟩
   have q2:=bt q.drew k2
   obtain ⟨C,c2,rfl,_⟩:=av o2
   refine ⟨_,rfl,q2,fun _=>?_⟩
   refine HA.t ?_ [2] q2 ?_
   refine HA.c 6 (ro p.buks.length p.wi w2 (by omega) b4 bN) ?_
   rintro e w3 ⟨v3,rfl,o3,k3⟩
   have q3:=bt q2 k3
   obtain ⟨A3,c3,rfl,_⟩:=av o3
   rw [←b7.out] at o3 ⊢
   refine ⟨_,rfl,q3,fun _=>?_⟩
   refine HA.t ?_ [7] q3 ?_
   refine HA.d ?_
   try simp only [Exit.then]
   have b8:=Rd.own o3
   have l3:eB w3 i.heap.size (.slice Av p.mi cv) (uu st p.mi):=by
    unfold eB
    rw [AV]
    exact aq (aq (bC Ho.out 1) k2) k3
   have b6:∀y,A3=some y→w2.heap.size≤y.block∧y.block<w3.heap.size:=fun y hy=>fd o3 y hy
   have bn:∀k,(Value.slice Av p.mi cv).ownBlock=some k→k<w2.heap.size:=fun k hk=>by
    have:=(Ho.out.lt k hk).2
    have:=k2.size
    have e:wr.drew.heap.size=wr.heap.size:=rfl
    omega
   obtain ⟨bV,L3,bv,a8,Q3⟩:=ag b8 l3 b6 bn q3;clear b8 l3 b6 bn o2 o3 k2 k3 q q2
   go_wp2_with fail
   obtain ⟨v3,bh⟩:∃v,Value.slice Av p.mi cv=v:=⟨_,rfl⟩
   rw [bh] at L3 a8 ⊢
   clear bh
   go_loopw [7,10] (fun vv y wr=>∃k:Nat,k≤p.grps.length∧y=FQ k∧eB wr i.heap.size vv (cy p x st k)∧fE w3 v3 wr vv) (fun _ y _=>p.grps.length-(intOf y).toNat)
   case atStart=>exact ⟨0,EQ _,rfl,by simpa [cy,uu] using L3.out,fE.refl _ _⟩
   case round=>
    obtain ⟨k,hk,rfl,T,C⟩:=hrel
    obtain ⟨Aw,cw,rfl,_⟩:=av T
    have Q:=jl U x st hk
    have I:=ES Q3.out.size C.1.size
    by_cases J:k<p.grps.length
    ·have a4:(k:Int)<p.grps.length:=by omega
     have bG:IntKind.i64.wrap ((k:Int)+1)=((k+1:Nat):Int):=by rw [ER _ (by omega)];push_cast;rfl
     have b1:=C.1.rd bV.out (fun y hy e=>by
      have h1:=(bv.out y hy).1
      have h2:=a8.out _ e
      omega)
     have V:=dm J
     obtain ⟨bb,bo,rfl,N⟩:=b1 _ _ V.1
     obtain ⟨b2,c9,e',D⟩:=b1 _ _ V.2
     obtain ⟨rfl,rfl⟩:b2=bb∧c9=bo:=by simpa using e'.symm
     rw [←FH] at D
     have O:=U.grp J
     have u:=jZ (p:=p) x st J
     obtain ⟨lo,hi,bA⟩:∃lo hi,ay p.grps k=(lo,hi):=⟨_,_,rfl⟩
     rw [bA] at O N D u
     dsimp only at O N D
     obtain ⟨lk,b5⟩:∃lk,cy p x st k=lk:=⟨_,rfl⟩
     rw [b5] at T C u Q ⊢
     obtain ⟨v2,b9⟩:∃v,Value.slice Aw lk.length cw=v:=⟨_,rfl⟩
     rw [b9] at T C ⊢
     have kP:wr.heap[w.heap.size]?=some (.cells #[a0,a1,a2,a3,FQ (p.W:Nat),a5,FQ (p.mi:Nat),a7,FQ (p.bu:Nat),FQ (p.ck:Nat),FQ (p.wi:Nat),A,FQ (p.n:Nat)] 64 (0,0)):=(C.1.block _ (by have:=Q3.out.size;omega) (fun e=>by have:=(L3.out.lt _ e).1;omega)).trans (sb G0.out w3 Q3.out)
     have nP:¬v2.ownBlock=some w.heap.size:=fun e=>by have:=(T.lt _ e).1;omega
     have nB:¬v2.ownBlock=some b2:=fun e=>by
      have h1:=bv.out _ rfl
      dsimp only at h1
      rcases C.2 with h | h
      ·rw [h] at e
       have h2:=a8.out _ e
       omega
      ·have h2:=h _ e
       omega
     have uP:=fun o (q':Keep (fun j=>v2.ownBlock=some j) wr o)=>oH ((q'.block _ (EL kP) nP).trans kP)
     have d0:=fun o (q':Keep (fun j=>v2.ownBlock=some j) wr o)=>q'.cell N nB
     have d1:=fun o (q':Keep (fun j=>v2.ownBlock=some j) wr o)=>q'.cell D nB
     have Y:=tW p i.heap.size st x lo hi a0 a1 a2 a3 a5 (FQ (p.mi:Nat)) a7 (FQ (p.wi:Nat)) A v2 lk wr.drew U bl (bC T 1) I hx O.1 O.2 (by omega)
     rw [←u] at Y
     obtain ⟨bM,ad⟩:=ab Y C
     have q1:Keep (fun j=>v2.ownBlock=some j) wr wr.drew:=(Keep.refl _ _).drew
     clear Y T C u b5 b9 kP N D b1 V e' bA
     go_wp2_with fail
     refine HA.g (fun o:World=>Keep (fun j=>v2.ownBlock=some j) wr o) ?_
     refine HA.t ?_ [0,1,2,3,4,5,6,7] q1 ?_
     refine HA.c 8 bM.out ?_
     rintro e w8 ⟨v8,rfl,l8,b3⟩
     have A8:fE wr v2 w8 v8:=(fE.below (br wr).drew).trans b3
     have q8:Keep (fun j=>v2.ownBlock=some j) wr w8:=A8.1
     refine ⟨_,rfl,q8,fun _=>?_⟩
     refine HA.t ?_ [9] q8 ?_
     refine HA.d ?_
     try simp only [Exit.then]
     obtain ⟨L8,B8⟩:=ab l8 (ad.out.trans A8);clear l8 A8 b3 q8 q1 uP d0 d1 nP nB
     go_wp2_with fail
     go_roundw
     case rel=>exact ⟨k+1,by omega,by go_num,L8.out,B8.out⟩
     case measure=>simp [intOf];omega
    ·have a4:¬((p.grps.length:Int)<p.grps.length):=by omega
     have bI:k=p.grps.length:=by omega
     subst bI
     obtain ⟨n,hn⟩:∃n,(cy p x st p.grps.length).length=n:=⟨_,rfl⟩
     have bz:wr.ownsRow i.heap.size 191 12 (.slice Aw n cw) n (bJ (cy p x st p.grps.length)):=by rw [←hn];exact T
     rw [hn] at C Q ⊢
     have e:bJ (cy p x st p.grps.length)++[FQ 6,FQ (st:Nat),FQ 0,.bool false,.bool false,FQ 0,FQ 0,FQ 0,FQ 0,FQ 0,FQ 0,FQ 0]=bJ (aw p x st):=by
      have:aw p x st=cy p x st p.grps.length++[(⟨6,st,0,none⟩:Itm)]:=by
       unfold cy aw
       rw [FB]
      rw [this,dJ];rfl
     have bw:n+1=(aw p x st).length:=by
      rw [←hn]
      unfold cy aw
      rw [FB];simp only [Fp,List.length_cons,List.length_nil]
     obtain ⟨ad,L2,He,bO⟩:=af C bz e bw;clear T bz C hn e bw
     go_wp2_with (at_builtin;refine eG fT _ rfl (.tmp 55) (.tmp 58) rfl i.heap.size (.slice Aw n cw) n _ rfl L2.out [FQ 6,FQ (st:Nat),FQ 0,.bool false,.bool false,FQ 0,FQ 0,FQ 0,FQ 0,FQ 0,FQ 0,FQ 0] rfl rfl (by simp [Value.oneCell']) (by omega) (by unfold maxLen;omega) I ?_)
     intro g6 c6 w6 H bs
     have a6:w6.ownsRow i.heap.size 191 12 (.slice g6 (n+1) c6) (n+1) (bJ (cy p x st p.grps.length)++[FQ 6,FQ (st:Nat),FQ 0,.bool false,.bool false,FQ 0,FQ 0,FQ 0,FQ 0,FQ 0,FQ 0,FQ 0]):=H
     rw [He.out] at a6
     have B6:=(ad.out.trans bs).1.toBelow (B:=i.heap.size) Q3.out.size (fun j hj=>(L3.out.lt j hj).1)
     have O6:Hid (w6.ownsRow w.heap.size 191 12 (.slice g6 (n+1) c6) (aw p x st).length (bJ (aw p x st))):=Lib.hid (by rw [←bO.out];exact aA a6 b0.out.size)
     have Z:=aa (b0.out.trans ((Q3.out.trans B6).mono b0.out.size));clear H a6 bs B6
     go_wp2_with fail
     go_ret
     exact ⟨_,rfl,O6.out,Z.out⟩
theorem Ag (T N Z R Y O Q V b8 U x v:Value) (n o:Int) (w:World) (hb:o≠0∨n<1∨1048576<n)
  (J:∀D,Below w.heap.size w D→Calls Tryz.prog 76 #[.agg #[T,N,Z,R,Y,O,Q,V,b8,U,x,v]] D fun e a0=>e=.returned (FQ o)∧Below D.heap.size D a0):
  Calls Tryz.prog 82 #[.agg #[T,N,Z,R,Y,O,Q,V,b8,U,x,v],FQ n] w fun e D=>e=.returned (.tuple #[.pointer none,.bool false])∧Below w.heap.size w D:=by
 obtain ⟨L,A⟩:∃L,w.alloc (.cells #[T,N,Z,R,Y,O,Q,V,b8,U,x,v] 24)=L:=⟨_,rfl⟩
 have B:Below w.heap.size w L:=by rw [←A];exact (br w).alloc (EM _) _
 have H:=J L B
 obtain ⟨y,i,C⟩:=ae A B H;clear A B H J
 by_cases h1:o=0
 ·subst h1
  by_cases h2:n<1
  ·go_enter Tryz.func82,Tryz.ntmps82
   go_wp2_with fail
   rw [y.out]
   refine C.out.mono ?_
   rintro e w1 ⟨rfl,u⟩
   have I:=aa (i.out.trans (u.mono i.out.size));clear u
   go_wp2_with fail
   go_ret2
   exact ⟨rfl,I.out⟩
  ·have h3:1048576<n:=by rcases hb with h | h | h<;>first | exact absurd rfl h | exact absurd h h2 | exact h
   go_enter Tryz.func82,Tryz.ntmps82
   go_wp2_with fail
   rw [y.out]
   refine C.out.mono ?_
   rintro e w1 ⟨rfl,u⟩
   have I:=aa (i.out.trans (u.mono i.out.size));clear u
   go_wp2_with fail
   go_ret2
   exact ⟨rfl,I.out⟩
 ·go_enter Tryz.func82,Tryz.ntmps82
  go_wp2_with fail
  rw [y.out]
  refine C.out.mono ?_
  rintro e w1 ⟨rfl,u⟩
  have I:=aa (i.out.trans (u.mono i.out.size));clear u
  go_wp2_with fail
  go_ret2
  exact ⟨rfl,I.out⟩
def mJ (p:Pln) (k:Nat):Nat:=((p.buks.take k).map fun b=>4*(p.W-1)*gS b p.W p.ck).sum
theorem oV {p:Pln} {k:Nat} (hk:k<p.buks.length):mJ p (k+1)=mJ p k+4*(p.W-1)*gS (ay p.buks k) p.W p.ck:=by
 unfold mJ
 rw [List.take_succ_eq_append_getElem hk,←bq _ _ hk]
 simp
theorem rR {p:Pln} (i:aT p) (k:Nat):gS (ay p.buks k) p.W p.ck≤480:=by
 rw [rS]
 have h:∀n,aH n (fun s=>(chR (ay (cG (ay p.buks k) p.W) s) p.ck).length)≤n*60:=by
  intro n
  induction n with
  | zero=>simp [aH]
  | succ n ih=>
   rw [cJ]
   have:=nU (c:=p.ck) (s:=n) i.W1 (i.buk k).1 (i.buk k).2
   omega
 have:=h p.W
 have:=i.W8
 omega
theorem ke {p:Pln} (h:aT p):∀{k:Nat},k≤p.buks.length→mJ p k≤k*13440
 | 0,_=>by simp [mJ]
 | k+1,hk=>by
  rw [oV (by omega)]
  have o:=ke h (k:=k) (by omega)
  have i:=rR h k
  have u:4*(p.W-1)*gS (ay p.buks k) p.W p.ck≤28*480:=Nat.mul_le_mul (by have:=h.W8;omega) i
  omega
def eD (p:Pln):Nat:=p.W*(p.mi+2*p.buks.length+1)+mJ p p.buks.length
theorem vu {p:Pln} (h:aT p) (st:Nat):aH p.W (fun w=>(aw p w st).length)=eD p:=by
 rw [yk p st h.wi,eD,mJ,FB]
theorem ud (w:World):Calls Tryz.prog 109 #[.pointer none] w fun e h=>e=.returned (FQ 0)∧w=h:=by
 go_enter Tryz.func109,Tryz.ntmps109
 go_wp2
 go_ret
 exact ⟨rfl,rfl⟩
theorem ue (p:Pln) (u P:Nat) (a0 a1 a2 a3 a5 bv:Value) (w:World) (L:aT p) (bl:u≤12) (hP:db w P p a0 a1 a2 a3 a5 (FQ (u:Nat)) bv):
  Calls Tryz.prog 109 #[.pointer (some ⟨P,0,none⟩)] w fun e o=>e=.returned (FQ ((eD p*u:Nat):Int))∧Below w.heap.size w o:=by
 obtain ⟨BA,bc,GA,gc,LA,lc,hb,hB,hG,hL⟩:=hP
 have tP:=fun o q=>hZ (sb hb o q)
 obtain ⟨v,A⟩:∃v,p.buks.length=v:=⟨_,rfl⟩
 have bA:=L.buks;have bG:=L.W1;have bI:=L.W8;have c8:=L.mi;have bh:=L.ck;have b0:=L.ck2
 have U:=fun k (h:k≤p.buks.length)=>ke L h
 have V:=fun k (h:k<p.buks.length)=>oV (p:=p) h
 have a7:=fun k=>rR L k
 have b5:=fun k=>L.buk k
 rw [A] at bA U V
 obtain ⟨a,ha⟩:∃a,2*v=a:=⟨_,rfl⟩
 obtain ⟨b,a8⟩:∃b,p.mi+a=b:=⟨_,rfl⟩
 obtain ⟨c,hc⟩:∃c,b+1=c:=⟨_,rfl⟩
 obtain ⟨X,hX⟩:∃X,p.W*c=X:=⟨_,rfl⟩
 have h1:(2:Int)*(v:Int)=(a:Int):=by omega
 have h2:(p.mi:Int)+(a:Int)=(b:Int):=by omega
 have h3:(b:Int)+1=(c:Int):=by omega
 have h4:(p.W:Int)*(c:Int)=(X:Int):=by rw [←hX];push_cast;rfl
 have c7:X≤8*141:=by rw [←hX];exact Nat.mul_le_mul bI (by omega)
 have w1:IntKind.i64.wrap (a:Int)=a:=ER _ (by omega)
 have w2:IntKind.i64.wrap (b:Int)=b:=ER _ (by omega)
 have w3:IntKind.i64.wrap (c:Int)=c:=ER _ (by omega)
 have w4:IntKind.i64.wrap (X:Int)=X:=ER _ (by omega)
 have N:eD p=X+mJ p v:=by unfold eD;rw [A,ha,a8,hc,hX]
 rw [A] at tP
 obtain ⟨HB,bO,b8,bn,bd,O,bX,Hb⟩:=aj hB U V a7 b5 N A hb
 have q0:=br w
 clear hb hB hG hL U V a7 b5 N A ha a8 hc hX
 go_enter Tryz.func109,Tryz.ntmps109
 go_wp2_with fail
 refine HA.g (fun o:World=>Below w.heap.size w o) ?_
 refine HA.t ?_ [0,1,2,3,4,5,6,7,8,9,10,11,12,13,14,15,16,17,18,19,20,21,22] q0.drew ?_
 refine HA.d ?_
 have q1:=q0.drew
 have Q1:=aa q1
 go_wp2_with fail
 clear q0 q1 h1 h2 h3 h4 w1 w2 w3 w4
 obtain ⟨m,hm⟩:∃m,p.W-1=m:=⟨_,rfl⟩
 obtain ⟨f,hf⟩:∃f,4*m=f:=⟨_,rfl⟩
 have h1:(p.W:Int)-1=(m:Int):=by omega
 have h2:(4:Int)*(m:Int)=(f:Int):=by omega
 have w1:IntKind.i64.wrap (m:Int)=m:=ER _ (by omega)
 have w2:IntKind.i64.wrap (f:Int)=f:=ER _ (by omega)
 have bw:f≤28:=by omega
 obtain ⟨Hm,Hf⟩:=ab hm hf;clear hm hf
 go_loopw [3,36] (fun n y wr=>∃k:Nat,k≤v∧y=FQ k∧n=FQ ((X+mJ p k:Nat):Int)∧Below w.heap.size w wr) (fun _ y _=>v-(intOf y).toNat)
 case atStart=>exact ⟨0,EQ _,rfl,by simp [mJ],Q1.out⟩
 case round=>
  obtain ⟨k,hk,rfl,rfl,q⟩:=hrel
  have b7:=bO.out k hk
  by_cases a6:k<v
  ·have bi:(k:Int)<v:=by omega
   have c6:IntKind.i64.wrap ((k:Int)+1)=((k+1:Nat):Int):=by rw [ER _ (by omega)];push_cast;rfl
   have bM:k<p.buks.length:=by rw [bX.out];exact a6
   have R:=dm bM
   obtain ⟨bb,bo,rfl,J⟩:=HB.out _ _ R.1
   obtain ⟨b6,bV,e',x⟩:=HB.out _ _ R.2
   obtain ⟨rfl,rfl⟩:b6=bb∧bV=bo:=by simpa using e'.symm
   rw [←FH] at x
   have Q:=bd.out k
   have C:=bn.out k
   have i:=b8.out k a6
   obtain ⟨Z,b2,a4⟩:∃Z b2,ay p.buks k=(Z,b2):=⟨_,_,rfl⟩
   rw [a4] at J x Q C i
   dsimp only at J x Q
   have d0:=fun o (q:Below w.heap.size w o)=>am q J
   have d1:=fun o (q:Below w.heap.size w o)=>am q x
   obtain ⟨I,D⟩:∃I,wr.alloc (.cells #[FQ (Z:Nat),FQ (b2:Nat)] 148)=I:=⟨_,rfl⟩
   have h6:I.heap[wr.heap.size]?=some (.cells #[FQ (Z:Nat),FQ (b2:Nat)] 148 (0,0)):=by rw [←D];exact EN wr _
   have k6:Below wr.heap.size wr I:=by rw [←D];exact (br wr).alloc (EM _) _
   have q6:=bt q k6
   have t6:=fun o q=>bx2 (sb h6 o q)
   have u6:=fun o (q:Below I.heap.size I o)=>tP o (bt q6 q)
   obtain ⟨z,hz⟩:∃z,gS (Z,b2) p.W p.ck=z:=⟨_,rfl⟩
   have B:=AN Z b2 p.W p.ck
   rw [hz] at C i B
   obtain ⟨y,H⟩:∃y,f*z=y:=⟨_,rfl⟩
   rw [Hm.out,Hf.out,H] at i
   obtain ⟨s0,T⟩:∃s0,X+mJ p k=s0:=⟨_,rfl⟩
   rw [T]
   have h5:(f:Int)*(z:Int)=(y:Int):=by rw [←H];push_cast;rfl
   have bN:y≤28*480:=by rw [←H];exact Nat.mul_le_mul bw C
   have w5:IntKind.i64.wrap (y:Int)=y:=ER _ (by omega)
   have w6:IntKind.i64.wrap ((s0:Int)+(y:Int))=(s0:Int)+y:=ER _ (by omega)
   obtain ⟨ad,b9,b4,bz,Q6⟩:=ag i T B D q6
   have Y:=br I
   clear R e' a4 hz H i T B D h6 k6 q6
   go_wp2_with fail
   rw [bz.out]
   clear d0 d1 J x
   refine HA.g (fun o:World=>Below I.heap.size I o) ?_
   refine HA.t ?_ [0,1,2,3,4,5,6,7,8,9,10,11,12,13,14,15,16,17,18,19,20,21] Y.drew ?_
   refine HA.c 22 (b4.out _ bG (by omega) (by omega) (by omega) bh b0) ?_
   rintro e w7 ⟨rfl,k7⟩
   have q7:=bt Y.drew k7
   refine ⟨_,rfl,q7,fun _=>?_⟩
   refine HA.t ?_ [23,24,25] q7 ?_
   refine HA.d ?_
   have Q8:=aa (bt Q6.out q7);clear t6 u6 q7 k7 Y q
   go_wp2_with fail
   go_roundw
   case rel=>exact ⟨k+1,by omega,by go_num,by have:=b9.out;rw [ad.out,←FH,this];push_cast;rfl,Q8.out⟩
   case measure=>simp [intOf];omega
  ·have bi:¬((k:Int)<v):=by omega
   have bs:k=v:=by omega
   rw [bs] at b7 ⊢
   rw [←O.out]
   have b3:eD p≤810000:=by rw [O.out];omega
   obtain ⟨t,ht⟩:∃t,eD p=t:=⟨_,rfl⟩
   rw [ht] at b3 ⊢
   obtain ⟨y,H⟩:∃y,t*u=y:=⟨_,rfl⟩
   have Hy:Hid (eD p*u=y):=Lib.hid (by rw [ht];exact H)
   have h5:(t:Int)*(u:Int)=(y:Int):=by rw [←H];push_cast;rfl
   have bN:y≤810000*12:=by rw [←H];exact Nat.mul_le_mul b3 bl
   have w5:IntKind.i64.wrap (y:Int)=y:=ER _ (by omega)
   have HQ:=aa q;clear H ht
   go_wp2_with fail
   go_ret
   exact ⟨aF (by rw [←Hy.out];push_cast;rfl),HQ.out⟩
end Go.Proofs.YtgmajkppbhiopaaGreat
