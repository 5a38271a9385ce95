/- No condition. -/
import Derived.Test.YtindmkcnjlgomaaGreatQ08
import Derived.Deep.RegionLaw
set_option linter.unusedSimpArgs false
set_option linter.unusedVariables false
set_option maxRecDepth 100000
set_option maxHeartbeats 4000000
namespace Go.Proofs.YtindmkcnjlgomaaGreat
open Go.RowKit
open Tryz
structure Tg where
 a:Int
 b:Int
 c:Int
 d:Int
 e:Int
structure Msg where
 tag:Tg
 vals:Q_
def Tg.cells (t:Tg):R7:=[RI t.a,RI t.b,RI t.c,RI t.d,RI t.e]
def Tg.zero:Tg:=⟨0,0,0,0,0⟩
def Msg.zero:Msg:=⟨Tg.zero,[]⟩
theorem lE:dN prog 47 174 (.agg RR) 6 64:=⟨underlying47,info_parts (by kernel_rfl),rfl,by decide⟩
theorem nW (A:N_) (zs:Q_) (c:Nat) (w:R8) (hA:Rd w A (aA .i64 zs)) (hl:zs.length<=17592186043904):Calls prog 77 #[.slice A zs.length c] w λe u=>∃v,e=.returned v/\u.ownsRow w.heap.size 2 1 v zs.length (aA .i64 zs)/\aq w u:=by
 have h:=II A zs c w hA hl;go_enter func77,ntmps77;go_wp2_with fail;refine h.mono ?_;rintro e y ⟨v,rfl,i,hb⟩;obtain ⟨C,B,rfl,_⟩:=aD i;clear h;obtain ⟨p,x⟩:=ae i hb;clear i hb;go_wp2;go_ret;exact ⟨_,rfl,p.o,x.o⟩
def zx (w:R8) (base:Nat) (h:R7) (m:Msg):Prop:=
 ∃A c,h=m.tag.cells++[.slice A m.vals.length c]/\w.ownsRow base 2 1 (.slice A m.vals.length c) m.vals.length (aA .i64 m.vals)
def Fm (w:R8) (h:R7) (m:Msg):Prop:=
 ∃A c,h=m.tag.cells++[.slice A m.vals.length c]/\Rd w A (aA .i64 m.vals)
structure LSt where
 cap:Nat
 msgs:List Msg
 recv:Nat
 peak:Nat
structure LSt.Ok (s:LSt):Prop where
 cap1:1<=s.cap
 cap2:s.cap<=1048576
 rs:s.recv<=s.msgs.length
 sr:s.msgs.length<=s.recv+s.cap
 pk:s.peak<=s.cap
 many:s.msgs.length<=100000000000
 vals:∀m∈s.msgs,m.vals.length<=17592186043904
def aQ (l:List Msg) (j:Nat):Msg:=l.getD j Msg.zero
def fg (l:List (R7)) (j:Nat):R7:=l.getD j []
structure aV (w:R8) (base b:Nat) (g:Option Nat) (s:LSt):Prop where
 ok:s.Ok
 ex:∃ring rows,aC w b ring s.cap s.msgs.length s.recv s.peak/\w.ownsRow base 174 6 ring (min s.msgs.length s.cap) (List.flatten rows)/\ring.ownBlock=g/\
  rows.length=min s.msgs.length s.cap/\(∀r∈rows,r.length=6)/\∀j,s.recv<=j->j<s.msgs.length->zx w base (fg rows (j%s.cap)) (aQ s.msgs j)
theorem ko (b:Nat) (ring:Value) (cap sent recv peak n i:Nat) (w:R8) (h:aC w b ring cap sent recv peak) (hc:1<=cap) (o:cap<=1048576) (u:n%cap=i):Calls prog 76 #[(au b),RI (n:Int)] w λe p=>e=.returned (RI (i:Int))/\w=p:=by
 subst u;refine (Iq b ring cap sent recv peak n w h hc ap o).mono ?_;rintro e p ⟨rfl,rfl⟩;exact ⟨by rw [Int.natCast_emod],rfl⟩
theorem nY {rows:List (R7)} {k:Nat} (h:∀r∈rows,r.length=k) (i t:Nat) (o:i<rows.length) (p:t<k):(List.flatten rows)[i*k+t]?=(fg rows i)[t]?:=by
 induction rows generalizing i with
 | nil=>simp at o
 | cons r l ih=>
  have hr:r.length=k:=h r (by simp)
  cases i with
  | zero=>
   rw [List.flatten_cons,Nat.zero_mul,RB,Rk ap];simp [fg]
  | succ i=>
   rw [List.flatten_cons,Rl (by rw [hr,Nat.add_mul];omega),hr,show (i+1)*k+t-k=i*k+t by rw [Nat.add_mul];omega,ih (λr hr=>h r (by simp [hr])) i (by simpa using o)];simp [fg]
structure sI (w:R8) (g o:Nat) (t:Tg) (v:Value):Prop where
 c0:w.cell? (ar g o)=some (RI t.a)
 c1:w.cell? (ar g (o+1))=some (RI t.b)
 c2:w.cell? (ar g (o+2))=some (RI t.c)
 c3:w.cell? (ar g (o+3))=some (RI t.d)
 c4:w.cell? (ar g (o+4))=some (RI t.e)
 c5:w.cell? (ar g (o+5))=some v
theorem uW {j n r cap:Nat} (_h1:r<=j) (o:j<n) (_h3:n<=r+cap) (hc:1<=cap):j%cap<min n cap:=by
 have h:=Nat.mod_lt j (show 0<cap by omega);have i:=Nat.mod_le j cap;omega
theorem aV.at_ {w:R8} {base b:Nat} {g:Option Nat} {s:LSt} (h:aV w base b g s) (j:Nat) (h1:s.recv<=j) (B:j<s.msgs.length):
  ∃p c y u,g=some p/\aC w b (.slice (some (ar p 0)) (min s.msgs.length s.cap) c) s.cap s.msgs.length s.recv s.peak/\j%s.cap<min s.msgs.length s.cap/\
   sI w p (j%s.cap*6) (aQ s.msgs j).tag (.slice y (aQ s.msgs j).vals.length u)/\
   w.ownsRow base 2 1 (.slice y (aQ s.msgs j).vals.length u) (aQ s.msgs j).vals.length (aA .i64 (aQ s.msgs j).vals):=by
 obtain ⟨ok,ring,rows,hc,o,hg,hrl,A,hm⟩:=h;have C:=uW h1 B ok.sr ok.cap1;obtain ⟨y,u,v,x⟩:=hm j h1 B;obtain ⟨p,c,rfl,_,_⟩:=o.form ap;refine ⟨p,c,y,u,hg.symm,hc,C,?_,x⟩
 have i:∀t,t<6->w.cell? ⟨p,j%s.cap*6+t,none⟩=((aQ s.msgs j).tag.cells++[Value.slice y (aQ s.msgs j).vals.length u])[t]?:=λt D=>by
  rw [o.cellAt _ (by have:=RH 6 (Nat.succ_le_of_lt C);rw [Ry] at this;omega),nY A _ t ap D,v]
 exact ⟨i 0 ap,i 1 ap,i 2 ap,i 3 ap,i 4 ap,i 5 ap⟩
theorem aC.alloc {w:R8} {b:Nat} {ring:Value} {cap sent recv peak:Nat} (h:aC w b ring cap sent recv peak) (o:Obj):aC (w.alloc o) b ring cap sent recv peak:=(QL _ _ _ (Qw h)).trans h
theorem vb (base b:Nat) (g:Option Nat) (s:LSt) (w:R8) (h:aV w base b g s) (A:s.recv<s.msgs.length):Calls prog 211 #[.pointer (some ⟨b,0,none⟩)] w λe p=>e=.returned (.tuple #[.agg #[RI (aQ s.msgs s.recv).tag.a,RI (aQ s.msgs s.recv).tag.b,RI (aQ s.msgs s.recv).tag.c,RI (aQ s.msgs s.recv).tag.d,RI (aQ s.msgs s.recv).tag.e],.bool true])/\aq w p:=by
 obtain ⟨x,c,A',c',rfl,hc,O,I,y⟩:=h.at_ s.recv (Qx _) A;obtain ⟨D,C,B,V,Q,T,H⟩:=h.ok;clear H y;obtain ⟨i,u⟩:∃i,s.recv%s.cap=i:=⟨_,rfl⟩;rw [u] at O I;obtain ⟨L,J⟩:∃L,min s.msgs.length s.cap=L:=⟨_,rfl⟩;rw [J] at O hc;have hl:=λo=>mZ b _ _ _ _ _ _ (hc.alloc o) B ap;have N:=λo n=>ko b _ _ _ _ _ s.recv i _ (show aC ((w.alloc o).drewN n) _ _ _ _ _ _ from hc.alloc o) D C u;have c0:=hc.c0;have c3:=hc.c3;have hb:=Qw hc;have hg:=aB I.c0;obtain ⟨d0,d1,Y,d3,d4,d5⟩:=I;obtain ⟨R,U⟩:=ae hl N;clear hl N u J h;generalize (aQ s.msgs s.recv).tag=tg at *;go_enter func211,ntmps211;go_wp2_with fail;refine (R.o _).mono ?_;rintro e Z ⟨rfl,n,rfl⟩;go_wp2_with fail
 go_region_held3 (λp=>p.cell? ⟨b,0,none⟩=some (.slice (some ⟨x,0,none⟩) L c)/\p.cell? ⟨b,3,none⟩=some (RI (s.recv:Int))/\p.cell? ⟨x,i*6,none⟩=some (RI tg.a)/\p.cell? ⟨x,i*6+1,none⟩=some (RI tg.b)/\
   p.cell? ⟨x,i*6+2,none⟩=some (RI tg.c)/\p.cell? ⟨x,i*6+3,none⟩=some (RI tg.d)/\p.cell? ⟨x,i*6+4,none⟩=some (RI tg.e)) (simp [go_sem, *])
  ((go_at_call 76;refine (U.o _ _).mono ?_;rintro e p ⟨rfl,rfl⟩))
 go_wp2;refine QM (v:=.tuple #[.agg #[RI tg.a,RI tg.b,RI tg.c,RI tg.d,RI tg.e],.bool true]) (by simp [results,results211,go_sem]) rfl ⟨rfl,?_⟩;exact am
theorem pQ (base b:Nat) (g:Option Nat) (s:LSt) (w:R8) (h:aV w base b g s) (i:s.recv=s.msgs.length):Calls prog 211 #[(au b)] w λe A=>e=.returned (.tuple #[.agg #[RI 0,RI 0,RI 0,RI 0,RI 0],.bool false])/\aq w A:=by
 obtain ⟨ok,ring,rows,hc,_⟩:=h;obtain ⟨C,H,p,x,y,D,u⟩:=ok;clear u;have hl:=λo=>mZ b _ _ _ _ _ _ (hc.alloc o) p ap;rw [i,Int.sub_self] at hl;have B:=aa hl;clear hl hc i;go_enter func211,ntmps211;go_wp2_with fail;refine (B.o _).mono ?_;rintro e I ⟨rfl,n,rfl⟩;go_wp2;refine QM (v:=.tuple #[.agg #[RI 0,RI 0,RI 0,RI 0,RI 0],.bool false]) (by simp [results,results211,go_sem]) rfl ⟨rfl,?_⟩;exact am
theorem sI.same {w i:R8} {g o:Nat} {t:Tg} {v:Value} (h:sI w g o t v) (hb:i.heap[g]?=w.heap[g]?):sI i g o t v:=
 ⟨(World.cell?_of_block (w:=w) hb).trans h.c0,(World.cell?_of_block (w:=w) hb).trans h.c1,(World.cell?_of_block (w:=w) hb).trans h.c2,(World.cell?_of_block (w:=w) hb).trans h.c3,(World.cell?_of_block (w:=w) hb).trans h.c4,(World.cell?_of_block (w:=w) hb).trans h.c5⟩
theorem aC.same {w i:R8} {b:Nat} {ring:Value} {cap sent recv peak:Nat} (h:aC w b ring cap sent recv peak) (hb:i.heap[b]?=w.heap[b]?):aC i b ring cap sent recv peak:=hb.trans h
theorem aV.keep {S:Nat->Prop} {w D:R8} {base b:Nat} {g:Option Nat} {s:LSt} (h:aV w base b g s) (k:Keep S w D) (h1:¬S b) (J:∀i,g=some i->¬S i) (N:∀i c,w.heap[i]?=some (.cells c 2 (0,0))->base<=i->¬S i):aV D base b g s:=by
 obtain ⟨ok,ring,rows,hc,p,hg,hrl,x,hm⟩:=h;refine ⟨ok,ring,rows,hc.same (k.block _ (Qw hc) h1),k.own p (λi o=>J i (hg.symm.trans o)),hg,hrl,x,λj v B=>?_⟩;obtain ⟨A,c,e,C⟩:=hm j v B;refine ⟨A,c,e,k.own C λi o=>?_⟩;rcases C.2 with ⟨hn,_⟩ | ⟨I,cap,H,L,u,y,_⟩
 .rw [hn] at o;cases o
 .rw [L] at o;obtain rfl:I=i:=by simpa [Value.ownBlock] using o
  exact N _ _ y u
theorem aV.below {w i:R8} {base b:Nat} {g:Option Nat} {s:LSt} (h:aV w base b g s) (hb:aq w i):aV i base b g s:=
 h.keep (S:=λ_=>False) (Keep.below hb) id (λ_ _=>id) (λ_ _ _ _=>id)
theorem wg (base b:Nat) (g:Option Nat) (s:LSt) (t:Tg) (w:R8) (h:aV w base b g s) (x:s.recv=s.msgs.length):Calls prog 223 #[(au b),.agg #[RI t.a,RI t.b,RI t.c,RI t.d,RI t.e]] w λe D=>e=.returned (.tuple #[.agg RR,RI 12])/\aq w D:=by
 obtain ⟨t0,t1,t2,B,J⟩:=t;have A:=λR O=>pQ base b g s ((w.alloc R).alloc O) ((h.below ((QA _ _).alloc (Qx _) _)).below ((QA _ _).alloc (Qx _) _)) x;have T:=aa A;clear A x h;go_enter func223,ntmps223;go_wp2_with fail;refine (T.o _ _).mono ?_;rintro e p ⟨rfl,u⟩
 have i:p.heap[w.heap.size+1]?=some (.cells RR 174 (0,0)):=by
  rw [u.block _ (by simp)];simpa using Qy (w.alloc (.cells #[RI t0,RI t1,RI t2,RI B,RI J] 127)) (.cells RR 174)
 have y:=Qw i;have N:p.cell? (ar (w.heap.size+1) 0)=some (RI 0):=Qz p _ 0 _ _ _ i;have H:p.cell? (ar (w.heap.size+1) 1)=some (RI 0):=Qz p _ 1 _ _ _ i;have U:p.cell? (ar (w.heap.size+1) 2)=some (RI 0):=Qz p _ 2 _ _ _ i;have C:p.cell? (ar (w.heap.size+1) 3)=some (RI 0):=Qz p _ 3 _ _ _ i;have L:p.cell? (ar (w.heap.size+1) 4)=some (RI 0):=Qz p _ 4 _ _ _ i;have Q:p.cell? (ar (w.heap.size+1) 5)=some (RJ):=Qz p _ 5 _ _ _ i;have V:=λj=>QG p _ j _ _ i;have I:aq w p:=(((QA _ w).alloc (Qx _) _).alloc (by simp) _).trans (u.mono (by simp;omega));clear u i;go_wp2;refine QM (v:=.tuple #[.agg RR,RI 12]) (by simp [results,results223,go_sem,N,H,U,C,L,Q,y]) rfl ⟨rfl,?_⟩;exact am
theorem yW (base b:Nat) (g:Option Nat) (s:LSt) (t:Tg) (w:R8) (h:aV w base b g s) (y:s.recv<s.msgs.length) (A:(aQ s.msgs s.recv).tag≠t):Calls prog 223 #[(au b),.agg #[RI t.a,RI t.b,RI t.c,RI t.d,RI t.e]] w λe L=>e=.returned (.tuple #[.agg RR,RI 10])/\aq w L:=by
 obtain ⟨t0,t1,t2,B,C⟩:=t;have H:=λY U=>vb base b g s ((w.alloc Y).alloc U) ((h.below ((QA _ _).alloc (Qx _) _)).below ((QA _ _).alloc (Qx _) _)) y;generalize (aQ s.msgs s.recv).tag=tg at *;obtain ⟨u0,u1,u2,u3,u4⟩:=tg;dsimp only at H;have Z:=aa H;clear H y h;have D:=aa A;clear A;go_enter func223,ntmps223;go_wp2_with fail;refine (Z.o _ _).mono ?_;rintro e p ⟨rfl,x⟩
 have i:p.heap[w.heap.size+1]?=some (.cells RR 174 (0,0)):=by
  rw [x.block _ (by simp)];simpa using Qy (w.alloc (.cells #[RI t0,RI t1,RI t2,RI B,RI C] 127)) (.cells RR 174)
 have I:=Qw i;have T:p.cell? (ar (w.heap.size+1) 0)=some (RI 0):=Qz p _ 0 _ _ _ i;have N:p.cell? (ar (w.heap.size+1) 1)=some (RI 0):=Qz p _ 1 _ _ _ i;have r2:p.cell? (ar (w.heap.size+1) 2)=some (RI 0):=Qz p _ 2 _ _ _ i;have J:p.cell? (ar (w.heap.size+1) 3)=some (RI 0):=Qz p _ 3 _ _ _ i;have Q:p.cell? (ar (w.heap.size+1) 4)=some (RI 0):=Qz p _ 4 _ _ _ i;have V:p.cell? (ar (w.heap.size+1) 5)=some (RJ):=Qz p _ 5 _ _ _ i;have fr:=λj=>QG p _ j _ _ i
 have u:p.heap[w.heap.size]?=some (.cells #[RI t0,RI t1,RI t2,RI B,RI C] 127 (0,0)):=by
  rw [x.block _ (by simp;omega),QL _ _ _ (by simp)];exact Qy w _
 have p0:p.cell? (ar w.heap.size 0)=some (RI t0):=Qz p _ 0 _ _ _ u;have p1:p.cell? (ar w.heap.size 1)=some (RI t1):=Qz p _ 1 _ _ _ u;have p2:p.cell? (ar w.heap.size 2)=some (RI t2):=Qz p _ 2 _ _ _ u;have p3:p.cell? (ar w.heap.size 3)=some (RI B):=Qz p _ 3 _ _ _ u;have p4:p.cell? (ar w.heap.size 4)=some (RI C):=Qz p _ 4 _ _ _ u;have O:aq w p:=(((QA _ w).alloc (Qx _) _).alloc (by simp) _).trans (x.mono (by simp;omega));have R:w.heap.size<p.heap.size:=ap;clear x i u;go_wp2
 .exact absurd (by simp only [*]) D.o
 all_goals
  refine QM (v:=.tuple #[.agg RR,RI 10]) (by simp [results,results223,go_sem,T,N,r2,J,Q,V,I]) rfl ⟨rfl,?_⟩;exact am
theorem vZ {w x:R8} {base b:Nat} {g:Option Nat} {s:LSt} {T:N_} {Q:Nat} (h:aV w base b g s) (C:s.recv<s.msgs.length) (k:Keep (· =b) w x) (N:w.ownsRow base 2 1 (.slice T (aQ s.msgs s.recv).vals.length Q) (aQ s.msgs s.recv).vals.length (aA .i64 (aQ s.msgs s.recv).vals)) {L c y:Nat} (_hgg:g=some y) (u:aC w b (.slice (some (ar y 0)) L c) s.cap s.msgs.length s.recv s.peak) (hc:aC x b (.slice (some (ar y 0)) L c) s.cap s.msgs.length (s.recv+1) s.peak):
  x.ownsRow base 2 1 (.slice T (aQ s.msgs s.recv).vals.length Q) (aQ s.msgs s.recv).vals.length (aA .i64 (aQ s.msgs s.recv).vals)/\aV x base b g {s with recv:=s.recv+1}/\Keep (· =b) w x:=by
 have D:∀i e R,w.heap[i]?=some (.cells R e (0,0))->e≠172->¬i=b:=by
  rintro i e R p he rfl;unfold aC at u;rw [u] at p;injection p with p
  injection p with _ p
  exact he p.symm
 have o:∀{e:R9} {size:Nat} {v:Value} {n:Nat} {xs:R7},w.ownsRow base e size v n xs->e≠172->x.ownsRow base e size v n xs:=λ{e size v n xs} B he=>
  k.own B λi p=>by
   rcases B.2 with ⟨hn,_⟩ | ⟨y,cap,V,N,Y,J,_⟩
   .rw [hn] at p;cases p
   .rw [N] at p;obtain rfl:y=i:=by simpa [Value.ownBlock] using p
    exact D _ _ _ J he
 refine ⟨o N (by decide),?_,k⟩;obtain ⟨ok,ring,rows,O,B,hg,hrl,I,hm⟩:=h
 obtain rfl:ring=.slice (some (ar y 0)) L c:=by
  have:=O.c0.symm.trans u.c0;injection this
 refine ⟨⟨ok.cap1,ok.cap2,C,by have:=ok.sr;simp only;omega,ok.pk,ok.many,ok.vals⟩,_,rows,hc,o B (by decide),hg,hrl,I,λj h1 U=>?_⟩;obtain ⟨A,c2,e,H⟩:=hm j (by simp only at h1;omega) U;exact ⟨A,c2,e,o H (by decide)⟩
theorem aC.set {w:R8} {b:Nat} {ring:Value} {cap sent recv peak:Nat} (h:aC w b ring cap sent recv peak) (n:Nat) (v:Int) (i:v=(n:Int)):aC (w.setCell (ar b 3) (RI v)) b ring cap sent n peak:=by
 subst i;unfold aC at h |-;simp [World.setCell,Array.getElem?_modify,h]
theorem Bn (base b:Nat) (g:Option Nat) (s:LSt) (t:Tg) (w:R8) (h:aV w base b g s) (Q:s.recv<s.msgs.length) (a3:(aQ s.msgs s.recv).tag=t):Calls prog 223 #[.pointer (some ⟨b,0,none⟩),.agg #[RI t.a,RI t.b,RI t.c,RI t.d,RI t.e]] w λe y=>∃A c,
   e=.returned (.tuple #[.agg #[RI t.a,RI t.b,RI t.c,RI t.d,RI t.e,.slice A (aQ s.msgs s.recv).vals.length c],RI 0])/\
   y.ownsRow base 2 1 (.slice A (aQ s.msgs s.recv).vals.length c) (aQ s.msgs s.recv).vals.length (aA .i64 (aQ s.msgs s.recv).vals)/\
   aV y base b g {s with recv:=s.recv+1}/\Keep (· =b) w y:=by
 subst a3;have hp:=λo1 o2=>vb base b g s ((w.alloc o1).alloc o2) ((h.below ((QA _ _).alloc (Qx _) _)).below ((QA _ _).alloc (Qx _) _)) Q;obtain ⟨N,c,A',c',a0,hc,hi,h6,O⟩:=h.at_ s.recv (Qx _) Q;have I:=h.ok;have av:s.recv<=100000000000:=by have:=I.many;omega
 have x:=I.cap1;have aM:=I.cap2;obtain ⟨i,R⟩:∃i,s.recv%s.cap=i:=⟨_,rfl⟩;rw [R] at hi h6;obtain ⟨L,hL⟩:∃L,min s.msgs.length s.cap=L:=⟨_,rfl⟩;rw [hL] at hi hc;have hb:=Qw hc;have ad:=aB h6.c0;generalize (aQ s.msgs s.recv).tag=tg at *;obtain ⟨t0,t1,t2,T,V⟩:=tg;dsimp only at hp;obtain ⟨Hp,a2,H,Z,a9,a6⟩:=ai hp I h O R a0;clear hp I h O R a0 hL;go_enter func223,ntmps223;go_wp2_with fail;refine (Hp.o _ _).mono ?_;rintro e p ⟨rfl,D⟩
 have u:p.heap[w.heap.size+1]?=some (.cells RR 174 (0,0)):=by
  rw [D.block _ (by simp)];simpa using Qy (w.alloc (.cells #[RI t0,RI t1,RI t2,RI T,RI V] 127)) (.cells RR 174)
 have a5:=Qw u;have r0:p.cell? ⟨w.heap.size+1,0,none⟩=some (RI 0):=Qz p _ 0 _ _ _ u;have r1:p.cell? ⟨w.heap.size+1,1,none⟩=some (RI 0):=Qz p _ 1 _ _ _ u;have r2:p.cell? ⟨w.heap.size+1,2,none⟩=some (RI 0):=Qz p _ 2 _ _ _ u;have r3:p.cell? ⟨w.heap.size+1,3,none⟩=some (RI 0):=Qz p _ 3 _ _ _ u;have r4:p.cell? ⟨w.heap.size+1,4,none⟩=some (RI 0):=Qz p _ 4 _ _ _ u;have r5:p.cell? ⟨w.heap.size+1,5,none⟩=some (RJ):=Qz p _ 5 _ _ _ u;have fr:=λj=>QG p _ j _ _ u
 have C:p.heap[w.heap.size]?=some (.cells #[RI t0,RI t1,RI t2,RI T,RI V] 127 (0,0)):=by
  rw [D.block _ (by simp;omega),QL _ _ _ (by simp)];exact Qy w _
 have p0:p.cell? ⟨w.heap.size,0,none⟩=some (RI t0):=Qz p _ 0 _ _ _ C;have p1:p.cell? ⟨w.heap.size,1,none⟩=some (RI t1):=Qz p _ 1 _ _ _ C;have p2:p.cell? ⟨w.heap.size,2,none⟩=some (RI t2):=Qz p _ 2 _ _ _ C;have p3:p.cell? ⟨w.heap.size,3,none⟩=some (RI T):=Qz p _ 3 _ _ _ C;have p4:p.cell? ⟨w.heap.size,4,none⟩=some (RI V):=Qz p _ 4 _ _ _ C;have J:aq w p:=(((QA _ w).alloc (Qx _) _).alloc (by simp) _).trans (D.mono (by simp;omega));have a4:w.heap.size<p.heap.size:=ap;have J:aq w p:=(((QA _ w).alloc (Qx _) _).alloc (by simp) _).trans (D.mono (by simp;omega));have x:=hc.same (J.block b hb);have Y:=h6.same (J.block N ad);have a8:=Qw x;have aG:=aB Y.c0;have U:=λW hW=>ko b (.slice (some ⟨N,0,none⟩) L c) s.cap s.msgs.length s.recv s.peak s.recv i W hW a2.o.cap1 a2.o.cap2 a9.o;have k0:=x.c0;have k3:=x.c3;obtain ⟨m0,m1,m2,m3,m4,m5⟩:=Y;have f3:=x.free 3;have aP:¬(b=w.heap.size+1):=ap;have ao:¬(w.heap.size+1=b):=ap;obtain ⟨b0,a1,a7,Hc,H6⟩:=ah D x U hc h6;clear D u C x U hc h6;go_wp2_with fail
 go_region_held3 (λy=>y.cell? ⟨b,0,none⟩=some (.slice (some ⟨N,0,none⟩) L c)/\y.cell? ⟨b,3,none⟩=some (RI (s.recv:Int))/\y.cell? ⟨N,i*6,none⟩=some (RI t0)/\y.cell? ⟨N,i*6+1,none⟩=some (RI t1)/\
   y.cell? ⟨N,i*6+2,none⟩=some (RI t2)/\y.cell? ⟨N,i*6+3,none⟩=some (RI T)/\y.cell? ⟨N,i*6+4,none⟩=some (RI V)/\y.cell? ⟨N,i*6+5,none⟩=some (.slice A' (aQ s.msgs s.recv).vals.length c')) (simp [go_sem, *])
  ((go_at_call 76;refine (a7.o _ (a1.o.same (Below.block (B:=p.heap.size) ?_ b a8))).mono ?_;exact am;rintro e y ⟨rfl,rfl⟩))
 all_goals
  go_wp2_with fail;have ab:IntKind.i64.wrap ((s.recv:Int)+1)=(s.recv:Int)+1:=QC _ ap
  go_region
  clear ab;go_wp2;refine QM (v:=.tuple #[.agg #[RI t0,RI t1,RI t2,RI T,RI V,.slice A' (aQ s.msgs s.recv).vals.length c'],RI 0]) (by simp [results,results223,go_sem,r0,r1,r2,r3,r4,r5,a4,a5]) rfl ⟨A',c',rfl,?_⟩;refine vZ H.o Q ?_ Z.o a6.o Hc.o ((a1.o.set (s.recv+1) ((s.recv:Int)+1) ap).same (Below.block (B:=w.heap.size) ?_ b hb))
  .have aR:Keep (· =b) w p:=Keep.below J
   (focus (repeat' (first | (with_reducible exact Keep.refl _ _) | (with_reducible assumption) | (with_reducible refine Keep.setCell ?_ _ ?_ _) | (with_reducible refine Keep.alloc ?_ _) | (with_reducible refine Keep.drewN ?_ _) | (with_reducible refine Keep.drew ?_) | (with_reducible exact Or.inr (jg _ _)) | (with_reducible exact Or.inr (jf _ _)) | (refine Or.inr ?_;first | rfl | (simp;done) | omega) | (refine Or.inl ?_;first | omega | (simp;done) | (simp;omega)))))
  .exact am
def eg (b:Nat) (g:Option Nat) (k:Nat):Prop:=k=b\/g=some k
theorem jg (b:Nat) (g:Option Nat):eg b g b:=.inl rfl
theorem jf (b g:Nat):eg b (some g) g:=.inr rfl
theorem aC.drew {w:R8} {b:Nat} {ring:Value} {cap sent recv peak:Nat} (h:aC w b ring cap sent recv peak):aC w.drew b ring cap sent recv peak:=h
theorem aC.drewN {w:R8} {b:Nat} {ring:Value} {cap sent recv peak:Nat} (h:aC w b ring cap sent recv peak) (n:Nat):aC (w.drewN n) b ring cap sent recv peak:=h
theorem aC.far {w:R8} {b:Nat} {ring:Value} {cap sent recv peak:Nat} (h:aC w b ring cap sent recv peak) (p:Addr) (u:Value) (i:¬(b=p.block)):aC (w.setCell p u) b ring cap sent recv peak:=h.same (Below.heap_setCell w p u b i)
theorem aC.set0 {w:R8} {b:Nat} {ring:Value} {cap sent recv peak:Nat} (h:aC w b ring cap sent recv peak) (v:Value):aC (w.setCell (ar b 0) v) b v cap sent recv peak:=by
 unfold aC at h |-;simp [World.setCell,Array.getElem?_modify,h]
theorem aC.set2 {w:R8} {b:Nat} {ring:Value} {cap sent recv peak:Nat} (h:aC w b ring cap sent recv peak) (n:Nat) (v:Int) (i:v=(n:Int)):aC (w.setCell (ar b 2) (RI v)) b ring cap n recv peak:=by
 subst i;unfold aC at h |-;simp [World.setCell,Array.getElem?_modify,h]
theorem aC.set4 {w:R8} {b:Nat} {ring:Value} {cap sent recv peak:Nat} (h:aC w b ring cap sent recv peak) (n:Nat) (v:Int) (i:v=(n:Int)):aC (w.setCell (ar b 4) (RI v)) b ring cap sent recv n:=by
 subst i;unfold aC at h |-;simp [World.setCell,Array.getElem?_modify,h]
theorem Eo {w:R8} {base b:Nat} {ring u:Value} {cap sent recv peak n:Nat} {xs:R7} (h:aC w b u cap sent recv peak) (x:w.ownsRow base 174 6 ring n xs):ring.ownBlock≠some b:=λe=>by
 rcases x.2 with ⟨hn,_⟩ | ⟨v,cap2,p,o,_,i,_⟩
 .rw [hn] at e;cases e
 .rw [o] at e;obtain rfl:v=b:=by simpa [Value.ownBlock] using e
  unfold aC at h;rw [h] at i;injection i with i;injection i with _ i;exact absurd i (by decide)
theorem Bz (H:R7) (B I C J D L:Value) (hcs:H=[B,I,C,J,D,L]):∀(rows:List (R7)) (i:Nat),(∀r∈rows,r.length=6)->i<rows.length-> ((((((List.flatten rows).set (i*6) B).set (i*6+1) I).set (i*6+2) C).set (i*6+3) J).set (i*6+4) D).set (i*6+5) L=List.flatten (rows.set i H):=by
 intro rows
 induction rows with
 | nil=>intro i _ A;simp at A
 | cons r l ih=>
  intro i h A;have hr:r.length=6:=h r (by simp)
  cases i with
  | zero=>
   obtain ⟨p,a1,u,v,o,y,rfl⟩:∃p a1 u v o y,r=[p,a1,u,v,o,y]:=by
    match r,hr with
    | [p,a1,u,v,o,y],_=>exact ⟨p,a1,u,v,o,y,rfl⟩
   subst hcs;rfl
  | succ i=>
   have e:∀(xs:R7) (k:Nat) (x:Value),(r++xs).set (6+k) x=r++xs.set k x:=λxs k x=>by
    rw [List.set_append_right _ _ ap,hr,show 6+k-6=k by omega]
   rw [List.flatten_cons,show (i+1)*6=6+i*6 by omega];simp only [Rz,e];rw [QY,List.flatten_cons,<-ih i (λr hr=>h r (by simp [hr])) (by simpa using A)]
theorem uq (rows:List (R7)) (i:Nat) (o:R7) (h:i<rows.length):fg (rows.set i o) i=o:=by simp [fg,h]
theorem tp (rows:List (R7)) (i j:Nat) (o:R7) (h:i≠j):fg (rows.set i o) j=fg rows j:=by simp [fg,h]
theorem j3 (rows:List (R7)) (i:R7) (j:Nat) (h:j<rows.length):fg (rows++[i]) j=fg rows j:=by simp [fg,Rk h]
theorem j4 (rows:List (R7)) (h:R7):fg (rows++[h]) rows.length=h:=by simp [fg]
theorem ki (l:List Msg) (m:Msg) (j:Nat) (h:j<l.length):aQ (l++[m]) j=aQ l j:=by simp [aQ,Rk h]
theorem kl (l:List Msg) (m:Msg):aQ (l++[m]) l.length=m:=by simp [aQ]
theorem OS {a b r cap:Nat} (h1:r<=a) (i:a<b) (o:b<r+cap):a%cap≠b%cap:=λe=>by
 have h:cap ∣ b-a:=Nat.dvd_of_mod_eq_zero (Nat.sub_mod_eq_zero_of_mod_eq e.symm);have:=Nat.le_of_dvd ap h;omega
theorem pP {w B:R8} {base b:Nat} {g:Option Nat} {s:LSt} {ring:Value} {rows:List (R7)} (ok:s.Ok) (C:aC w b ring s.cap s.msgs.length s.recv s.peak) (Z:w.ownsRow base 174 6 ring (min s.msgs.length s.cap) (List.flatten rows)) (p:ring.ownBlock=g) (hm:∀j,s.recv<=j->j<s.msgs.length->zx w base (fg rows (j%s.cap)) (aQ s.msgs j)) (J:s.msgs.length<s.recv+s.cap) (T:s.msgs.length<100000000000) (t:Tg) (zs:Q_) (O:zs.length<=17592186043904) (k:Keep (eg b g) w B) {ring':Value} {V:Option Nat} {rows':List (R7)} {A1:N_} {c1:Nat} {P:Nat} (hP:P=max s.peak (s.msgs.length+1-s.recv)) (hc:aC B b ring' s.cap (s.msgs.length+1) s.recv P) (x:B.ownsRow base 174 6 ring' (min (s.msgs.length+1) s.cap) (List.flatten rows')) (hg:ring'.ownBlock=V) (hrl:rows'.length=min (s.msgs.length+1) s.cap) (N:∀r∈rows',r.length=6) (D:∀j,s.recv<=j->j<s.msgs.length->fg rows' (j%s.cap)=fg rows (j%s.cap))
  (H:fg rows' (s.msgs.length%s.cap)=[RI t.a,RI t.b,RI t.c,RI t.d,RI t.e,.slice A1 zs.length c1])
  (hv:B.ownsRow base 2 1 (.slice A1 zs.length c1) zs.length (aA .i64 zs)):
  aV B base b V {s with msgs:=s.msgs++[⟨t,zs⟩],peak:=max s.peak (s.msgs.length+1-s.recv)}:=by
 subst hP
 have hty:∀i U,w.heap[i]?=some (.cells U 2 (0,0))->¬(i=b\/g=some i):=by
  rintro i U h (rfl | y)
  .unfold aC at C;rw [C] at h;injection h with h;injection h with _ h;exact absurd h (by decide)
  .rcases Z.2 with ⟨hn,_⟩ | ⟨L,cap,Q,u,_,v,_⟩
   .rw [hn] at p;rw [y] at p;cases p
   .rw [u,y] at p;obtain rfl:L=i:=by simpa [Value.ownBlock] using p
    rw [v] at h;injection h with h;injection h with _ h;exact absurd h (by decide)
 refine ⟨⟨ok.cap1,ok.cap2,?_,?_,?_,?_,?_⟩,ring',rows',?_,?_,hg,?_,N,λj h1 Y=>?_⟩
 .have:=ok.rs;simp;omega
 .simp;omega
 .have:=ok.pk;simp only;omega
 .simp;omega
 .intro m o;rcases Rw.1 o with o | o
  .exact ok.vals m o
  .rw [List.mem_singleton.1 o];exact O
 .simpa using hc
 .simpa using x
 .simpa using hrl
 .simp only [Rh,Rr] at h1 Y;rcases QO j s.msgs.length with I | I
  .rw [ki _ _ _ I];simp only;rw [D j h1 I];obtain ⟨A,c2,e,u⟩:=hm j h1 I;refine ⟨A,c2,e,k.own u λi h=>?_⟩;rcases u.2 with ⟨hn,_⟩ | ⟨L,cap,Q,R,_,v,_⟩
   .rw [hn] at h;cases h
   .rw [R] at h;obtain rfl:L=i:=by simpa [Value.ownBlock] using h
    exact hty _ _ v
  .obtain rfl:j=s.msgs.length:=ap;rw [kl];exact ⟨A1,c1,H,hv⟩
theorem we (base b:Nat) (g:Option Nat) (s:LSt) (y:R6) (w:R8) (h:aV w base b g s) (i:s.msgs.length=s.recv+s.cap):Calls prog 222 #[(au b),.agg y] w λe v=>e=.returned (RI 11)/\aq w v:=by
 obtain ⟨ok,ring,rows,hc,_⟩:=h;have B:=ok.cap2;have p:=ok.rs;have u:=ok.many;have hl:=λo n=>mZ b _ _ _ _ _ _ (show aC ((w.alloc o).drewN n) _ _ _ _ _ _ from hc.alloc o) p ap;rw [show (s.msgs.length:Int)-(s.recv:Int)=(s.cap:Int) by omega] at hl;have c1:=hc.c1;have hb:=Qw hc;obtain ⟨x,A,C,D⟩:=ag hl ok hc i;clear hl hc ok i p u;go_enter func222,ntmps222;go_wp2_with fail
 go_quiet ((go_at_call 75;exact Calls.quiet_of (x.o _ _)))
 go_wp2_with fail;go_ret;refine ⟨rfl,?_⟩;exact am
theorem va (base b:Nat) (g:Option Nat) (s:LSt) (t:Tg) (A:N_) (zs:Q_) (c:Nat) (w:R8) (h:aV w base b g s) (R:s.msgs.length<s.recv+s.cap) (b5:s.cap<=s.msgs.length) (Y:s.msgs.length<100000000000) (b0:base<=w.heap.size) (hA:Rd w A (aA .i64 zs)) (a9:zs.length<=17592186043904):Calls prog 222 #[.pointer (some ⟨b,0,none⟩),.agg #[RI t.a,RI t.b,RI t.c,RI t.d,RI t.e,.slice A zs.length c]] w λe T=>e=.returned (RI 0)/\
   ∃g',aV T base b g' {s with msgs:=s.msgs++[⟨t,zs⟩],peak:=max s.peak (s.msgs.length+1-s.recv)}/\Keep (eg b g) w T/\(g'=g\/∃k,g'=some k/\w.heap.size<=k):=by
 obtain ⟨t0,t1,t2,t3,t4⟩:=t;have H:=aa h;obtain ⟨ok,ring,rows,hc,J,hg,hrl,ad,hm⟩:=h;obtain ⟨RA,rc,rfl,b4⟩:=aD J;have bi:=ok.cap1;have bA:=ok.cap2;have aP:=ok.rs;have bI:=ok.pk;have hl:=λo n=>mZ b _ _ _ _ _ _ (show aC ((w.alloc o).drewN n) _ _ _ _ _ _ from hc.alloc o) aP ap;obtain ⟨i,Z⟩:∃i,s.msgs.length%s.cap=i:=⟨_,rfl⟩;obtain ⟨L,hL⟩:∃L,min s.msgs.length s.cap=L:=⟨_,rfl⟩;rw [hL] at b4 J hrl hc;have c1:=hc.c1;have hb:=Qw hc;have a7:(((s.msgs.length:Int)-(s.recv:Int))==(s.cap:Int))=false:=by simp;omega
 have a6:=λW hW=>nW A zs c W hW a9;obtain ⟨D,hD⟩:∃D:Int,D=(s.msgs.length:Int)-(s.recv:Int):=⟨_,rfl⟩;rw [<-hD] at a7 hl;have bz:0<=D/\D<s.cap:=ap;have b3:i<L:=by rw [<-hL,<-Z];have:=Nat.mod_lt s.msgs.length (show 0<s.cap by omega);omega
 obtain ⟨Hl,a0,Hc,N,Hg,aG,av,Hm⟩:=ak hl ok hc J hg hrl ad hm;obtain ⟨a2,HL,b6,HD⟩:=ag Z hL a6 hD;clear hl hc ok J hg hrl ad hm Z hL a6 hD;go_enter func222,ntmps222;go_wp2_with fail
 go_quiet ((go_at_call 75;exact Calls.quiet_of (Hl.o _ _)))
 clear a7;go_wp2_with fail;refine (b6.o _ ((hA.alloc _).drewN _)).mono ?_;rintro e B ⟨v1,rfl,C,V⟩;obtain ⟨A1,a3,rfl,bG⟩:=aD C
 have p:B.heap[w.heap.size]?=some (.cells #[RI t0,RI t1,RI t2,RI t3,RI t4,.slice A zs.length c] 174 (0,0)):=by
  rw [V.block _ (by simp)];exact Qy w _
 have bw:=Qw p;have p0:B.cell? ⟨w.heap.size,0,none⟩=some (RI t0):=Qz B _ 0 _ _ _ p;have p1:B.cell? ⟨w.heap.size,1,none⟩=some (RI t1):=Qz B _ 1 _ _ _ p;have p2:B.cell? ⟨w.heap.size,2,none⟩=some (RI t2):=Qz B _ 2 _ _ _ p;have p3:B.cell? ⟨w.heap.size,3,none⟩=some (RI t3):=Qz B _ 3 _ _ _ p;have p4:B.cell? ⟨w.heap.size,4,none⟩=some (RI t4):=Qz B _ 4 _ _ _ p;have p5:B.cell? ⟨w.heap.size,5,none⟩=some (.slice A zs.length c):=Qz B _ 5 _ _ _ p;have pf:=λj=>QG B _ j _ _ p;have a1:aq w B:=(QH ((QA _ w).alloc (Qx _) _) _).trans (V.mono (by simp));have y:=Hc.o.same (a1.block b hb);have bn:=Qw y;have k0:=y.c0;have k2:=y.c2;have k3:=y.c3;have k4:=y.c4;have f2:=y.free 2;have f4:=y.free 4;have f0:=y.free 0;have b9:¬(b=w.heap.size):=ap;have be:¬(w.heap.size=b):=ap;have ao:=λW hW=>ko b (.slice RA L rc) s.cap s.msgs.length s.recv s.peak s.msgs.length i W hW a0.o.cap1 a0.o.cap2 a2.o;obtain ⟨a5,bv,I,aR⟩:=ag y V C ao;clear y V C ao p;go_wp2_with fail;refine (aR.o _ (a5.o.same (Below.heap_setCell B ⟨w.heap.size,5,none⟩ _ b b9))).mono ?_;rintro e w2 ⟨rfl,rfl⟩;obtain ⟨O,b7,U,bM,bs⟩:=N.o.form ap;obtain ⟨rfl,rfl⟩:RA=some ⟨O,0,none⟩/\rc=b7:=by simp only [Rv] at U;exact ⟨U.1,U.2.2⟩
 clear U;obtain rfl:g=some O:=Hg.o.symm;have u:=az N.o ((Below.mono a1 (Qx _)))
 have v:∀t,t<6->∃x,B.cell? ⟨O,i*6+t,none⟩=some x:=λt ht=>by
  have h6:i*6+t<L*6:=ap;rw [u.cellAt _ h6];exact ⟨_,Rj (by rw [u.1];exact h6)⟩
 obtain ⟨x0,q0⟩:=v 0 ap;obtain ⟨x1,q1⟩:=v 1 ap;obtain ⟨x2,q2⟩:=v 2 ap;obtain ⟨x3,q3⟩:=v 3 ap;obtain ⟨x4,q4⟩:=v 4 ap;obtain ⟨x5,q5⟩:=v 5 ap;rw [Nat.add_zero] at q0;have qf:=λj=>u.frozenAt j;have bl:¬(O=w.heap.size):=ap;have bf:¬(w.heap.size=O):=ap
 have aM:¬(O=b):=λe=>by
  subst e;have h1:=a5.o.c1;rcases N.o.2 with ⟨h0,_⟩ | ⟨g2,cap,bh,hv,_,Q,_⟩
  .cases h0
  .have e2:g2=O:=by simp only [Rv,Option.some.injEq,Addr.mk.injEq] at hv;exact hv.1.1.symm
   subst e2;have h2:=Hc.o;unfold aC at h2;rw [h2] at Q;injection Q with Q
   injection Q with _ Q
   exact absurd Q (by decide)
 have b8:¬(b=O):=λe=>aM e.symm;clear v;have a4:=aa u;clear u;go_wp2_with fail
 go_region_held3 (λT=>T.cell? ⟨b,0,none⟩=some (.slice (some ⟨O,0,none⟩) L rc)/\T.cell? ⟨w.heap.size,0,none⟩=some (RI t0)/\T.cell? ⟨w.heap.size,1,none⟩=some (RI t1)/\T.cell? ⟨w.heap.size,2,none⟩=some (RI t2)/\T.cell? ⟨w.heap.size,3,none⟩=some (RI t3)/\
  T.cell? ⟨w.heap.size,4,none⟩=some (RI t4)/\T.cell? ⟨w.heap.size,5,none⟩=some (.slice A1 zs.length a3)) (simp [go_sem, *]) ((fail))
 go_wp2_with fail;have b2:IntKind.i64.wrap ((s.msgs.length:Int)+1)=(s.msgs.length:Int)+1:=QC _ ap
 go_region
 clear b2;go_wp2_with fail;have b1:0<=(s.recv:Int)/\(s.recv:Int)<=(s.msgs.length:Int)+1/\(s.msgs.length:Int)+1<=17592186043904:=ap
 go_region_with ((go_at_call 75;refine (Bp b ((s.msgs.length:Int)+1) s.recv _ (by simp [go_sem, *]) (by simp [go_sem, *]) b1).mono ?_;rintro e T ⟨rfl,n',rfl⟩))
 have bb:=I.o
 all_goals go_wp2_with fail
 all_goals go_ret
 all_goals
  have bo:Keep (eg b (some O)) w B:=Keep.below a1;have a8:i<rows.length:=by rw [aG.o];exact b3
  have ab:L=min (s.msgs.length+1) s.cap:=by have:=HL.o;omega
  refine ⟨rfl,some O,?_,by (focus (repeat' (first | (with_reducible exact Keep.refl _ _) | (with_reducible assumption) | (with_reducible refine Keep.setCell ?_ _ ?_ _) | (with_reducible refine Keep.alloc ?_ _) | (with_reducible refine Keep.drewN ?_ _) | (with_reducible refine Keep.drew ?_) | (with_reducible exact Or.inr (jg _ _)) | (with_reducible exact Or.inr (jf _ _)) | (refine Or.inr ?_;first | rfl | (simp;done) | omega) | (refine Or.inl ?_;first | omega | (simp;done) | (simp;omega))))),.inl rfl⟩;refine pP (A1:=A1) (c1:=a3) (g:=some O) (rows':=rows.set i [RI t0,RI t1,RI t2,RI t3,RI t4,.slice A1 zs.length a3]) (ring':=.slice (some ⟨O,0,none⟩) L rc) a0.o Hc.o (HL.o▸N.o) rfl Hm.o R Y ⟨t0,t1,t2,t3,t4⟩ zs a9 (by (focus (repeat' (first | (with_reducible exact Keep.refl _ _) | (with_reducible assumption) | (with_reducible refine Keep.setCell ?_ _ ?_ _) | (with_reducible refine Keep.alloc ?_ _) | (with_reducible refine Keep.drewN ?_ _) | (with_reducible refine Keep.drew ?_) | (with_reducible exact Or.inr (jg _ _)) | (with_reducible exact Or.inr (jf _ _)) | (refine Or.inr ?_;first | rfl | (simp;done) | omega) | (refine Or.inl ?_;first | omega | (simp;done) | (simp;omega)))))) (P:=max s.peak (s.msgs.length+1-s.recv)) rfl (by (focus (repeat' (first | (with_reducible exact a5.o) | (with_reducible refine aC.drew ?_) | (with_reducible refine aC.drewN ?_ _) | (with_reducible refine aC.alloc ?_ _) | (with_reducible refine aC.set0 (ring:=.slice RA L rc) ?_ _) | (with_reducible refine aC.set2 (sent:=s.msgs.length) ?_ _ _ ?_) | (with_reducible refine aC.set4 (peak:=s.peak) ?_ _ _ ?_) | (with_reducible refine aC.far ?_ _ _ ?_) | omega | (push_cast;omega))))) ?_ rfl ?_ ?_ ?_ ?_ ?_
  .rw [<-ab,<-Bz _ _ _ _ _ _ _ rfl rows i av.o a8]
   (focus (repeat' (first | (with_reducible exact a4.o) | (with_reducible refine World.ownsRow.drew ?_) | (with_reducible refine bZ ?_ _) | (with_reducible refine World.ownsRow.alloc ?_ _) | (with_reducible refine (World.ownsRow.stored ?_ _ _).1) | (with_reducible refine ownsRow_setCell_other ?_ ?_ _) | (with_reducible assumption) | (simp [Value.ownBlock];done) | (simp [Value.ownBlock];omega))))
  .rw [List.length_set,aG.o,ab]
  .intro r hr;rcases List.mem_or_eq_of_mem_set hr with hr | rfl
   .exact av.o r hr
   .rfl
  .intro j h1 h2;exact tp _ _ _ _ λe=>OS h1 h2 R (e.symm.trans a2.o.symm)
  .rw [a2.o];exact uq _ _ _ a8
  .refine Keep.own (S:=λk=>k<=w.heap.size) (w:=B) ?_ (aF I.o (by simp;omega)) ?_
   ·(focus (repeat' (first | (with_reducible exact Keep.refl _ _) | (with_reducible assumption) | (with_reducible refine Keep.setCell ?_ _ ?_ _) | (with_reducible refine Keep.alloc ?_ _) | (with_reducible refine Keep.drewN ?_ _) | (with_reducible refine Keep.drew ?_) | (with_reducible exact Or.inr (jg _ _)) | (with_reducible exact Or.inr (jf _ _)) | (refine Or.inr ?_;first | rfl | (simp;done) | omega) | (refine Or.inl ?_;first | omega | (simp;done) | (simp;omega)))))
    all_goals (dsimp only;omega)
   .intro k hk;have:=(I.o.lt k hk).1;simp at this |-;omega
theorem yV (base b:Nat) (g:Option Nat) (s:LSt) (t:Tg) (A:N_) (zs:Q_) (c:Nat) (w:R8) (h:aV w base b g s) (a2:s.msgs.length<s.recv+s.cap) (a4:s.msgs.length<s.cap) (a0:s.msgs.length<100000000000) (b5:base<=w.heap.size) (hA:Rd w A (aA .i64 zs)) (ab:zs.length<=17592186043904):Calls prog 222 #[(au b),.agg #[RI t.a,RI t.b,RI t.c,RI t.d,RI t.e,.slice A zs.length c]] w λe w'=>e=.returned (RI 0)/\
   ∃g',aV w' base b g' {s with msgs:=s.msgs++[⟨t,zs⟩],peak:=max s.peak (s.msgs.length+1-s.recv)}/\Keep (eg b g) w w'/\(g'=g\/∃k,g'=some k/\w.heap.size<=k):=by
 obtain ⟨t0,t1,t2,t3,t4⟩:=t;have H:=aa h;obtain ⟨ok,ring,rows,hc,O,hg,hrl,av,hm⟩:=h;obtain ⟨RA,rc,rfl,b8⟩:=aD O;have bl:=ok.cap1;have bV:=ok.cap2;have b2:=ok.rs;have c6:=ok.pk;have hl:=λo n=>mZ b _ _ _ _ _ _ (show aC ((w.alloc o).drewN n) _ _ _ _ _ _ from hc.alloc o) b2 ap;obtain ⟨i,a1⟩:∃i,s.msgs.length%s.cap=i:=⟨_,rfl⟩;obtain ⟨L,hL⟩:∃L,min s.msgs.length s.cap=L:=⟨_,rfl⟩;rw [hL] at b8 O hrl hc hg;have c1:=hc.c1;have hb:=Qw hc;have a9:(((s.msgs.length:Int)-(s.recv:Int))==(s.cap:Int))=false:=by simp;omega
 have a8:=λW hW=>nW A zs c W hW ab;obtain ⟨D,hD⟩:∃D:Int,D=(s.msgs.length:Int)-(s.recv:Int):=⟨_,rfl⟩;rw [<-hD] at a9 hl;have bO:0<=D/\D<s.cap:=ap;obtain rfl:i=L:=by rw [<-hL,<-a1,Nat.mod_eq_of_lt a4];omega
 obtain ⟨Hl,U,Hc,I,Hg,a7,b9,Hm⟩:=ak hl ok hc O hg hrl av hm;obtain ⟨b0,HL,bb,HD⟩:=ag a1 hL a8 hD;clear hl hc ok O hg hrl av hm a1 hL a8 hD;go_enter func222,ntmps222;go_wp2_with fail
 go_quiet ((go_at_call 75;exact Calls.quiet_of (Hl.o _ _)))
 clear a9;go_wp2_with fail;refine (bb.o _ ((hA.alloc _).drewN _)).mono ?_;rintro e y ⟨v1,rfl,J,V⟩;obtain ⟨A1,R,rfl,bX⟩:=aD J
 have p:y.heap[w.heap.size]?=some (.cells #[RI t0,RI t1,RI t2,RI t3,RI t4,.slice A zs.length c] 174 (0,0)):=by
  rw [V.block _ (by simp)];exact Qy w _
 have bM:=Qw p;have p0:y.cell? (ar w.heap.size 0)=some (RI t0):=Qz y _ 0 _ _ _ p;have p1:y.cell? (ar w.heap.size 1)=some (RI t1):=Qz y _ 1 _ _ _ p;have p2:y.cell? (ar w.heap.size 2)=some (RI t2):=Qz y _ 2 _ _ _ p;have p3:y.cell? (ar w.heap.size 3)=some (RI t3):=Qz y _ 3 _ _ _ p;have p4:y.cell? (ar w.heap.size 4)=some (RI t4):=Qz y _ 4 _ _ _ p;have p5:y.cell? (ar w.heap.size 5)=some (.slice A zs.length c):=Qz y _ 5 _ _ _ p;have pf:=λj=>QG y _ j _ _ p;have a3:aq w y:=(QH ((QA _ w).alloc (Qx _) _) _).trans (V.mono (by simp));have x:=Hc.o.same (a3.block b hb);have bn:=Qw x;have k0:=x.c0;have k2:=x.c2;have k3:=x.c3;have k4:=x.c4;have f2:=x.free 2;have f4:=x.free 4;have f0:=x.free 0;have be:¬(b=w.heap.size):=ap;have bf:¬(w.heap.size=b):=ap;have aP:=λW hW=>ko b (.slice RA i rc) s.cap s.msgs.length s.recv s.peak s.msgs.length i W hW U.o.cap1 U.o.cap2 b0.o;obtain ⟨b1,bs,Q,b4⟩:=ag x V J aP;clear x V J aP p;go_wp2_with fail;refine (b4.o _ (b1.o.same (Below.heap_setCell y (ar w.heap.size 5) _ b be))).mono ?_;rintro e w2 ⟨rfl,rfl⟩;have v:=az I.o (Below.mono a3 (Qx _));have a5:=aa v;clear v;have hrb:(Value.slice RA i rc).ownBlock≠some w.heap.size:=λe=>by have:=(I.o.lt _ e).2;omega
 have aR:=Eo Hc.o I.o;have c8:i<=1048576:=by have:=HL.o;omega
 go_wp2_with fail
 go_region_law ((refine jk lE rfl (.tmp 47) (.tmp 49) rfl base (.slice RA i rc) i (List.flatten rows) rfl ?_ (some (ar y.heap.size 0)) 1 1 [RI t0,RI t1,RI t2,RI t3,RI t4,.slice A1 zs.length R] rfl ?_ rfl ?_ ?_ ?_ ?_ ?_;((focus (repeat' (first | (with_reducible exact a5.o) | (with_reducible refine World.ownsRow.drew ?_) | (with_reducible refine bZ ?_ _) | (with_reducible refine World.ownsRow.alloc ?_ _) | (with_reducible refine (World.ownsRow.stored ?_ _ _).1) | (with_reducible refine ownsRow_setCell_other ?_ ?_ _) | (with_reducible assumption) | (simp [Value.ownBlock];done) | (simp [Value.ownBlock];omega)))));exact Rd.drew (dV _ _ _ _ (by simp));(intro u hu;simp at hu;rcases hu with rfl | rfl | rfl | rfl | rfl | rfl<;>rfl);omega;(unfold maxLen;omega);(simp;omega);(intro A2 c2 w2 v T C Y;have Z:=C.block b (by first | (simp;done) | (simp;omega)) (λe=>aR e.symm);have B:aC w2 b (.slice RA i rc) s.cap s.msgs.length s.recv s.peak:=(by refine aC.same ?_ Z;(focus (repeat' (first | (with_reducible exact b1.o) | (with_reducible refine aC.drew ?_) | (with_reducible refine aC.drewN ?_ _) | (with_reducible refine aC.alloc ?_ _) | (with_reducible refine aC.set0 (ring:=.slice RA L rc) ?_ _) | (with_reducible refine aC.set2 (sent:=s.msgs.length) ?_ _ _ ?_) | (with_reducible refine aC.set4 (peak:=s.peak) ?_ _ _ ?_) | (with_reducible refine aC.far ?_ _ _ ?_) | omega | (push_cast;omega)))));have bN:=B.c0;have bz:=B.free 0;have bh:=B.c2;have bA:=B.c3;have bG:=B.c4;have bI:=B.free 2;have bi:=B.free 4;obtain ⟨b3,N,aM,ao,aG⟩:=ah T C Y B v;clear T C Y B v Z)))
 all_goals go_wp2_with fail
 all_goals have b7:IntKind.i64.wrap ((s.msgs.length:Int)+1)=(s.msgs.length:Int)+1:=QC _ ap
 all_goals go_region
 all_goals clear b7
 all_goals go_wp2_with fail
 all_goals have b6:0<=(s.recv:Int)/\(s.recv:Int)<=(s.msgs.length:Int)+1/\(s.msgs.length:Int)+1<=17592186043904:=ap
 all_goals go_region_with ((go_at_call 75;refine (Bp b ((s.msgs.length:Int)+1) s.recv _ (by simp [go_sem, *]) (by simp [go_sem, *]) b6).mono ?_;rintro e w' ⟨rfl,n',rfl⟩))
 all_goals go_wp2_with fail
 all_goals go_ret
 all_goals
  have bw:=Eo ao.o aG.o;have bo:Keep (eg b g) w y:=Keep.below a3;have c7:Keep (eg b g) w w2:=Keep.grown (by (focus (repeat' (first | (with_reducible exact Keep.refl _ _) | (with_reducible assumption) | (with_reducible refine Keep.setCell ?_ _ ?_ _) | (with_reducible refine Keep.alloc ?_ _) | (with_reducible refine Keep.drewN ?_ _) | (with_reducible refine Keep.drew ?_) | (with_reducible exact Or.inr (jg _ _)) | (with_reducible exact Or.inr (jf _ _)) | (refine Or.inr ?_;first | rfl | (simp;done) | omega) | (refine Or.inl ?_;first | omega | (simp;done) | (simp;omega)))))) N.o (λk hk=>.inr (.inr (Hg.o.symm.trans hk)));have ad:i+1=min (s.msgs.length+1) s.cap:=by have:=HL.o;omega
  have a6:fg (rows++[[RI t0,RI t1,RI t2,RI t3,RI t4,.slice A1 zs.length R]]) i=[RI t0,RI t1,RI t2,RI t3,RI t4,.slice A1 zs.length R]:=by
   rw [<-a7.o];exact j4 _ _
  refine ⟨rfl,(Value.slice A2 (i+1) c2).ownBlock,?_,by (focus (repeat' (first | (with_reducible exact Keep.refl _ _) | (with_reducible assumption) | (with_reducible refine Keep.setCell ?_ _ ?_ _) | (with_reducible refine Keep.alloc ?_ _) | (with_reducible refine Keep.drewN ?_ _) | (with_reducible refine Keep.drew ?_) | (with_reducible exact Or.inr (jg _ _)) | (with_reducible exact Or.inr (jf _ _)) | (refine Or.inr ?_;first | rfl | (simp;done) | omega) | (refine Or.inl ?_;first | omega | (simp;done) | (simp;omega))))),?_⟩
  .refine pP (A1:=A1) (c1:=R) (g:=g) (rows':=rows++[[RI t0,RI t1,RI t2,RI t3,RI t4,.slice A1 zs.length R]]) (ring':=.slice A2 (i+1) c2) U.o Hc.o (HL.o▸I.o) Hg.o Hm.o a2 a0 ⟨t0,t1,t2,t3,t4⟩ zs ab (by (focus (repeat' (first | (with_reducible exact Keep.refl _ _) | (with_reducible assumption) | (with_reducible refine Keep.setCell ?_ _ ?_ _) | (with_reducible refine Keep.alloc ?_ _) | (with_reducible refine Keep.drewN ?_ _) | (with_reducible refine Keep.drew ?_) | (with_reducible exact Or.inr (jg _ _)) | (with_reducible exact Or.inr (jf _ _)) | (refine Or.inr ?_;first | rfl | (simp;done) | omega) | (refine Or.inl ?_;first | omega | (simp;done) | (simp;omega)))))) (P:=max s.peak (s.msgs.length+1-s.recv)) rfl (by (focus (repeat' (first | (with_reducible exact ao.o) | (with_reducible refine aC.drew ?_) | (with_reducible refine aC.drewN ?_ _) | (with_reducible refine aC.alloc ?_ _) | (with_reducible refine aC.set0 (ring:=.slice RA i rc) ?_ _) | (with_reducible refine aC.set2 (sent:=s.msgs.length) ?_ _ _ ?_) | (with_reducible refine aC.set4 (peak:=s.peak) ?_ _ _ ?_) | (with_reducible refine aC.far ?_ _ _ ?_) | omega | (push_cast;omega))))) ?_ rfl ?_ ?_ ?_ ?_ ?_
   .rw [<-ad,Rs,List.flatten_cons,List.flatten_nil,List.append_nil]
    (focus (repeat' (first | (with_reducible exact aG.o) | (with_reducible refine World.ownsRow.drew ?_) | (with_reducible refine bZ ?_ _) | (with_reducible refine World.ownsRow.alloc ?_ _) | (with_reducible refine (World.ownsRow.stored ?_ _ _).1) | (with_reducible refine ownsRow_setCell_other ?_ ?_ _) | (with_reducible assumption) | (simp [Value.ownBlock];done) | (simp [Value.ownBlock];omega))))
   .rw [Rh,Rr,a7.o,ad]
   .intro r hr;rcases Rw.1 hr with hr | hr
    .exact b9.o r hr
    .rw [List.mem_singleton.1 hr];rfl
   .intro j h1 h2;exact j3 _ _ _ (by rw [a7.o,<-HL.o];exact uW h1 h2 ap U.o.cap1)
   .rw [b0.o];exact a6
   .have bv:Keep (λk=>k<=w.heap.size) y w2:=Keep.grown (by (focus (repeat' (first | (with_reducible exact Keep.refl _ _) | (with_reducible assumption) | (with_reducible refine Keep.setCell ?_ _ ?_ _) | (with_reducible refine Keep.alloc ?_ _) | (with_reducible refine Keep.drewN ?_ _) | (with_reducible refine Keep.drew ?_) | (with_reducible exact Or.inr (jg _ _)) | (with_reducible exact Or.inr (jf _ _)) | (refine Or.inr ?_;first | rfl | (simp;done) | omega) | (refine Or.inl ?_;first | omega | (simp;done) | (simp;omega)))))) N.o (λk hk=>.inr (by have:=(I.o.lt k hk).2;omega));refine Keep.own (S:=λk=>k<=w.heap.size) (w:=y) ?_ (aF Q.o (by simp;omega)) ?_
    ·(focus (repeat' (first | (with_reducible exact Keep.refl _ _) | (with_reducible assumption) | (with_reducible refine Keep.setCell ?_ _ ?_ _) | (with_reducible refine Keep.alloc ?_ _) | (with_reducible refine Keep.drewN ?_ _) | (with_reducible refine Keep.drew ?_) | (with_reducible exact Or.inr (jg _ _)) | (with_reducible exact Or.inr (jf _ _)) | (refine Or.inr ?_;first | rfl | (simp;done) | omega) | (refine Or.inl ?_;first | omega | (simp;done) | (simp;omega)))))
     all_goals (dsimp only;omega)
    .intro k hk;have:=(Q.o.lt k hk).1;simp at this |-;omega
  .rcases aM.o with h1 | h1
   .exact .inl (h1.trans Hg.o)
   .exact .inr ⟨_,h1,by simp;omega⟩
def LSt.send (s:LSt) (m:Msg):LSt:={s with msgs:=s.msgs++[m],peak:=max s.peak (s.msgs.length+1-s.recv)}
def LSt.new (c:Nat):LSt:=⟨c,[],0,0⟩
theorem Lu (base b:Nat) (g:Option Nat) (s:LSt) (t:Tg) (A:N_) (zs:Q_) (c:Nat) (w:R8) (h:aV w base b g s) (p:s.msgs.length<s.recv+s.cap) (o:s.msgs.length<100000000000) (i:base<=w.heap.size) (hA:Rd w A (aA .i64 zs)) (u:zs.length<=17592186043904):Calls prog 222 #[(au b),.agg #[RI t.a,RI t.b,RI t.c,RI t.d,RI t.e,.slice A zs.length c]] w λe x=>e=.returned (RI 0)/\
   ∃v,aV x base b v (s.send ⟨t,zs⟩)/\Keep (eg b g) w x/\(v=g\/∃k,v=some k/\w.heap.size<=k):=by
 rcases QO s.msgs.length s.cap with hc | hc
 .exact yV base b g s t A zs c w h p hc o i hA u
 .exact va base b g s t A zs c w h p hc o i hA u
theorem aV.blocks {w:R8} {base b:Nat} {g:Option Nat} {s:LSt} (h:aV w base b g s):b<w.heap.size/\∀i,g=some i->base<=i/\i<w.heap.size:=by
 obtain ⟨ok,ring,rows,hc,o,hg,_⟩:=h;exact ⟨Qw hc,λi p=>o.lt i (hg.trans p)⟩
theorem qy {w:R8} {b v:Nat} {x p:R6} {t u:R9} (h:w.heap[b]?=some (.cells x t (0,0))) (i:w.heap[v]?=some (.cells p u (0,0))) (o:t≠u):b≠v:=by
 rintro rfl;rw [h] at i;injection i with i
 injection i with _ i
 exact o i
theorem aV.blk {w:R8} {base b:Nat} {g:Option Nat} {s:LSt} (h:aV w base b g s):∃i,w.heap[b]?=some (.cells i 172 (0,0)):=by
 obtain ⟨ok,ring,rows,hc,_⟩:=h;exact ⟨_,hc⟩
theorem aV.ringBlk {w:R8} {base b i:Nat} {s:LSt} (h:aV w base b (some i) s):∃y,w.heap[i]?=some (.cells y 174 (0,0)):=by
 obtain ⟨ok,ring,rows,hc,o,hg,_⟩:=h;rcases o.2 with ⟨hn,_⟩ | ⟨x,cap2,v,p,_,u,_⟩
 .rw [hn] at hg;cases hg
 .rw [p] at hg;obtain rfl:x=i:=by simpa [Value.ownBlock] using hg
  exact ⟨_,u⟩
theorem rL:dg prog 129 9:=⟨⟨_,underlying129,rfl⟩,by kernel_rfl⟩
theorem jZ:dg prog 127 5:=⟨⟨_,underlying127,rfl⟩,by kernel_rfl⟩
def Acn.tg (a:Acn):Tg:=⟨a.st,a.bk,a.ph,a.rd,a.ch⟩
theorem yY {y:Itm} {i:Acn} (h:y.a=some i) {lo o:Nat} (h1:i.at'.1=lo) (p:i.at'.2=o):(bC y).toArray=#[RI (y.kind:Nat),RI (y.st:Nat),RI (y.n:Nat),.bool i.send,.bool i.add,RI (i.st:Nat),RI (i.bk:Nat),RI (i.ph:Nat),RI (i.rd:Nat),RI (i.ch:Nat),RI (lo:Nat),RI (o:Nat)]:=by
 subst h1;subst p;unfold bC;rw [h];rfl
theorem xF {H:Nat->Prop} {w:R8} {b x:Nat} {i:Inp} {a:MAd} {m:Mst} (h:aU H w b i x a m) (a6:i.start.length<=60) (y:Itm) (v:Acn) (Z:y.a=some v) (lo A:Nat) (h1:v.at'.1=lo) (h2:v.at'.2=A) (av:lo<A) (ab:A<=i.start.length) (u l:N_) (C:Int) (L:Nat->Prop) (a1:¬L b) (U:∀k,w.heap.size<=k->¬L k) (Q:R8->Prop) (B:∀p d,aq w p->Calls prog 222 #[.pointer l,.agg #[RI (v.st:Nat),RI (v.bk:Nat),RI (v.ph:Nat),RI (v.rd:Nat),RI (v.ch:Nat),.slice (some (ar a.bg lo)) (A-lo:Nat) d]] p λe Y=>e=.returned (RI C)/\Keep L p Y/\Q Y):Calls prog 214 #[(au b),.agg (bC y).toArray,.agg #[.pointer u,.pointer l]] w λe p=>e=.returned (RI C)/\Keep L w p/\Q p:=by
 rw [yY Z h1 h2];have I:=h.blk
 have ad:i.start.length<=a.cg:=by
  obtain ⟨_,_,e,h⟩:=aD h.oG;simp only [Rv] at e;omega
 obtain ⟨W0,W1,T,O,g0,g1,J,a3⟩:=gM w #[RI (y.kind:Nat),RI (y.st:Nat),RI (y.n:Nat),.bool v.send,.bool v.add,RI (v.st:Nat),RI (v.bk:Nat),RI (v.ph:Nat),RI (v.rd:Nat),RI (v.ch:Nat),RI (lo:Nat),RI (A:Nat)] #[.pointer u,.pointer l] 135 324;have a0:=sb I _ J;obtain ⟨a2,a5,V,G0,G1,K1,N⟩:=aj T O a0 g0 g1 J B;clear T O a0 g0 g1 J I h B Z h1 h2 a3;go_enter func214,ntmps214;go_upto_region 1 with (fail);rw [a2.o,a5.o];go_upto_region 2 with (first | (refine aN #[.bool v.send,.bool v.add,RI (v.st:Nat),RI (v.bk:Nat),RI (v.ph:Nat),RI (v.rd:Nat),RI (v.ch:Nat),RI (lo:Nat),RI (A:Nat)] (b:=w.heap.size) G0.o rL rfl rfl rfl rfl ?_) | (refine aI (Qy _ _) rL rfl rfl rfl rfl rfl rfl rfl ?_;intro D e2 k2;obtain ⟨E2,R⟩:=ae e2 (aO k2);clear e2 k2));have q2:Keep L D D.drew:=(Keep.refl _ _).drew;have lx:=Qw E2.o;have kx:=λp (q:Keep L D p)=>(q.block W1.heap.size lx (U _ K1.o.size)).trans E2.o;have a4:∀p,Keep L D p->p.cell? (ar b 13)=some (.slice (some (ar a.bg 0)) i.start.length a.cg):=λp q=>Qz p b 13 _ _ _ ((q.block b (Qw (sb V.o _ R.o)) a1).trans (sb V.o _ R.o));have s1:∀p,Keep L D p->p.cell? (ar (w.heap.size+1) 1)=some (.pointer l):=λp q=>Qz p (w.heap.size+1) 1 _ _ _ ((q.block _ (Qw (sb G1.o _ R.o)) (U _ ap)).trans (sb G1.o _ R.o));have x7:∀p,Keep L D p->p.cell? (ar W1.heap.size 7)=some (RI (lo:Nat)):=λp q=>Qz p _ 7 _ _ _ (kx p q);have x8:∀p,Keep L D p->p.cell? (ar W1.heap.size 8)=some (RI (A:Nat)):=λp q=>Qz p _ 8 _ _ _ (kx p q);have ao:(lo:Int)<=A:=ap;have aG:(A:Int)<=a.cg:=ap;have a7:lo<=A:=ap;have a8:A<=a.cg:=ap;have a9:¬a.cg=lo:=ap;obtain ⟨BB,KX⟩:=ae (bt K1.o R.o) kx;clear kx lx;dsimp only [Act.put];refine HA.g (λp:R8=>Keep L D p) ?_;refine HA.t ?_ [0,1,2] q2 ?_;refine HA.ld 3 #[RI (v.st:Nat),RI (v.bk:Nat),RI (v.ph:Nat),RI (v.rd:Nat),RI (v.ch:Nat)] (λp q=>KX.o p q) jZ q2 ?_;refine HA.t ?_ [4,5,6,7,8,9,10,11,12,13,14,15] q2 ?_;refine HA.c 16 (N.o _ (a.cg-lo) BB.o.drew) ?_;rintro e w3 ⟨rfl,k3,hq⟩;have q3:=q2.trans k3;refine ⟨_,rfl,q3,λ_=>?_⟩;refine HA.t ?_ [17] q3 ?_;refine HA.d ?_;have K3:=aa ((Keep.below (S:=L) BB.o).trans q3);clear q2 q3 k3 a4 s1 x7 x8;go_wp2_with fail;go_ret;exact ⟨rfl,K3.o,hq⟩
theorem Lc {H:Nat->Prop} {w:R8} {b x:Nat} {i:Inp} {a:MAd} {m:Mst} (h:aU H w b i x a m) (C:i.start.length<=60) (y:Itm) (o:Acn) (O:y.a=some o) (Q:o.at'.1<o.at'.2) (N:o.at'.2<=i.start.length) (u:N_) {base l:Nat} {g:Option Nat} {s:LSt} (J:aV w base l g s) (p:s.msgs.length<s.recv+s.cap) (A:s.msgs.length<100000000000) (v:base<=w.heap.size):Calls prog 214 #[(au b),.agg (bC y).toArray,.agg #[.pointer u,(au l)]] w λe B=>e=.returned (RI 0)/\Keep (eg l g) w B/\
   ∃D,aV B base l D (s.send ⟨o.tg,(m.G.drop o.at'.1).take (o.at'.2-o.at'.1)⟩)/\(D=g\/∃k,D=some k/\w.heap.size<=k):=by
 obtain ⟨cl,R⟩:=J.blk;have L:=J.blocks;refine xF h C y o O _ _ rfl rfl Q N u (some (ar l 0)) 0 (eg l g) ?_ ?_ _ (λB d q=>?_)
 .rintro (e | e)
  .exact qy h.blk R (by decide) e
  .subst e;obtain ⟨cg,hg⟩:=J.ringBlk;exact qy h.blk hg (by decide) rfl
 .rintro k hk (e | e)
  .omega
  .have:=(L.2 k e).2;omega
 .have Z:Rd B (some (ar a.bg o.at'.1)) (aA .i64 ((m.G.drop o.at'.1).take (o.at'.2-o.at'.1))):=by
   have:=((Rd.own (az h.oG q)).drop o.at'.1).take (o.at'.2-o.at'.1)
   rwa [dL,dE,RB] at this
  have I:((m.G.drop o.at'.1).take (o.at'.2-o.at'.1)).length=o.at'.2-o.at'.1:=by rw [Rn,Rq,h.wG.1];omega
  have:=Lu base l g s o.tg (some (ar a.bg o.at'.1)) ((m.G.drop o.at'.1).take (o.at'.2-o.at'.1)) d B (J.below q) p A (QD v q.size) Z ap;rw [I] at this;refine this.mono ?_;rintro e Y ⟨he,D,T,k2,U⟩;exact ⟨he,k2,D,T,U.imp id λ⟨k,e1,V⟩=>⟨k,e1,QD q.size V⟩⟩
theorem Dl {H:Nat->Prop} {w:R8} {b x:Nat} {i:Inp} {a:MAd} {m:Mst} (h:aU H w b i x a m) (v:i.start.length<=60) (y:Itm) (p:Acn) (B:y.a=some p) (C:p.at'.1<p.at'.2) (D:p.at'.2<=i.start.length) (u:N_) {base l:Nat} {g:Option Nat} {s:LSt} (I:aV w base l g s) (o:s.msgs.length=s.recv+s.cap):Calls prog 214 #[(au b),.agg (bC y).toArray,.agg #[.pointer u,(au l)]] w λe A=>e=.returned (RI 11)/\aq w A:=by
 refine (xF h v y p B _ _ rfl rfl C D u (some (ar l 0)) 11 (λ_=>False) id (λ_ _ h=>h) (λ_=>True) (λA d q=>?_)).mono λe A h=>⟨h.1,h.2.1.toBelow (Qx _) (λ_ h=>h.elim)⟩;exact (we base l g s _ A (I.below q) o).mono λe J h=>⟨h.1,Keep.below h.2,trivial⟩
def wu (G:Q_) (lo:Nat) (v:Q_) (add:Bool) (k:Nat):Q_:=dU G.length λj=>if lo<=j/\j<lo+k then (if add then wrap64 (nth G j+nth v (j-lo)) else nth v (j-lo)) else nth G j
def iK (G:Q_) (lo:Nat) (v:Q_) (add:Bool):Q_:=wu G lo v add v.length
section
variable (G:Q_) (lo:Nat) (v:Q_) (add:Bool)
theorem vH (k:Nat):(wu G lo v add k).length=G.length:=cC _ _
theorem ry:(iK G lo v add).length=G.length:=cC _ _
theorem yb:wu G lo v add 0=G:=(fS rfl λk _=>by rw [if_neg ap]).symm
theorem oh {k j:Nat} (h:j<G.length):nth (wu G lo v add k) j=if lo<=j/\j<lo+k then (if add then wrap64 (nth G j+nth v (j-lo)) else nth v (j-lo)) else nth G j:=bJ _ h
theorem BT {k:Nat} (hk:lo+k<G.length):(wu G lo v add k).set (lo+k) (if add then wrap64 (nth G (lo+k)+nth v k) else nth v k)=wu G lo v add (k+1):=by
 refine hZ (by simp [vH]) λj i=>?_;rw [List.length_set,vH] at i;rw [je,oh _ _ _ _ i,oh _ _ _ _ i,vH];by_cases h1:j=lo+k
 .subst h1;rw [if_pos (show lo+k=lo+k/\lo+k<G.length from QF rfl hk),if_pos (show lo<=lo+k/\lo+k<lo+(k+1) by omega),Nat.add_sub_cancel_left]
 .rw [if_neg (show ¬(j=lo+k/\lo+k<G.length) from λh=>h1 h.1)];by_cases o:lo<=j/\j<lo+k
  .rw [if_pos o,if_pos (show lo<=j/\j<lo+(k+1) by omega)]
  .rw [if_neg o,if_neg (show ¬(lo<=j/\j<lo+(k+1)) by omega)]
end
theorem vI {G v:Q_} {lo:Nat} {add:Bool} (o:W64 G) (i:W64 v):W64 (iK G lo v add):=fU λk hk=>by
 split
 .rename_i h
  split
  .unfold wrap64;omega
  .exact i _ ap
 .exact o k hk
theorem IK {G v:Q_} {lo:Nat} (h:lo+v.length<=G.length):splice G lo v=iK G lo v false:=by
 unfold splice iK wu;refine fS (by simp only [Rh,Rn,Rq];omega) λk hk=>?_;rw [if_neg (show ¬(false=true) by decide)];by_cases h1:k<lo
 .rw [if_neg ap];simp only [nth,List.getD_eq_getElem?_getD];rw [Rk (by rw [Rn];omega),List.getElem?_take,if_pos h1]
 .by_cases i:k<lo+v.length
  .rw [if_pos ⟨by omega,i⟩];simp only [nth,List.getD_eq_getElem?_getD];rw [Rl (by rw [Rn];omega),Rn,Rk ap]
   congr 2;omega
  .rw [if_neg ap];simp only [nth,List.getD_eq_getElem?_getD];rw [Rl (by rw [Rn];omega),Rn,Rl ap,List.getElem?_drop]
   congr 2;omega
theorem DY (g c lo n:Nat) (B:N_) (xs ys:Q_) (L Q d:Nat) (w:R8) (h:w.ownsRow 0 2 1 (.slice (some (ar g 0)) n c) n (aA .i64 xs)) (hB:Rd w B (aA .i64 ys)) (hl:ys.length=L) (hn:lo+L<=n) (hm:n<=17592186043904) (y:∀b,B=some b->b.block≠g):Calls prog 52 #[.slice (some (ar g lo)) L Q,.slice B L d] w λe J=>e=.returned (.bool true)/\J.ownsRow 0 2 1 (.slice (some (ar g 0)) n c) n (aA .i64 (iK xs lo ys true))/\Keep (λi=>i=g) w J:=by
 have x:=lw h;unfold iK;rw [hl];obtain ⟨Y,R,Hn,T,Z⟩:=ah h hB x hl y;clear h hB x hl y;go_enter func52,ntmps52;go_wp2_with fail
 go_loopw [13] (λi wr=>∃k:Nat,k<=L/\i=RI k/\wr.ownsRow 0 2 1 (.slice (some (ar g 0)) n c) n (aA .i64 (wu xs lo ys true k))/\Keep (λi=>i=g) w wr) (λi _=>L-(intOf i).toNat)
 .exact ⟨0,QB _,rfl,by rw [yb];exact Y.o,Keep.refl _ _⟩
 case round=>
  obtain ⟨k,hk,rfl,h,A⟩:=hrel;by_cases C:k<L
  .have hg:=(h.lt g rfl).2;have v:lo+k<xs.length:=by rw [Hn.o];omega
   have V:=cG h (show lo+k<n by omega);rw [oh _ _ _ _ v,if_neg ap] at V;have f1:=h.frozenAt (lo+k);obtain ⟨N,U,rfl,O⟩:=R.o.num (show k<ys.length by rw [T.o];exact C);have I:N≠g:=Z.o _ rfl;have p2:wr.cell? (ar N (U+k))=some (RI (nth ys k)):=A.cell O I;have p:=BT xs lo ys true v;rw [if_pos rfl] at p;obtain ⟨H,u,D⟩:=af A h p;clear A h p v O;go_wp2_with fail
   go_region
   all_goals go_wp2_with fail
   all_goals
    go_roundw
    case rel=>
     refine ⟨k+1,by omega,by go_num,?_,?_⟩
     .rw [<-D.o];exact dF (bZ u.o 1) (lo+k) _
     .exact Keep.setCell (H.o.drewN 1) (ar g (lo+k)) (.inr rfl) _
    case measure=>simp [intOf];omega
  .obtain rfl:k=L:=ap;obtain ⟨H,u⟩:=ae A h;clear A h;go_wp2_with fail;go_ret;exact ⟨rfl,u.o,H.o⟩
theorem yC:dg prog 174 6:=⟨⟨_,underlying174,rfl⟩,by kernel_rfl⟩
theorem zG {α:Type} {i p:List α} {lo n:Nat} (h:lo+p.length<=n) (hn:n<=i.length):(splice i lo p).take n=splice (i.take n) lo p:=by
 unfold splice;have o:lo<=n:=ap;rw [List.take_append,List.take_append,List.take_take,Rn,List.take_take,List.drop_take,Nat.min_eq_right o,Nat.min_eq_left o,Nat.min_eq_left (show lo<=i.length by omega),List.take_of_length_le (show p.length<=n-lo by omega),Nat.sub_sub]
theorem Cv {α:Type} {i o:List α} {lo:Nat} (h:lo+o.length<=i.length):(splice i lo o).length=i.length:=by
 unfold splice;simp only [Rh,Rn,Rq];omega
theorem Nt {w:R8} {base:Nat} {e:R9} {g n cap:Nat} {xs:R7} (h:w.ownsRow base e 1 (.slice (some ⟨g,0,none⟩) n cap) n xs):
  ∃o:R7,w.heap[g]?=some (.cells o.toArray e (0,0))/\o.take n=xs/\n<=o.length/\∀(p:R8) (i:R7),p.heap[g]?=some (.cells (List.toArray i) e (0,0))->i.length=o.length->p.ownsRow base e 1 (.slice (some ⟨g,0,none⟩) n cap) n (i.take n):=by
 rcases h.2 with ⟨B,_⟩ | ⟨C,v,o,u,hb,hg,h1,y,hs,x⟩
 .cases B
 .simp only [Rv,Option.some.injEq,Addr.mk.injEq,and_true,true_and] at u;obtain ⟨rfl,rfl⟩:=u;rw [Nat.mul_one] at hs x;have hl:o.toList.length=cap:=by simpa using hs
  refine ⟨o.toList,by simpa using hg,by simpa using x,by omega,λp i hw A=>⟨by rw [Rn];omega,.inr ⟨g,cap,i.toArray,rfl,hb,hw,h1,y,?_,?_⟩⟩⟩
  .simp;omega
  .simp
theorem Le {w:R8} {b:Nat} (y:Itm) (h:Acn) (H:y.a=some h) (u v:N_) (C:Int) (hC:C≠0) (p:∀i,aq w i->Calls prog 223 #[.pointer u,.agg #[RI (h.st:Nat),RI (h.bk:Nat),RI (h.ph:Nat),RI (h.rd:Nat),RI (h.ch:Nat)]] i λe T=>e=.returned (.tuple #[.agg RR,RI C])/\aq i T):Calls prog 215 #[.pointer (some ⟨b,0,none⟩),.agg (bC y).toArray,.agg #[.pointer u,.pointer v]] w λe i=>e=.returned (RI C)/\aq w i:=by
 obtain ⟨lo,h1⟩:∃lo,h.at'.1=lo:=⟨_,rfl⟩;obtain ⟨I,U⟩:∃I,h.at'.2=I:=⟨_,rfl⟩;rw [yY H h1 U];obtain ⟨W0,W1,B,A,Y,g1,D,O⟩:=gM w #[RI (y.kind:Nat),RI (y.st:Nat),RI (y.n:Nat),.bool h.send,.bool h.add,RI (h.st:Nat),RI (h.bk:Nat),RI (h.ph:Nat),RI (h.rd:Nat),RI (h.ch:Nat),RI (lo:Nat),RI (I:Nat)] #[.pointer u,.pointer v] 135 324;obtain ⟨N,R,G0,G1,K1,x⟩:=ai B A Y g1 D p;clear B A Y g1 D p H h1 U O;go_enter func215,ntmps215;go_upto_region 1 with (fail);rw [N.o,R.o];go_upto_region 2 with (first | (refine aN #[.bool h.send,.bool h.add,RI (h.st:Nat),RI (h.bk:Nat),RI (h.ph:Nat),RI (h.rd:Nat),RI (h.ch:Nat),RI (lo:Nat),RI (I:Nat)] (b:=w.heap.size) G0.o rL rfl rfl rfl rfl ?_) | (refine aI (Qy _ _) rL rfl rfl rfl rfl rfl rfl rfl ?_;intro J Z k2;obtain ⟨E2,L⟩:=ae Z (aO k2);clear Z k2));have q2:=br J;have B2:=aa (bt K1.o L.o);have s0:∀i,aq J i->i.cell? ⟨w.heap.size+1,0,none⟩=some (.pointer u):=λi q=>Qz i (w.heap.size+1) 0 _ _ _ (sb (sb G1.o _ L.o) i q);have Q:=λi (q:aq J i)=>QE (Qw (sb G1.o _ L.o)) q.size;go_wp2_with (refine aN #[RI (h.st:Nat),RI (h.bk:Nat),RI (h.ph:Nat),RI (h.rd:Nat),RI (h.ch:Nat)] (b:=W1.heap.size) E2.o jZ rfl rfl rfl rfl ?_);refine (x.o J B2.o).mono ?_;rintro e w3 ⟨rfl,V⟩;have a0:(C != 0)=true:=by rw [bne_iff_ne];exact hC
 have B3:=aa (bt B2.o V);clear q2 s0 Q V;go_wp2_with (refine aI (Qy _ _) yC rfl rfl rfl rfl rfl rfl rfl ?_;intro W4 e4 k4;have K4:=aa (bt B3.o (aO k4));clear e4 k4);go_ret;exact ⟨rfl,K4.o⟩
theorem Ld {H:Nat->Prop} {w:R8} {b x:Nat} {i:Inp} {a:MAd} {m:Mst} (h:aU H w b i x a m) (bG:i.start.length<=60) (y:Itm) (B:Acn) (a5:y.a=some B) (lo C:Nat) (h1:B.at'.1=lo) (h2:B.at'.2=C) (bV:lo<C) (bX:C<=i.start.length) (v:N_) {base l:Nat} {g:Option Nat} {s:LSt} (hL:aV w base l g s) (c7:a.bg<base) (bb:s.recv<s.msgs.length) (ao:(aQ s.msgs s.recv).tag=B.tg) (R:(aQ s.msgs s.recv).vals.length=C-lo):Calls prog 215 #[.pointer (some ⟨b,0,none⟩),.agg (bC y).toArray,.agg #[.pointer (some ⟨l,0,none⟩),.pointer v]] w λe p=>e=.returned (RI 0)/\Keep (λk=>k=l\/k=a.bg) w p/\
   aV p base l g {s with recv:=s.recv+1}/\p.ownsRow 0 2 1 (.slice (some ⟨a.bg,0,none⟩) i.start.length a.cg) i.start.length (aA .i64 (iK m.G lo (aQ s.msgs s.recv).vals B.add)):=by
 rw [yY a5 h1 h2];have T:=h.blk;obtain ⟨cl,Q⟩:=hL.blk
 have bO:i.start.length<=a.cg:=by
  obtain ⟨_,_,e,h⟩:=aD h.oG;simp only [Rv] at e;omega
 have b6:b≠l:=qy h.blk Q (by decide);have a8:l≠a.bg:=λe=>ay Q (by decide) h.oG (by rw [e];rfl);have a3:=h.wG.1;have b7:=h.blk;obtain ⟨u,hu⟩:∃u,(some ⟨l,0,none⟩:N_)=u:=⟨_,rfl⟩;rw [hu];obtain ⟨W0,W1,av,a0,g0,g1,a2,b8⟩:=gM w #[RI (y.kind:Nat),RI (y.st:Nat),RI (y.n:Nat),.bool B.send,.bool B.add,RI (B.st:Nat),RI (B.bk:Nat),RI (B.ph:Nat),RI (B.rd:Nat),RI (B.ch:Nat),RI (lo:Nat),RI (C:Nat)] #[.pointer u,.pointer v] 135 324;rw [<-hu] at g1 a0;rw [<-hu];have b5:=sb T _ a2;obtain ⟨bw,bo,aM,G0,G1,K1,HM,HL⟩:=ak av a0 b5 g0 g1 a2 h hL;obtain ⟨bA,D,c6,bz⟩:=ag ao R Q a3;clear av a0 b5 g0 g1 a2 T b7 h hL a5 h1 h2 b8 hu ao R Q a3;go_enter func215,ntmps215;go_upto_region 1 with (fail);rw [bw.o,bo.o];go_upto_region 2 with (first | (refine aN #[.bool B.send,.bool B.add,RI (B.st:Nat),RI (B.bk:Nat),RI (B.ph:Nat),RI (B.rd:Nat),RI (B.ch:Nat),RI (lo:Nat),RI (C:Nat)] (b:=w.heap.size) G0.o rL rfl rfl rfl rfl ?_) | (refine aI (Qy _ _) rL rfl rfl rfl rfl rfl rfl rfl ?_;intro W2 e2 k2;obtain ⟨E2,K2⟩:=ae e2 (aO k2);clear e2 k2));have B2:=aa (bt K1.o K2.o);have a1:=Bn base l g s B.tg W2 (HL.o.below B2.o) bb bA.o;rw [D.o] at a1;have a4:=aa a1;have s0:W2.cell? ⟨w.heap.size+1,0,none⟩=some (.pointer (some ⟨l,0,none⟩)):=Qz W2 (w.heap.size+1) 0 _ _ _ (sb G1.o _ K2.o);clear a1;go_wp2_with (refine aN #[RI (B.st:Nat),RI (B.bk:Nat),RI (B.ph:Nat),RI (B.rd:Nat),RI (B.ch:Nat)] (b:=W1.heap.size) E2.o jZ rfl rfl rfl rfl ?_);refine a4.o.mono ?_;rintro e w3 ⟨A,c,rfl,o3,L3,k3⟩;have bh:l≠W1.heap.size:=by have:=HL.o.blocks.1;have:=K1.o.size;omega
 have e3:=(k3.block W1.heap.size (Qw E2.o) (λe=>bh e.symm)).trans E2.o;have b3:=(k3.block b (Qw (sb aM.o _ K2.o)) b6).trans (sb aM.o _ K2.o);have a7:=k3.own (az HM.o.oG B2.o) (λj hj e=>a8 (by cases hj;exact e.symm));obtain ⟨O3,bs,K3,E3,bl,bi⟩:=ai o3 L3 ((Keep.below (S:=λk=>k=l) B2.o).trans k3) e3 b3 a7;clear o3 L3 k3 e3 b3 a7 s0 a4;go_upto_region 5 with (refine aI (Qy _ _) yC rfl rfl rfl rfl rfl rfl rfl ?_;intro L e4 k4;obtain ⟨E4,K4⟩:=ae e4 (aO k4);clear e4 k4);have q4:=(br L).drew;have kx:=λp (q:aq L p)=>sb (sb E3.o _ K4.o) p q;have bn:∀p,aq L p->p.cell? ⟨b,13,none⟩=some (.slice (some ⟨a.bg,0,none⟩) i.start.length a.cg):=λp q=>Qz p b 13 _ _ _ (sb (sb bl.o _ K4.o) p q);have x1:∀p,aq L p->p.cell? ⟨W1.heap.size,1,none⟩=some (.bool B.add):=λp q=>Qz p _ 1 _ _ _ (kx p q);have x7:∀p,aq L p->p.cell? ⟨W1.heap.size,7,none⟩=some (RI (lo:Nat)):=λp q=>Qz p _ 7 _ _ _ (kx p q);have x8:∀p,aq L p->p.cell? ⟨W1.heap.size,8,none⟩=some (RI (C:Nat)):=λp q=>Qz p _ 8 _ _ _ (kx p q);have y5:∀p,aq L p->p.cell? ⟨w3.heap.size,5,none⟩=some (.slice A (C-lo:Nat) c):=λp q=>Qz p _ 5 _ _ _ (sb E4.o p q);have xl:=sl (sb E3.o _ K4.o);have yl:=sl E4.o;have c8:(lo:Int)<=C:=ap;have c9:(C:Int)<=a.cg:=ap;have bI:lo<=C:=ap;have bM:C<=a.cg:=ap;have bN:¬a.cg=lo:=ap;clear kx;refine HA.g (λp:R8=>aq L p) ?_;refine HA.t ?_ [0,1,2,3,4,5,6,7,8,9,10,11] q4 ?_;refine HA.d ?_;have N:=aa (K4.o.trans (q4.mono K4.o.size));have o5:=az O3.o N.o;have L5:=bs.o.below N.o;have Z:=az bi.o N.o;have K5:=(K3.o.mono (S':=λk=>k=l\/k=a.bg) λk _ e=>.inl e).trans (Keep.below N.o)
 have b1:∀z,A=some z->z.block≠a.bg:=λz hz e=>by
  rcases o5.2 with ⟨e',_⟩ | ⟨r,_,_,e',hb,_⟩
  .injection e' with e1;rw [e1] at hz;cases hz
  .injection e' with e1;rw [e1] at hz;cases hz;exact absurd hb (by simp only at e;omega)
 have b4:∀p,Keep (λk=>k=a.bg) L.drew p->aV p base l g {s with recv:=s.recv+1}:=λp k=>by
  refine L5.keep k a8 (λj hj e=>?_) (λj _ _ hb e=>ap);subst hj;obtain ⟨cg,hg⟩:=L5.ringBlk;exact ay hg (by decide) Z (by rw [e];rfl)
 obtain ⟨O5,a6,aP,bv,aR⟩:=ah o5 Z K5 b1 b4;clear o5 L5 Z K5 b1 b4 bn
 cases hadd:B.add with
 | true=>
  rw [hadd] at x1;obtain ⟨I,bf⟩:=ae hadd (DY a.bg a.cg lo i.start.length A m.G (aQ s.msgs s.recv).vals (C-lo) (a.cg-lo) c L.drew a6.o (Rd.own O5.o) D.o ap ap bv.o);clear hadd;go_wp2_with fail;refine bf.o.mono ?_;rintro e w6 ⟨rfl,o6,k6⟩;obtain ⟨O6,L6,K6⟩:=af o6 (aR.o w6 k6) (aP.o.trans (k6.mono λk _ e=>.inr e));clear o6 k6 x1 x7 x8 y5 xl yl q4;go_wp2_with fail;go_ret;exact ⟨rfl,K6.o,L6.o,by first | exact O6.o | (rw [I.o];exact O6.o)⟩
 | false=>
  rw [hadd] at x1;have I:=aa hadd;obtain ⟨Y,V,b0,b2,ab⟩:=Nt a6.o;have O:(aA .i64 (aQ s.msgs s.recv).vals).length=C-lo:=by rw [bU,D.o]
  have J:lo+(aA .i64 (aQ s.msgs s.recv).vals).length<=Y.length:=by rw [O];omega
  have U:∀p:R8,p.heap[a.bg]?=some (.cells (splice Y lo (aA .i64 (aQ s.msgs s.recv).vals)).toArray 2 (0,0))->p.ownsRow 0 2 1 (.slice (some ⟨a.bg,0,none⟩) i.start.length a.cg) i.start.length (aA .i64 (iK m.G lo (aQ s.msgs s.recv).vals false)):=λp hw=>by
   have:=ab p _ hw (Cv J)
   rwa [zG (by rw [O];omega) b2,b0,nJ,IK (by rw [D.o,bz.o];omega)] at this
  obtain ⟨ad,be,a9,aG,b9⟩:=ah V O J U (Rd.own O5.o);clear hadd V b0 b2 ab O J U;go_wp2_with (refine qC rfl (.tmp 41) (.tmp 43) 73 26 rfl 2 underlying73 (by kernel_rfl) (some ⟨a.bg,lo,none⟩) A (C-lo) (a.cg-lo) c rfl rfl a.bg lo Y 2 ad.o (aA .i64 (aQ s.msgs s.recv).vals) be.o (λ_=>rfl) b9.o a9.o (cH _ _) ?_;intro w6 g6 k6;obtain ⟨O6,L6,K6⟩:=af (aG.o w6 g6) (aR.o w6 k6) (aP.o.trans (k6.mono λk _ e=>.inr e));clear g6 k6 x1 x7 x8 y5 xl yl q4);go_ret;exact ⟨rfl,K6.o,L6.o,by first | exact O6.o | (rw [I.o];exact O6.o)⟩
theorem aV.box {w o:R8} {base l b:Nat} {g:Option Nat} {s:LSt} (h:aV w base l g s) (k:Keep (λk=>k=b) w o) (h1:l≠b) (u:b<base):aV o base l g s:=
 h.keep k h1 (λi p e=>by have:=(h.blocks.2 i p).1;omega) (λi c _ hb e=>ap)
theorem aU.setGH {H:Nat->Prop} {w y:R8} {b x:Nat} {i:Inp} {a:MAd} {m:Mst} (h:aU H w b i x a m) (hn:∀k,Mut b a k->¬H k) (hk:Keep (λk=>k=a.bg\/H k) w y) (G:Q_) (oG:y.ownsRow 0 2 1 (.slice (some (ar a.bg 0)) i.start.length a.cg) i.start.length (aA .i64 G)) (wG:G.length=i.start.length/\W64 G):aU H y b i x a {m with G:=G}:=by
 have he:Ext (aH (ib H b a) w) (aH (ib H b a) y):=bP (hk.mono λk _ e=>e.imp (λe=>.inr (.inr (.inr (.inl e)))) id) (λk _ Y=>Y);have nb:b≠a.bg:=λe=>ay h.blk (by decide) h.oG (by rw [e];rfl);have hb:=(hk.block b (Qw h.blk) (λe=>e.elim nb (hn b (.inl rfl)))).trans h.blk;have u:∀{v:Value} {e size n xs},(∀j,v.ownBlock=some j->j≠a.bg/\Mut b a j)->w.ownsRow 0 e size v n xs->y.ownsRow 0 e size v n xs:=λp u=>hk.own u (λj o e=>e.elim (p j o).1 (hn j (p j o).2))
 have D:∀{v:Value} {e:R9} {size n:Nat} {xs:R7},e≠2->w.ownsRow 0 e size v n xs->∀j,v.ownBlock=some j->j≠a.bg:=λp u j o e=>by
  rcases h.oG.2 with ⟨A,_⟩ | ⟨Z,_,_,A,_,hg,_⟩
  .cases A
  .simp only [Rv,Option.some.injEq,Addr.mk.injEq] at A;obtain ⟨⟨U,_⟩,_⟩:=A;exact ay hg (Ne.symm p) u (by rw [o,e,U])
 obtain ⟨T,a1,V,L,N,B,O⟩:=h.pl;obtain ⟨rows,C,R,I,J⟩:=h.re
 exact ⟨hb,fM h.sh he,fj cW h.ex he,iD h.sa he,⟨T,a1,V,L,N,B,iE O he⟩,aW h.bu he,aW h.it he,⟨rows,u (λj o=>⟨D (by decide) C j o,by cases o;exact .inr (.inr (.inr (.inr (.inl rfl))))⟩) C,R,I,λj x Q=>cW (J j x Q) he⟩,
  u (λj o=>by cases o;exact ⟨h.dj.2.1,.inr (.inl rfl)⟩) h.oP,u (λj o=>by cases o;exact ⟨h.dj.2.2,.inr (.inr (.inl rfl))⟩) h.oM,oG,u (λj o=>⟨D (by decide) h.oO j o,.inr (.inr (.inr (.inr (.inr o))))⟩) h.oO,h.dj,λk _ hm=>hn k hm,h.wP,h.wM,wG,h.ox,h.xw⟩
theorem Lk {H:Nat->Prop} {w:R8} {b x:Nat} {i:Inp} {a:MAd} {m:Mst} (h:aU H w b i x a m) (hn:∀k,Mut b a k->¬H k) (B:∀k,w.heap.size<=k->¬H k) (hs:bD i) {y:Itm} (hy:(cz i x m.st)[m.nx]?=some y) (hk:y.kind=3) {p:Acn} (a2:y.a=some p) (a3:p.at'.1<p.at'.2) (Y:p.at'.2<=i.start.length) (u:N_) {base l:Nat} {g:Option Nat} {s:LSt} (V:aV w base l g s) (I:s.msgs.length<s.recv+s.cap) (L:s.msgs.length<100000000000) (J:base<=w.heap.size) (D:∀k,eg l g k->H k) (a0:b<base):Calls prog 204 #[(au b),.pointer u,(au l)] w λe v=>e=.returned (RI 0)/\
   MT (eg l g) b i x a m (λT v m1=>m1=m/\∃o,(∀k,T k↔H k\/o=some k)/\aV v base l o (s.send ⟨p.tg,(m.G.drop p.at'.1).take (p.at'.2-p.at'.1)⟩)/\(o=g\/∃k,o=some k/\w.heap.size<=k)) w v:=by
 have a1:l≠b:=λe=>hn b (.inl rfl) (D b (.inl e.symm))
 refine (Bh h hn B (G:=eg l g) (λk e=>?_) hs hy u (some (ar l 0)) 214 (λv=>by rw [hk];kernel_rfl) (λargs w=>by kernel_rfl) (λ_=>False)
  (λT v m1=>m1=m/\∃o,(∀k,T k↔H k\/o=some k)/\aV v base l o (s.send ⟨p.tg,(m.G.drop p.at'.1).take (p.at'.2-p.at'.1)⟩)/\(o=g\/∃k,o=some k/\w.heap.size<=k)) ?_ (λv q=>?_)).mono ?_
 .rcases e with e | e
  .rw [e];exact V.blocks.1
  .exact (V.blocks.2 k e).2
 .rintro T w1 w2 m1 ⟨e,o,h1,h2,h3⟩ kk;exact ⟨e,o,h1,h2.box kk a1 a0,h3⟩
 .have U:=h.below q hn;refine (Lc U hs.n y p a2 a3 Y u (V.below q) I L (QD J q.size)).mono ?_;rintro e a4 ⟨he,N,o,R,Q⟩
  have A:∀k,o=some k->H k\/v.heap.size<=k:=λk e=>by
   rcases Q with rfl | ⟨j,e1,Z⟩
   .exact .inl (D k (.inr e))
   .rw [e1] at e;cases e;exact .inr Z
  have O:∀k,Mut b a k->¬(H k\/o=some k):=λk hm e=>by
   rcases e with e | e
   .exact hn k hm e
   .rcases A k e with e | e
    .exact hn k hm e
    .have:=U.mlt k hm;omega
  refine .inl ⟨he,λk=>H k\/o=some k,a,m,U.step (N.mono λk _ e=>D k e) (λk hl e=>?_) O,O,λk hl e=>?_,rfl,rfl,N.mono λk _ e=>.inr e,λk hm=>.inl hm,⟨rfl,rfl,rfl⟩,rfl,o,λk=>Iff.rfl,R,?_⟩
  .rcases e with e | e
   .exact e
   .rcases A k e with e | e
    .exact e
    .omega
  .rcases e with e | e
   .exact B k (QD (QD q.size N.size) hl) e
   .have:=(R.blocks.2 k e).2;omega
  .exact Q.imp id λ⟨k,e1,Z⟩=>⟨k,e1,QD q.size Z⟩
 .rintro e v (⟨he,hd⟩ | ⟨C,_,hF,_⟩)
  .exact ⟨he,hd⟩
  .exact hF.elim
theorem Lm {H:Nat->Prop} {w:R8} {b x:Nat} {i:Inp} {a:MAd} {m:Mst} (h:aU H w b i x a m) (hn:∀k,Mut b a k->¬H k) (v:∀k,w.heap.size<=k->¬H k) (hs:bD i) {y:Itm} (L:(cz i x m.st)[m.nx]?=some y) (hk:y.kind=3) {p:Acn} (B:y.a=some p) (I:p.at'.1<p.at'.2) (D:p.at'.2<=i.start.length) (u:N_) {base l:Nat} {g:Option Nat} {s:LSt} (O:aV w base l g s) (o:s.msgs.length=s.recv+s.cap):Calls prog 204 #[(au b),.pointer u,(au l)] w λe A=>e=.returned (RI 11)/\aq w A:=by
 refine (mY h hn v (G:=λ_=>False) (λ_ h=>h.elim) hs L u (some (ar l 0)) 214 (λA=>by rw [hk];kernel_rfl) (λargs w=>by kernel_rfl) (λC=>C=11) (λ_ _=>False) (λ_ _ _ h _=>h) (λA q=>?_)).mono ?_
 .refine (Dl (h.below q hn) hs.n y p B I D u (O.below q) o).mono ?_;rintro e N ⟨he,k⟩;exact .inr ⟨11,by decide,rfl,he,k⟩
 .rintro e A (⟨_,_,_,_,_,_,_,_,_,J⟩ | ⟨C,_,Q,he,k⟩)
  .exact J.elim
  .rw [Q] at he;exact ⟨he,k⟩
theorem Ll {H:Nat->Prop} {w:R8} {b x:Nat} {i:Inp} {a:MAd} {m:Mst} (h:aU H w b i x a m) (hn:∀k,Mut b a k->¬H k) (B:∀k,w.heap.size<=k->¬H k) (hs:bD i) {y:Itm} (hy:(cz i x m.st)[m.nx]?=some y) (hk:y.kind=4) {o:Acn} (T:y.a=some o) (U:o.at'.1<o.at'.2) (L:o.at'.2<=i.start.length) (v:N_) {base l:Nat} {g:Option Nat} {s:LSt} (Z:aV w base l g s) (u:∀k,eg l g k->H k) (N:b<base) (Q:a.bg<base) (I:s.recv<s.msgs.length) (J:(aQ s.msgs s.recv).tag=o.tg) (A:(aQ s.msgs s.recv).vals.length=o.at'.2-o.at'.1) (hw:W64 (aQ s.msgs s.recv).vals):Calls prog 204 #[(au b),(au l),.pointer v] w λe p=>e=.returned (RI 0)/\
   Ce H (λk=>k=l) b i x a m (λp m1=>m1={m with G:=iK m.G o.at'.1 (aQ s.msgs s.recv).vals o.add}/\aV p base l g {s with recv:=s.recv+1}) w p:=by
 have O:l≠b:=λe=>hn b (.inl rfl) (u b (.inl e.symm))
 refine (mY h hn B (G:=λk=>k=l) (λk e=>by rw [e];exact Z.blocks.1) hs hy (some (ar l 0)) v 215 (λp=>by rw [hk];kernel_rfl) (λargs w=>by kernel_rfl) (λ_=>False)
  (λp m1=>m1={m with G:=iK m.G o.at'.1 (aQ s.msgs s.recv).vals o.add}/\aV p base l g {s with recv:=s.recv+1}) (λw1 w2 m1 V kk=>⟨V.1,V.2.box kk O N⟩) (λp q=>?_)).mono ?_
 .have Y:=h.below q hn;refine (Ld Y hs.n y o T _ _ rfl rfl U L v (Z.below q) Q I J A).mono ?_;rintro e a0 ⟨he,D,R,hG⟩;exact .inl ⟨he,a,_,Y.setGH hn (D.mono λk _ e=>e.elim (λe=>.inr (u k (.inl e))) .inl) _ hG ⟨by rw [ry];exact h.wG.1,vI h.wG.2 hw⟩,rfl,rfl,D.mono λk _ e=>e.elim .inr (λe=>.inl (.inr (.inr (.inr (.inl e))))),λk hm=>.inl hm,⟨rfl,rfl,rfl⟩,rfl,R⟩
 .rintro e p (⟨he,hd⟩ | ⟨C,_,hF,_⟩)
  .exact ⟨he,hd⟩
  .exact hF.elim
theorem uZ {H:Nat->Prop} {w:R8} {b x:Nat} {i:Inp} {a:MAd} {m:Mst} (h:aU H w b i x a m) (hn:∀k,Mut b a k->¬H k) (A:∀k,w.heap.size<=k->¬H k) (hs:bD i) {y:Itm} (L:(cz i x m.st)[m.nx]?=some y) (hk:y.kind=4) {u:Acn} (I:y.a=some u) (v:N_) {base l:Nat} {g:Option Nat} {s:LSt} (O:aV w base l g s) (D:s.recv=s.msgs.length\/(s.recv<s.msgs.length/\(aQ s.msgs s.recv).tag≠u.tg)):Calls prog 204 #[(au b),(au l),.pointer v] w λe B=>e=.returned (RI (if s.recv=s.msgs.length then 12 else 10))/\aq w B:=by
 refine (mY h hn A (G:=λ_=>False) (λ_ h=>h.elim) hs L (some (ar l 0)) v 215 (λB=>by rw [hk];kernel_rfl) (λargs w=>by kernel_rfl) (λC=>C=if s.recv=s.msgs.length then 12 else 10) (λ_ _=>False) (λ_ _ _ h _=>h) (λB q=>?_)).mono ?_
 .refine (Le y u I (some (ar l 0)) v (if s.recv=s.msgs.length then 12 else 10) (by split<;>decide) (λo N=>?_)).mono ?_
  .have p:=(O.below q).below N;rcases D with e | ⟨e,ne⟩
   .rw [if_pos e];exact wg base l g s u.tg o p e
   .rw [if_neg ap];exact yW base l g s u.tg o p e ne
  .rintro e o ⟨he,k⟩;exact .inr ⟨_,by split<;>decide,rfl,he,k⟩
 .rintro e B (⟨_,_,_,_,_,_,_,_,_,J⟩ | ⟨C,_,Q,he,k⟩)
  .exact J.elim
  .rw [Q] at he;exact ⟨he,k⟩
theorem uH (l:Q_) (k a:Nat):l.take (bdN l.length k a)++cQ l k a=l.take (bdN l.length k (a+1)):=by
 have h:=ky l.length k (show a<=a+1 by omega);have e:bdN l.length k (a+1)=bdN l.length k a+(bdN l.length k (a+1)-bdN l.length k a):=ap
 conv=>rhs;rw [e,List.take_add]
 rfl
theorem DE (i:Inp) (P G:Q_) (l r:R_):dt i P G (l++r)=dt i P (dt i P G l) r:=by simp [dt]
theorem wh (i:Inp) (P G:Q_) (d:R_) (l:Q_) (k:Nat) (hk:0<k):((List.range k).foldl (λg a=>dt i P g (cN d (cQ l k a))) G)=dt i P G (cN d l):=by
 have h:∀m,((List.range m).foldl (λg a=>dt i P g (cN d (cQ l k a))) G)=dt i P G (cN d (l.take (bdN l.length k m))):=by
  intro m
  induction m with
  | zero=>simp [bdN,cN,dt]
  | succ m ih=>
   rw [Rx,List.foldl_append,ih,<-uH];simp only [List.foldl_cons,List.foldl_nil,cN,List.map_append];exact (DE _ _ _ _ _).symm
 rw [h k,tT _ _ hk,Rt]
def ie (i:Inp) (x:Nat) (m:Mst) (y:Itm):Mst:=
 if y.kind=1 then {m with G:=dt i m.P m.G (cN i.data (pL i x y.st y.n))}
 else if y.kind=2 then {m with op:=m.op++[y.n]}
 else if y.kind=5 then
  {m with P:=apP i.cfg.rate i.cfg.mom i.cfg.shift m.P m.M ((m.G.drop (aK (ax i).buks y.n).1).take ((aK (ax i).buks y.n).2-(aK (ax i).buks y.n).1)) (aK (ax i).buks y.n).1 ((aK (ax i).buks y.n).2-(aK (ax i).buks y.n).1),M:=apM i.cfg.mom i.cfg.shift m.M ((m.G.drop (aK (ax i).buks y.n).1).take ((aK (ax i).buks y.n).2-(aK (ax i).buks y.n).1)) (aK (ax i).buks y.n).1 ((aK (ax i).buks y.n).2-(aK (ax i).buks y.n).1),op:=iu m.op y.n}
 else {m with rc:=m.rc++[(m.P,m.M)],G:=List.replicate i.start.length 0}
def PK (m:Mst) (y:Itm):Prop:=(y.kind=1\/y.kind=2\/y.kind=5\/y.kind=6)/\m.op.length<=1000/\(y.kind=5->0<m.op.length)/\(y.kind=6->m.rc.length<=1000)
def bB (n s k:Nat):Nat:=min ((di n s-k)*s) n
theorem DU {n s k:Nat} (hs:1<=s) (hk:k<di n s):aK (qx n s) k=(bB n s (k+1),bB n s k)/\bB n s (k+1)<bB n s k/\bB n s k<=n:=by
 have h1:=iI (n:=n) (size:=s) (k:=di n s-1-k) ap;have h:di n s-(k+1)=di n s-1-k:=ap
 have i:(di n s-k)*s=(di n s-1-k)*s+s:=by
  rw [show di n s-k=(di n s-1-k)+1 by omega,Ry]
 have hl:k<(qx n s).length:=by rw [jq];exact hk
 refine ⟨?_,?_,?_⟩
 .rw [cX _ _ hl];simp only [qx,List.getElem_reverse,fm,fv,List.getElem_map,List.getElem_range,List.length_map,List.length_range];unfold bB;rw [h,i];simp only [Prod.mk.injEq,and_true];omega
 .unfold bB;rw [h,i];omega
 .unfold bB;omega
theorem zl (n s:Nat) (hs:1<=s):bB n s 0=n:=by
 unfold bB di;by_cases h:n=0
 .simp [h]
 .rw [if_neg h,Nat.sub_zero,Ry];have h1:=Nat.div_add_mod (n-1) s;have i:=Nat.mod_lt (n-1) (show 0<s from hs);rw [Nat.mul_comm] at h1;omega
theorem Pn (n s:Nat):bB n s (di n s)=0:=by simp [bB]
theorem IG (a c:Nat):iu (List.range' a (c+1)) a=List.range' (a+1) c:=by
 unfold iu;rw [List.range'_succ,List.filter_cons,if_neg (by simp)]
 exact List.filter_eq_self.2 λj h=>by
  rw [List.mem_range'_1] at h;simp only [RF];omega
theorem Bg {H:Nat->Prop} {w:R8} {b x:Nat} {i:Inp} {a:MAd} {m:Mst} (h:aU H w b i x a m) (hn:∀k,Mut b a k->¬H k) (o:∀k,w.heap.size<=k->¬H k) (hs:bD i) {y:Itm} (B:(cz i x m.st)[m.nx]?=some y) (hk:PK m y) (J: -9223372036854775808<=i.cfg.rate/\i.cfg.rate<=9223372036854775807) (O: -9223372036854775808<=i.cfg.mom/\i.cfg.mom<=9223372036854775807) (u v:N_):Calls prog 204 #[(au b),.pointer u,.pointer v] w λe C=>e=.returned (RI 0)/\Ce H (λ_=>False) b i x a m (λ_ m1=>m1=ie i x m y) w C:=by
 obtain ⟨Y,Q,Z,k6⟩:=hk;obtain ⟨h1,U⟩:=du B;have L:=zg B;have I:=hs.ok;rcases Y with k | k | k | k
 .refine (Ln h hn o hs B k u v).mono λe C q=>?_
  have p:ie i x m y={m with G:=dt i m.P m.G (cN i.data (pL i x m.st y.n))}:=by
   unfold ie;rw [if_pos k,L]
  rw [p];exact q
 .refine (Dr h hn o hs B k Q u v).mono λe C q=>?_
  have p:ie i x m y={m with op:=m.op++[y.n]}:=by
   unfold ie;rw [if_neg ap,if_pos k]
  rw [p];exact q
 .obtain ⟨g,hg,g1,g2⟩:=xO U (.inr k);obtain ⟨j,R,rfl⟩:=List.getElem_of_mem hg;have N:=I.grp R;rw [cX _ _ R] at N;have D:y.n<(ax i).buks.length:=ap;have A:=D;rw [Pln.buks,jq] at A;obtain ⟨T,b2,V⟩:=DU I.bu A;have hr:aK (ax i).buks y.n=(bB (ax i).n (ax i).bu (y.n+1),bB (ax i).n (ax i).bu y.n):=T;refine (NA h hn o hs B k u v D (Z k) Q J O _ _ hr b2 V).mono λe C q=>?_;have p:=ie.eq_1 i x m y;rw [if_neg ap,if_neg ap,if_pos k,hr] at p;rw [p];exact q
 .refine (Dq h hn o hs B k (k6 k) u v).mono λe C q=>?_
  have p:ie i x m y={m with rc:=m.rc++[(m.P,m.M)],G:=List.replicate i.start.length 0}:=by
   unfold ie;rw [if_neg ap,if_neg ap,if_neg ap]
  rw [p];exact q
theorem Cm (i:Inp) (n:Nat):qK i (n+1)=qK i n++[eE i n]:=by
 unfold qK;rw [Rx,List.map_append];rfl
theorem vi {p:Pln} {x st:Nat} {y:Itm} (h:y∈aE p x st):(y.a=none/\y.kind≠3/\y.kind≠4)\/∃a,y.a=some a/\y.kind=(if a.send then 3 else 4):=by
 unfold aE at h;simp only [Rw,List.mem_map,List.mem_flatMap,List.mem_singleton] at h;rcases h with (⟨_,_,rfl⟩ | ⟨g,_,h⟩) | rfl
 .exact .inl ⟨rfl,(λe=>by cases e),(λe=>by cases e)⟩
 .unfold dx at h;simp only [Rw,List.mem_map,List.mem_flatMap] at h;rcases h with (⟨_,_,rfl⟩ | ⟨_,_,_,_,_,_,h⟩) | ⟨_,_,rfl⟩
  .exact .inl ⟨rfl,(λe=>by cases e),(λe=>by cases e)⟩
  .unfold cq at h;obtain ⟨c,_,rfl⟩:=List.mem_map.1 h;exact .inr ⟨c,rfl,rfl⟩
  .exact .inl ⟨rfl,(λe=>by cases e),(λe=>by cases e)⟩
 .exact .inl ⟨rfl,(λe=>by cases e),(λe=>by cases e)⟩
theorem ou {i:Inp} {x k:Nat} {y:Itm} (h:y∈iL i x k):(y.a=none/\y.kind≠3/\y.kind≠4)\/∃a,y.a=some a/\y.kind=(if a.send then 3 else 4):=by
 unfold iL at h;obtain ⟨st,_,h⟩:=List.mem_flatMap.1 h;exact vi h
def sN (i:Inp) (x p:Nat):Nat:=(fP ((dC i x).take p)).length
def rN (i:Inp) (x p:Nat):Nat:=(gw ((dC i x).take p)).length
def nxW (W x:Nat):Nat:=(x+1)%W
def pvW (W x:Nat):Nat:=(x+W-1)%W
theorem sY {W x:Nat} (h:x<W):nxW W (pvW W x)=x:=by
 unfold nxW pvW;rw [Nat.mod_add_mod,show x+W-1+1=x+W by omega,Nat.add_mod_right,Nat.mod_eq_of_lt h]
theorem KR {W x:Nat} (h:0<W):nxW W x<W:=Nat.mod_lt _ h
theorem lO {W x:Nat} (h:0<W):pvW W x<W:=Nat.mod_lt _ h
def can (i:Inp) (C:Nat) (pos:Nat->Nat) (x:Nat):Prop:=∃y,(dC i x)[pos x]?=some y/\(y.kind=3->sN i x (pos x)<rN i (nxW (ax i).W x) (pos (nxW (ax i).W x))+C)/\(y.kind=4->rN i x (pos x)<sN i (pvW (ax i).W x) (pos (pvW (ax i).W x)))
theorem wU {l:List Itm} {n:Nat} {c:Cor} (h:(fP l)[n]?=some c):∃a∈cB l,a.send=true/\a.cor=c:=by
 have:=List.mem_of_getElem? h;simp only [fP,List.mem_map,List.mem_filter] at this;obtain ⟨a,⟨h1,i⟩,o⟩:=this;exact ⟨a,h1,i,o⟩
theorem xk {l:List Itm} {n:Nat} {c:Cor} (h:(gw l)[n]?=some c):∃a∈cB l,a.send=false/\a.cor=c:=by
 have:=List.mem_of_getElem? h;simp only [gw,List.mem_map,List.mem_filter] at this;obtain ⟨a,⟨h1,i⟩,o⟩:=this;exact ⟨a,h1,by simpa using i,o⟩
theorem gK (l:List Itm) (k:Nat):l=l.take k++l.drop k:=(List.take_append_drop k l).symm
theorem zb {wi:Nat} {l:List Itm} {k:Nat} (o:(cB l).Pairwise λa b=>a.key wi<b.key wi) {r:Acn} (hr:r∈cB (l.drop k)):∃y,l[k]?=some y/\∀a,y.a=some a->a.key wi<=r.key wi:=by
 cases hd:l.drop k with
 | nil=>rw [hd] at hr;simp [cB] at hr
 | cons y t=>
  refine ⟨y,?_,λa p=>?_⟩
  .have:=List.getElem?_drop (xs:=l) (i:=k) (j:=0);rw [hd,Nat.add_zero] at this;exact this.symm
  .rw [gK l k,fp,List.pairwise_append] at o;have h:=o.2.1;rw [hd] at h hr;have e:cB (y::t)=a::cB t:=by unfold cB;rw [List.filterMap_cons,p]
   rw [e] at h hr;rcases List.mem_cons.1 hr with rfl | u
   .exact Qx _
   .exact Nat.le_of_lt ((List.pairwise_cons.1 h).1 r u)
theorem qz {wi:Nat} {l:List Itm} {k:Nat} (h:(cB l).Pairwise λa b=>a.key wi<b.key wi) {y:Itm} {a s:Acn} (p:l[k]?=some y) (o:y.a=some a) (hs:s∈cB (l.take k)):s.key wi<a.key wi:=by
 rw [gK l k,fp,List.pairwise_append] at h;refine h.2.2 s hs a ?_;unfold cB;rw [List.mem_filterMap];refine ⟨y,?_,o⟩;have:=List.getElem?_drop (xs:=l) (i:=k) (j:=0);rw [Nat.add_zero,p] at this;exact List.mem_of_getElem? this
theorem ux {l:List Itm} {k:Nat} {y:Itm} {a:Acn} (p:l[k]?=some y) (h:y.a=some a) (hs:a.send=false):(gw l)[(gw (l.take k)).length]?=some a.cor:=by
 have o:l.drop k=y::l.drop (k+1):=by
  obtain ⟨h1,i⟩:=Ri.1 p;rw [List.drop_eq_getElem_cons h1,i]
 conv=>lhs;rw [gK l k,rS]
 rw [Rl (by simp),List.take_append_drop,Nat.sub_self,o];unfold gw cB;rw [List.filterMap_cons,h];simp [hs]
theorem zP {l:List Itm} {k:Nat} {y:Itm} {a:Acn} (p:l[k]?=some y) (h:y.a=some a) (hs:a.send=true):(fP l)[(fP (l.take k)).length]?=some a.cor:=by
 have o:l.drop k=y::l.drop (k+1):=by
  obtain ⟨h1,i⟩:=Ri.1 p;rw [List.drop_eq_getElem_cons h1,i]
 conv=>lhs;rw [gK l k,oT]
 rw [Rl (by simp),List.take_append_drop,Nat.sub_self,o];unfold fP cB;rw [List.filterMap_cons,h];simp [hs]
theorem NE {i:Inp} (U:bT (ax i)) {C:Nat} (hC:1<=C) (pos:Nat->Nat):∀n x,x<(ax i).W->∀y a,(dC i x)[pos x]?=some y->y.a=some a->a.key (ax i).wi=n->∃z,z<(ax i).W/\can i C pos z:=by
 intro n
 induction n using Nat.strongRecOn with
 | _ n ih=>
  intro x hx y a R V hn;by_cases u:can i C pos x
  .exact ⟨x,hx,u⟩
  have hW:0<(ax i).W:=U.W1
  have D:∀z,z<(ax i).W->∀B,(dC i z)[pos z]?=some B->(∀A,B.a=some A->A.key (ax i).wi<n)->∃z,z<(ax i).W/\can i C pos z:=λz H B o hk=>by
   rcases ou (List.mem_of_getElem? o) with ⟨_,h3,h4⟩ | ⟨A,p,_⟩
   .exact ⟨z,H,B,o,λe=>absurd e h3,λe=>absurd e h4⟩
   .exact ih _ (hk A p) z H B A o p rfl
  rcases ou (List.mem_of_getElem? R) with ⟨h0,_⟩ | ⟨a2,T,hk⟩
  .rw [V] at h0;cases h0
  rw [V] at T;obtain rfl:a=a2:=Option.some.inj T
  cases hs:a.send with
  | true=>
   rw [hs,if_pos rfl] at hk
   have hb:rN i (nxW (ax i).W x) (pos (nxW (ax i).W x))+C<=sN i x (pos x):=by
    rcases QO (sN i x (pos x)) (rN i (nxW (ax i).W x) (pos (nxW (ax i).W x))+C) with h | h
    .exact absurd ⟨y,R,λ_=>h,λe=>ap⟩ u
    .exact h
   have H:=KR (W:=(ax i).W) (x:=x) hW;generalize hzz:nxW (ax i).W x=z at hb H;have O:rN i z (pos z)<(fP ((dC i x).take (pos x))).length:=by unfold sN at hb;omega
   obtain ⟨c,hc⟩:∃c,(fP ((dC i x).take (pos x)))[rN i z (pos z)]?=some c:=⟨_,Rj O⟩;obtain ⟨s,J,L,I⟩:=wU hc;have a1:=qz (zt U x _) R V J
   have hr:(gw (dC i z))[rN i z (pos z)]?=some c:=by
    rw [<-hzz]
    show (gw (iL i ((x+1)%(ax i).W) i.cfg.steps.toNat))[_]?=_
    rw [<-nQ,gK (iL i x i.cfg.steps.toNat) (pos x),oT,hzz,Rk O];exact hc
   have v:(gw ((dC i z).drop (pos z)))[0]?=some c:=by
    rw [gK (dC i z) (pos z),rS,Rl (by unfold rN;simp)] at hr;simpa [rN] using hr
   obtain ⟨r,a0,Y,Z⟩:=xk v;obtain ⟨B,o,N⟩:=zb (zt U z _) a0;refine D z H B o λA p=>?_;have h1:=N A p;have h2:r.key (ax i).wi=2*c.q (ax i).wi+1:=by unfold Acn.key;rw [Z,Y];rfl
   have h3:s.key (ax i).wi=2*c.q (ax i).wi:=by unfold Acn.key;rw [I,L];rfl
   have h4:a.key (ax i).wi=2*a.cor.q (ax i).wi:=by unfold Acn.key;rw [hs];rfl
   omega
  | false=>
   rw [hs] at hk;have a3:y.kind=4:=hk
   have hb:sN i (pvW (ax i).W x) (pos (pvW (ax i).W x))<=rN i x (pos x):=by
    rcases QO (rN i x (pos x)) (sN i (pvW (ax i).W x) (pos (pvW (ax i).W x))) with h | h
    .exact absurd ⟨y,R,λe=>ap,λ_=>h⟩ u
    .exact h
   have H:=lO (W:=(ax i).W) (x:=x) hW;have Q:=sY hx;generalize pvW (ax i).W x=z at hb H Q;have hr:=ux R V hs
   have v:(fP (dC i z))[rN i x (pos x)]?=some a.cor:=by
    show (fP (iL i z i.cfg.steps.toNat))[_]?=_
    rw [nQ,show (z+1)%(ax i).W=x from Q];exact hr
   rw [gK (dC i z) (pos z),oT,Rl hb] at v;obtain ⟨s,J,L,I⟩:=wU v;obtain ⟨B,o,N⟩:=zb (zt U z _) J;refine D z H B o λA p=>?_;have h1:=N A p;have h2:s.key (ax i).wi=2*a.cor.q (ax i).wi:=by unfold Acn.key;rw [I,L];rfl
   have h3:a.key (ax i).wi=2*a.cor.q (ax i).wi+1:=by unfold Acn.key;rw [hs];rfl
   omega
theorem Qv {i:Inp} (p:bT (ax i)) {C:Nat} (u:1<=C) (pos:Nat->Nat) {x:Nat} (o:x<(ax i).W) (hl:pos x<(dC i x).length):∃z,z<(ax i).W/\can i C pos z:=by
 have h:=Rj hl;rcases ou (List.mem_of_getElem? h) with ⟨_,A,y⟩ | ⟨a,v,_⟩
 .exact ⟨x,o,_,h,λe=>absurd e A,λe=>absurd e y⟩
 .exact NE p u pos _ x o _ a h v rfl
def opF (s:Nat×Nat) (y:Itm):Nat×Nat:=if y.kind=2 then (s.1,s.2+1) else if y.kind=5 then (s.1+1,s.2) else s
def rh (wi nb:Nat):Nat×Nat->List Itm->Prop
 | _,[]=>True
 | s,y::r=>(y.kind=2->y.n=s.2/\s.2<nb/\s.2+1<=s.1+wi)/\(y.kind=5->y.n=s.1/\s.1<s.2)/\rh wi nb (opF s y) r
theorem mg (wi nb:Nat):∀(l r:List Itm) (s:Nat×Nat),rh wi nb s (l++r)↔rh wi nb s l/\rh wi nb (l.foldl opF s) r
 | [],r,s=>by simp [rh]
 | y::l,r,s=>by
  have:=mg wi nb l r (opF s y);simp only [List.cons_append,rh,List.foldl_cons,this,and_assoc]
theorem qZ {wi nb:Nat}:∀{l:List Itm} {s:Nat×Nat} {k:Nat} {y:Itm},rh wi nb s l->l[k]?=some y->(y.kind=2->y.n=((l.take k).foldl opF s).2/\((l.take k).foldl opF s).2<nb/\((l.take k).foldl opF s).2+1<=((l.take k).foldl opF s).1+wi)/\(y.kind=5->y.n=((l.take k).foldl opF s).1/\((l.take k).foldl opF s).1<((l.take k).foldl opF s).2)
 | [],_,_,_,_,h=>by simp at h
 | z::l,s,0,y,hr,h=>by
  simp only [Rc,Option.some.injEq] at h;subst h;exact ⟨hr.1,hr.2.1⟩
 | z::l,s,k+1,y,hr,h=>by
  rw [Ra] at h;exact qZ (l:=l) hr.2.2 h
theorem AN {wi nb:Nat}:∀{l:List Itm} {s:Nat×Nat},rh wi nb s l->s.1<=s.2->s.2<=nb->s.2<=s.1+wi->∀k,((l.take k).foldl opF s).1<=((l.take k).foldl opF s).2/\((l.take k).foldl opF s).2<=nb/\((l.take k).foldl opF s).2<=((l.take k).foldl opF s).1+wi
 | [],s,_,h1,h2,h3,k=>by simpa using ⟨h1,h2,h3⟩
 | y::l,s,h,h1,h2,h3,0=>⟨h1,h2,h3⟩
 | y::l,s,h,h1,h2,h3,k+1=>by
  have hk:(opF s y).1<=(opF s y).2/\(opF s y).2<=nb/\(opF s y).2<=(opF s y).1+wi:=by
   unfold opF;by_cases i:y.kind=2
   .rw [if_pos i];have:=h.1 i;exact ⟨by omega,by omega,by omega⟩
   .rw [if_neg i];by_cases o:y.kind=5
    .rw [if_pos o];have:=h.2.1 o;exact ⟨by omega,h2,by omega⟩
    .rw [if_neg o];exact ⟨h1,h2,h3⟩
  exact AN h.2.2 hk.1 hk.2.1 hk.2.2 k
theorem qY {wi nb:Nat}:∀{l:List Itm} (s:Nat×Nat),(∀y∈l,y.kind≠2/\y.kind≠5)->rh wi nb s l/\l.foldl opF s=s
 | [],s,_=>⟨trivial,rfl⟩
 | y::l,s,h=>by
  have i:=h y (by simp);have e:opF s y=s:=by unfold opF;rw [if_neg i.1,if_neg i.2]
  have o:=qY (wi:=wi) (nb:=nb) (l:=l) s λz p=>h z (by simp [p]);refine ⟨⟨λk=>absurd k i.1,λk=>absurd k i.2,?_⟩,?_⟩
  .rw [e];exact o.1
  .rw [List.foldl_cons,e];exact o.2
theorem rW {wi nb:Nat} (st u:Nat):∀(k l:Nat),l+k<=nb->l+k<=u+wi->rh wi nb (u,l) ((List.range' l k).map λj=>(⟨2,st,j,none⟩:Itm))/\((List.range' l k).map λj=>(⟨2,st,j,none⟩:Itm)).foldl opF (u,l)=(u,l+k)
 | 0,l,_,_=>⟨trivial,rfl⟩
 | k+1,l,h1,h2=>by
  rw [List.range'_succ,List.map_cons];have h:=rW (wi:=wi) (nb:=nb) st u k (l+1) ap ap;refine ⟨⟨λ_=>⟨rfl,by show l<nb;omega,by show l+1<=u+wi;omega⟩,λi=>(by cases i),h.1⟩,?_⟩;rw [List.foldl_cons]
  show List.foldl opF (u,l+1) _=_
  rw [h.2]
  congr 1;omega
theorem xC {wi nb:Nat} (st l:Nat):∀(k u:Nat),u+k<=l->rh wi nb (u,l) ((List.range' u k).map λj=>(⟨5,st,j,none⟩:Itm))/\((List.range' u k).map λj=>(⟨5,st,j,none⟩:Itm)).foldl opF (u,l)=(u+k,l)
 | 0,u,_=>⟨trivial,rfl⟩
 | k+1,u,h1=>by
  rw [List.range'_succ,List.map_cons];have h:=xC (wi:=wi) (nb:=nb) st l k (u+1) ap;refine ⟨⟨λi=>(by cases i),λ_=>⟨rfl,by show u<l;omega⟩,h.1⟩,?_⟩;rw [List.foldl_cons]
  show List.foldl opF (u+1,l) _=_
  rw [h.2]
  congr 1;omega
theorem KN {p:Pln} (x st:Nat) (g:Rg) (h1:g.1<=g.2) (v:g.2<=p.buks.length) (A:g.2<=g.1+p.wi):rh p.wi p.buks.length (g.1,g.1) (dx p x st g)/\(dx p x st g).foldl opF (g.1,g.1)=(g.2,g.2):=by
 have a1:=rW (wi:=p.wi) (nb:=p.buks.length) st g.1 (g.2-g.1) g.1 ap ap;have u:g.1+(g.2-g.1)=g.2:=ap;rw [u] at a1
 have i:=qY (wi:=p.wi) (nb:=p.buks.length) (l:=(List.range 2).flatMap λph=>(List.range (p.W-1)).flatMap λr=>(List.range' g.1 (g.2-g.1)).flatMap λj=>cq p x st ph r j) (g.1,g.2) (λy h=>by
  simp only [List.mem_flatMap] at h;obtain ⟨_,_,_,_,_,_,h⟩:=h;unfold cq at h;obtain ⟨c,_,rfl⟩:=List.mem_map.1 h;unfold fD
  split<;>exact ⟨λe=>(by cases e),λe=>(by cases e)⟩)
 have o:=xC (wi:=p.wi) (nb:=p.buks.length) st g.2 (g.2-g.1) g.1 ap;rw [u] at o;unfold dx;refine ⟨?_,?_⟩
 .rw [mg,mg,List.foldl_append,a1.2,i.2];exact ⟨⟨a1.1,i.1⟩,o.1⟩
 .rw [List.foldl_append,List.foldl_append,a1.2,i.2,o.2]
theorem rX {p:Pln} (i:bT p) (x st:Nat):∀k,k<=di p.buks.length p.wi->rh p.wi p.buks.length (0,0) (((List.range k).map λj=>((j*p.wi,min (j*p.wi+p.wi) p.buks.length):Rg)).flatMap (dx p x st))/\(((List.range k).map λj=>((j*p.wi,min (j*p.wi+p.wi) p.buks.length):Rg)).flatMap (dx p x st)).foldl opF (0,0)=(min (k*p.wi) p.buks.length,min (k*p.wi) p.buks.length)
 | 0,_=>⟨trivial,by simp⟩
 | k+1,hk=>by
  have h:=rX i x st k ap;have u:=iI (n:=p.buks.length) (size:=p.wi) (k:=k) ap;have o:min (k*p.wi) p.buks.length=k*p.wi:=ap;have hg:=KN (p:=p) x st (k*p.wi,min (k*p.wi+p.wi) p.buks.length) (by show k*p.wi<=_;omega) (by show min _ _<=_;omega) (by show min _ _<=_;omega);rw [Rx,List.map_append,List.flatMap_append,mg,List.foldl_append,h.2,o];simp only [List.map_cons,List.map_nil,List.flatMap_cons,List.flatMap_nil,List.append_nil];rw [Ry];exact ⟨⟨h.1,hg.1⟩,hg.2⟩
theorem me {p:Pln} (o:bT p) (x st:Nat):rh p.wi p.buks.length (0,0) (aE p x st)/\(aE p x st).foldl opF (0,0)=(p.buks.length,p.buks.length):=by
 have a1:=qY (wi:=p.wi) (nb:=p.buks.length) (l:=(List.range p.mi).map λa=>(⟨1,st,a,none⟩:Itm)) (0,0) (λy i=>by obtain ⟨_,_,rfl⟩:=List.mem_map.1 i;exact ⟨λe=>(by cases e),λe=>(by cases e)⟩);have h:=rX o x st _ (Qx _)
 have A:min (di p.buks.length p.wi*p.wi) p.buks.length=p.buks.length:=by
  have:=zl p.buks.length p.wi o.wi;unfold bB at this
  rwa [Nat.sub_zero] at this
 rw [A] at h;have u:=qY (wi:=p.wi) (nb:=p.buks.length) (l:=[(⟨6,st,0,none⟩:Itm)]) (p.buks.length,p.buks.length) (λy i=>by rw [List.mem_singleton.1 i];exact ⟨λe=>(by cases e),λe=>(by cases e)⟩);have v:p.grps=(List.range (di p.buks.length p.wi)).map λj=>((j*p.wi,min (j*p.wi+p.wi) p.buks.length):Rg):=rfl;unfold aE;rw [v];refine ⟨?_,?_⟩
 .rw [mg,mg,List.foldl_append,a1.2,h.2];exact ⟨⟨a1.1,h.1⟩,u.1⟩
 .rw [List.foldl_append,List.foldl_append,a1.2,h.2];exact u.2
def opP (p:Pln) (x st nx:Nat):Nat×Nat:=((aE p x st).take nx).foldl opF (0,0)
theorem tE {p:Pln} (h:bT p) (x st nx:Nat):(opP p x st nx).1<=(opP p x st nx).2/\(opP p x st nx).2<=p.buks.length/\(opP p x st nx).2<=(opP p x st nx).1+p.wi:=
 AN (me h x st).1 (Qx _) (QB _) (QB _) nx
theorem jl {p:Pln} {x st nx:Nat} {y:Itm} (h:(aE p x st)[nx]?=some y):opP p x st (nx+1)=opF (opP p x st nx) y:=by
 unfold opP;rw [List.take_add_one,h,List.foldl_append];rfl
theorem EB {p:Pln} (i:bT p) {x st nx:Nat} (h:(aE p x st).length<=nx):opP p x st nx=(p.buks.length,p.buks.length):=by
 unfold opP;rw [List.take_of_length_le h];exact (me i x st).2
def opL (p:Pln) (x st nx:Nat):List Nat:=List.range' (opP p x st nx).1 ((opP p x st nx).2-(opP p x st nx).1)
theorem yQ {p:Pln} (h:bT p) (x st nx:Nat):(opL p x st nx).length<=p.wi/\(opL p x st nx).length<=p.buks.length:=by
 have:=tE h x st nx;unfold opL;rw [List.length_range'];omega
theorem sj {p:Pln} (u:bT p) {x st nx:Nat} {y:Itm} (i:(aE p x st)[nx]?=some y):(y.kind=6↔nx+1=(aE p x st).length):=by
 have hn:=(Ri.1 i).1;have e:aE p x st=((List.range p.mi).map (λa=>(⟨1,st,a,none⟩:Itm))++p.grps.flatMap (dx p x st))++[⟨6,st,0,none⟩]:=rfl;generalize hf:(List.range p.mi).map (λa=>(⟨1,st,a,none⟩:Itm))++p.grps.flatMap (dx p x st)=front at e;have hl:(aE p x st).length=front.length+1:=by rw [e];simp
 rcases QO nx front.length with h | h
 .have hm:y∈front:=by
   rw [e,Rk h] at i;exact List.mem_of_getElem? i
  have hk:y.kind≠6:=by
   rw [<-hf] at hm;rcases Rw.1 hm with hm | hm
   .obtain ⟨_,_,rfl⟩:=List.mem_map.1 hm;exact λe=>by cases e
   .obtain ⟨g,_,hm⟩:=List.mem_flatMap.1 hm;unfold dx at hm;simp only [Rw,List.mem_map,List.mem_flatMap] at hm;rcases hm with (⟨_,_,rfl⟩ | ⟨_,_,_,_,_,_,hm⟩) | ⟨_,_,rfl⟩
    .exact λe=>by cases e
    .unfold cq at hm;obtain ⟨c,_,rfl⟩:=List.mem_map.1 hm;unfold fD
     split<;>exact λe=>by cases e
    .exact λe=>by cases e
  exact ⟨λe=>absurd e hk,λe=>ap⟩
 .have o:nx=front.length:=ap;subst o;rw [e] at i;simp at i;subst i;exact ⟨λ_=>hl.symm,λ_=>rfl⟩
theorem jn {p:Pln} {x st:Nat} {y:Itm} (h:y∈aE p x st) (hn:y.a=none):y.kind=1\/y.kind=2\/y.kind=5\/y.kind=6:=by
 unfold aE at h;simp only [Rw,List.mem_map,List.mem_flatMap,List.mem_singleton] at h;rcases h with (⟨_,_,rfl⟩ | ⟨g,_,h⟩) | rfl
 .exact .inl rfl
 .unfold dx at h;simp only [Rw,List.mem_map,List.mem_flatMap] at h;rcases h with (⟨_,_,rfl⟩ | ⟨_,_,_,_,_,_,h⟩) | ⟨_,_,rfl⟩
  .exact .inr (.inl rfl)
  .unfold cq at h;obtain ⟨c,_,rfl⟩:=List.mem_map.1 h
   cases hn
  .exact .inr (.inr (.inl rfl))
 .exact .inr (.inr (.inr rfl))
structure MOk (i:Inp) (x:Nat) (m:Mst):Prop where
 op:m.op=opL (ax i) x m.st m.nx
 rc:m.rc.length=m.st+1
 rl:∀y∈m.rc,y.1.length=i.start.length/\y.2.length=i.start.length
 lP:m.P.length=i.start.length
 lM:m.M.length=i.start.length
 lG:m.G.length=i.start.length
 ps:(m.st<i.cfg.steps.toNat/\m.nx<(aE (ax i) x 0).length)\/(m.st=i.cfg.steps.toNat/\m.nx=0)
theorem MOk.zero {i:Inp} (x:Nat):MOk i x (fu i):=by
 refine ⟨rfl,rfl,λy o=>?_,rfl,by simp [fu],by simp [fu],?_⟩
 .simp only [fu,List.mem_singleton] at o;subst o;exact ⟨rfl,by simp⟩
 .by_cases h:0<i.cfg.steps.toNat
  .exact .inl ⟨h,jU _ _ _⟩
  .exact .inr ⟨by show 0=_;omega,rfl⟩
theorem MOk.done {i:Inp} (hs:bD i) {x:Nat} {m:Mst} (h:MOk i x m):bF i x m<=(dC i x).length:=by
 rw [ot hs.ok];unfold bF;rcases h.ps with ⟨h1,o⟩ | ⟨h1,o⟩
 .have:=RH (aE (ax i) x 0).length (Nat.succ_le_of_lt h1);rw [Ry] at this;omega
 .rw [h1,o];omega
theorem MOk.cur {i:Inp} (hs:bD i) {x:Nat} {m:Mst} (h:MOk i x m):(cz i x m.st)[m.nx]?=(dC i x)[bF i x m]?:=by
 rcases h.ps with ⟨h1,o⟩ | ⟨h1,o⟩
 .have p:=Rj (l:=aE (ax i) x m.st) (i:=m.nx) (by rw [kp hs.ok];exact o);have:=Fh hs.ok p h1;unfold cz bF;rw [if_pos h1,this,p]
 .unfold cz bF;rw [if_neg ap,List.getElem?_nil,List.getElem?_eq_none (by rw [ot hs.ok,h1];omega)]
theorem MOk.okAt {i:Inp} (hs:bD i) {x:Nat} {m:Mst} (h:MOk i x m) {y:Itm} (o:(cz i x m.st)[m.nx]?=some y) (hn:y.a=none):PK m y:=by
 obtain ⟨h1,v⟩:=du o;have hc:cz i x m.st=aE (ax i) x m.st:=if_pos h1;rw [hc] at o;have u:=qZ (me hs.ok x m.st).1 o;have B:=(yQ hs.ok x m.st m.nx).2;have A:=hs.ok.buks;have p:=hs.s;refine ⟨jn v hn,by rw [h.op];omega,λC=>?_,λ_=>by rw [h.rc];omega⟩;rw [h.op];have:=(u.2 C).2;unfold opL;rw [List.length_range']
 show 0<(opP (ax i) x m.st m.nx).2-(opP (ax i) x m.st m.nx).1
 unfold opP;omega
theorem MOk.next {i:Inp} (hs:bD i) {x:Nat} {m m1:Mst} (h:MOk i x m) {y:Itm} (A:(cz i x m.st)[m.nx]?=some y) (h1:m1.st=m.st) (R:m1.nx=m.nx) (hP:m1.P.length=i.start.length) (O:m1.M.length=i.start.length) (Q:m1.G.length=i.start.length) (I:m1.op=if y.kind=2 then m.op++[y.n] else if y.kind=5 then iu m.op y.n else m.op) (v:m1.rc=if y.kind=6 then m.rc++[(m.P,m.M)] else m.rc):MOk i x (adv i x m1):=by
 obtain ⟨g1,Y⟩:=du A;have hc:cz i x m.st=aE (ax i) x m.st:=if_pos g1;rw [hc] at A;have N:=qZ (me hs.ok x m.st).1 A;have Z:=tE hs.ok x m.st m.nx;have L:=jl A;have V:=kp hs.ok x m.st;have u:=sj hs.ok A;have U:=(Ri.1 A).1
 have D:m1.op=opL (ax i) x m.st (m.nx+1):=by
  rw [I,h.op];unfold opL;rw [L];unfold opF;change (y.kind=2->y.n=(opP (ax i) x m.st m.nx).2/\(opP (ax i) x m.st m.nx).2<_/\_)/\(y.kind=5->y.n=(opP (ax i) x m.st m.nx).1/\(opP (ax i) x m.st m.nx).1<(opP (ax i) x m.st m.nx).2) at N;by_cases H:y.kind=2
  .rw [if_pos H,if_pos H];have:=(N.1 H).1
   show _=List.range' (opP (ax i) x m.st m.nx).1 ((opP (ax i) x m.st m.nx).2+1-(opP (ax i) x m.st m.nx).1)
   rw [show (opP (ax i) x m.st m.nx).2+1-(opP (ax i) x m.st m.nx).1=((opP (ax i) x m.st m.nx).2-(opP (ax i) x m.st m.nx).1)+1 by omega,List.range'_concat,this]
   congr 2
   omega
  .rw [if_neg H,if_neg H];by_cases B:y.kind=5
   .rw [if_pos B,if_pos B];have T:=N.2 B;rw [T.1]
    show _=List.range' ((opP (ax i) x m.st m.nx).1+1) ((opP (ax i) x m.st m.nx).2-((opP (ax i) x m.st m.nx).1+1))
    rw [show (opP (ax i) x m.st m.nx).2-(opP (ax i) x m.st m.nx).1=((opP (ax i) x m.st m.nx).2-((opP (ax i) x m.st m.nx).1+1))+1 by omega,IG]
   .rw [if_neg B,if_neg B]
 have p:∀z∈m1.rc,z.1.length=i.start.length/\z.2.length=i.start.length:=by
  rw [v]
  split
  .intro z C;rcases Rw.1 C with C | C
   .exact h.rl z C
   .rw [List.mem_singleton.1 C];exact ⟨h.lP,h.lM⟩
  .exact h.rl
 unfold adv;rw [R,h1,hc];by_cases o:m.nx+1<(aE (ax i) x m.st).length
 .rw [if_pos o];refine ⟨by show m1.op=opL _ _ m.st (m.nx+1);exact D,?_,p,hP,O,Q,.inl ⟨by show m.st<_;omega,by show m.nx+1<_;omega⟩⟩
  show m1.rc.length=m.st+1
  rw [v,if_neg (λe=>by have:=u.1 e;omega)];exact h.rc
 .rw [if_neg o];have hl:m.nx+1=(aE (ax i) x m.st).length:=ap;refine ⟨?_,?_,p,hP,O,Q,?_⟩
  .show m1.op=opL _ _ (m.st+1) 0
   rw [D];unfold opL;rw [EB hs.ok (Nat.le_of_eq hl.symm),Nat.sub_self];rfl
  .show m1.rc.length=m.st+1+1
   rw [v,if_pos (u.2 hl),Rh,h.rc];rfl
  .by_cases J:m.st+1<i.cfg.steps.toNat
   .exact .inl ⟨J,jU _ _ _⟩
   .exact .inr ⟨by show m.st+1=_;omega,rfl⟩
theorem Ah {l:List Rg} {j:Nat} (h:l.length<=j):aK l j=(0,0):=by simp [aK,List.getD,h]
theorem Pi {s:Rg} {c:Nat} (hc:1<=c):∀r∈chR s c,s.1<=r.1/\r.1<r.2/\(s.1<=s.2->r.2<=s.2):=by
 intro r hr;simp only [chR,shR,fv,List.map_map,List.mem_map,List.mem_range,Function.comp] at hr;obtain ⟨j,i,rfl⟩:=hr;have:=iI i;refine ⟨by simp only;omega,by simp only;omega,λh=>by simp only;omega⟩
def OE (p:Pln) (x:Nat) (t:Tg):Rg:=aK (chR (aK (dz (aK p.buks t.b.toNat) p.W) (cE p.W x t.c.toNat t.d.toNat)) p.ck) t.e.toNat
theorem xd {st bk:Nat} {b:Rg} {W c x ph r:Nat} {a:Acn} (h:a∈cZ st bk b W c x ph r):
  ∃i,a.at'=aK (chR (aK (dz b W) i) c) a.ch/\a.ch<(chR (aK (dz b W) i) c).length/\(a.send=false->i=cE W x ph r):=by
 unfold cZ iR at h;obtain ⟨k,hk,h⟩:=List.mem_flatMap.1 h;rw [Rw] at h;rcases h with h | h<;>split at h
 .rename_i hl
  simp only [List.mem_singleton] at h;subst h;exact ⟨cT W x ph r,rfl,hl,λe=>by cases e⟩
 .simp at h
 .rename_i hl
  simp only [List.mem_singleton] at h;subst h;exact ⟨cE W x ph r,rfl,hl,λ_=>rfl⟩
 .simp at h
theorem iW {p:Pln} {x st:Nat} {y:Itm} (h:y∈aE p x st) {a:Acn} (i:y.a=some a):y.kind=(if a.send then 3 else 4)/\a.st=st/\a∈cZ st a.bk (aK p.buks a.bk) p.W p.ck x a.ph a.rd:=by
 unfold aE at h;simp only [Rw,List.mem_map,List.mem_flatMap,List.mem_singleton] at h;rcases h with (⟨_,_,rfl⟩ | ⟨g,_,h⟩) | rfl
 .cases i
 .unfold dx at h;simp only [Rw,List.mem_map,List.mem_flatMap] at h;rcases h with (⟨_,_,rfl⟩ | ⟨ph,_,r,_,j,_,h⟩) | ⟨_,_,rfl⟩
  .cases i
  .unfold cq at h;obtain ⟨c,hc,rfl⟩:=List.mem_map.1 h;simp only [fD,Option.some.injEq] at i;subst i;obtain ⟨o,A,u,v,_⟩:=lZ hc;refine ⟨rfl,o,?_⟩;rw [A,u,v];exact hc
  .cases i
 .cases i
theorem zv {p:Pln} (u:bT p) {x st:Nat} {y:Itm} (h:y∈aE p x st) {a:Acn} (B:y.a=some a):a.at'.1<a.at'.2/\a.at'.2<=p.n:=by
 obtain ⟨_,_,C⟩:=iW h B;obtain ⟨o,A,v,_⟩:=xd C;have hm:=List.getElem_mem v;rw [<-cX _ _ v,<-A] at hm;have hc:=Pi u.ck _ hm
 have hb:(aK p.buks a.bk).1<=(aK p.buks a.bk).2/\(aK p.buks a.bk).2<=p.n:=by
  rcases QO a.bk p.buks.length with i | i
  .have:=Fb _ (List.getElem_mem i);rw [<-cX _ _ i] at this;exact this
  .have:aK p.buks a.bk=(0,0):=Ah i;rw [this];simp
 have hs:(aK (dz (aK p.buks a.bk) p.W) o).1<=(aK (dz (aK p.buks a.bk) p.W) o).2/\(aK (dz (aK p.buks a.bk) p.W) o).2<=(aK p.buks a.bk).2:=by
  rcases QO o (dz (aK p.buks a.bk) p.W).length with i | i
  .have:=Ei u.W1 hb.1 _ (List.getElem_mem i);rw [<-cX _ _ i] at this;exact this
  .have:aK (dz (aK p.buks a.bk) p.W) o=(0,0):=Ah i;rw [this];simp
 have:=hc.2.2 hs.1;exact ⟨hc.2.1,by omega⟩
theorem MK {p:Pln} {x st:Nat} {y:Itm} (h:y∈aE p x st) {a:Acn} (u:y.a=some a) (hr:a.send=false):a.at'=OE p x a.tg:=by
 obtain ⟨_,_,v⟩:=iW h u;obtain ⟨A,i,_,o⟩:=xd v;rw [i,o hr];rfl
def MS (i:Inp) (x:Nat) (s:LSt):Prop:=∀j,j<s.msgs.length->W64 (aQ s.msgs j).vals/\((aQ s.msgs j).tag.a=999\/(aQ s.msgs j).vals.length=(OE (ax i) x (aQ s.msgs j).tag).2-(OE (ax i) x (aQ s.msgs j).tag).1)
theorem MS.len {i:Inp} (hs:bD i) {x:Nat} {s:LSt} (h:MS i x s) {st:Nat} {y:Itm} (B:st<i.cfg.steps.toNat) (A:y∈aE (ax i) x st) {a:Acn} (v:y.a=some a) (hr:a.send=false) (u:s.recv<s.msgs.length) (p:(aQ s.msgs s.recv).tag=a.tg): (aQ s.msgs s.recv).vals.length=a.at'.2-a.at'.1/\W64 (aQ s.msgs s.recv).vals:=by
 obtain ⟨h1,o⟩:=h _ u;refine ⟨?_,h1⟩;rw [MK A v hr,<-p];rcases o with o | o
 .exfalso;rw [p] at o;have e:a.tg.a=(a.st:Int):=rfl;rw [e,(iW A v).2.1] at o;have:=hs.s;omega
 .exact o
inductive jE (i:Inp) (x:Nat) (m:Mst) (s t:LSt):Mst->LSt->LSt->Nat->Prop
 | fin:(cz i x m.st).length<=m.nx->jE i x m s t m s t 13
 | own (y:Itm):(cz i x m.st)[m.nx]?=some y->y.a=none->jE i x m s t (adv i x (ie i x m y)) s t 0
 | send (y:Itm) (a:Acn):(cz i x m.st)[m.nx]?=some y->y.a=some a->y.kind=3->t.msgs.length<t.recv+t.cap->jE i x m s t (adv i x m) s (t.send ⟨a.tg,(m.G.drop a.at'.1).take (a.at'.2-a.at'.1)⟩) 0
 | full (y:Itm) (a:Acn):(cz i x m.st)[m.nx]?=some y->y.a=some a->y.kind=3->t.msgs.length=t.recv+t.cap->jE i x m s t m s t 11
 | recv (y:Itm) (a:Acn):(cz i x m.st)[m.nx]?=some y->y.a=some a->y.kind=4->s.recv<s.msgs.length->(aQ s.msgs s.recv).tag=a.tg->jE i x m s t (adv i x {m with G:=iK m.G a.at'.1 (aQ s.msgs s.recv).vals a.add}) {s with recv:=s.recv+1} t 0
 | none (y:Itm) (a:Acn):(cz i x m.st)[m.nx]?=some y->y.a=some a->y.kind=4->s.recv=s.msgs.length->jE i x m s t m s t 12
 | other (y:Itm) (a:Acn):(cz i x m.st)[m.nx]?=some y->y.a=some a->y.kind=4->s.recv<s.msgs.length->(aQ s.msgs s.recv).tag≠a.tg->jE i x m s t m s t 10
theorem Fu (i:Inp) (x:Nat) (m:Mst) (s t:LSt) (hs:s.recv<=s.msgs.length) (u:t.msgs.length<=t.recv+t.cap):∃m1 s1 t1 C,jE i x m s t m1 s1 t1 C:=by
 cases hy:(cz i x m.st)[m.nx]? with
 | none=>exact ⟨_,_,_,_,.fin (by rw [List.getElem?_eq_none_iff] at hy;exact hy)⟩
 | some y=>
  cases ha:y.a with
  | none=>exact ⟨_,_,_,_,.own y hy ha⟩
  | some a=>
   have hk:=(iW (du hy).2 ha).1;by_cases h:a.send=true
   .rw [if_pos h] at hk;by_cases o:t.msgs.length<t.recv+t.cap
    .exact ⟨_,_,_,_,.send y a hy ha hk o⟩
    .exact ⟨_,_,_,_,.full y a hy ha hk ap⟩
   .rw [if_neg h] at hk;by_cases p:s.recv=s.msgs.length
    .exact ⟨_,_,_,_,.none y a hy ha hk p⟩
    .by_cases he:(aQ s.msgs s.recv).tag=a.tg
     .exact ⟨_,_,_,_,.recv y a hy ha hk ap he⟩
     .exact ⟨_,_,_,_,.other y a hy ha hk ap he⟩
theorem pB {p:Pln} {x st:Nat} {y:Itm} (h:y∈aE p x st) {a:Acn} (i:y.a=some a) (hk:y.kind=4):a.send=false:=by
 have:=(iW h i).1
 cases hse:a.send with
 | true=>rw [hse,hk] at this;cases this
 | false=>rfl
theorem uV (l:List Msg) (y:Msg) (j:Nat):aQ (l++[y]) j=if j<l.length then aQ l j else if j=l.length then y else Msg.zero:=by
 unfold aQ;simp only [List.getD_eq_getElem?_getD];by_cases h:j<l.length
 .rw [if_pos h,Rk h]
 .rw [if_neg h,Rl ap];by_cases i:j=l.length
  .rw [if_pos i];subst i;simp
  .rw [if_neg i,List.getElem?_eq_none (by simp;omega)];rfl
theorem jE.ok {i:Inp} (hs:bD i) {x:Nat} {m m1:Mst} {s t s1 t1:LSt} {C:Nat} (h:jE i x m s t m1 s1 t1 C) (hm:MOk i x m):MOk i x m1:=by
 cases h with
 | fin=>exact hm
 | own y hy ha=>
  have o:=hm.okAt hs hy ha;have lG:(dt i m.P m.G (cN i.data (pL i x y.st y.n))).length=i.start.length:=m8 _ _ hm.lG;refine hm.next hs hy ?_ ?_ ?_ ?_ ?_ ?_ ?_<;>unfold ie<;>rcases o.1 with k | k | k | k<;>simp only [k]<;>first | rfl | simp [hm.lP,hm.lM,hm.lG,lG,pH,pI]
 | send y a hy ha hk=>exact hm.next hs hy rfl rfl hm.lP hm.lM hm.lG (by rw [if_neg ap,if_neg ap]) (by rw [if_neg ap])
 | full=>exact hm
 | recv y a hy ha hk=>exact hm.next hs hy rfl rfl hm.lP hm.lM (by show (iK _ _ _ _).length=_;rw [ry];exact hm.lG) (by rw [if_neg ap,if_neg ap]) (by rw [if_neg ap])
 | none=>exact hm
 | other=>exact hm
def jy (w:R8) (A:N_) (ms:List Msg):Prop:=
 ∃rows,Rd w A (List.flatten rows)/\rows.length=ms.length/\(∀r∈rows,r.length=6)/\∀j,j<ms.length->Fm w (fg rows j) (aQ ms j)
end Go.Proofs.YtindmkcnjlgomaaGreat
