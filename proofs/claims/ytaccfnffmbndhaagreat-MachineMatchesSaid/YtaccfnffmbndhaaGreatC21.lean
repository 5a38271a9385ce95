/- No condition. -/
import Derived.Test.YtaccfnffmbndhaaGreatC00
import Derived.Test.YtaccfnffmbndhaaGreatC20
import Derived.Deep.RegionLaw
import Derived.Test.YtaccfnffmbndhaaGreatC06
import Derived.Test.YtaccfnffmbndhaaGreatC18
set_option linter.unusedSimpArgs false
set_option linter.unusedVariables false
set_option maxRecDepth 100000
set_option maxHeartbeats 4000000
namespace Go.Proofs.YtaccfnffmbndhaaGreat
open Go.RowKit
structure Tg where
 a:Int
 b:Int
 c:Int
 d:Int
 e:Int
structure Msg where
 tag:Tg
 vals:List Int
def Tg.cells (t:Tg):List Value:=[KL t.a,KL t.b,KL t.c,KL t.d,KL t.e]
def Tg.zero:Tg:=⟨0,0,0,0,0⟩
def Msg.zero:Msg:=⟨Tg.zero,[]⟩
theorem jD:dq Tryz.prog 71 91 (.agg La) 6 64:=⟨Tryz.underlying71,info_parts (by kernel_rfl),rfl,by decide⟩
theorem lp (A:Option Addr) (zs:List Int) (c:Nat) (w:World) (hA:Rd w A (aq .i64 zs)) (hl:zs.length≤17592186043904):
  Calls Tryz.prog 82 #[.slice A zs.length c] w fun e o=>∃v,e=.returned v∧o.ownsRow w.heap.size 2 1 v zs.length (aq .i64 zs)∧Below w.heap.size w o:=by
 have h:=CH A zs c w hA hl
 go_enter Tryz.func82,Tryz.ntmps82
 go_wp2_with fail
 refine h.mono ?_
 rintro e u ⟨v,rfl,i,p⟩
 obtain ⟨y,x,rfl,_⟩:=aw i
 clear h
 obtain ⟨j,q⟩:=ae i p;clear i p
 go_wp2
 go_ret
 exact ⟨_,rfl,j.out,q.out⟩
def uH (w:World) (base:Nat) (i:List Value) (m:Msg):Prop:=
 ∃A c,i=m.tag.cells++[.slice A m.vals.length c]∧w.ownsRow base 2 1 (.slice A m.vals.length c) m.vals.length (aq .i64 m.vals)
def rR (w:World) (i:List Value) (m:Msg):Prop:=
 ∃A c,i=m.tag.cells++[.slice A m.vals.length c]∧Rd w A (aq .i64 m.vals)
structure LSt where
 cap:Nat
 msgs:List Msg
 recv:Nat
 peak:Nat
def LSt.len (s:LSt):Nat:=s.msgs.length-s.recv
structure LSt.Ok (s:LSt):Prop where
 cap1:1≤s.cap
 cap2:s.cap≤1048576
 rs:s.recv≤s.msgs.length
 sr:s.msgs.length≤s.recv+s.cap
 pk:s.peak≤s.cap
 many:s.msgs.length≤100000000000
 vals:∀m∈s.msgs,m.vals.length≤17592186043904
def aC (l:List Msg) (j:Nat):Msg:=l.getD j Msg.zero
def dL (l:List (List Value)) (j:Nat):List Value:=l.getD j []
structure aK (w:World) (base b:Nat) (g:Option Nat) (s:LSt):Prop where
 ok:s.Ok
 ex:∃ring rows,au w b ring s.cap s.msgs.length s.recv s.peak∧w.ownsRow base 91 6 ring (min s.msgs.length s.cap) (List.flatten rows)∧ring.ownBlock=g∧
  rows.length=min s.msgs.length s.cap∧(∀r∈rows,r.length=6)∧∀j,s.recv≤j→j<s.msgs.length→uH w base (dL rows (j%s.cap)) (aC s.msgs j)
theorem ji (b:Nat) (ring:Value) (cap sent recv peak n i:Nat) (w:World) (h:au w b ring cap sent recv peak) (hc:1≤cap) (j:cap≤1048576) (p:n%cap=i):
  Calls Tryz.prog 81 #[.pointer (some ⟨b,0,none⟩),KL (n:Int)] w fun e o=>e=.returned (KL (i:Int))∧w=o:=by
 subst p
 refine (Ck b ring cap sent recv peak n w h hc (by omega) j).mono ?_
 rintro e o ⟨rfl,rfl⟩
 exact ⟨by rw [Int.natCast_emod],rfl⟩
theorem lC {j:List (List Value)} {k:Nat} (h:∀r∈j,r.length=k) (i t:Nat) (o:i<j.length) (p:t<k):(List.flatten j)[i*k+t]?=(dL j i)[t]?:=by
 induction j generalizing i with
 | nil=>simp at o
 | cons r l ih=>
  have hr:r.length=k:=h r (by simp)
  cases i with
  | zero=>
   rw [List.flatten_cons,Nat.zero_mul,Kz,Ki (by omega)]
   simp [dL]
  | succ i=>
   rw [List.flatten_cons,Kj (by rw [hr,Nat.add_mul];omega),hr,show (i+1)*k+t-k=i*k+t by rw [Nat.add_mul];omega,ih (fun r hr=>h r (by simp [hr])) i (by simpa using o)]
   simp [dL]
structure pz (w:World) (g o:Nat) (t:Tg) (v:Value):Prop where
 c0:w.cell? ⟨g,o,none⟩=some (KL t.a)
 c1:w.cell? ⟨g,o+1,none⟩=some (KL t.b)
 c2:w.cell? ⟨g,o+2,none⟩=some (KL t.c)
 c3:w.cell? ⟨g,o+3,none⟩=some (KL t.d)
 c4:w.cell? ⟨g,o+4,none⟩=some (KL t.e)
 c5:w.cell? ⟨g,o+5,none⟩=some v
theorem qR {j n r cap:Nat} (_h1:r≤j) (i:j<n) (_h3:n≤r+cap) (hc:1≤cap):j%cap<min n cap:=by
 have h:=Nat.mod_lt j (show 0<cap by omega)
 have o:=Nat.mod_le j cap
 omega
theorem aK.at_ {w:World} {base b:Nat} {g:Option Nat} {s:LSt} (h:aK w base b g s) (j:Nat) (h1:s.recv≤j) (B:j<s.msgs.length):
  ∃p c x q,g=some p∧au w b (.slice (some ⟨p,0,none⟩) (min s.msgs.length s.cap) c) s.cap s.msgs.length s.recv s.peak∧j%s.cap<min s.msgs.length s.cap∧
   pz w p (j%s.cap*6) (aC s.msgs j).tag (.slice x (aC s.msgs j).vals.length q)∧
   w.ownsRow base 2 1 (.slice x (aC s.msgs j).vals.length q) (aC s.msgs j).vals.length (aq .i64 (aC s.msgs j).vals):=by
 obtain ⟨ok,ring,A,hc,o,hg,D,y,hm⟩:=h
 have C:=qR h1 B ok.sr ok.cap1
 obtain ⟨x,q,u,v⟩:=hm j h1 B
 obtain ⟨p,c,rfl,_,_⟩:=o.form (by omega)
 refine ⟨p,c,x,q,hg.symm,hc,C,?_,v⟩
 have i:∀t,t<6→w.cell? ⟨p,j%s.cap*6+t,none⟩=((aC s.msgs j).tag.cells++[Value.slice x (aC s.msgs j).vals.length q])[t]?:=fun t H=>by
  rw [o.cellAt _ (by have:=KH 6 (Nat.succ_le_of_lt C);rw [Kx] at this;omega),lC y _ t (by omega) H,u]
 exact ⟨i 0 (by omega),i 1 (by omega),i 2 (by omega),i 3 (by omega),i 4 (by omega),i 5 (by omega)⟩
theorem au.alloc {w:World} {b:Nat} {ring:Value} {cap sent recv peak:Nat} (h:au w b ring cap sent recv peak) (o:Obj):au (w.alloc o) b ring cap sent recv peak:=(JP _ _ _ (JC h)).trans h
theorem nL (base b:Nat) (g:Option Nat) (s:LSt) (w:World) (h:aK w base b g s) (x:s.recv<s.msgs.length):
  Calls Tryz.prog 36 #[.pointer (some ⟨b,0,none⟩)] w fun e j=>e=.returned (.tuple #[.agg #[KL (aC s.msgs s.recv).tag.a,KL (aC s.msgs s.recv).tag.b,KL (aC s.msgs s.recv).tag.c,KL (aC s.msgs s.recv).tag.d,KL (aC s.msgs s.recv).tag.e],.bool true])∧Below w.heap.size w j:=by
 obtain ⟨q,c,A',X,rfl,hc,I,D,u⟩:=h.at_ s.recv (JD _) x
 obtain ⟨B,A,y,R,J,O,C⟩:=h.ok
 clear C u
 obtain ⟨i,p⟩:∃i,s.recv%s.cap=i:=⟨_,rfl⟩
 rw [p] at I D
 obtain ⟨L,hL⟩:∃L,min s.msgs.length s.cap=L:=⟨_,rfl⟩
 rw [hL] at I hc
 have hl:=fun o=>ks b _ _ _ _ _ _ (hc.alloc o) y (by omega)
 have H:=fun o n=>ji b _ _ _ _ _ s.recv i _ (show au ((w.alloc o).drewN n) _ _ _ _ _ _ from hc.alloc o) B A p
 have c0:=hc.c0
 have c3:=hc.c3
 have Y:=JC hc
 have hg:=ar D.c0
 obtain ⟨d0,Z,T,V,d4,d5⟩:=D
 obtain ⟨N,Q⟩:=ae hl H;clear hl H p hL h
 generalize (aC s.msgs s.recv).tag=tg at *
 go_enter Tryz.func36,Tryz.ntmps36
 go_wp2_with fail
 refine (N.out _).mono ?_
 rintro e U ⟨rfl,n,rfl⟩
 go_wp2_with fail
 go_region_held3 (fun j=>j.cell? ⟨b,0,none⟩=some (.slice (some ⟨q,0,none⟩) L c)∧j.cell? ⟨b,3,none⟩=some (KL (s.recv:Int))∧j.cell? ⟨q,i*6,none⟩=some (KL tg.a)∧j.cell? ⟨q,i*6+1,none⟩=some (KL tg.b)∧
   j.cell? ⟨q,i*6+2,none⟩=some (KL tg.c)∧j.cell? ⟨q,i*6+3,none⟩=some (KL tg.d)∧j.cell? ⟨q,i*6+4,none⟩=some (KL tg.e)) (simp [go_sem, *])
  ((go_at_call 81;refine (Q.out _ _).mono ?_;rintro e j ⟨rfl,rfl⟩))
 go_wp2
 refine JQ (v:=.tuple #[.agg #[KL tg.a,KL tg.b,KL tg.c,KL tg.d,KL tg.e],.bool true]) (by simp [results,Tryz.results36,go_sem]) rfl ⟨rfl,?_⟩
 exact al
theorem jK (base b:Nat) (g:Option Nat) (s:LSt) (w:World) (h:aK w base b g s) (i:s.recv=s.msgs.length):
  Calls Tryz.prog 36 #[.pointer (some ⟨b,0,none⟩)] w fun e y=>e=.returned (.tuple KT)∧Below w.heap.size w y:=by
 obtain ⟨ok,ring,q,hc,_⟩:=h
 obtain ⟨B,D,j,u,x,C,p⟩:=ok
 clear p
 have hl:=fun o=>ks b _ _ _ _ _ _ (hc.alloc o) j (by omega)
 rw [i,Int.sub_self] at hl
 have A:=aa hl;clear hl hc i
 go_enter Tryz.func36,Tryz.ntmps36
 go_wp2_with fail
 refine (A.out _).mono ?_
 rintro e H ⟨rfl,n,rfl⟩
 go_wp2
 refine JQ (v:=.tuple KT) (by simp [results,Tryz.results36,go_sem]) rfl ⟨rfl,?_⟩
 exact al
theorem pz.same {w j:World} {g o:Nat} {t:Tg} {v:Value} (h:pz w g o t v) (i:j.heap[g]?=w.heap[g]?):pz j g o t v:=
 ⟨(World.cell?_of_block (w:=w) i).trans h.c0,(World.cell?_of_block (w:=w) i).trans h.c1,(World.cell?_of_block (w:=w) i).trans h.c2,(World.cell?_of_block (w:=w) i).trans h.c3,(World.cell?_of_block (w:=w) i).trans h.c4,(World.cell?_of_block (w:=w) i).trans h.c5⟩
theorem au.same {w i:World} {b:Nat} {ring:Value} {cap sent recv peak:Nat} (h:au w b ring cap sent recv peak) (j:i.heap[b]?=w.heap[b]?):au i b ring cap sent recv peak:=j.trans h
theorem aK.keep {S:Nat→Prop} {w H:World} {base b:Nat} {g:Option Nat} {s:LSt} (h:aK w base b g s) (k:Keep S w H) (h1:¬S b) (L:∀i,g=some i→¬S i) (N:∀i c,w.heap[i]?=some (.cells c 2 (0,0))→base≤i→¬S i):aK H base b g s:=by
 obtain ⟨ok,ring,p,hc,q,hg,y,x,hm⟩:=h
 refine ⟨ok,ring,p,hc.same (k.block _ (JC hc) h1),k.own q (fun i o=>L i (hg.symm.trans o)),hg,y,x,fun j v C=>?_⟩
 obtain ⟨A,c,e,D⟩:=hm j v C
 refine ⟨A,c,e,k.own D fun i o=>?_⟩
 rcases D.2 with ⟨hn,_⟩ | ⟨J,cap,I,hv,u,B,_⟩
 ·rw [hn] at o;cases o
 ·rw [hv] at o
  obtain rfl:J=i:=by simpa [Value.ownBlock] using o
  exact N _ _ B u
theorem aK.below {w i:World} {base b:Nat} {g:Option Nat} {s:LSt} (h:aK w base b g s) (j:Below w.heap.size w i):aK i base b g s:=
 h.keep (S:=fun _=>False) (Keep.below j) id (fun _ _=>id) (fun _ _ _ _=>id)
theorem mA (base b:Nat) (g:Option Nat) (s:LSt) (t:Tg) (w:World) (h:aK w base b g s) (q:s.recv=s.msgs.length):
  Calls Tryz.prog 37 #[.pointer (some ⟨b,0,none⟩),.agg #[KL t.a,KL t.b,KL t.c,KL t.d,KL t.e]] w fun e B=>e=.returned (.tuple KU)∧Below w.heap.size w B:=by
 obtain ⟨t0,Q,t2,y,H⟩:=t
 have x:=fun O L=>jK base b g s ((w.alloc O).alloc L) ((h.below ((JG _ _).alloc (JD _) _)).below ((JG _ _).alloc (JD _) _)) q
 have R:=aa x;clear x q h
 go_enter Tryz.func37,Tryz.ntmps37
 go_wp2_with fail
 refine (R.out _ _).mono ?_
 rintro e o ⟨rfl,p⟩
 have i:o.heap[w.heap.size+1]?=some (.cells La 91 (0,0)):=by
  rw [p.block _ (by simp)]
  simpa using JE (w.alloc (.cells #[KL t0,KL Q,KL t2,KL y,KL H] 50)) (.cells La 91)
 have u:=JC i
 have J:o.cell? ⟨w.heap.size+1,0,none⟩=some (KL 0):=JF o _ 0 _ _ _ i
 have C:o.cell? ⟨w.heap.size+1,1,none⟩=some (KL 0):=JF o _ 1 _ _ _ i
 have T:o.cell? ⟨w.heap.size+1,2,none⟩=some (KL 0):=JF o _ 2 _ _ _ i
 have A:o.cell? ⟨w.heap.size+1,3,none⟩=some (KL 0):=JF o _ 3 _ _ _ i
 have I:o.cell? ⟨w.heap.size+1,4,none⟩=some (KL 0):=JF o _ 4 _ _ _ i
 have N:o.cell? ⟨w.heap.size+1,5,none⟩=some (KN):=JF o _ 5 _ _ _ i
 have U:=fun j=>JM o _ j _ _ i
 have D:Below w.heap.size w o:=(((JG _ w).alloc (JD _) _).alloc (by simp) _).trans (p.mono (by simp;omega))
 clear p i
 go_wp2
 refine JQ (v:=.tuple KU) (by simp [results,Tryz.results37,go_sem,J,C,T,A,I,N,u]) rfl ⟨rfl,?_⟩
 exact al
theorem uo (base b:Nat) (g:Option Nat) (s:LSt) (t:Tg) (w:World) (h:aK w base b g s) (u:s.recv<s.msgs.length) (x:(aC s.msgs s.recv).tag≠t):
  Calls Tryz.prog 37 #[.pointer (some ⟨b,0,none⟩),.agg #[KL t.a,KL t.b,KL t.c,KL t.d,KL t.e]] w fun e J=>e=.returned (.tuple #[.agg La,KL 10])∧Below w.heap.size w J:=by
 obtain ⟨t0,D,t2,y,A⟩:=t
 have C:=fun V T=>nL base b g s ((w.alloc V).alloc T) ((h.below ((JG _ _).alloc (JD _) _)).below ((JG _ _).alloc (JD _) _)) u
 generalize (aC s.msgs s.recv).tag=tg at *
 obtain ⟨u0,u1,u2,u3,u4⟩:=tg
 dsimp only at C
 have X:=aa C;clear C u h;have B:=aa x;clear x
 go_enter Tryz.func37,Tryz.ntmps37
 go_wp2_with fail
 refine (X.out _ _).mono ?_
 rintro e o ⟨rfl,q⟩
 have i:o.heap[w.heap.size+1]?=some (.cells La 91 (0,0)):=by
  rw [q.block _ (by simp)]
  simpa using JE (w.alloc (.cells #[KL t0,KL D,KL t2,KL y,KL A] 50)) (.cells La 91)
 have H:=JC i
 have R:o.cell? ⟨w.heap.size+1,0,none⟩=some (KL 0):=JF o _ 0 _ _ _ i
 have L:o.cell? ⟨w.heap.size+1,1,none⟩=some (KL 0):=JF o _ 1 _ _ _ i
 have Y:o.cell? ⟨w.heap.size+1,2,none⟩=some (KL 0):=JF o _ 2 _ _ _ i
 have I:o.cell? ⟨w.heap.size+1,3,none⟩=some (KL 0):=JF o _ 3 _ _ _ i
 have O:o.cell? ⟨w.heap.size+1,4,none⟩=some (KL 0):=JF o _ 4 _ _ _ i
 have U:o.cell? ⟨w.heap.size+1,5,none⟩=some (KN):=JF o _ 5 _ _ _ i
 have fr:=fun j=>JM o _ j _ _ i
 have p:o.heap[w.heap.size]?=some (.cells #[KL t0,KL D,KL t2,KL y,KL A] 50 (0,0)):=by
  rw [q.block _ (by simp;omega),JP _ _ _ (by simp)]
  exact JE w _
 have p0:o.cell? ⟨w.heap.size,0,none⟩=some (KL t0):=JF o _ 0 _ _ _ p
 have p1:o.cell? ⟨w.heap.size,1,none⟩=some (KL D):=JF o _ 1 _ _ _ p
 have p2:o.cell? ⟨w.heap.size,2,none⟩=some (KL t2):=JF o _ 2 _ _ _ p
 have Z:o.cell? ⟨w.heap.size,3,none⟩=some (KL y):=JF o _ 3 _ _ _ p
 have p4:o.cell? ⟨w.heap.size,4,none⟩=some (KL A):=JF o _ 4 _ _ _ p
 have N:Below w.heap.size w o:=(((JG _ w).alloc (JD _) _).alloc (by simp) _).trans (q.mono (by simp;omega))
 have Q:w.heap.size<o.heap.size:=by omega
 clear q i p
 go_wp2
 ·exact absurd (by simp only [*]) B.out
 all_goals
  refine JQ (v:=.tuple #[.agg La,KL 10]) (by simp [results,Tryz.results37,go_sem,R,L,Y,I,O,U,H]) rfl ⟨rfl,?_⟩
  exact al
theorem rV {w u:World} {base b:Nat} {g:Option Nat} {s:LSt} {T:Option Addr} {Q:Nat} (h:aK w base b g s) (C:s.recv<s.msgs.length) (k:Keep (· =b) w u)
  (hv:w.ownsRow base 2 1 (.slice T (aC s.msgs s.recv).vals.length Q) (aC s.msgs s.recv).vals.length (aq .i64 (aC s.msgs s.recv).vals))
  {L c x:Nat} (_hgg:g=some x) (q:au w b (.slice (some ⟨x,0,none⟩) L c) s.cap s.msgs.length s.recv s.peak) (hc:au u b (.slice (some ⟨x,0,none⟩) L c) s.cap s.msgs.length (s.recv+1) s.peak):
  u.ownsRow base 2 1 (.slice T (aC s.msgs s.recv).vals.length Q) (aC s.msgs s.recv).vals.length (aq .i64 (aC s.msgs s.recv).vals)∧aK u base b g {s with recv:=s.recv+1}∧Keep (· =b) w u:=by
 have D:∀i e R,w.heap[i]?=some (.cells R e (0,0))→e≠177→¬i=b:=by
  rintro i e R p he rfl
  unfold au at q
  rw [q] at p
  injection p with p
  injection p with _ p
  exact he p.symm
 have o:∀{e:TypeId} {size:Nat} {v:Value} {n:Nat} {xs:List Value},w.ownsRow base e size v n xs→e≠177→u.ownsRow base e size v n xs:=fun {e size v n xs} B he=>
  k.own B fun i p=>by
   rcases B.2 with ⟨hn,_⟩ | ⟨x,cap,V,hv,X,N,_⟩
   ·rw [hn] at p;cases p
   ·rw [hv] at p
    obtain rfl:x=i:=by simpa [Value.ownBlock] using p
    exact D _ _ _ N he
 refine ⟨o hv (by decide),?_,k⟩
 obtain ⟨ok,ring,y,O,B,hg,J,I,hm⟩:=h
 obtain rfl:ring=.slice (some ⟨x,0,none⟩) L c:=by
  have:=O.c0.symm.trans q.c0
  injection this
 refine ⟨⟨ok.cap1,ok.cap2,C,by have:=ok.sr;simp only;omega,ok.pk,ok.many,ok.vals⟩,_,y,hc,o B (by decide),hg,J,I,fun j h1 U=>?_⟩
 obtain ⟨A,c2,e,H⟩:=hm j (by simp only at h1;omega) U
 exact ⟨A,c2,e,o H (by decide)⟩
theorem au.set {w:World} {b:Nat} {ring:Value} {cap sent recv peak:Nat} (h:au w b ring cap sent recv peak) (n:Nat) (v:Int) (hv:v=(n:Int)):au (w.setCell ⟨b,3,none⟩ (KL v)) b ring cap sent n peak:=by
 subst hv
 unfold au at h ⊢
 simp [World.setCell,Array.getElem?_modify,h]
theorem pR (base b:Nat) (g:Option Nat) (s:LSt) (t:Tg) (w:World) (h:aK w base b g s) (N:s.recv<s.msgs.length) (heq:(aC s.msgs s.recv).tag=t):
  Calls Tryz.prog 37 #[.pointer (some ⟨b,0,none⟩),.agg #[KL t.a,KL t.b,KL t.c,KL t.d,KL t.e]] w fun e u=>∃A c,
   e=.returned (.tuple #[.agg #[KL t.a,KL t.b,KL t.c,KL t.d,KL t.e,.slice A (aC s.msgs s.recv).vals.length c],KL 0])∧
   u.ownsRow base 2 1 (.slice A (aC s.msgs s.recv).vals.length c) (aC s.msgs s.recv).vals.length (aq .i64 (aC s.msgs s.recv).vals)∧
   aK u base b g {s with recv:=s.recv+1}∧Keep (· =b) w u:=by
 subst heq
 have hp:=fun o1 o2=>nL base b g s ((w.alloc o1).alloc o2) ((h.below ((JG _ _).alloc (JD _) _)).below ((JG _ _).alloc (JD _) _)) N
 obtain ⟨I,c,A',c',Y,hc,hi,h6,J⟩:=h.at_ s.recv (JD _) N
 have C:=h.ok
 have ad:s.recv≤100000000000:=by have:=C.many;omega
 have q:=C.cap1
 have av:=C.cap2
 obtain ⟨i,O⟩:∃i,s.recv%s.cap=i:=⟨_,rfl⟩
 rw [O] at hi h6
 obtain ⟨L,hL⟩:∃L,min s.msgs.length s.cap=L:=⟨_,rfl⟩
 rw [hL] at hi hc
 have hb:=JC hc
 have a8:=ar h6.c0
 generalize (aC s.msgs s.recv).tag=tg at *
 obtain ⟨t0,X,t2,Q,T⟩:=tg
 dsimp only at hp
 obtain ⟨Hp,a0,H,V,a6,a3⟩:=ai hp C h J O Y;clear hp C h J O Y hL
 go_enter Tryz.func37,Tryz.ntmps37
 go_wp2_with fail
 refine (Hp.out _ _).mono ?_
 rintro e o ⟨rfl,y⟩
 have p:o.heap[w.heap.size+1]?=some (.cells La 91 (0,0)):=by
  rw [y.block _ (by simp)]
  simpa using JE (w.alloc (.cells #[KL t0,KL X,KL t2,KL Q,KL T] 50)) (.cells La 91)
 have a2:=JC p
 have r0:o.cell? ⟨w.heap.size+1,0,none⟩=some (KL 0):=JF o _ 0 _ _ _ p
 have r1:o.cell? ⟨w.heap.size+1,1,none⟩=some (KL 0):=JF o _ 1 _ _ _ p
 have r2:o.cell? ⟨w.heap.size+1,2,none⟩=some (KL 0):=JF o _ 2 _ _ _ p
 have r3:o.cell? ⟨w.heap.size+1,3,none⟩=some (KL 0):=JF o _ 3 _ _ _ p
 have r4:o.cell? ⟨w.heap.size+1,4,none⟩=some (KL 0):=JF o _ 4 _ _ _ p
 have r5:o.cell? ⟨w.heap.size+1,5,none⟩=some (KN):=JF o _ 5 _ _ _ p
 have fr:=fun j=>JM o _ j _ _ p
 have x:o.heap[w.heap.size]?=some (.cells #[KL t0,KL X,KL t2,KL Q,KL T] 50 (0,0)):=by
  rw [y.block _ (by simp;omega),JP _ _ _ (by simp)]
  exact JE w _
 have p0:o.cell? ⟨w.heap.size,0,none⟩=some (KL t0):=JF o _ 0 _ _ _ x
 have p1:o.cell? ⟨w.heap.size,1,none⟩=some (KL X):=JF o _ 1 _ _ _ x
 have p2:o.cell? ⟨w.heap.size,2,none⟩=some (KL t2):=JF o _ 2 _ _ _ x
 have p3:o.cell? ⟨w.heap.size,3,none⟩=some (KL Q):=JF o _ 3 _ _ _ x
 have p4:o.cell? ⟨w.heap.size,4,none⟩=some (KL T):=JF o _ 4 _ _ _ x
 have D:Below w.heap.size w o:=(((JG _ w).alloc (JD _) _).alloc (by simp) _).trans (y.mono (by simp;omega))
 have a1:w.heap.size<o.heap.size:=by omega
 have D:Below w.heap.size w o:=(((JG _ w).alloc (JD _) _).alloc (by simp) _).trans (y.mono (by simp;omega))
 have q:=hc.same (D.block b hb)
 have U:=h6.same (D.block I a8)
 have a5:=JC q
 have ao:=ar U.c0
 have R:=fun W hW=>ji b (.slice (some ⟨I,0,none⟩) L c) s.cap s.msgs.length s.recv s.peak s.recv i W hW a0.out.cap1 a0.out.cap2 a6.out
 have k0:=q.c0
 have k3:=q.c3
 obtain ⟨m0,m1,m2,m3,m4,m5⟩:=U
 have f3:=q.free 3
 have aG:¬(b=w.heap.size+1):=by omega
 have ab:¬(w.heap.size+1=b):=by omega
 obtain ⟨aP,Z,a4,Hc,H6⟩:=ah y q R hc h6;clear y p x q R hc h6
 go_wp2_with fail
 go_region_held3 (fun u=>u.cell? ⟨b,0,none⟩=some (.slice (some ⟨I,0,none⟩) L c)∧u.cell? ⟨b,3,none⟩=some (KL (s.recv:Int))∧u.cell? ⟨I,i*6,none⟩=some (KL t0)∧u.cell? ⟨I,i*6+1,none⟩=some (KL X)∧
   u.cell? ⟨I,i*6+2,none⟩=some (KL t2)∧u.cell? ⟨I,i*6+3,none⟩=some (KL Q)∧u.cell? ⟨I,i*6+4,none⟩=some (KL T)∧u.cell? ⟨I,i*6+5,none⟩=some (.slice A' (aC s.msgs s.recv).vals.length c')) (simp [go_sem, *])
  ((go_at_call 81;refine (a4.out _ (Z.out.same (Below.block (B:=o.heap.size) ?_ b a5))).mono ?_;exact al;rintro e u ⟨rfl,rfl⟩))
 all_goals
  go_wp2_with fail
  have a7:IntKind.i64.wrap ((s.recv:Int)+1)=(s.recv:Int)+1:=JI _ (by omega)
  go_region
  clear a7
  go_wp2
  refine JQ (v:=.tuple #[.agg #[KL t0,KL X,KL t2,KL Q,KL T,.slice A' (aC s.msgs s.recv).vals.length c'],KL 0]) (by simp [results,Tryz.results37,go_sem,r0,r1,r2,r3,r4,r5,a1,a2]) rfl ⟨A',c',rfl,?_⟩
  refine rV H.out N ?_ V.out a3.out Hc.out ((Z.out.set (s.recv+1) ((s.recv:Int)+1) (by omega)).same (Below.block (B:=w.heap.size) ?_ b hb))
  ·have aM:Keep (· =b) w o:=Keep.below D
   (focus (repeat' (first | (with_reducible exact Keep.refl _ _) | (with_reducible assumption) | (with_reducible refine Keep.setCell ?_ _ ?_ _) | (with_reducible refine Keep.alloc ?_ _) | (with_reducible refine Keep.drewN ?_ _) | (with_reducible refine Keep.drew ?_) | (with_reducible exact Or.inr (ii _ _)) | (with_reducible exact Or.inr (ig _ _)) | (refine Or.inr ?_;first | rfl | (simp;done) | omega) | (refine Or.inl ?_;first | omega | (simp;done) | (simp;omega)))))
  ·exact al
def dC (b:Nat) (g:Option Nat) (k:Nat):Prop:=k=b∨g=some k
theorem ii (b:Nat) (g:Option Nat):dC b g b:=.inl rfl
theorem ig (b g:Nat):dC b (some g) g:=.inr rfl
theorem au.drew {w:World} {b:Nat} {ring:Value} {cap sent recv peak:Nat} (h:au w b ring cap sent recv peak):au w.drew b ring cap sent recv peak:=h
theorem au.drewN {w:World} {b:Nat} {ring:Value} {cap sent recv peak:Nat} (h:au w b ring cap sent recv peak) (n:Nat):au (w.drewN n) b ring cap sent recv peak:=h
theorem au.far {w:World} {b:Nat} {ring:Value} {cap sent recv peak:Nat} (h:au w b ring cap sent recv peak) (p:Addr) (u:Value) (i:¬(b=p.block)):au (w.setCell p u) b ring cap sent recv peak:=h.same (Below.heap_setCell w p u b i)
theorem au.set0 {w:World} {b:Nat} {ring:Value} {cap sent recv peak:Nat} (h:au w b ring cap sent recv peak) (v:Value):au (w.setCell ⟨b,0,none⟩ v) b v cap sent recv peak:=by
 unfold au at h ⊢
 simp [World.setCell,Array.getElem?_modify,h]
theorem au.set2 {w:World} {b:Nat} {ring:Value} {cap sent recv peak:Nat} (h:au w b ring cap sent recv peak) (n:Nat) (v:Int) (hv:v=(n:Int)):au (w.setCell ⟨b,2,none⟩ (KL v)) b ring cap n recv peak:=by
 subst hv
 unfold au at h ⊢
 simp [World.setCell,Array.getElem?_modify,h]
theorem au.set4 {w:World} {b:Nat} {ring:Value} {cap sent recv peak:Nat} (h:au w b ring cap sent recv peak) (n:Nat) (v:Int) (hv:v=(n:Int)):au (w.setCell ⟨b,4,none⟩ (KL v)) b ring cap sent recv n:=by
 subst hv
 unfold au at h ⊢
 simp [World.setCell,Array.getElem?_modify,h]
theorem zD {w:World} {base b:Nat} {ring p:Value} {cap sent recv peak n:Nat} {xs:List Value} (h:au w b p cap sent recv peak) (u:w.ownsRow base 91 6 ring n xs):ring.ownBlock≠some b:=fun e=>by
 rcases u.2 with ⟨hn,_⟩ | ⟨q,cap2,o,j,_,i,_⟩
 ·rw [hn] at e;cases e
 ·rw [j] at e
  obtain rfl:q=b:=by simpa [Value.ownBlock] using e
  unfold au at h
  rw [h] at i;injection i with i;injection i with _ i;exact absurd i (by decide)
theorem wC (H:List Value) (B I C J D L:Value) (hcs:H=[B,I,C,J,D,L]):∀(j:List (List Value)) (i:Nat),(∀r∈j,r.length=6)→i<j.length→
  ((((((List.flatten j).set (i*6) B).set (i*6+1) I).set (i*6+2) C).set (i*6+3) J).set (i*6+4) D).set (i*6+5) L=List.flatten (j.set i H):=by
 intro j
 induction j with
 | nil=>intro i _ A;simp at A
 | cons r l ih=>
  intro i h A
  have hr:r.length=6:=h r (by simp)
  cases i with
  | zero=>
   obtain ⟨p,q,u,v,o,y,rfl⟩:∃p q u v o y,r=[p,q,u,v,o,y]:=by
    match r,hr with
    | [p,q,u,v,o,y],_=>exact ⟨p,q,u,v,o,y,rfl⟩
   subst hcs
   rfl
  | succ i=>
   have e:∀(xs:List Value) (k:Nat) (x:Value),(r++xs).set (6+k) x=r++xs.set k x:=fun xs k x=>by
    rw [List.set_append_right _ _ (by omega),hr,show 6+k-6=k by omega]
   rw [List.flatten_cons,show (i+1)*6=6+i*6 by omega]
   simp only [Ky,e]
   rw [J0,List.flatten_cons,←ih i (fun r hr=>h r (by simp [hr])) (by simpa using A)]
theorem qD (j:List (List Value)) (i:Nat) (o:List Value) (h:i<j.length):dL (j.set i o) i=o:=by simp [dL,h]
theorem pV (o:List (List Value)) (i j:Nat) (p:List Value) (h:i≠j):dL (o.set i p) j=dL o j:=by simp [dL,h]
theorem iW (i:List (List Value)) (o:List Value) (j:Nat) (h:j<i.length):dL (i++[o]) j=dL i j:=by simp [dL,Ki h]
theorem iX (i:List (List Value)) (j:List Value):dL (i++[j]) i.length=j:=by simp [dL]
theorem jf (l:List Msg) (m:Msg) (j:Nat) (h:j<l.length):aC (l++[m]) j=aC l j:=by simp [aC,Ki h]
theorem jg (l:List Msg) (m:Msg):aC (l++[m]) l.length=m:=by simp [aC]
theorem IH {a b r cap:Nat} (h1:r≤a) (j:a<b) (o:b<r+cap):a%cap≠b%cap:=fun e=>by
 have i:cap ∣ b-a:=Nat.dvd_of_mod_eq_zero (Nat.sub_mod_eq_zero_of_mod_eq e.symm)
 have:=Nat.le_of_dvd (by omega) i
 omega
theorem my {w C:World} {base b:Nat} {g:Option Nat} {s:LSt} {ring:Value} {q:List (List Value)} (ok:s.Ok) (D:au w b ring s.cap s.msgs.length s.recv s.peak)
  (ho:w.ownsRow base 91 6 ring (min s.msgs.length s.cap) (List.flatten q)) (u:ring.ownBlock=g)
  (hm:∀j,s.recv≤j→j<s.msgs.length→uH w base (dL q (j%s.cap)) (aC s.msgs j))
  (L:s.msgs.length<s.recv+s.cap) (U:s.msgs.length<100000000000) (t:Tg) (zs:List Int) (Q:zs.length≤17592186043904)
  (k:Keep (dC b g) w C) {ring':Value} {Z:Option Nat} {rows':List (List Value)} {A1:Option Addr} {c1:Nat} {P:Nat} (hP:P=max s.peak (s.msgs.length+1-s.recv))
  (hc:au C b ring' s.cap (s.msgs.length+1) s.recv P) (y:C.ownsRow base 91 6 ring' (min (s.msgs.length+1) s.cap) (List.flatten rows')) (hg:ring'.ownBlock=Z)
  (V:rows'.length=min (s.msgs.length+1) s.cap) (O:∀r∈rows',r.length=6)
  (H:∀j,s.recv≤j→j<s.msgs.length→dL rows' (j%s.cap)=dL q (j%s.cap))
  (I:dL rows' (s.msgs.length%s.cap)=[KL t.a,KL t.b,KL t.c,KL t.d,KL t.e,.slice A1 zs.length c1])
  (hv:C.ownsRow base 2 1 (.slice A1 zs.length c1) zs.length (aq .i64 zs)):
  aK C base b Z {s with msgs:=s.msgs++[⟨t,zs⟩],peak:=max s.peak (s.msgs.length+1-s.recv)}:=by
 subst hP
 have X:∀i Y,w.heap[i]?=some (.cells Y 2 (0,0))→¬(i=b∨g=some i):=by
  rintro i Y o (rfl | B)
  ·unfold au at D
   rw [D] at o;injection o with o;injection o with _ o;exact absurd o (by decide)
  ·rcases ho.2 with ⟨hn,_⟩ | ⟨N,cap,R,v,_,x,_⟩
   ·rw [hn] at u;rw [B] at u;cases u
   ·rw [v,B] at u
    obtain rfl:N=i:=by simpa [Value.ownBlock] using u
    rw [x] at o;injection o with o;injection o with _ o;exact absurd o (by decide)
 refine ⟨⟨ok.cap1,ok.cap2,?_,?_,?_,?_,?_⟩,ring',rows',?_,?_,hg,?_,O,fun j h1 h2=>?_⟩
 ·have:=ok.rs;simp;omega
 ·simp;omega
 ·have:=ok.pk;simp only;omega
 ·simp;omega
 ·intro m p
  rcases Kv.1 p with p | p
  ·exact ok.vals m p
  ·rw [List.mem_singleton.1 p];exact Q
 ·simpa using hc
 ·simpa using y
 ·simpa using V
 ·simp only [Kf,Ko] at h1 h2
  rcases JR j s.msgs.length with J | J
  ·rw [jf _ _ _ J]
   simp only
   rw [H j h1 J]
   obtain ⟨A,c2,e,v⟩:=hm j h1 J
   refine ⟨A,c2,e,k.own v fun i o=>?_⟩
   rcases v.2 with ⟨hn,_⟩ | ⟨N,cap,R,T,_,x,_⟩
   ·rw [hn] at o;cases o
   ·rw [T] at o
    obtain rfl:N=i:=by simpa [Value.ownBlock] using o
    exact X _ _ x
  ·obtain rfl:j=s.msgs.length:=by omega
   rw [jg]
   exact ⟨A1,c1,I,hv⟩
theorem mz (base b:Nat) (g:Option Nat) (s:LSt) (x:Array Value) (w:World) (h:aK w base b g s) (i:s.msgs.length=s.recv+s.cap):
  Calls Tryz.prog 33 #[.pointer (some ⟨b,0,none⟩),.agg x] w fun e u=>e=.returned (KL 11)∧Below w.heap.size w u:=by
 obtain ⟨ok,ring,q,hc,_⟩:=h
 have A:=ok.cap2
 have j:=ok.rs
 have p:=ok.many
 have hl:=fun o n=>ks b _ _ _ _ _ _ (show au ((w.alloc o).drewN n) _ _ _ _ _ _ from hc.alloc o) j (by omega)
 rw [show (s.msgs.length:Int)-(s.recv:Int)=(s.cap:Int) by omega] at hl
 have c1:=hc.c1
 have C:=JC hc
 obtain ⟨v,y,B,D⟩:=ag hl ok hc i;clear hl hc ok i j p
 go_enter Tryz.func33,Tryz.ntmps33
 go_wp2_with fail
 go_quiet ((go_at_call 65;exact Calls.quiet_of (v.out _ _)))
 go_wp2_with fail
 go_ret
 refine ⟨rfl,?_⟩
 exact al
theorem qU (base b:Nat) (g:Option Nat) (s:LSt) (t:Tg) (A:Option Addr) (zs:List Int) (c:Nat) (w:World) (h:aK w base b g s) (R:s.msgs.length<s.recv+s.cap) (b5:s.cap≤s.msgs.length) (X:s.msgs.length<100000000000)
  (b1:base≤w.heap.size) (hA:Rd w A (aq .i64 zs)) (ab:zs.length≤17592186043904):
  Calls Tryz.prog 33 #[.pointer (some ⟨b,0,none⟩),.agg #[KL t.a,KL t.b,KL t.c,KL t.d,KL t.e,.slice A zs.length c]] w fun e T=>e=.returned (KL 0)∧
   ∃g',aK T base b g' {s with msgs:=s.msgs++[⟨t,zs⟩],peak:=max s.peak (s.msgs.length+1-s.recv)}∧Keep (dC b g) w T∧(g'=g∨∃k,g'=some k∧w.heap.size≤k):=by
 obtain ⟨t0,t1,t2,t3,t4⟩:=t
 have H:=aa h
 obtain ⟨ok,ring,Q,hc,I,hg,a0,ao,hm⟩:=h
 obtain ⟨RA,rc,rfl,hrc⟩:=aw I
 have bh:=ok.cap1
 have bz:=ok.cap2
 have aR:=ok.rs
 have bG:=ok.pk
 have hl:=fun o n=>ks b _ _ _ _ _ _ (show au ((w.alloc o).drewN n) _ _ _ _ _ _ from hc.alloc o) aR (by omega)
 obtain ⟨i,Y⟩:∃i,s.msgs.length%s.cap=i:=⟨_,rfl⟩
 obtain ⟨L,hL⟩:∃L,min s.msgs.length s.cap=L:=⟨_,rfl⟩
 rw [hL] at hrc I a0 hc
 have c1:=hc.c1
 have hb:=JC hc
 have a7:(((s.msgs.length:Int)-(s.recv:Int))==(s.cap:Int))=false:=by simp;omega
 have a6:=fun W hW=>lp A zs c W hW ab
 obtain ⟨D,hD⟩:∃D:Int,D=(s.msgs.length:Int)-(s.recv:Int):=⟨_,rfl⟩
 rw [←hD] at a7 hl
 have bw:0≤D∧D<s.cap:=by omega
 have b4:i<L:=by rw [←hL,←Y];have:=Nat.mod_lt s.msgs.length (show 0<s.cap by omega);omega
 obtain ⟨Hl,Z,Hc,J,Hg,aM,aG,Hm⟩:=ak hl ok hc I hg a0 ao hm;obtain ⟨a2,HL,b6,HD⟩:=ag Y hL a6 hD;clear hl hc ok I hg a0 ao hm Y hL a6 hD
 go_enter Tryz.func33,Tryz.ntmps33
 go_wp2_with fail
 go_quiet ((go_at_call 65;exact Calls.quiet_of (Hl.out _ _)))
 clear a7
 go_wp2_with fail
 refine (b6.out _ ((hA.alloc _).drewN _)).mono ?_
 rintro e y ⟨v1,rfl,B,V⟩
 obtain ⟨A1,a3,rfl,bA⟩:=aw B
 have p:y.heap[w.heap.size]?=some (.cells #[KL t0,KL t1,KL t2,KL t3,KL t4,.slice A zs.length c] 91 (0,0)):=by
  rw [V.block _ (by simp)]
  exact JE w _
 have bv:=JC p
 have p0:y.cell? ⟨w.heap.size,0,none⟩=some (KL t0):=JF y _ 0 _ _ _ p
 have p1:y.cell? ⟨w.heap.size,1,none⟩=some (KL t1):=JF y _ 1 _ _ _ p
 have p2:y.cell? ⟨w.heap.size,2,none⟩=some (KL t2):=JF y _ 2 _ _ _ p
 have p3:y.cell? ⟨w.heap.size,3,none⟩=some (KL t3):=JF y _ 3 _ _ _ p
 have p4:y.cell? ⟨w.heap.size,4,none⟩=some (KL t4):=JF y _ 4 _ _ _ p
 have p5:y.cell? ⟨w.heap.size,5,none⟩=some (.slice A zs.length c):=JF y _ 5 _ _ _ p
 have pf:=fun j=>JM y _ j _ _ p
 have a1:Below w.heap.size w y:=(JN ((JG _ w).alloc (JD _) _) _).trans (V.mono (by simp))
 have v:=Hc.out.same (a1.block b hb)
 have bl:=JC v
 have k0:=v.c0
 have k2:=v.c2
 have k3:=v.c3
 have k4:=v.c4
 have f2:=v.free 2
 have f4:=v.free 4
 have f0:=v.free 0
 have b9:¬(b=w.heap.size):=by omega
 have bd:¬(w.heap.size=b):=by omega
 have av:=fun W hW=>ji b (.slice RA L rc) s.cap s.msgs.length s.recv s.peak s.msgs.length i W hW Z.out.cap1 Z.out.cap2 a2.out
 obtain ⟨a5,bs,C,b0⟩:=ag v V B av;clear v V B av p
 go_wp2_with fail
 refine (b0.out _ (a5.out.same (Below.heap_setCell y ⟨w.heap.size,5,none⟩ _ b b9))).mono ?_
 rintro e w2 ⟨rfl,rfl⟩
 obtain ⟨N,b7,U,bI,bo⟩:=J.out.form (by omega)
 obtain ⟨rfl,rfl⟩:RA=some ⟨N,0,none⟩∧rc=b7:=by simp only [Ku] at U;exact ⟨U.1,U.2.2⟩
 clear U
 obtain rfl:g=some N:=Hg.out.symm
 have q:=ap J.out ((Below.mono a1 (JD _)))
 have u:∀t,t<6→∃x,y.cell? ⟨N,i*6+t,none⟩=some x:=fun t ht=>by
  have h6:i*6+t<L*6:=by omega
  rw [q.cellAt _ h6]
  exact ⟨_,Kh (by rw [q.1];exact h6)⟩
 obtain ⟨x0,q0⟩:=u 0 (by omega)
 obtain ⟨x1,q1⟩:=u 1 (by omega)
 obtain ⟨x2,q2⟩:=u 2 (by omega)
 obtain ⟨x3,q3⟩:=u 3 (by omega)
 obtain ⟨x4,q4⟩:=u 4 (by omega)
 obtain ⟨x5,q5⟩:=u 5 (by omega)
 rw [Nat.add_zero] at q0
 have qf:=fun j=>q.frozenAt j
 have bi:¬(N=w.heap.size):=by omega
 have be:¬(w.heap.size=N):=by omega
 have aP:¬(N=b):=fun e=>by
  subst e
  have h1:=a5.out.c1
  rcases J.out.2 with ⟨h0,_⟩ | ⟨g2,cap,bf,hv,_,O,_⟩
  ·cases h0
  ·have e2:g2=N:=by simp only [Ku,Option.some.injEq,Addr.mk.injEq] at hv;exact hv.1.1.symm
   subst e2
   have h2:=Hc.out
   unfold au at h2
   rw [h2] at O
   injection O with O
   injection O with _ O
   exact absurd O (by decide)
 have b8:¬(b=N):=fun e=>aP e.symm
 clear u
 have a4:=aa q;clear q
 go_wp2_with fail
 go_region_held3 (fun T=>T.cell? ⟨b,0,none⟩=some (.slice (some ⟨N,0,none⟩) L rc)∧T.cell? ⟨w.heap.size,0,none⟩=some (KL t0)∧T.cell? ⟨w.heap.size,1,none⟩=some (KL t1)∧T.cell? ⟨w.heap.size,2,none⟩=some (KL t2)∧T.cell? ⟨w.heap.size,3,none⟩=some (KL t3)∧
  T.cell? ⟨w.heap.size,4,none⟩=some (KL t4)∧T.cell? ⟨w.heap.size,5,none⟩=some (.slice A1 zs.length a3)) (simp [go_sem, *]) ((fail))
 go_wp2_with fail
 have b3:IntKind.i64.wrap ((s.msgs.length:Int)+1)=(s.msgs.length:Int)+1:=JI _ (by omega)
 go_region
 clear b3
 go_wp2_with fail
 have b2:0≤(s.recv:Int)∧(s.recv:Int)≤(s.msgs.length:Int)+1∧(s.msgs.length:Int)+1≤17592186043904:=by omega
 go_region_with ((go_at_call 65;refine (wg b ((s.msgs.length:Int)+1) s.recv _ (by simp [go_sem, *]) (by simp [go_sem, *]) b2).mono ?_;rintro e T ⟨rfl,n',rfl⟩))
 have bb:=C.out
 all_goals go_wp2_with fail
 all_goals go_ret
 all_goals
  have bn:Keep (dC b (some N)) w y:=Keep.below a1
  have a8:i<Q.length:=by rw [aM.out];exact b4
  have ad:L=min (s.msgs.length+1) s.cap:=by have:=HL.out;omega
  refine ⟨rfl,some N,?_,by (focus (repeat' (first | (with_reducible exact Keep.refl _ _) | (with_reducible assumption) | (with_reducible refine Keep.setCell ?_ _ ?_ _) | (with_reducible refine Keep.alloc ?_ _) | (with_reducible refine Keep.drewN ?_ _) | (with_reducible refine Keep.drew ?_) | (with_reducible exact Or.inr (ii _ _)) | (with_reducible exact Or.inr (ig _ _)) | (refine Or.inr ?_;first | rfl | (simp;done) | omega) | (refine Or.inl ?_;first | omega | (simp;done) | (simp;omega))))),.inl rfl⟩
  refine my (A1:=A1) (c1:=a3) (g:=some N) (rows':=Q.set i [KL t0,KL t1,KL t2,KL t3,KL t4,.slice A1 zs.length a3]) (ring':=.slice (some ⟨N,0,none⟩) L rc) Z.out Hc.out (HL.out▸J.out) rfl Hm.out R X ⟨t0,t1,t2,t3,t4⟩ zs ab (by (focus (repeat' (first | (with_reducible exact Keep.refl _ _) | (with_reducible assumption) | (with_reducible refine Keep.setCell ?_ _ ?_ _) | (with_reducible refine Keep.alloc ?_ _) | (with_reducible refine Keep.drewN ?_ _) | (with_reducible refine Keep.drew ?_) | (with_reducible exact Or.inr (ii _ _)) | (with_reducible exact Or.inr (ig _ _)) | (refine Or.inr ?_;first | rfl | (simp;done) | omega) | (refine Or.inl ?_;first | omega | (simp;done) | (simp;omega)))))) (P:=max s.peak (s.msgs.length+1-s.recv)) rfl (by (focus (repeat' (first | (with_reducible exact a5.out) | (with_reducible refine au.drew ?_) | (with_reducible refine au.drewN ?_ _) | (with_reducible refine au.alloc ?_ _) | (with_reducible refine au.set0 (ring:=.slice RA L rc) ?_ _) | (with_reducible refine au.set2 (sent:=s.msgs.length) ?_ _ _ ?_) | (with_reducible refine au.set4 (peak:=s.peak) ?_ _ _ ?_) | (with_reducible refine au.far ?_ _ _ ?_) | omega | (push_cast;omega))))) ?_ rfl ?_ ?_ ?_ ?_ ?_
  ·rw [←ad,←wC _ _ _ _ _ _ _ rfl Q i aG.out a8]
   (focus (repeat' (first | (with_reducible exact a4.out) | (with_reducible refine World.ownsRow.drew ?_) | (with_reducible refine bC ?_ _) | (with_reducible refine World.ownsRow.alloc ?_ _) | (with_reducible refine (World.ownsRow.stored ?_ _ _).1) | (with_reducible refine ownsRow_setCell_other ?_ ?_ _) | (with_reducible assumption) | (simp [Value.ownBlock];done) | (simp [Value.ownBlock];omega))))
  ·rw [List.length_set,aM.out,ad]
  ·intro r hr
   rcases List.mem_or_eq_of_mem_set hr with hr | rfl
   ·exact aG.out r hr
   ·rfl
  ·intro j h1 h2
   exact pV _ _ _ _ fun e=>IH h1 h2 R (e.symm.trans a2.out.symm)
  ·rw [a2.out];exact qD _ _ _ a8
  ·refine Keep.own (S:=fun k=>k≤w.heap.size) (w:=y) ?_ (ax C.out (by simp;omega)) ?_
   ·(focus (repeat' (first | (with_reducible exact Keep.refl _ _) | (with_reducible assumption) | (with_reducible refine Keep.setCell ?_ _ ?_ _) | (with_reducible refine Keep.alloc ?_ _) | (with_reducible refine Keep.drewN ?_ _) | (with_reducible refine Keep.drew ?_) | (with_reducible exact Or.inr (ii _ _)) | (with_reducible exact Or.inr (ig _ _)) | (refine Or.inr ?_;first | rfl | (simp;done) | omega) | (refine Or.inl ?_;first | omega | (simp;done) | (simp;omega)))))
    all_goals (dsimp only;omega)
   ·intro k hk
    have:=(C.out.lt k hk).1
    simp at this ⊢;omega
theorem un (base b:Nat) (g:Option Nat) (s:LSt) (t:Tg) (A:Option Addr) (zs:List Int) (c:Nat) (w:World) (h:aK w base b g s) (a1:s.msgs.length<s.recv+s.cap) (a4:s.msgs.length<s.cap) (Z:s.msgs.length<100000000000)
  (b6:base≤w.heap.size) (hA:Rd w A (aq .i64 zs)) (ad:zs.length≤17592186043904):
  Calls Tryz.prog 33 #[.pointer (some ⟨b,0,none⟩),.agg #[KL t.a,KL t.b,KL t.c,KL t.d,KL t.e,.slice A zs.length c]] w fun e w'=>e=.returned (KL 0)∧
   ∃g',aK w' base b g' {s with msgs:=s.msgs++[⟨t,zs⟩],peak:=max s.peak (s.msgs.length+1-s.recv)}∧Keep (dC b g) w w'∧(g'=g∨∃k,g'=some k∧w.heap.size≤k):=by
 obtain ⟨t0,t1,t2,t3,t4⟩:=t
 have H:=aa h
 obtain ⟨ok,ring,O,hc,N,hg,a2,aG,hm⟩:=h
 obtain ⟨RA,rc,rfl,hrc⟩:=aw N
 have bi:=ok.cap1
 have bO:=ok.cap2
 have b3:=ok.rs
 have bV:=ok.pk
 have hl:=fun o n=>ks b _ _ _ _ _ _ (show au ((w.alloc o).drewN n) _ _ _ _ _ _ from hc.alloc o) b3 (by omega)
 obtain ⟨i,a0⟩:∃i,s.msgs.length%s.cap=i:=⟨_,rfl⟩
 obtain ⟨L,hL⟩:∃L,min s.msgs.length s.cap=L:=⟨_,rfl⟩
 rw [hL] at hrc N a2 hc hg
 have c1:=hc.c1
 have hb:=JC hc
 have ab:(((s.msgs.length:Int)-(s.recv:Int))==(s.cap:Int))=false:=by simp;omega
 have a8:=fun W hW=>lp A zs c W hW ad
 obtain ⟨D,hD⟩:∃D:Int,D=(s.msgs.length:Int)-(s.recv:Int):=⟨_,rfl⟩
 rw [←hD] at ab hl
 have bN:0≤D∧D<s.cap:=by omega
 obtain rfl:i=L:=by rw [←hL,←a0,Nat.mod_eq_of_lt a4];omega
 obtain ⟨Hl,U,Hc,C,Hg,a7,b9,Hm⟩:=ak hl ok hc N hg a2 aG hm;obtain ⟨b1,HL,bb,HD⟩:=ag a0 hL a8 hD;clear hl hc ok N hg a2 aG hm a0 hL a8 hD
 go_enter Tryz.func33,Tryz.ntmps33
 go_wp2_with fail
 go_quiet ((go_at_call 65;exact Calls.quiet_of (Hl.out _ _)))
 clear ab
 go_wp2_with fail
 refine (bb.out _ ((hA.alloc _).drewN _)).mono ?_
 rintro e x ⟨v1,rfl,I,V⟩
 obtain ⟨A1,R,rfl,bU⟩:=aw I
 have p:x.heap[w.heap.size]?=some (.cells #[KL t0,KL t1,KL t2,KL t3,KL t4,.slice A zs.length c] 91 (0,0)):=by
  rw [V.block _ (by simp)]
  exact JE w _
 have bI:=JC p
 have p0:x.cell? ⟨w.heap.size,0,none⟩=some (KL t0):=JF x _ 0 _ _ _ p
 have p1:x.cell? ⟨w.heap.size,1,none⟩=some (KL t1):=JF x _ 1 _ _ _ p
 have p2:x.cell? ⟨w.heap.size,2,none⟩=some (KL t2):=JF x _ 2 _ _ _ p
 have p3:x.cell? ⟨w.heap.size,3,none⟩=some (KL t3):=JF x _ 3 _ _ _ p
 have p4:x.cell? ⟨w.heap.size,4,none⟩=some (KL t4):=JF x _ 4 _ _ _ p
 have p5:x.cell? ⟨w.heap.size,5,none⟩=some (.slice A zs.length c):=JF x _ 5 _ _ _ p
 have pf:=fun j=>JM x _ j _ _ p
 have a3:Below w.heap.size w x:=(JN ((JG _ w).alloc (JD _) _) _).trans (V.mono (by simp))
 have v:=Hc.out.same (a3.block b hb)
 have bl:=JC v
 have k0:=v.c0
 have k2:=v.c2
 have k3:=v.c3
 have k4:=v.c4
 have f2:=v.free 2
 have f4:=v.free 4
 have f0:=v.free 0
 have bd:¬(b=w.heap.size):=by omega
 have be:¬(w.heap.size=b):=by omega
 have aR:=fun W hW=>ji b (.slice RA i rc) s.cap s.msgs.length s.recv s.peak s.msgs.length i W hW U.out.cap1 U.out.cap2 b1.out
 obtain ⟨b2,bo,Q,b5⟩:=ag v V I aR;clear v V I aR p
 go_wp2_with fail
 refine (b5.out _ (b2.out.same (Below.heap_setCell x ⟨w.heap.size,5,none⟩ _ b bd))).mono ?_
 rintro e w2 ⟨rfl,rfl⟩
 have q:=ap C.out (Below.mono a3 (JD _))
 have a5:=aa q;clear q
 have bX:(Value.slice RA i rc).ownBlock≠some w.heap.size:=fun e=>by have:=(C.out.lt _ e).2;omega
 have b0:=zD Hc.out C.out
 have c7:i≤1048576:=by have:=HL.out;omega
 go_wp2_with fail
 go_region_law ((refine ij jD rfl (.tmp 47) (.tmp 49) rfl base (.slice RA i rc) i (List.flatten O) rfl ?_ (some ⟨x.heap.size,0,none⟩) 1 1 [KL t0,KL t1,KL t2,KL t3,KL t4,.slice A1 zs.length R] rfl ?_ rfl ?_ ?_ ?_ ?_ ?_;((focus (repeat' (first | (with_reducible exact a5.out) | (with_reducible refine World.ownsRow.drew ?_) | (with_reducible refine bC ?_ _) | (with_reducible refine World.ownsRow.alloc ?_ _) | (with_reducible refine (World.ownsRow.stored ?_ _ _).1) | (with_reducible refine ownsRow_setCell_other ?_ ?_ _) | (with_reducible assumption) | (simp [Value.ownBlock];done) | (simp [Value.ownBlock];omega)))));exact Rd.drew (dZ _ _ _ _ (by simp));(intro u hu;simp at hu;rcases hu with rfl | rfl | rfl | rfl | rfl | rfl<;>rfl);omega;(unfold maxLen;omega);(simp;omega);(intro A2 c2 w2 q T B X;have Y:=B.block b (by first | (simp;done) | (simp;omega)) (fun e=>b0 e.symm);have y:au w2 b (.slice RA i rc) s.cap s.msgs.length s.recv s.peak:=(by refine au.same ?_ Y;(focus (repeat' (first | (with_reducible exact b2.out) | (with_reducible refine au.drew ?_) | (with_reducible refine au.drewN ?_ _) | (with_reducible refine au.alloc ?_ _) | (with_reducible refine au.set0 (ring:=.slice RA L rc) ?_ _) | (with_reducible refine au.set2 (sent:=s.msgs.length) ?_ _ _ ?_) | (with_reducible refine au.set4 (peak:=s.peak) ?_ _ _ ?_) | (with_reducible refine au.far ?_ _ _ ?_) | omega | (push_cast;omega)))));have bM:=y.c0;have bw:=y.free 0;have bf:=y.c2;have bz:=y.c3;have bA:=y.c4;have bG:=y.free 2;have bh:=y.free 4;obtain ⟨b4,J,aP,av,aM⟩:=ah T B X y q;clear T B X y q Y)))
 all_goals go_wp2_with fail
 all_goals have b8:IntKind.i64.wrap ((s.msgs.length:Int)+1)=(s.msgs.length:Int)+1:=JI _ (by omega)
 all_goals go_region
 all_goals clear b8
 all_goals go_wp2_with fail
 all_goals have b7:0≤(s.recv:Int)∧(s.recv:Int)≤(s.msgs.length:Int)+1∧(s.msgs.length:Int)+1≤17592186043904:=by omega
 all_goals go_region_with ((go_at_call 65;refine (wg b ((s.msgs.length:Int)+1) s.recv _ (by simp [go_sem, *]) (by simp [go_sem, *]) b7).mono ?_;rintro e w' ⟨rfl,n',rfl⟩))
 all_goals go_wp2_with fail
 all_goals go_ret
 all_goals
  have bv:=zD av.out aM.out
  have bn:Keep (dC b g) w x:=Keep.below a3
  have c6:Keep (dC b g) w w2:=Keep.grown (by (focus (repeat' (first | (with_reducible exact Keep.refl _ _) | (with_reducible assumption) | (with_reducible refine Keep.setCell ?_ _ ?_ _) | (with_reducible refine Keep.alloc ?_ _) | (with_reducible refine Keep.drewN ?_ _) | (with_reducible refine Keep.drew ?_) | (with_reducible exact Or.inr (ii _ _)) | (with_reducible exact Or.inr (ig _ _)) | (refine Or.inr ?_;first | rfl | (simp;done) | omega) | (refine Or.inl ?_;first | omega | (simp;done) | (simp;omega)))))) J.out (fun k hk=>.inr (.inr (Hg.out.symm.trans hk)))
  have ao:i+1=min (s.msgs.length+1) s.cap:=by have:=HL.out;omega
  have a6:dL (O++[[KL t0,KL t1,KL t2,KL t3,KL t4,.slice A1 zs.length R]]) i=[KL t0,KL t1,KL t2,KL t3,KL t4,.slice A1 zs.length R]:=by
   rw [←a7.out];exact iX _ _
  refine ⟨rfl,(Value.slice A2 (i+1) c2).ownBlock,?_,by (focus (repeat' (first | (with_reducible exact Keep.refl _ _) | (with_reducible assumption) | (with_reducible refine Keep.setCell ?_ _ ?_ _) | (with_reducible refine Keep.alloc ?_ _) | (with_reducible refine Keep.drewN ?_ _) | (with_reducible refine Keep.drew ?_) | (with_reducible exact Or.inr (ii _ _)) | (with_reducible exact Or.inr (ig _ _)) | (refine Or.inr ?_;first | rfl | (simp;done) | omega) | (refine Or.inl ?_;first | omega | (simp;done) | (simp;omega))))),?_⟩
  ·refine my (A1:=A1) (c1:=R) (g:=g) (rows':=O++[[KL t0,KL t1,KL t2,KL t3,KL t4,.slice A1 zs.length R]]) (ring':=.slice A2 (i+1) c2) U.out Hc.out (HL.out▸C.out) Hg.out Hm.out a1 Z ⟨t0,t1,t2,t3,t4⟩ zs ad (by (focus (repeat' (first | (with_reducible exact Keep.refl _ _) | (with_reducible assumption) | (with_reducible refine Keep.setCell ?_ _ ?_ _) | (with_reducible refine Keep.alloc ?_ _) | (with_reducible refine Keep.drewN ?_ _) | (with_reducible refine Keep.drew ?_) | (with_reducible exact Or.inr (ii _ _)) | (with_reducible exact Or.inr (ig _ _)) | (refine Or.inr ?_;first | rfl | (simp;done) | omega) | (refine Or.inl ?_;first | omega | (simp;done) | (simp;omega)))))) (P:=max s.peak (s.msgs.length+1-s.recv)) rfl (by (focus (repeat' (first | (with_reducible exact av.out) | (with_reducible refine au.drew ?_) | (with_reducible refine au.drewN ?_ _) | (with_reducible refine au.alloc ?_ _) | (with_reducible refine au.set0 (ring:=.slice RA i rc) ?_ _) | (with_reducible refine au.set2 (sent:=s.msgs.length) ?_ _ _ ?_) | (with_reducible refine au.set4 (peak:=s.peak) ?_ _ _ ?_) | (with_reducible refine au.far ?_ _ _ ?_) | omega | (push_cast;omega))))) ?_ rfl ?_ ?_ ?_ ?_ ?_
   ·rw [←ao,Kr,List.flatten_cons,List.flatten_nil,List.append_nil]
    (focus (repeat' (first | (with_reducible exact aM.out) | (with_reducible refine World.ownsRow.drew ?_) | (with_reducible refine bC ?_ _) | (with_reducible refine World.ownsRow.alloc ?_ _) | (with_reducible refine (World.ownsRow.stored ?_ _ _).1) | (with_reducible refine ownsRow_setCell_other ?_ ?_ _) | (with_reducible assumption) | (simp [Value.ownBlock];done) | (simp [Value.ownBlock];omega))))
   ·rw [Kf,Ko,a7.out,ao]
   ·intro r hr
    rcases Kv.1 hr with hr | hr
    ·exact b9.out r hr
    ·rw [List.mem_singleton.1 hr];rfl
   ·intro j h1 h2
    exact iW _ _ _ (by rw [a7.out,←HL.out];exact qR h1 h2 (by omega) U.out.cap1)
   ·rw [b1.out];exact a6
   ·have bs:Keep (fun k=>k≤w.heap.size) x w2:=Keep.grown (by (focus (repeat' (first | (with_reducible exact Keep.refl _ _) | (with_reducible assumption) | (with_reducible refine Keep.setCell ?_ _ ?_ _) | (with_reducible refine Keep.alloc ?_ _) | (with_reducible refine Keep.drewN ?_ _) | (with_reducible refine Keep.drew ?_) | (with_reducible exact Or.inr (ii _ _)) | (with_reducible exact Or.inr (ig _ _)) | (refine Or.inr ?_;first | rfl | (simp;done) | omega) | (refine Or.inl ?_;first | omega | (simp;done) | (simp;omega)))))) J.out (fun k hk=>.inr (by have:=(C.out.lt k hk).2;omega))
    refine Keep.own (S:=fun k=>k≤w.heap.size) (w:=x) ?_ (ax Q.out (by simp;omega)) ?_
    ·(focus (repeat' (first | (with_reducible exact Keep.refl _ _) | (with_reducible assumption) | (with_reducible refine Keep.setCell ?_ _ ?_ _) | (with_reducible refine Keep.alloc ?_ _) | (with_reducible refine Keep.drewN ?_ _) | (with_reducible refine Keep.drew ?_) | (with_reducible exact Or.inr (ii _ _)) | (with_reducible exact Or.inr (ig _ _)) | (refine Or.inr ?_;first | rfl | (simp;done) | omega) | (refine Or.inl ?_;first | omega | (simp;done) | (simp;omega)))))
     all_goals (dsimp only;omega)
    ·intro k hk
     have:=(Q.out.lt k hk).1
     simp at this ⊢;omega
  ·rcases aP.out with h1 | h1
   ·exact .inl (h1.trans Hg.out)
   ·exact .inr ⟨_,h1,by simp;omega⟩
def LSt.send (s:LSt) (m:Msg):LSt:={s with msgs:=s.msgs++[m],peak:=max s.peak (s.msgs.length+1-s.recv)}
def LSt.new (c:Nat):LSt:=⟨c,[],0,0⟩
theorem we (base b:Nat) (g:Option Nat) (s:LSt) (t:Tg) (A:Option Addr) (zs:List Int) (c:Nat) (w:World) (h:aK w base b g s) (o:s.msgs.length<s.recv+s.cap) (j:s.msgs.length<100000000000)
  (i:base≤w.heap.size) (hA:Rd w A (aq .i64 zs)) (p:zs.length≤17592186043904):
  Calls Tryz.prog 33 #[.pointer (some ⟨b,0,none⟩),.agg #[KL t.a,KL t.b,KL t.c,KL t.d,KL t.e,.slice A zs.length c]] w fun e u=>e=.returned (KL 0)∧
   ∃q,aK u base b q (s.send ⟨t,zs⟩)∧Keep (dC b g) w u∧(q=g∨∃k,q=some k∧w.heap.size≤k):=by
 rcases JR s.msgs.length s.cap with hc | hc
 ·exact un base b g s t A zs c w h o hc j i hA p
 ·exact qU base b g s t A zs c w h o hc j i hA p
theorem qV (w:World) (base c:Nat) (hc:1≤c) (i:c≤1048576):aK (w.alloc (.cells #[KN,KL (c:Int),KL 0,KL 0,KL 0] 177)) base w.heap.size none (LSt.new c):=
 ⟨⟨hc,i,JD _,by simp [LSt.new],JH _,by simp [LSt.new],by simp [LSt.new]⟩,KN,[],JE w _,by simpa [LSt.new] using JO _ _ _ _,rfl,by simp [LSt.new],by simp,by simp [LSt.new]⟩
theorem aK.blocks {w:World} {base b:Nat} {g:Option Nat} {s:LSt} (h:aK w base b g s):b<w.heap.size∧∀i,g=some i→base≤i∧i<w.heap.size:=by
 obtain ⟨ok,ring,o,hc,j,hg,_⟩:=h
 exact ⟨JC hc,fun i p=>j.lt i (hg.trans p)⟩
theorem ix {w:World} {b p:Nat} {q cs':Array Value} {t o:TypeId} (h:w.heap[b]?=some (.cells q t (0,0))) (i:w.heap[p]?=some (.cells cs' o (0,0))) (j:t≠o):b≠p:=by
 rintro rfl
 rw [h] at i
 injection i with i
 injection i with _ i
 exact j i
theorem aK.blk {w:World} {base b:Nat} {g:Option Nat} {s:LSt} (h:aK w base b g s):∃j,w.heap[b]?=some (.cells j 177 (0,0)):=by
 obtain ⟨ok,ring,i,hc,_⟩:=h
 exact ⟨_,hc⟩
theorem aK.ringBlk {w:World} {base b i:Nat} {s:LSt} (h:aK w base b (some i) s):∃x,w.heap[i]?=some (.cells x 91 (0,0)):=by
 obtain ⟨ok,ring,q,hc,j,hg,_⟩:=h
 rcases j.2 with ⟨hn,_⟩ | ⟨v,cap2,u,o,_,p,_⟩
 ·rw [hn] at hg;cases hg
 ·rw [o] at hg
  obtain rfl:v=i:=by simpa [Value.ownBlock] using hg
  exact ⟨_,p⟩
theorem aK.other {w o:World} {base b x:Nat} {g:Option Nat} {s:LSt} {q:Array Value} {t:TypeId} (h:aK w base b g s) (k:Keep (fun i=>i=x) w o) (hx:w.heap[x]?=some (.cells q t (0,0))) (h1:t≠177) (p:t≠91) (u:t≠2):aK o base b g s:=by
 obtain ⟨y,v⟩:=h.blk
 refine h.keep k (ix v hx h1.symm) (fun i j=>?_) (fun i c j _=>ix j hx u.symm)
 subst j
 obtain ⟨cg,hg⟩:=h.ringBlk
 exact ix hg hx p.symm
theorem oD:cL Tryz.prog 54 9:=⟨⟨_,Tryz.underlying54,rfl⟩,by kernel_rfl⟩
theorem ff:cL Tryz.prog 50 5:=⟨⟨_,Tryz.underlying50,rfl⟩,by kernel_rfl⟩
def Acn.tg (a:Acn):Tg:=⟨a.st,a.bk,a.ph,a.rd,a.ch⟩
theorem uq {y:Itm} {i:Acn} (h:y.a=some i) {lo j:Nat} (h1:i.at'.1=lo) (o:i.at'.2=j):(aN y).toArray=#[KL (y.kind:Nat),KL (y.st:Nat),KL (y.n:Nat),.bool i.send,.bool i.add,KL (i.st:Nat),KL (i.bk:Nat),KL (i.ph:Nat),KL (i.rd:Nat),KL (i.ch:Nat),KL (lo:Nat),KL (j:Nat)]:=by
 subst h1;subst o
 unfold aN
 rw [h]
 rfl
theorem sX {H:Nat→Prop} {w:World} {b x:Nat} {i:Inp} {a:MAd} {m:Mst} (h:aI H w b i x a m) (a5:i.start.length≤60) (y:Itm) (o:Acn) (U:y.a=some o) (lo p:Nat) (h1:o.at'.1=lo) (h2:o.at'.2=p) (av:lo<p) (ab:p≤i.start.length) (u l:Option Addr)
  (C:Int) (L:Nat→Prop) (a0:¬L b) (O:∀k,w.heap.size≤k→¬L k) (Q:World→Prop) (v:∀j d,Below w.heap.size w j→Calls Tryz.prog 33 #[.pointer l,.agg #[KL (o.st:Nat),KL (o.bk:Nat),KL (o.ph:Nat),KL (o.rd:Nat),KL (o.ch:Nat),.slice (some ⟨a.bg,lo,none⟩) (p-lo:Nat) d]] j fun e T=>e=.returned (KL C)∧Keep L j T∧Q T):
  Calls Tryz.prog 112 #[.pointer (some ⟨b,0,none⟩),.agg (aN y).toArray,.agg #[.pointer u,.pointer l]] w fun e j=>e=.returned (KL C)∧Keep L w j∧Q j:=by
 rw [uq U h1 h2]
 have B:=h.blk
 have ad:i.start.length≤a.cg:=by
  obtain ⟨_,_,e,h⟩:=aw h.oG
  simp only [Ku] at e
  omega
 obtain ⟨W0,W1,hW0,J,g0,g1,D,a2⟩:=eE w #[KL (y.kind:Nat),KL (y.st:Nat),KL (y.n:Nat),.bool o.send,.bool o.add,KL (o.st:Nat),KL (o.bk:Nat),KL (o.ph:Nat),KL (o.rd:Nat),KL (o.ch:Nat),KL (lo:Nat),KL (p:Nat)] #[.pointer u,.pointer l] 56 154
 have V:=sb B _ D
 obtain ⟨a1,a4,R,G0,G1,K1,I⟩:=aj hW0 J V g0 g1 D v;clear hW0 J V g0 g1 D B h v U h1 h2 a2
 go_enter Tryz.func112,Tryz.ntmps112
 go_upto_region 1 with (fail)
 rw [a1.out,a4.out]
 go_upto_region 2 with (first | (refine aJ #[.bool o.send,.bool o.add,KL (o.st:Nat),KL (o.bk:Nat),KL (o.ph:Nat),KL (o.rd:Nat),KL (o.ch:Nat),KL (lo:Nat),KL (p:Nat)] (b:=w.heap.size) G0.out oD rfl rfl rfl rfl ?_) | (refine az (JE _ _) oD rfl rfl rfl rfl rfl rfl rfl ?_;intro A e2 k2;obtain ⟨E2,N⟩:=ae e2 (aB k2);clear e2 k2))
 have X:Keep L A A.drew:=(Keep.refl _ _).drew
 have lx:=JC E2.out
 have Y:=fun j (q:Keep L A j)=>(q.block W1.heap.size lx (O _ K1.out.size)).trans E2.out
 have a3:∀j,Keep L A j→j.cell? ⟨b,13,none⟩=some (.slice (some ⟨a.bg,0,none⟩) i.start.length a.cg):=fun j q=>JF j b 13 _ _ _ ((q.block b (JC (sb R.out _ N.out)) a0).trans (sb R.out _ N.out))
 have s1:∀j,Keep L A j→j.cell? ⟨w.heap.size+1,1,none⟩=some (.pointer l):=fun j q=>JF j (w.heap.size+1) 1 _ _ _ ((q.block _ (JC (sb G1.out _ N.out)) (O _ (by omega))).trans (sb G1.out _ N.out))
 have x7:∀j,Keep L A j→j.cell? ⟨W1.heap.size,7,none⟩=some (KL (lo:Nat)):=fun j q=>JF j _ 7 _ _ _ (Y j q)
 have x8:∀j,Keep L A j→j.cell? ⟨W1.heap.size,8,none⟩=some (KL (p:Nat)):=fun j q=>JF j _ 8 _ _ _ (Y j q)
 have ao:(lo:Int)≤p:=by omega
 have aG:(p:Int)≤a.cg:=by omega
 have a6:lo≤p:=by omega
 have a7:p≤a.cg:=by omega
 have a8:¬a.cg=lo:=by omega
 obtain ⟨BB,KX⟩:=ae (bt K1.out N.out) Y;clear Y lx
 dsimp only [Act.put]
 refine HA.g (fun j:World=>Keep L A j) ?_
 refine HA.t ?_ [0,1,2] X ?_
 refine HA.ld 3 #[KL (o.st:Nat),KL (o.bk:Nat),KL (o.ph:Nat),KL (o.rd:Nat),KL (o.ch:Nat)] (fun j q=>KX.out j q) ff X ?_
 refine HA.t ?_ [4,5,6,7,8,9,10,11,12,13,14,15] X ?_
 refine HA.c 16 (I.out _ (a.cg-lo) BB.out.drew) ?_
 rintro e w3 ⟨rfl,k3,hq⟩
 have Z:=X.trans k3
 refine ⟨_,rfl,Z,fun _=>?_⟩
 refine HA.t ?_ [17] Z ?_
 refine HA.d ?_
 have K3:=aa ((Keep.below (S:=L) BB.out).trans Z);clear X Z k3 a3 s1 x7 x8
 go_wp2_with fail
 go_ret
 exact ⟨rfl,K3.out,hq⟩
theorem Em {H:Nat→Prop} {w:World} {b x:Nat} {i:Inp} {a:MAd} {m:Mst} (h:aI H w b i x a m) (B:i.start.length≤60) (y:Itm) (j:Acn) (L:y.a=some j) (N:j.at'.1<j.at'.2) (J:j.at'.2≤i.start.length) (u:Option Addr)
  {base l:Nat} {g:Option Nat} {s:LSt} (hL:aK w base l g s) (o:s.msgs.length<s.recv+s.cap) (v:s.msgs.length<100000000000) (p:base≤w.heap.size):
  Calls Tryz.prog 112 #[.pointer (some ⟨b,0,none⟩),.agg (aN y).toArray,.agg #[.pointer u,.pointer (some ⟨l,0,none⟩)]] w fun e A=>e=.returned (KL 0)∧Keep (dC l g) w A∧
   ∃C,aK A base l C (s.send ⟨j.tg,(m.G.drop j.at'.1).take (j.at'.2-j.at'.1)⟩)∧(C=g∨∃k,C=some k∧w.heap.size≤k):=by
 obtain ⟨Z,O⟩:=hL.blk
 have I:=hL.blocks
 refine sX h B y j L _ _ rfl rfl N J u (some ⟨l,0,none⟩) 0 (dC l g) ?_ ?_ _ (fun A d q=>?_)
 ·rintro (e | e)
  ·exact ix h.blk O (by decide) e
  ·subst e
   obtain ⟨cg,hg⟩:=hL.ringBlk
   exact ix h.blk hg (by decide) rfl
 ·rintro k Y (e | e)
  ·omega
  ·have:=(I.2 k e).2;omega
 ·have hG:Rd A (some ⟨a.bg,j.at'.1,none⟩) (aq .i64 ((m.G.drop j.at'.1).take (j.at'.2-j.at'.1))):=by
   have:=((Rd.own (ap h.oG q)).drop j.at'.1).take (j.at'.2-j.at'.1)
   rwa [cV,cK,Kz] at this
  have D:((m.G.drop j.at'.1).take (j.at'.2-j.at'.1)).length=j.at'.2-j.at'.1:=by rw [Kk,Kn,h.wG.1];omega
  have:=we base l g s j.tg (some ⟨a.bg,j.at'.1,none⟩) ((m.G.drop j.at'.1).take (j.at'.2-j.at'.1)) d A (hL.below q) o v (JJ p q.size) hG (by omega)
  rw [D] at this
  refine this.mono ?_
  rintro e U ⟨he,C,Q,V,R⟩
  exact ⟨he,V,C,Q,R.imp id fun ⟨k,X,T⟩=>⟨k,X,JJ q.size T⟩⟩
theorem yC {H:Nat→Prop} {w:World} {b x:Nat} {i:Inp} {a:MAd} {m:Mst} (h:aI H w b i x a m) (p:i.start.length≤60) (y:Itm) (o:Acn) (A:y.a=some o) (C:o.at'.1<o.at'.2) (B:o.at'.2≤i.start.length) (u:Option Addr)
  {base l:Nat} {g:Option Nat} {s:LSt} (hL:aK w base l g s) (j:s.msgs.length=s.recv+s.cap):
  Calls Tryz.prog 112 #[.pointer (some ⟨b,0,none⟩),.agg (aN y).toArray,.agg #[.pointer u,.pointer (some ⟨l,0,none⟩)]] w fun e v=>e=.returned (KL 11)∧Below w.heap.size w v:=by
 refine (sX h p y o A _ _ rfl rfl C B u (some ⟨l,0,none⟩) 11 (fun _=>False) id (fun _ _ h=>h) (fun _=>True) (fun v d q=>?_)).mono fun e v h=>⟨h.1,h.2.1.toBelow (JD _) (fun _ h=>h.elim)⟩
 exact (mz base l g s _ v (hL.below q) j).mono fun e D h=>⟨h.1,Keep.below h.2,trivial⟩
def rY (G:List Int) (lo:Nat) (v:List Int) (add:Bool) (k:Nat):List Int:=dh G.length fun j=>if lo≤j∧j<lo+k then (if add then wrap64 (nth G j+nth v (j-lo)) else nth v (j-lo)) else nth G j
def jp (G:List Int) (lo:Nat) (v:List Int) (add:Bool):List Int:=rY G lo v add v.length
section
variable (G:List Int) (lo:Nat) (v:List Int) (add:Bool)
theorem rI (k:Nat):(rY G lo v add k).length=G.length:=bR _ _
theorem lF:(jp G lo v add).length=G.length:=bR _ _
theorem tx:rY G lo v add 0=G:=(eQ rfl fun k _=>by rw [if_neg (by omega)]).symm
theorem nT {k j:Nat} (i:j<G.length):nth (rY G lo v add k) j=if lo≤j∧j<lo+k then (if add then wrap64 (nth G j+nth v (j-lo)) else nth v (j-lo)) else nth G j:=bj _ i
theorem wU {k:Nat} (p:lo+k<G.length):(rY G lo v add k).set (lo+k) (if add then wrap64 (nth G (lo+k)+nth v k) else nth v k)=rY G lo v add (k+1):=by
 refine iH (by simp [rI]) fun j i=>?_
 rw [List.length_set,rI] at i
 rw [fZ,nT _ _ _ _ i,nT _ _ _ _ i,rI]
 by_cases h1:j=lo+k
 ·subst h1
  rw [if_pos (show lo+k=lo+k∧lo+k<G.length from JL rfl p),if_pos (show lo≤lo+k∧lo+k<lo+(k+1) by omega),Nat.add_sub_cancel_left]
 ·rw [if_neg (show ¬(j=lo+k∧lo+k<G.length) from fun h=>h1 h.1)]
  by_cases o:lo≤j∧j<lo+k
  ·rw [if_pos o,if_pos (show lo≤j∧j<lo+(k+1) by omega)]
  ·rw [if_neg o,if_neg (show ¬(lo≤j∧j<lo+(k+1)) by omega)]
end
theorem rJ {G v:List Int} {lo:Nat} {add:Bool} (hG:W64 G) (hv:W64 v):W64 (jp G lo v add):=fE fun k i=>by
 split
 ·rename_i h
  split
  ·unfold wrap64;omega
  ·exact hv _ (by omega)
 ·exact hG k i
theorem tz {G v:List Int} {lo:Nat} (h:lo+v.length≤G.length):splice G lo v=jp G lo v false:=by
 unfold splice jp rY
 refine eQ (by simp only [Kf,Kk,Kn];omega) fun k j=>?_
 rw [if_neg (show ¬(false=true) by decide)]
 by_cases h1:k<lo
 ·rw [if_neg (by omega)]
  simp only [nth,List.getD_eq_getElem?_getD]
  rw [Ki (by rw [Kk];omega),List.getElem?_take,if_pos h1]
 ·by_cases i:k<lo+v.length
  ·rw [if_pos ⟨by omega,i⟩]
   simp only [nth,List.getD_eq_getElem?_getD]
   rw [Kj (by rw [Kk];omega),Kk,Ki (by omega)]
   congr 2;omega
  ·rw [if_neg (by omega)]
   simp only [nth,List.getD_eq_getElem?_getD]
   rw [Kj (by rw [Kk];omega),Kk,Kj (by omega),List.getElem?_drop]
   congr 2;omega
theorem Fl {G v:List Int} (h:v.length=G.length):jp G 0 v true=eI G v:=by
 unfold jp rY eI
 refine fK fun k i=>?_
 rw [if_pos (show 0≤k∧k<0+v.length by omega),if_pos rfl,Nat.sub_zero]
theorem zl (g c lo n:Nat) (B:Option Addr) (xs ys:List Int) (L N d:Nat) (w:World) (j:w.ownsRow 0 2 1 (.slice (some ⟨g,0,none⟩) n c) n (aq .i64 xs)) (hB:Rd w B (aq .i64 ys)) (hl:ys.length=L) (hn:lo+L≤n) (hm:n≤17592186043904)
  (v:∀b,B=some b→b.block≠g):
  Calls Tryz.prog 149 #[.slice (some ⟨g,lo,none⟩) L N,.slice B L d] w fun e H=>e=.returned (.bool true)∧H.ownsRow 0 2 1 (.slice (some ⟨g,0,none⟩) n c) n (aq .i64 (jp xs lo ys true))∧Keep (fun i=>i=g) w H:=by
 have u:=jz j
 unfold jp
 rw [hl]
 obtain ⟨U,O,X,Q,V⟩:=ah j hB u hl v;clear j hB u hl v
 go_enter Tryz.func149,Tryz.ntmps149
 go_wp2_with fail
 go_loopw [13] (fun i wr=>∃k:Nat,k≤L∧i=KL k∧wr.ownsRow 0 2 1 (.slice (some ⟨g,0,none⟩) n c) n (aq .i64 (rY xs lo ys true k))∧Keep (fun i=>i=g) w wr) (fun i _=>L-(intOf i).toNat)
 case atStart=>exact ⟨0,JH _,rfl,by rw [tx];exact U.out,Keep.refl _ _⟩
 case round=>
  obtain ⟨k,Z,rfl,j,x⟩:=hrel
  by_cases y:k<L
  ·have hg:=(j.lt g rfl).2
   have q:lo+k<xs.length:=by rw [X.out];omega
   have T:=cq j (show lo+k<n by omega)
   rw [nT _ _ _ _ q,if_neg (by omega)] at T
   have f1:=j.frozenAt (lo+k)
   obtain ⟨I,R,rfl,J⟩:=O.out.num (show k<ys.length by rw [Q.out];exact y)
   have D:I≠g:=V.out _ rfl
   have Y:wr.cell? ⟨I,R+k,none⟩=some (KL (nth ys k)):=x.cell J D
   have o:=wU xs lo ys true q
   rw [if_pos rfl] at o
   obtain ⟨C,p,A⟩:=af x j o;clear x j o q J
   go_wp2_with fail
   go_region
   all_goals go_wp2_with fail
   all_goals
    go_roundw
    case rel=>
     refine ⟨k+1,by omega,by go_num,?_,?_⟩
     ·rw [←A.out];exact dA (bC p.out 1) (lo+k) _
     ·exact Keep.setCell (C.out.drewN 1) ⟨g,lo+k,none⟩ (.inr rfl) _
    case measure=>simp [intOf];omega
  ·obtain rfl:k=L:=by omega
   obtain ⟨C,p⟩:=ae x j;clear x j
   go_wp2_with fail
   go_ret
   exact ⟨rfl,p.out,C.out⟩
end Go.Proofs.YtaccfnffmbndhaaGreat
