/- No condition. -/
import Derived.Test.YtgmajkppbhiopaaGreatA00
import Derived.Test.YtgmajkppbhiopaaGreatA20
import Derived.Test.YtgmajkppbhiopaaGreatA04
import Derived.Test.YtgmajkppbhiopaaGreatA09
import Derived.Test.YtgmajkppbhiopaaGreatA02
import Derived.Test.YtgmajkppbhiopaaGreatA14
import Derived.Test.YtgmajkppbhiopaaGreatA01
import Derived.Maps.OwnSet
import Derived.Maps.OwnOps
import Derived.KernelRfl
import Derived.Test.YtgmajkppbhiopaaGreatA08
import Derived.Test.YtgmajkppbhiopaaGreatA19
import Derived.Test.YtgmajkppbhiopaaGreatA07
set_option linter.unusedSimpArgs false
set_option linter.unusedVariables false
set_option maxRecDepth 100000
set_option maxHeartbeats 4000000
namespace Go.Proofs.YtgmajkppbhiopaaGreat
open Go.RowKit
def my (D:WAd) (n:Nat):List Value:=(List.range n).map fun y=>.iface 97 (.pointer (some ⟨D.b y,0,none⟩))
def qz (D:WAd) (n:Nat):List Value:=(List.range n).map fun y=>.pointer (some ⟨D.l y,0,none⟩)
theorem Eh (D:WAd) {n y:Nat} (h:y<n):(my D n)[y]?=some (.iface 97 (.pointer (some ⟨D.b y,0,none⟩))):=by simp [my,h]
theorem DC (D:WAd) {n y:Nat} (h:y<n):(qz D n)[y]?=some (.pointer (some ⟨D.l y,0,none⟩)):=by simp [qz,h]
def WAd.hid (D:WAd) (n:Nat) (E:Nat→Prop) (k:Nat):Prop:=D.all n k∨E k
structure WAt (E:Nat→Prop) (i:Inp) (w:World) (D:WAd) (B:Nat) (M:WSt):Prop where
 mem:eE E i w D B M
 al:eF i M
 rows:∃AW cw AL cl,w.heap[D.X]?=some (.cells #[.slice AW (ao i).W cw,.slice AL (ao i).W cl,.int .i64 (M.sum i:Nat)] 96 (0,0))∧Rd (aQ (D.hid (ao i).W E) w) AW (my D (ao i).W)∧Rd (aQ (D.hid (ao i).W E) w) AL (qz D (ao i).W)
section
variable {E:Nat→Prop} {i:Inp} {w w':World} {D:WAd} {B x:Nat} {M:WSt}
theorem WAt.more {o:Nat→Prop} (h:WAt E i w D B M) (hb:Below w.heap.size w w') (he:∀k,o k→k<w'.heap.size∧(E k∨w.heap.size≤k)):WAt o i w' D B M:=by
 obtain ⟨y,H,v,x,C,A,I⟩:=h.rows
 have u:Ext (aQ (D.hid (ao i).W E) w) (aQ (D.hid (ao i).W o) w'):=dL (Keep.below hb) fun k hk e=>e.imp id fun e=>(he k e).2.elim id fun e=>absurd hk (by omega)
 exact ⟨h.mem.more hb he,h.al,y,H,v,x,(hb.block _ h.mem.xl).trans C,aJ A u,aJ I u⟩
theorem WAt.below (h:WAt E i w D B M) (hb:Below w.heap.size w w'):WAt E i w' D B M:=h.more hb fun k e=>⟨ET (h.mem.ex k e) hb.size,.inl e⟩
theorem WAt.at (h:WAt E i w D B M) (C:bP i) (o:x<(ao i).W):Calls Tryz.prog 47 #[.pointer (some ⟨D.X,0,none⟩),.int .i64 (x:Nat)] w fun e w'=>e=.returned (.tuple #[.iface 97 (.pointer (some ⟨D.b x,0,none⟩)),.pointer (some ⟨D.l (pvW (ao i).W x),0,none⟩),.pointer (some ⟨D.l x,0,none⟩),.bool true])∧Below w.heap.size w w':=by
 obtain ⟨J,L,H,I,y,v,A⟩:=h.rows
 have u:=C.ok.W8
 exact DJ y (aJ v (dM _ _)) (aJ A (dM _ _)) o (by omega) rfl (Eh D o) (DC D (jg (by omega))) (DC D o)
theorem WAt.did (h:WAt E i w D B M) {J:WSt} (N:vm E i w D B x J w'):∃o,o.X=D.X∧eE E i w' o B J∧Keep (fun k=>D.all (ao i).W k∧k≠D.X) w w'∧(∀k,o.all (ao i).W k→D.all (ao i).W k∨w.heap.size≤k)∧
  ∃v C u y,w'.heap[D.X]?=some (.cells #[.slice v (ao i).W C,.slice u (ao i).W y,.int .i64 (M.sum i:Nat)] 96 (0,0))∧Rd (aQ (o.hid (ao i).W E) w') v (my o (ao i).W)∧Rd (aQ (o.hid (ao i).W E) w') u (qz o (ao i).W):=by
 obtain ⟨a1,g1,R,A,H⟩:=N
 obtain ⟨v,C,u,y,L,O,Q⟩:=h.rows
 have I:Ext (aQ (D.hid (ao i).W E) w) (aQ ((D.upd x a1 g1).hid (ao i).W E) w'):=dL (A.mono fun k _ e=>.inl e.1) fun k hk e=>e.imp (fun e=>(H k e).elim id fun e=>absurd hk (by omega)) id
 exact ⟨D.upd x a1 g1,rfl,R,A,H,v,C,u,y,(A.block _ h.mem.xl fun e=>e.2 rfl).trans L,aJ O I,aJ Q I⟩
theorem WAt.sum_le (h:WAt E i w D B M) (o:bP i):M.sum i≤1000000000:=by
 have y:=h.al.sum_le o
 have v:=vw o.ok
 have u:=vt o.ok
 have x:=o.s
 have A:eD (ao i)*i.cfg.steps.toNat≤810000*6:=Nat.mul_le_mul u (by omega)
 omega
theorem Ej (i:Inp) (x p:Nat):sN i x p≤p:=by
 unfold sN dU df
 rw [List.length_map]
 refine ES (List.length_filter_le _ _) (ES (List.length_filterMap_le _ _) ?_)
 rw [Fv];omega
theorem vV (f:Nat→Nat):∀{n x:Nat},x<n→f x≤((List.range n).map f).sum
 | 0,_,h=>by omega
 | n+1,x,h=>by
  rw [FF,List.map_append,List.sum_append]
  simp only [List.map_cons,List.map_nil,List.sum_cons,List.sum_nil,Nat.add_zero]
  by_cases e:x=n
  ·subst e;omega
  ·have:=vV f (n:=n) (x:=x) (by omega);omega
theorem CO (h:x<(ao i).W):M.pos i x≤M.sum i:=vV _ h
def Ep (E:Nat→Prop) (i:Inp) (w:World) (D:WAd) (B:Nat) (o:WSt) (w':World):Prop:=∃h,h.X=D.X∧WAt E i w' h B o∧Keep (fun k=>D.all (ao i).W k) w w'∧∀k,h.all (ao i).W k→D.all (ao i).W k∨w.heap.size≤k
theorem wI (h:WAt E i w D B M) (A:bP i) (a0: -9223372036854775808≤i.cfg.rate∧i.cfg.rate≤9223372036854775807) (a3: -9223372036854775808≤i.cfg.mom∧i.cfg.mom≤9223372036854775807) (z:Int):
  Calls Tryz.prog 15 #[.pointer (some ⟨D.X,0,none⟩),.int .i64 z] w fun e w'=>e=.returned (.bool (pkZ i M z).2)∧Ep E i w D B (pkZ i M z).1 w':=by
 by_cases hz:0≤z∧z<((ao i).W:Int)
 ·obtain ⟨x,rfl⟩:∃x:Nat,z=x:=⟨z.toNat,by omega⟩
  have H:x<(ao i).W:=by omega
  have e1:pkZ i M x=pkF i M x:=by unfold pkZ;rw [if_pos hz,Int.toNat_natCast]
  rw [e1]
  obtain ⟨C,hp,hb⟩:=An h.al A H
  obtain ⟨hA, -,T,Y⟩:=ug h.al A H
  have y:(M.s x).msgs.length<100000000000:=by
   have h1:=h.al.ok.sn x H
   have h2:=h.al.pos_le A H
   have h3:sN i x (M.pos i x)≤M.pos i x:=Ej i x _
   have h4:M.pos i x≤M.sum i:=CO H
   have h5:=h.sum_le A
   omega
  have O:=fun w' (q:Below w.heap.size w w')=>(h.below q).at A H
  have L:=fun w' (q:Below w.heap.size w w')=>(h.below q).mem.pick A H h.al.ok y a0 a3 hp
  by_cases V:C=0
  ·have ht:(pkF i M x).2=true:=by rw [hb];simp [V]
   rw [ht]
   obtain ⟨-, -,N⟩:=T ht
   have a2:=h.sum_le A
   obtain ⟨AW,cw,AL,cl,k1,k2,k3⟩:=h.rows
   refine (wV (X:=D.X) (v0:=.slice AW (ao i).W cw) (v1:=.slice AL (ao i).W cl) O (R:=fun u=>∃o,Below w.heap.size w o∧vm E i o D B x (pkF i M x).1 u) (fun o q=>(L o q).mono fun e u I=>⟨I.1,?_,o,q,I.2⟩) a2 V).mono ?_
   ·obtain ⟨a1,g1, -,U, -⟩:=I.2
    exact (U.block _ (ET h.mem.xl q.size) fun e=>e.2 rfl).trans (sb k1 o q)
   ·rintro e w3 ⟨he,u,⟨o,q,Z⟩,rfl⟩
    obtain ⟨Q,v,U,f3,f4,BW,dw,BL,dl,g1,g2,g3⟩:=(h.below q).did Z
    have hk:Keep (fun k=>k=D.X) u (u.setCell ⟨D.X,2,none⟩ (.int .i64 ((M.sum i+1:Nat):Int))):=Keep.setCell (S:=fun k=>k=D.X) (Keep.refl _ _) _ (.inr rfl) _
    have J:Ext (aQ (Q.hid (ao i).W E) u) (aQ (Q.hid (ao i).W E) (u.setCell ⟨D.X,2,none⟩ (.int .i64 ((M.sum i+1:Nat):Int)))):=dL (hk.mono fun k _ e=>.inl (.inl (e.trans v.symm))) fun k _ e=>e
    refine ⟨he,Q,v,⟨U.keepQ hk (fun k e=>.inl (e.trans v.symm)) (fun j c hj _ e=>ib hj g1 (by decide) e),hA,BW,dw,BL,dl,?_,aJ g2 J,aJ g3 J⟩,?_,fun k e=>(f4 k e).imp id fun e=>ES q.size e⟩
    ·rw [v,N]
     exact ss g1
    ·refine (Keep.below q).trans ((f3.mono fun k _ e=>e.1).trans (hk.mono fun k _ e=>.inl e))
  ·have hf:(pkF i M x).2=false:=by rw [hb];simp [V]
   rw [hf]
   refine (zr O (fun w' q=>(L w' q).mono fun e u I=>⟨I.1,(⟨w',q,I.2⟩:∃o,Below w.heap.size w o∧vm E i o D B x (pkF i M x).1 u)⟩) V).mono ?_
   rintro e u ⟨he,o,q,Z⟩
   obtain ⟨Q,v,U,f3,f4,f5⟩:=(h.below q).did Z
   exact ⟨he,Q,v,⟨U,hA,by rw [Y hf,v];exact f5⟩,(Keep.below q).trans (f3.mono fun k _ e=>e.1),fun k e=>(f4 k e).imp id fun e=>ES q.size e⟩
 ·have e1:pkZ i M z=(M,false):=by unfold pkZ;rw [if_neg hz]
  rw [e1]
  obtain ⟨AW,cw,AL,cl,h1, -, -⟩:=h.rows
  refine (wW fun w' q=>CD (sb h1 w' q) (by omega)).mono ?_
  rintro e u ⟨he,q⟩
  exact ⟨he,D,rfl,h.below q,Keep.below q,fun k e=>.inl e⟩
end
theorem uA {w:World} {base l c:Nat} (hc:1≤c) (h:c≤1048576) (hb:ap w l (FR) c 0 0 0):aD w base l none (LSt.new c):=
 ⟨⟨hc,h,EM _,by simp [LSt.new],EQ _,by simp [LSt.new],by simp [LSt.new]⟩,FR,[],hb,by simpa [LSt.new] using EZ _ _ _ _,rfl,by simp [LSt.new],by simp,by simp [LSt.new]⟩
def WMk (i:Inp) (X:Nat) (bs h:List Nat) (rb:Nat→Prop) (w:World):Prop:=∃b l a s t,bs=(List.range bs.length).map b∧h=(List.range bs.length).map l∧eZ i w (X+1) b l a s t bs.length∧X<w.heap.size∧
 ∀j,rb j→X<j∧j<w.heap.size∧∀y,y<bs.length→(j<s y∨t y≤j)∧j≠l y
theorem rY (b:Nat→Nat) (k v:Nat):(List.range (k+1)).map (aI b k v)=(List.range k).map b++[v]:=by
 rw [FF,List.map_append]
 congr 1
 ·exact List.map_congr_left fun x h=>aO _ _ (by have:=List.mem_range.1 h;omega)
 ·simp [aW]
theorem WMk.next {i:Inp} {X k J l1 cap:Nat} {bs V:List Nat} {rb x:Nat→Prop} {w L R:World} {a1:MAd} (h:WMk i X bs V rb w) (hk:bs.length=k) (A:i.cfg.cap.toNat=cap) (hc:1≤cap∧cap≤1048576) (Y:Below w.heap.size w L) (O:∀j,Mut J a1 j→w.heap.size≤j)
  (hm:∀(H:Nat→Prop) w'',Keep (fun k=>k<w.heap.size) L w''→(∀k,H k→k<w.heap.size)→aC H w'' J i k a1 (fB i)) (u:Ct X cap rb x l1 L R):WMk i X (bs++[J]) (V++[l1]) x R:=by
 obtain ⟨b,l,a,s,t,Z,U,D,h4,v⟩:=h
 rw [hk] at Z U D v
 have hq:=Y.size
 have C:=D.below Y
 have T:∀j,(j=X∨rb j)→j<w.heap.size:=fun j e=>e.elim (fun e=>by omega) fun e=>(v j e).2.1
 have N:eZ i R (X+1) b l a s t k:=C.keep u.hk fun j _ e=>by
  refine ⟨fun y Q=>?_,fun c=>u.hty j c e⟩
  rcases e with rfl | e
  ·have:=D.chain y Q
   omega
  ·exact (v j e).2.2 y Q
 have hf:=D.more (l1:=l1) (by omega) O hm C N hq (u.hk.mono fun j _ e=>.inl (T j e)) u.hl.1 u.hl.2 (fun B=>by
  rw [A];exact uA hc.1 hc.2 u.hb)
 have o:(bs++[J]).length=k+1:=by simp [hk]
 refine ⟨_,_,_,_,_,?_,?_,by rw [o];exact hf,by have:=u.hk.size;omega,fun j e=>?_⟩
 ·rw [o,rY,←Z]
 ·rw [o,rY,←U]
 ·rw [o]
  refine ⟨(u.hrb j e).elim (fun e=>(v j e).1) fun e=>by omega,u.hrl j e,fun y Q=>?_⟩
  by_cases I:y=k
  ·subst I
   simp only [aW]
   rcases u.hrb j e with e | e
   ·have:=(v j e).2.1
    have:=u.hl.1
    omega
   ·omega
  ·simp only [aO _ _ I]
   rcases u.hrb j e with e | e
   ·exact (v j e).2.2 y (by omega)
   ·have:=D.chain y (by omega)
    omega
theorem qV (i:Inp):(ig i).sum i=0:=by
 unfold WSt.sum
 have:∀x,(ig i).pos i x=0:=fun x=>by simp [WSt.pos,ig,bF,fB]
 rw [List.map_congr_left (g:=fun _=>0) fun x _=>this x]
 induction (List.range (ao i).W) with
 | nil=>rfl
 | cons _ l ih=>simpa using ih
def Ea (E:Nat→Prop) (i:Inp) (w:World) (e:Ending) (h:World):Prop:=∃D B,e=.returned (.tuple #[.pointer (some ⟨D.X,0,none⟩),.int .i64 0])∧WAt E i h D B (ig i)∧Below w.heap.size w h∧∀j,D.all (ao i).W j→w.heap.size≤j
theorem wJ {E:Nat→Prop} (A:Option Addr) (c:Nat) (D:Option Addr) (Q:Nat) (T:Option Addr) (N:Nat) (R:Option Addr) (O:Nat) (i:Inp) (w:World) (h:iC w A c D T N R i) (hs:bP i) (hE:∀j,E j→j<w.heap.size):
  Calls Tryz.prog 13 #[.agg (aP A c D Q T N R O i)] w (Ea E i w):=by
 obtain ⟨W1,B⟩:∃W1,w.alloc (.cells (aP A c D Q T N R O i) 29)=W1:=⟨_,rfl⟩
 have Y:Below w.heap.size w W1:=by rw [←B];exact (br w).alloc (EM _) _
 have b2:W1.heap.size=w.heap.size+1:=by rw [←B];simp
 have hg:=hs.g.c
 have b0:=hg.w;have a8:=hg.ca
 have ew:((ao i).W:Int)=i.cfg.workers:=by simp only [ao];omega
 have ec:((i.cfg.cap.toNat:Nat):Int)=i.cfg.cap:=by omega
 have b4:=hs.ok.W8
 have hI:=fun o (q:Below W1.heap.size W1 o)=>(h.below Y).below q
 have L:=fun o (q:Below W1.heap.size W1 o)=>pR A c D Q T N R O i o (hI o q)
 have Z:=fun (x:Nat) o (q:Below W1.heap.size W1 o) (hx:x<(ao i).W)=>xY A c D Q T N R O i x o (hI o q) hs hx
 have hv:aP A c D Q T N R O i=#[.slice A i.cfg.sizes.length c,.int .i64 i.cfg.shift,.int .i64 i.cfg.rate,.int .i64 i.cfg.mom,.int .i64 ((ao i).W:Nat),.int .i64 i.cfg.batch,.int .i64 i.cfg.micros,.int .i64 i.cfg.steps,.int .i64 i.cfg.bucket,.int .i64 i.cfg.chunk,.int .i64 i.cfg.window,.int .i64 (i.cfg.cap.toNat:Nat),.slice D i.data.length Q,.slice T i.start.length N,.slice R i.draws.length O]:=by rw [ew,ec]
 rw [qD.2 hs.g] at L
 rw [hv] at L Z B ⊢
 refine (zt (J:=fun X bs ls rb o=>WMk i X bs ls rb o) B (by omega) (by omega) L (fun o=>C6 _ o (by omega)) (fun X o _ hX _=>⟨fun _=>0,fun _=>0,fun _=>⟨0,none,0,0,0,none,0,0,0,0,0,0,0,0,0,none,0,FR⟩,fun _=>0,fun _=>0,rfl,rfl,eZ.zero,hX,fun j e=>e.elim⟩) (fun X k bs ls rb o hk a6 hX q a2 a7 hJ=>?_)).mono ?_
 ·refine (Z k o q hk).mono ?_
  rintro e w1 ⟨b,a,rfl,a1,a5,hm⟩
  exact ⟨b,rfl,a1,fun l1 b1 w2 a3=>hJ.next a2 rfl (by omega) a1 a5 hm a3⟩
 ·rintro e o ⟨X,bs,ls,AW,AL,cw,cl,rfl,m⟩
  obtain ⟨b,l,a,s,t,h1,h2,U,h4,h5⟩:=m.j
  rw [m.hb] at h1 h2 U h5
  have hq:=m.q.size
  have a6:=m.lo
  have a0:eE E i o ⟨X,b,l,a,fun _=>none⟩ o.heap.size (ig i):=U.mem (Nat.lt_succ_self X) h4 (fun j e=>by have:=hE j e;omega) (by omega)
  have I:∀{e:TypeId} {v:Value} {xs:List Value},o.ownsRow (X+1) e 1 v (ao i).W xs→(∀j,v.ownBlock=some j→rk (.slice AW (ao i).W cw) (.slice AL (ao i).W cl) j)→∀A n c',v=.slice A n c'→n=(ao i).W→Rd (aQ ((⟨X,b,l,a,fun _=>none⟩:WAd).hid (ao i).W E) o) A xs:=by
   rintro e v xs ho hv A n c' rfl rfl
   refine mq (Rd.own ho) fun y u H=>?_
   have ad:X+1≤y.block:=by
    rcases ho.2 with ⟨C,_⟩ | ⟨g,_,_,C,_⟩
    ·injection C with e1;rw [e1] at u;cases u
    ·have V:=(ho.lt g (by rw [C];simp [Value.ownBlock])).1
     injection C with e1;rw [e1] at u;cases u;exact V
   have a4:rk (.slice AW (ao i).W cw) (.slice AL (ao i).W cl) y.block:=by
    rcases ho.2 with ⟨C,_⟩ | ⟨g,_,_,C,_⟩
    ·injection C with e1;rw [e1] at u;cases u
    ·have V:=hv g (by rw [C];simp [Value.ownBlock])
     injection C with e1;rw [e1] at u;cases u;exact V
   have V:=h5 _ a4
   rcases H with (H | ⟨z,hz,H | H⟩) | H
   ·have b3:y.block=X:=H
    omega
   ·have:=U.win z hz _ H
    have:=(V.2.2 z hz).1
    omega
   ·exact (V.2.2 z hz).2 (gQ H)
   ·have:=hE _ H
    omega
  refine ⟨⟨X,b,l,a,fun _=>none⟩,o.heap.size,rfl,⟨a0,eF.zero hs,AW,cw,AL,cl,?_,?_,?_⟩,Y.trans (m.q.mono (by omega)),?_⟩
  ·have:=m.box
   rw [qV]
   exact this
  ·have:=I m.oW (fun j e=>.inl e) AW _ cw rfl rfl
   rw [h1,List.map_map] at this
   exact this
  ·have:=I m.oL (fun j e=>.inr e) AL _ cl rfl rfl
   rw [h2,List.map_map] at this
   exact this
  ·rintro j (e | ⟨y,u,e | e⟩)
   ·have hj:j=X:=e
    omega
   ·have:=U.win y u j e
    have:=U.chain y u
    omega
   ·have hj:j=l y:=gQ e
    have:=U.chain y u
    omega
theorem rj:dt Tryz.prog 152 12:=⟨⟨_,Tryz.underlying152,rfl⟩,by kernel_rfl⟩
theorem xe {X n cw:Nat} {AW:Option Addr} {bs:List Nat} {v1 v2:Value} {w:World} {ok:Nat→Bool} {B:Bool} (hb:w.heap[X]?=some (.cells #[.slice AW n cw,v1,v2] 96 (0,0))) (U:Rd w AW (bs.map fun b=>.iface 97 (.pointer (some ⟨b,0,none⟩)))) (hn:bs.length=n) (a1:n≤1000)
  (hB:B=true↔∀k,k<n→ok k=false)
  (hx:∀k b h,bs[k]?=some b→Below w.heap.size w h→Calls Tryz.prog 218 #[.pointer (some ⟨b,0,none⟩)] h fun e Q=>∃H:Array Value,e=.returned (.tuple #[.agg H,.bool (ok k)])∧(H.size=12∧H.toList.all (·.oneCell')=true)∧Below h.heap.size h Q):
  Calls Tryz.prog 32 #[.pointer (some ⟨X,0,none⟩)] w fun e h=>e=.returned (.bool B)∧Below w.heap.size w h:=by
 have t:=fun h q=>bx3 (sb hb h q)
 have hm:∀(b:Nat) (w:World),(method 496 97 (.pointer (some ⟨b,0,none⟩)) "Next").run Tryz.prog w=.ok (218,.pointer (some ⟨b,0,none⟩)) w:=fun _ _=>by kernel_rfl
 obtain ⟨HW,HX,V,Hn,HM⟩:=ag U hx hB hn hm
 have q0:=br w
 clear hb U hx hB hn hm
 go_enter Tryz.func32,Tryz.ntmps32
 go_wp2_with fail
 go_loopw [14] (fun v wr=>∃k:Nat,k≤n∧v=.int .i64 k∧(∀j,j<k→ok j=false)∧Below w.heap.size w wr) (fun v _=>n-(intOf v).toNat)
 case atStart=>exact ⟨0,EQ _,rfl,fun j hj=>absurd hj (Nat.not_lt_zero j),q0⟩
 case round=>
  obtain ⟨k,hk,rfl,u,q⟩:=hrel
  have HA:=aa u;clear u
  by_cases y:k<n
  ·have a0:(k:Int)<n:=by omega
   obtain ⟨b,x⟩:∃b,bs[k]?=some b:=⟨_,Fr (by rw [Hn.out];exact y)⟩
   have hr:=HW.out k (.iface 97 (.pointer (some ⟨b,0,none⟩))) (by rw [List.getElem?_map,x];rfl)
   obtain ⟨b1,o1,rfl,c1⟩:=hr
   have c2:=(World.cell?_of_block (q.block b1 (au c1))).trans c1
   have Y:=HX.out k b wr x q
   obtain ⟨CX,D⟩:=ab Y q
   have L:=HM.out b
   clear Y x c1
   have tq:=t wr q
   clear t
   go_wp2_with fail
   refine CX.out.mono ?_
   rintro e w1 ⟨H,rfl,⟨C,o⟩,T⟩
   obtain ⟨I,HO,i⟩:=ae C o (D.out.trans (T.mono D.out.size));clear C o T q tq c2 L
   cases hok:ok k with
   | true=>
    have O:=aa hok;clear hok
    go_wp2_with (refine cS (EN _ _) rj rfl rfl rfl rfl I.out (by rw [I.out];rfl) HO.out ?_;intro w3 R A;have J:=aa A;clear R A)
    go_ret
    have N:B=false:=by
     cases hBB:B with
     | false=>rfl
     | true=>have:=V.out.1 hBB k y;rw [O.out] at this;cases this
    refine ⟨by rw [N];rfl,?_⟩
    exact (i.out.alloc i.out.size _).trans (J.out.toBelow (by rw [Fb];have:=i.out.size;omega) (fun j e=>by have:=i.out.size;omega))
   | false=>
    have O:=aa hok;clear hok
    go_wp2_with (refine cS (EN _ _) rj rfl rfl rfl rfl I.out (by rw [I.out];rfl) HO.out ?_;intro w3 R A;have J:=aa ((i.out.alloc i.out.size _).trans (A.toBelow (by rw [Fb];have:=i.out.size;omega) (fun j e=>by have:=i.out.size;omega)));clear R A)
    go_roundw
    case rel=>
     refine ⟨k+1,by omega,by go_num,fun j hj=>?_,J.out⟩
     rcases Fa j k with Z | Z
     ·exact HA.out j Z
     ·obtain rfl:j=k:=by omega
      exact O.out
    case measure=>simp [intOf];omega
  ·obtain rfl:k=n:=by omega
   have D:=aa q;clear t q
   go_wp2_with fail
   go_ret
   exact ⟨by rw [V.out.2 HA.out];rfl,D.out⟩
structure WIn (E:Nat→Prop) (i:Inp) (V:World) (X:Nat) (M:WSt) (w:World):Prop where
 ex:∃D B,D.X=X∧WAt E i w D B M∧∀j,D.all (ao i).W j→V.heap.size≤j
 q:Below V.heap.size V w
section
variable {E:Nat→Prop} {i:Inp} {V w w':World} {X:Nat} {M:WSt}
theorem WIn.below (h:WIn E i V X M w) (hb:Below w.heap.size w w'):WIn E i V X M w':=by
 obtain ⟨⟨D,B,v,o,x⟩,u⟩:=h
 exact ⟨⟨D,B,v,o.below hb,x⟩,bt u hb⟩
theorem WIn.al (h:WIn E i V X M w):eF i M:=by
 obtain ⟨⟨D,B,v,o,x⟩,u⟩:=h
 exact o.al
theorem Ea.win {e:Ending} (h:Ea E i w e w'):∃X,e=.returned (.tuple #[.pointer (some ⟨X,0,none⟩),.int .i64 0])∧WIn E i w X (ig i) w'∧w.heap.size≤X∧Below w.heap.size w w':=by
 obtain ⟨D,B,x,v,u,o⟩:=h
 exact ⟨D.X,x,⟨⟨D,B,rfl,v,o⟩,u⟩,o _ (.inl rfl),u⟩
theorem WIn.pick (h:WIn E i V X M w) (N:bP i) (o: -9223372036854775808≤i.cfg.rate∧i.cfg.rate≤9223372036854775807) (u: -9223372036854775808≤i.cfg.mom∧i.cfg.mom≤9223372036854775807) (z:Int):
  Calls Tryz.prog 15 #[.pointer (some ⟨X,0,none⟩),.int .i64 z] w fun e w'=>e=.returned (.bool (pkZ i M z).2)∧WIn E i V X (pkZ i M z).1 w':=by
 obtain ⟨⟨D,B,rfl,I,x⟩,v⟩:=h
 refine (wI I N o u z).mono ?_
 rintro e w' ⟨he,L,y,O,A,J⟩
 have C:=v.size
 exact ⟨he,⟨L,B,y,O,fun j H=>(J j H).elim (x j) fun h=>by omega⟩,v.trans (A.toBelow C x)⟩
theorem WIn.run (h:WIn E i V X M w) (y:bP i) (x: -9223372036854775808≤i.cfg.rate∧i.cfg.rate≤9223372036854775807) (v: -9223372036854775808≤i.cfg.mom∧i.cfg.mom≤9223372036854775807) {A:Option Addr} {c:Nat} {l:List Int} (hl:l.length≤1000000) (B:Rd V A (ar .i64 l)):
  Calls Tryz.prog 19 #[.pointer (some ⟨X,0,none⟩),.slice A l.length c] w fun e w'=>e=.returned (.int .i64 ((cK i M l).2:Nat))∧WIn E i V X (cK i M l).1 w':=by
 refine (zq (I:=fun w' u=>WIn E i V X u w') (st:=pkZ i) hl (fun w' u o=>B.below o.q) (fun w' u z o _=>o.pick y x v z) h).mono ?_
 rintro e w' ⟨he,o⟩
 exact ⟨he,o⟩
theorem WIn.done (h:WIn E i V X M w) (C:bP i) {Bo:Bool} (hB:Bo=true↔M.fin i):
  Calls Tryz.prog 32 #[.pointer (some ⟨X,0,none⟩)] w fun e w'=>e=.returned (.bool Bo)∧Below w.heap.size w w':=by
 obtain ⟨⟨D,B,rfl,A,h3⟩,Y⟩:=h
 obtain ⟨Z,cw,T,cl,L,O,U⟩:=A.rows
 have Q:=C.ok.W8
 have R:((List.range (ao i).W).map D.b).map (fun b=>Value.iface 97 (.pointer (some ⟨b,0,none⟩)))=my D (ao i).W:=by rw [List.map_map];rfl
 refine xe (ok:=fun x=>decide (M.pos i x<(de i x).length)) (bs:=(List.range (ao i).W).map D.b) L (by rw [R];exact aJ O (dM _ _)) (by simp) (by omega) ?_ fun x b w' hb q=>?_
 ·rw [hB]
  constructor
  ·intro I x u
   have:=I x u
   simp [this]
  ·intro I x u
   have N:=I x u
   have h6:=A.al.pos_le C u
   simp only [FL] at N
   omega
 ·have u:x<(ao i).W:=by
   have:=(Fq.1 hb).1
   simpa using this
  have H:b=D.b x:=by
   rw [List.getElem?_map,List.getElem?_range u] at hb
   simpa using hb.symm
  subst H
  have hm:=(A.below q).mem.mach x u
  have v:=A.al.ok.mok x u
  cases hy:(bf i x (M.m x).st)[(M.m x).nx]? with
  | none=>
   refine (vR hm (List.getElem?_eq_none_iff.1 hy)).mono ?_
   rintro e J ⟨rfl,k⟩
   have o:=v.cur C
   rw [hy] at o
   have:=List.getElem?_eq_none_iff.1 o.symm
   exact ⟨_,by rw [show decide (M.pos i x<(de i x).length)=false from FK (by unfold WSt.pos;omega)],⟨rfl,by decide⟩,k⟩
  | some y=>
   refine (pL hm hy).mono ?_
   rintro e J ⟨rfl,k⟩
   have o:=v.cur C
   rw [hy] at o
   have:=(Fq.1 o.symm).1
   exact ⟨_,by rw [show decide (M.pos i x<(de i x).length)=true from FJ this],⟨by simp [nv],by rw [List.all_eq_true];exact vX y⟩,k⟩
end
theorem CF:dt Tryz.prog 29 15:=⟨⟨_,Tryz.underlying29,rfl⟩,by kernel_rfl⟩
theorem CG:dt Tryz.prog 24 12:=⟨⟨_,Tryz.underlying24,rfl⟩,by kernel_rfl⟩
theorem tK:dt Tryz.prog 81 4:=⟨⟨_,Tryz.underlying81,rfl⟩,by kernel_rfl⟩
theorem xA {P0 P1 P2:World→Nat→World→Prop} {N Z D R U I Y J H O o u x v:Value} {T:Option Addr} {ts ct:Nat} {A:Option Addr} {pl pc n t:Nat} {B:Bool} {w:World} (a6:pl≤1000000) (hn:n≤1000000000) (ht:t≤1000000000)
  (L:∀h,Below w.heap.size w h→Calls Tryz.prog 13 #[.agg #[N,Z,D,R,U,I,Y,J,H,O,o,u,x,.slice T ts ct,v]] h fun e i=>∃X,e=.returned (.tuple #[.pointer (some ⟨X,0,none⟩),.int .i64 0])∧P0 h X i∧Below h.heap.size h i)
  (Q:∀V X h,Below w.heap.size w V→P0 V X h→Calls Tryz.prog 19 #[.pointer (some ⟨X,0,none⟩),.slice A pl pc] h fun e i=>e=.returned (.int .i64 (n:Nat))∧P1 V X i∧Below V.heap.size V i)
  (a0:∀V X h,Below w.heap.size w h→P1 V X h→Calls Tryz.prog 72 #[.agg #[N,Z,D,R,U,I,Y,J,H,O,o,u],.int .i64 (ts:Nat)] h fun e i=>e=.returned (.int .i64 (t:Nat))∧P2 V X i∧Below h.heap.size h i)
  (C:∀V X h,P2 V X h→Calls Tryz.prog 32 #[.pointer (some ⟨X,0,none⟩)] h fun e i=>e=.returned (.bool B)∧Below h.heap.size h i):
  Calls Tryz.prog 37 #[.agg #[N,Z,D,R,U,I,Y,J,H,O,o,u,x,.slice T ts ct,v],.slice A pl pc] w fun e h=>e=.returned (.tuple #[.agg #[.int .i64 (n:Nat),.int .i64 ((t:Int)-n),.int .i64 ((pl:Int)-n),.bool B],.int .i64 0])∧Below w.heap.size w h:=by
 obtain ⟨W1,y⟩:∃W1,(w.alloc (.cells #[N,Z,D,R,U,I,Y,J,H,O,o,u,x,.slice T ts ct,v] 29)).alloc (.cells #[.int .i64 0,.int .i64 0,.int .i64 0,.bool false] 81)=W1:=⟨_,rfl⟩
 have g0:W1.heap[w.heap.size]?=some (.cells #[N,Z,D,R,U,I,Y,J,H,O,o,u,x,.slice T ts ct,v] 29 (0,0)):=by rw [←y];exact sb (EN w _) _ ((br _).alloc (EM _) _)
 have g1:W1.heap[w.heap.size+1]?=some (.cells #[.int .i64 0,.int .i64 0,.int .i64 0,.bool false] 81 (0,0)):=by rw [←y];have:=EN (w.alloc (.cells #[N,Z,D,R,U,I,Y,J,H,O,o,u,x,.slice T ts ct,v] 29)) (.cells #[.int .i64 0,.int .i64 0,.int .i64 0,.bool false] 81);rwa [Fb] at this
 have q0:Below w.heap.size w W1:=by rw [←y];exact ((br w).alloc (EM _) _).alloc (by rw [Fb];omega) _
 have tl:=sl g1
 have a5:∀h,Below W1.heap.size W1 h→h.cell? ⟨w.heap.size,13,none⟩=some (.slice T ts ct):=fun h q=>EO h w.heap.size 13 _ _ _ (sb g0 h q)
 obtain ⟨Hn,Hr,Hs,Hd,a1,G0,G1,Q0⟩:=aj L Q a0 C y g0 g1 q0;clear L Q a0 C y g0 g1 q0
 go_enter Tryz.func37,Tryz.ntmps37
 go_wp2_with (refine cE #[N,Z,D,R,U,I,Y,J,H,O,o,u,x,.slice T ts ct,v] (b:=w.heap.size) (by rw [a1.out];exact G0.out) CF rfl rfl rfl rfl ?_)
 rw [a1.out]
 refine (Hn.out _ Q0.out).mono ?_
 rintro e w2 ⟨X,rfl,p0,k2⟩
 obtain ⟨a3,K2⟩:=ab p0 k2;clear p0 k2
 go_wp2_with fail
 refine (Hr.out _ _ _ Q0.out a3.out).mono ?_
 rintro e w3 ⟨rfl,p1,k3⟩
 have q3:Below W1.heap.size W1 w3:=k3
 obtain ⟨a2,Q3⟩:=ab p1 q3;clear p1 k3
 go_wp2_with (refine cE #[N,Z,D,R,U,I,Y,J,H,O,o,u] (b:=w.heap.size) (sb G0.out _ Q3.out) CG rfl rfl rfl rfl ?_)
 refine (Hs.out _ _ _ (Q0.out.trans (Q3.out.mono Q0.out.size)) a2.out).mono ?_
 rintro e w4 ⟨rfl,p2,k4⟩
 obtain ⟨a4,Q4⟩:=ab p2 (bt Q3.out k4)
 have w1:IntKind.i64.wrap ((t:Int)-n)=(t:Int)-n:=ER _ (by omega)
 have a7:IntKind.i64.wrap ((pl:Int)-n)=(pl:Int)-n:=ER _ (by omega)
 clear p2 k4 q3 a5
 go_wp2_with fail
 refine (Hd.out _ _ _ a4.out).mono ?_
 rintro e w5 ⟨rfl,k5⟩
 have Q5:=aa (bt Q4.out k5);have H5:=aa (sb G1.out _ Q5.out);clear k5
 go_wp2_with (refine cS (b:=w.heap.size+1) H5.out tK rfl rfl rfl rfl rfl rfl rfl ?_;intro w6 e6 k6;obtain ⟨E6,K6⟩:=ab e6 k6;clear e6 k6)
 try simp only [Exit.inBlock,Exit.then]
 refine E7 (qq rfl rfl E6.out tK) rfl ?_
 exact ⟨rfl,(Q0.out.trans (Q5.out.mono Q0.out.size)).trans (K6.out.toBelow (by have:=Q0.out.size;have:=Q5.out.size;omega) (fun j e=>by omega))⟩
end Go.Proofs.YtgmajkppbhiopaaGreat
namespace Go.Proofs.YtgmajkppbhiopaaGreat
def jP (n:Int):Bool:=decide (1≤n∧n≤64)
def ff (l:List Int):Nat→Int→Option Nat
 | 0,_=>none
 | i+1,x=>if nth l i=x then some i else ff l i x
theorem su (l:List Int) (x:Int):∀i k,ff l i x=some k→k<i∧nth l k=x∧∀j,k<j→j<i→nth l j≠x:=by
 intro i
 induction i with
 | zero=>simp [ff]
 | succ i ih=>
  intro k h
  simp only [ff] at h
  split at h
  ·rename_i u;cases h;exact ⟨by omega,u,fun j A v=>by omega⟩
  ·rename_i u
   obtain ⟨A,v,B⟩:=ih k h
   refine ⟨by omega,v,fun j y C=>?_⟩
   rcases Fa j i with o | o
   ·exact B j y o
   ·obtain rfl:j=i:=by omega
    exact u
def sA (m:Int) (l:List Int) (i:Nat):Bool:=
 decide (0≤nth l i∧nth l i<m)&&match ff l i (nth l i) with
  | none=>true
  | some j=>decide (m≤(i:Int)-(j:Int))
def fz (m:Int) (l:List Int):Nat→Nat
 | 0=>0
 | i+1=>fz m l i+if sA m l i=true then 0 else if m≤l.length then 1 else 0
theorem wE (m:Int) (l:List Int):∀i,fz m l i≤i:=by
 intro i
 induction i with
 | zero=>simp [fz]
 | succ i ih=>simp only [fz];split<;>(try split)<;>omega
def nG (m:Int) (l:List Int):Bool:=jP m&&decide (fz m l l.length=0)
end Go.Proofs.YtgmajkppbhiopaaGreat
namespace Go.Proofs.YtgmajkppbhiopaaGreat
open Go.RowKit Go.Maps
theorem nY (n:Int) (w:World):
  Calls Tryz.prog 107 #[.int .i64 n] w fun e o=>e=.returned (.bool (jP n))∧w=o:=by
 by_cases i:1≤n
 ·by_cases h:n≤64
  ·go_enter Tryz.func107,Tryz.ntmps107
   go_wp2
   go_ret
   exact ⟨by simp [jP,i,h],rfl⟩
  ·go_enter Tryz.func107,Tryz.ntmps107
   go_wp2
   go_ret
   exact ⟨by simp [jP,h],rfl⟩
 ·go_enter Tryz.func107,Tryz.ntmps107
  go_wp2
  go_ret
  exact ⟨by simp [jP];omega,rfl⟩
def qc (D:DataW Unit) (l:List Int) (i:Nat):Prop:=
 Maps.IsMap D∧∀x:Int,Maps.has D (.int .i64 x)=(ff l i x).isSome∧D.atKey (.int .i64 x) (.lit (.int .i64 0))=.lit (.int .i64 (((ff l i x).getD 0:Nat):Int))
theorem rZ (l:List Int):qc (.map []) l 0:=⟨Maps.isMap_empty,fun x=>⟨rfl,rfl⟩⟩
theorem uz {D:DataW Unit} {l:List Int} {i:Nat} (h:qc D l i) (hw:(Lit.int .i64 (nth l i)).wf=true):qc (D.put (.int .i64 (nth l i)) (.lit (.int .i64 (i:Int)))) l (i+1):=by
 obtain ⟨u,h⟩:=h
 refine ⟨u.put _ _,fun x=>?_⟩
 by_cases v:nth l i=x
 ·subst v
  have hk:WideAt.IsKeyLit (.int .i64 (nth l i)):=trivial
  rw [Maps.has_put_same u hk,Maps.atKey_put_same u hk]
  simp [ff]
 ·have o:(Lit.int .i64 x)≠.int .i64 (nth l i):=fun e=>by injection e with _ e;exact v e.symm
  rw [Maps.has_put_other o,Maps.atKey_put_other o,(h x).1,(h x).2]
  simp [ff,v]
theorem vW:Keyed Tryz.prog 3:=int_keyed Tryz.underlying3
theorem yR (w:World):(zeroValue 3).run Tryz.prog w=.ok (.int .i64 0) w:=by kernel_rfl
theorem wY (m:Int) (l:List Int) (i:Nat) (BL Y L n:Nat) (D:DataW Unit) (w:World) (hi:i≤140737488355328) (hn:n≤140737488355328) (hm:1≤m∧m≤64) (T:(Lit.int .i64 (nth l i)).wf=true)
  (hL:w.cell? ⟨BL,0,none⟩=some (.map (some L))) (hW:w.cell? ⟨Y,0,none⟩=some (.int .i64 m)) (a4:BL≠L) (a0:Y≠L)
  (V:qc D l i) (x:w.ownsMap Tryz.prog 3 (plainElem Tryz.prog 3) L n D):
  Calls Tryz.prog 108 #[.int .i64 i,.int .i64 (nth l i),.pointer (some ⟨BL,0,none⟩),.pointer (some ⟨Y,0,none⟩)] w fun e w'=>
   e=.returned (.bool (sA m l i))∧∃D',qc D' l (i+1)∧w'.ownsMap Tryz.prog 3 (plainElem Tryz.prog 3) L (n+1) D'∧w.grownBy w' (some L):=by
 have N:=aa T;clear T
 go_enter Tryz.func108,Tryz.ntmps108
 have C:=(V.2 (nth l i)).2
 have H:=(V.2 (nth l i)).1
 obtain ⟨c0,J⟩:∃c0:Int,c0=(((ff l i (nth l i)).getD 0:Nat):Int):=⟨_,rfl⟩
 obtain ⟨s0,O⟩:∃s0:Bool,s0=(ff l i (nth l i)).isSome:=⟨_,rfl⟩
 rw [←J] at C
 rw [←O] at H
 have a2:0≤c0∧c0≤i:=by
  rw [J]
  cases h:ff l i (nth l i) with
  | none=>simp
  | some k=>have:=(su l _ i k h).1;simp;omega
 obtain ⟨Hc,Hs,Z,R⟩:=af J O C H;clear J O C H
 go_wp2_with (first
  | (at_lookup;refine wpList_lookup_own_ok_int _ rfl _ _ 208 rfl 3 3 .i64 vW Tryz.underlying208 Tryz.underlying3 (yR _) L n D rfl x _ _ rfl (keyOf_int_mk Tryz.underlying3 N.out) ?_;intro c v a1;rw [Z.out] at v;rw [R.out];injection v with v;injection v with _ v;rw [←v];clear v a1)
  | (at_mapUpdate;refine wpList_mapUpdate_own _ rfl _ _ _ 208 rfl 3 3 vW Tryz.underlying208 _ L n D rfl x (by unfold maxLen;omega) _ _ _ rfl rfl (keyOf_int_mk Tryz.underlying3 N.out) _ [] (plainElem_int Tryz.underlying3 (WalkArith.wf_i64 (by omega))) ?_))
 intro w1 B Q
 have a3:w1.cell? ⟨Y,0,none⟩=some (.int .i64 m):=Q.cell hW (by simpa using a0)
 have U:=uz V N.out
 have A:sA m l i=(decide (0≤nth l i∧nth l i<m)&&(!s0||decide (m≤(i:Int)-c0))):=by
  rw [Hc.out,Hs.out,sA]
  congr 1
  cases ff l i (nth l i)<;>simp
 obtain ⟨o,I,u,y⟩:=af A U B Q;clear A U B Q x V hL hW
 by_cases g1:0≤nth l i
 ·by_cases g2:nth l i<m
  ·have e1:decide (0≤nth l i∧nth l i<m)=true:=by simp [g1,g2]
   rw [e1] at o
   clear e1
   cases s0 with
   | true=>
    by_cases g3:m≤(i:Int)-c0
    ·have e2:decide (m≤(i:Int)-c0)=true:=by simp [g3]
     go_wp2
     go_ret
     exact ⟨bD (by rw [o.out,e2];rfl),_,I.out,u.out,y.out⟩
    ·have e2:decide (m≤(i:Int)-c0)=false:=by simp;omega
     go_wp2
     go_ret
     exact ⟨bD (by rw [o.out,e2];rfl),_,I.out,u.out,y.out⟩
   | false=>
    go_wp2
    go_ret
    exact ⟨bD (by rw [o.out];rfl),_,I.out,u.out,y.out⟩
  ·go_wp2
   go_ret
   exact ⟨bD (by rw [o.out];simp;omega),_,I.out,u.out,y.out⟩
 ·go_wp2
  go_ret
  exact ⟨bD (by rw [o.out];simp;omega),_,I.out,u.out,y.out⟩
theorem sF (m:Int) (A:Option Addr) (l:List Int) (c:Nat) (w:World) (hl:l.length≤140737488355328) (hA:Rd w A (ar .i64 l)) (V:∀k,k<l.length→(Lit.int .i64 (nth l k)).wf=true):
  Calls Tryz.prog 71 #[.int .i64 m,.slice A l.length c] w fun e w'=>e=.returned (.bool (nG m l))∧Below w.heap.size w w':=by
 have a1:=aa V;clear V
 by_cases hr:jP m=true
 ·have hm:1≤m∧m≤64:=by simpa [jP] using hr
  have a3:=@run_makeMap Tryz.prog
  go_enter Tryz.func71,Tryz.ntmps71
  go_wp2_with (go_at_call 107;refine (nY _ _).mono ?_;rintro e w' ⟨rfl,rfl⟩)
  go_loopw [7,17] (fun v i wr=>∃k:Nat,k≤l.length∧i=.int .i64 k∧v=.int .i64 (fz m l k)∧(∃D,qc D l k∧wr.ownsMap Tryz.prog 3 (plainElem Tryz.prog 3) (w.heap.size+1) k D)∧
    wr.cell? ⟨w.heap.size,0,none⟩=some (.int .i64 m)∧wr.cell? ⟨w.heap.size+1+1,0,none⟩=some (.map (some (w.heap.size+1)))∧Below w.heap.size w wr) (fun _ i _=>l.length-(intOf i).toNat)
  case atStart=>
   refine ⟨0,EQ _,rfl,rfl,⟨.map [],rZ l,?_⟩,?_,?_,?_⟩
   ·have:=(World.ownsMap_made (H:=Unit) (w.alloc (.cells #[.int .i64 m] 3)) Tryz.prog 3 (plainElem Tryz.prog 3)).alloc (.cells #[.map (some (w.heap.size+1))] 208)
    simpa using this
   ·simp [go_sem]
   ·simp [go_sem]
   ·exact (((EP _ w).alloc (EM _) _).alloc (by simp) _).alloc (by simp;omega) _
  case round=>
   obtain ⟨k,hk,rfl,rfl,⟨D,Y,u⟩,N,Q,hb⟩:=hrel
   have a4:=wE m l k
   by_cases U:k<l.length
   ·obtain ⟨b,o,rfl,hc⟩:=(hA.below hb).num U
    have C:=wY m l k (w.heap.size+1+1) w.heap.size (w.heap.size+1) k D wr (by omega) (by omega) hm (a1.out k U) Q N (by omega) (by omega) Y u
    by_cases R:sA m l k=true
    ·rw [R] at C
     obtain ⟨Hg,L,HD,Z,O⟩:=ag R C Y u hb;clear R C Y u hb
     go_wp2_with ((with_reducible refine L.out.mono ?_);rintro e w1 ⟨rfl,D1,I,h,x⟩)
     have B:=x.cell N (by simp)
     have y:=x.cell Q (by simp)
     go_roundw
     case rel=>exact ⟨k+1,by omega,by go_num,by rw [fz,if_pos Hg.out,Nat.add_zero],⟨D1,I,h⟩,B,y,O.out.grown x O.out.size (fun j hj=>by cases hj;omega)⟩
     case measure=>simp [intOf];omega
    ·have J:=R
     rw [Bool.not_eq_true] at J
     rw [J] at C
     obtain ⟨Hg,L,HD,Z,O⟩:=ag R C Y u hb;clear R J C Y u hb
     go_wp2_with ((with_reducible refine L.out.mono ?_);rintro e w1 ⟨rfl,D1,I,h,x⟩;have B:=x.cell N (by simp);have y:=x.cell Q (by simp))
     ·have a0:m≤(l.length:Int):=by assumption
      go_roundw
      case rel=>exact ⟨k+1,by omega,by go_num,by rw [fz,if_neg Hg.out,if_pos a0];go_num,⟨D1,I,h⟩,B,y,O.out.grown x O.out.size (fun j hj=>by cases hj;omega)⟩
      case measure=>simp [intOf];omega
     ·have a0:(l.length:Int)<m:=by assumption
      go_roundw
      case rel=>exact ⟨k+1,by omega,by go_num,by rw [fz,if_neg Hg.out,if_neg (by omega),Nat.add_zero],⟨D1,I,h⟩,B,y,O.out.grown x O.out.size (fun j hj=>by cases hj;omega)⟩
      case measure=>simp [intOf];omega
   ·obtain rfl:k=l.length:=by omega
    by_cases T:fz m l l.length=0
    ·have a2:(((fz m l l.length:Nat):Int)==0)=true:=by simp [T]
     have Hz:=aa T;clear T
     go_wp2
     go_ret
     exact ⟨bD (by rw [nG,Hz.out,hr];rfl),hb⟩
    ·have a2:(((fz m l l.length:Nat):Int)==0)=false:=by simp [T]
     have Hz:=aa T;clear T
     go_wp2
     go_ret
     exact ⟨bD (by rw [nG,hr,FK Hz.out];rfl),hb⟩
 ·rw [Bool.not_eq_true] at hr
  have hf:nG m l=false:=by rw [nG,hr];rfl
  go_enter Tryz.func71,Tryz.ntmps71
  go_wp2_with (go_at_call 107;refine (nY _ _).mono ?_;rintro e w' ⟨rfl,rfl⟩)
  go_ret
  exact ⟨by rw [hf];rfl,(EP _ w).alloc (EM _) _⟩
theorem wl (w:World) (xs:List Value) (e:TypeId):Rd (w.alloc (.cells xs.toArray e)) (some ⟨w.heap.size,0,none⟩) xs:=fun k u h=>by
 refine ⟨_,_,rfl,?_⟩
 rw [FI,EO _ w.heap.size k xs.toArray e (0,0) (EN w _)]
 simpa using h
theorem qS {l:List Int} (h:∀x∈l,0≤x∧x≤1000000):∀k,k<l.length→(Lit.int .i64 (nth l k)).wf=true:=fun k hk=>by
 have:=h (nth l k) (by rw [cW l k hk];exact List.getElem_mem hk)
 exact WalkArith.wf_i64 (by omega)
theorem ww (w:World):Calls Tryz.prog 36 #[] w fun e C=>e=.returned (.bool true)∧Below w.heap.size w C:=by
 have u:=fun W x=>sF 2 (some ⟨w.heap.size,0,none⟩) [1,0,1,0] 4 W (by decide) x (qS (by decide))
 rw [show nG 2 [1,0,1,0]=true from by decide] at u
 have i:=fun B W x=>sF 2 (some ⟨B,0,none⟩) [0,1,1] 3 W (by decide) x (qS (by decide))
 rw [show nG 2 [0,1,1]=false from by decide] at i
 obtain ⟨D,A⟩:=ab u i;clear u i
 go_enter Tryz.func36,Tryz.ntmps36
 go_wp2_with fail
 refine (D.out _ (wl w (ar .i64 [1,0,1,0]) 3)).mono ?_
 rintro e y ⟨rfl,h⟩
 have o:=h.size
 go_wp2_with fail
 refine (A.out _ _ (wl y (ar .i64 [0,1,1]) 3)).mono ?_
 rintro e H ⟨rfl,v⟩
 go_wp2_with fail
 go_ret
 refine ⟨rfl,?_⟩
 simp at o
 refine (((EP _ w).alloc (EM _) _).trans (h.mono (by simp))).trans ?_
 exact ((EP _ y).alloc (by omega) _).trans (v.mono (by simp;omega))
end Go.Proofs.YtgmajkppbhiopaaGreat
namespace Go.Proofs.YtgmajkppbhiopaaGreat
open Go.RowKit
theorem mg (p:Pln) (h:Nat) (B a1 C y A i:Value) (w:World) (Y:aT p) (hn:1≤p.n) (L:p.bu≤1048576) (J:p.wi≤1048576) (N:h≤12)
  (I:∀o,Below w.heap.size w o→Calls Tryz.prog 76 #[.agg #[B,a1,C,y,.int .i64 (p.W:Nat),A,.int .i64 (p.mi:Nat),.int .i64 (h:Nat),.int .i64 (p.bu:Nat),.int .i64 (p.ck:Nat),.int .i64 (p.wi:Nat),i]] o fun e Q=>e=.returned (.int .i64 0)∧Below o.heap.size o Q):
  Calls Tryz.prog 72 #[.agg #[B,a1,C,y,.int .i64 (p.W:Nat),A,.int .i64 (p.mi:Nat),.int .i64 (h:Nat),.int .i64 (p.bu:Nat),.int .i64 (p.ck:Nat),.int .i64 (p.wi:Nat),i],.int .i64 (p.n:Nat)] w fun e o=>e=.returned (.int .i64 ((eD p*h:Nat):Int))∧Below w.heap.size w o:=by
 obtain ⟨x,u⟩:∃x,w.alloc (.cells #[B,a1,C,y,.int .i64 (p.W:Nat),A,.int .i64 (p.mi:Nat),.int .i64 (h:Nat),.int .i64 (p.bu:Nat),.int .i64 (p.ck:Nat),.int .i64 (p.wi:Nat),i] 24)=x:=⟨_,rfl⟩
 have V:x.heap[w.heap.size]?=some (.cells #[B,a1,C,y,.int .i64 (p.W:Nat),A,.int .i64 (p.mi:Nat),.int .i64 (h:Nat),.int .i64 (p.bu:Nat),.int .i64 (p.ck:Nat),.int .i64 (p.wi:Nat),i] 24 (0,0)):=by rw [←u];exact EN w _
 have v:Below w.heap.size w x:=by rw [←u];exact (br w).alloc (EM _) _
 have hc:=pC p B a1 C y A (.int .i64 (h:Nat)) i x Y hn L J (fun o q=>I o (v.trans (q.mono v.size)))
 obtain ⟨O,D,Hc⟩:=ae u v hc
 have t0:=fun o q=>fx (sb V o q)
 have q0:=br x
 clear u V v hc I
 go_enter Tryz.func72,Tryz.ntmps72
 go_wp2_with fail
 rw [O.out]
 refine Hc.out.mono ?_
 rintro e T ⟨P,rfl,hP,pa,R⟩
 have H:=pa.agr (Agr.refl _ T)
 obtain ⟨Ht,U⟩:=ab (ue p h P B a1 C y A i T Y N H) (D.out.trans (R.mono D.out.size));clear pa H R
 go_wp2_with fail
 refine Ht.out.mono ?_
 rintro e w2 ⟨rfl,Z⟩
 have K2:=aa (U.out.trans (Z.mono U.out.size));clear Z
 go_wp2_with fail
 go_ret
 exact ⟨aF (by push_cast;rfl),K2.out⟩
theorem nX (I A N H:Value) (O:Int) (B D L R J o i:Value) (n h:Int) (w:World) (hb:h≠0∨n<1∨1048576<n)
  (Q:∀u,Below w.heap.size w u→Calls Tryz.prog 76 #[.agg #[I,A,N,H,.int .i64 O,B,D,L,R,J,o,i]] u fun e U=>e=.returned (.int .i64 h)∧Below u.heap.size u U):
  Calls Tryz.prog 72 #[.agg #[I,A,N,H,.int .i64 O,B,D,L,R,J,o,i],.int .i64 n] w fun e u=>e=.returned (.int .i64 0)∧Below w.heap.size w u:=by
 obtain ⟨y,v⟩:∃y,w.alloc (.cells #[I,A,N,H,.int .i64 O,B,D,L,R,J,o,i] 24)=y:=⟨_,rfl⟩
 have Y:y.heap[w.heap.size]?=some (.cells #[I,A,N,H,.int .i64 O,B,D,L,R,J,o,i] 24 (0,0)):=by rw [←v];exact EN w _
 have x:Below w.heap.size w y:=by rw [←v];exact (br w).alloc (EM _) _
 have hc:=Ag I A N H (.int .i64 O) B D L R J o i n h y hb (fun u q=>Q u (x.trans (q.mono x.size)))
 obtain ⟨T,C,Hc⟩:=ae v x hc
 have t0:=fun u q=>fx (sb Y u q)
 have q0:=br y
 clear v Y x hc Q hb
 go_enter Tryz.func72,Tryz.ntmps72
 go_wp2_with fail
 rw [T.out]
 refine Hc.out.mono ?_
 rintro e Z ⟨rfl,V⟩
 have K1:=aa (C.out.trans (V.mono C.out.size));clear V
 go_wp2_with fail
 refine (ud Z).mono ?_
 rintro e w2 ⟨rfl,rfl⟩
 go_wp2_with fail
 go_ret
 exact ⟨rfl,K1.out⟩
theorem sX (p:Pln) (h:Nat) (J a1 N D H o:Value) (w:World) (I:aT p) (hn:1≤p.n) (Y:p.bu≤1048576) (V:p.wi≤1048576) (C:h≤12)
  (O:∀i,Below w.heap.size w i→Calls Tryz.prog 76 #[.agg #[J,a1,N,D,.int .i64 (p.W:Nat),H,.int .i64 (p.mi:Nat),.int .i64 (h:Nat),.int .i64 (p.bu:Nat),.int .i64 (p.ck:Nat),.int .i64 (p.wi:Nat),o]] i fun e A=>e=.returned (.int .i64 0)∧Below i.heap.size i A):
  Calls Tryz.prog 41 #[.agg #[J,a1,N,D,.int .i64 (p.W:Nat),H,.int .i64 (p.mi:Nat),.int .i64 (h:Nat),.int .i64 (p.bu:Nat),.int .i64 (p.ck:Nat),.int .i64 (p.wi:Nat),o],.int .i64 (p.n:Nat)] w fun e i=>e=.returned (.int .i64 ((eD p*h*p.W:Nat):Int))∧Below w.heap.size w i:=by
 obtain ⟨u,v⟩:∃u,w.alloc (.cells #[J,a1,N,D,.int .i64 (p.W:Nat),H,.int .i64 (p.mi:Nat),.int .i64 (h:Nat),.int .i64 (p.bu:Nat),.int .i64 (p.ck:Nat),.int .i64 (p.wi:Nat),o] 24)=u:=⟨_,rfl⟩
 have g0:u.heap[w.heap.size]?=some (.cells #[J,a1,N,D,.int .i64 (p.W:Nat),H,.int .i64 (p.mi:Nat),.int .i64 (h:Nat),.int .i64 (p.bu:Nat),.int .i64 (p.ck:Nat),.int .i64 (p.wi:Nat),o] 24 (0,0)):=by rw [←v];exact EN w _
 have x:Below w.heap.size w u:=by rw [←v];exact (br w).alloc (EM _) _
 have hc:=fun i (q:Below u.heap.size u i)=>mg p h J a1 N D H o i I hn Y V C (fun A q'=>O A (x.trans ((bt q q').mono x.size)))
 have a7:=ke I (EM p.buks.length)
 have a8:=I.buks;have L:=I.W8;have b1:=I.mi
 have a4:eD p≤810000:=by
  have:p.W*(p.mi+2*p.buks.length+1)≤8*141:=Nat.mul_le_mul L (by omega)
  unfold eD;omega
 obtain ⟨t,Z⟩:∃t,eD p*h=t:=⟨_,rfl⟩
 have Q:t≤810000*12:=by rw [←Z];exact Nat.mul_le_mul a4 C
 rw [Z] at hc ⊢
 obtain ⟨y,U⟩:∃y,t*p.W=y:=⟨_,rfl⟩
 have h5:(t:Int)*(p.W:Int)=(y:Int):=by rw [←U];push_cast;rfl
 have ad:y≤810000*12*8:=by rw [←U];exact Nat.mul_le_mul Q L
 have w5:IntKind.i64.wrap (y:Int)=y:=ER _ (by omega)
 have b0:¬((p.W:Int)<0):=by omega
 rw [U]
 obtain ⟨a6,B,Hc⟩:=ae v x hc
 have t0:=fun i q=>fx (sb g0 i q)
 have R:=br u
 clear v g0 x hc O Z U
 go_enter Tryz.func41,Tryz.ntmps41
 go_wp2_with fail
 rw [a6.out]
 refine HA.g (fun i:World=>Below u.heap.size u i) ?_
 refine HA.t ?_ [0,1,3,4,5] R.drew ?_
 refine HA.c 2 (Hc.out _ R.drew) ?_
 rintro e w1 ⟨rfl,k1⟩
 have T:=bt R.drew k1
 refine ⟨_,rfl,T,fun _=>?_⟩
 refine HA.t ?_ [6,7] T ?_
 refine HA.d ?_
 have K1:=aa (B.out.trans (T.mono B.out.size));clear k1 T R t0
 go_wp2_with fail
 go_ret
 exact ⟨rfl,K1.out⟩
theorem vd (Q J U O:Value) (H:Int) (L N T Y R v u:Value) (n o:Int) (w:World) (hb:o≠0∨n<1∨1048576<n)
  (V:∀h,Below w.heap.size w h→Calls Tryz.prog 76 #[.agg #[Q,J,U,O,.int .i64 H,L,N,T,Y,R,v,u]] h fun e D=>e=.returned (.int .i64 o)∧Below h.heap.size h D):
  Calls Tryz.prog 41 #[.agg #[Q,J,U,O,.int .i64 H,L,N,T,Y,R,v,u],.int .i64 n] w fun e h=>e=.returned (.int .i64 0)∧Below w.heap.size w h:=by
 obtain ⟨i,y⟩:∃i,w.alloc (.cells #[Q,J,U,O,.int .i64 H,L,N,T,Y,R,v,u] 24)=i:=⟨_,rfl⟩
 have g0:i.heap[w.heap.size]?=some (.cells #[Q,J,U,O,.int .i64 H,L,N,T,Y,R,v,u] 24 (0,0)):=by rw [←y];exact EN w _
 have B:Below w.heap.size w i:=by rw [←y];exact (br w).alloc (EM _) _
 have hc:=fun h (q:Below i.heap.size i h)=>nX Q J U O H L N T Y R v u n o h hb (fun D q'=>V D (B.trans ((bt q q').mono B.size)))
 obtain ⟨Z,x,Hc⟩:=ae y B hc
 have t0:=fun h q=>fx (sb g0 h q)
 have C:=br i
 clear y g0 B hc V hb
 have w0:IntKind.i64.wrap 0=0:=rfl
 go_enter Tryz.func41,Tryz.ntmps41
 go_wp2_with fail
 rw [Z.out]
 by_cases hx:H<0
 ·refine HA.g (fun h:World=>Below i.heap.size i h) ?_
  refine HA.t ?_ [0,1,3,4,5] C.drew ?_
  refine HA.c 2 (Hc.out _ C.drew) ?_
  rintro e w1 ⟨rfl,I⟩
  have A:=bt C.drew I
  refine ⟨_,rfl,A,fun _=>?_⟩
  refine HA.t ?_ [6,7] A ?_
  refine HA.d ?_
  have K1:=aa (x.out.trans (A.mono x.out.size));clear I A C t0
  go_wp2_with fail
  go_ret
  exact ⟨rfl,K1.out⟩
 ·refine HA.g (fun h:World=>Below i.heap.size i h) ?_
  refine HA.t ?_ [0,1,3,4,5] C.drew ?_
  refine HA.c 2 (Hc.out _ C.drew) ?_
  rintro e w1 ⟨rfl,I⟩
  have A:=bt C.drew I
  refine ⟨_,rfl,A,fun _=>?_⟩
  refine HA.t ?_ [6,7] A ?_
  refine HA.d ?_
  have K1:=aa (x.out.trans (A.mono x.out.size));clear I A C t0
  go_wp2_with fail
  go_ret
  exact ⟨rfl,K1.out⟩
def DB (k:Cfg) (n:Int):Pln:=⟨k.workers.toNat,k.micros.toNat,k.bucket.toNat,k.chunk.toNat,k.window.toNat,n.toNat⟩
noncomputable def mM (k:Cfg) (n:Int):Nat:=if dz k n=true then eD (DB k n)*k.steps.toNat else 0
structure Cw (A:Option Addr) (c:Nat) (k:Cfg) (n:Int) (w:World):Prop where
 r:∀w',Below w.heap.size w w'→Calls Tryz.prog 39 #[.agg #[.slice A k.sizes.length c,.int .i64 k.shift,.int .i64 k.rate,.int .i64 k.mom,.int .i64 k.workers,.int .i64 k.batch,.int .i64 k.micros,.int .i64 k.steps,.int .i64 k.bucket,.int .i64 k.chunk,.int .i64 k.window,.int .i64 k.cap,.int .i64 n]] w' fun e w''=>e=.returned (.int .i64 (mM k n:Nat))∧Below w'.heap.size w' w''
 s:∀w',Below w.heap.size w w'→Calls Tryz.prog 72 #[.agg #[.slice A k.sizes.length c,.int .i64 k.shift,.int .i64 k.rate,.int .i64 k.mom,.int .i64 k.workers,.int .i64 k.batch,.int .i64 k.micros,.int .i64 k.steps,.int .i64 k.bucket,.int .i64 k.chunk,.int .i64 k.window,.int .i64 k.cap],.int .i64 n] w' fun e w''=>e=.returned (.int .i64 (mM k n:Nat))∧Below w'.heap.size w' w''
 p:∀w',Below w.heap.size w w'→Calls Tryz.prog 41 #[.agg #[.slice A k.sizes.length c,.int .i64 k.shift,.int .i64 k.rate,.int .i64 k.mom,.int .i64 k.workers,.int .i64 k.batch,.int .i64 k.micros,.int .i64 k.steps,.int .i64 k.bucket,.int .i64 k.chunk,.int .i64 k.window,.int .i64 k.cap],.int .i64 n] w' fun e w''=>e=.returned (.int .i64 ((mM k n:Nat)*k.workers))∧Below w'.heap.size w' w''
 z:(mM k n:Int)*k.workers≤1000000000∧0≤(mM k n:Int)*k.workers∧mM k n≤1000000000
theorem pm (A:Option Addr) (c:Nat) (k:Cfg) (n:Int) (w:World) (h:fI w A c k) (t:Nat)
  (R:dz k n=true→∀u,Below w.heap.size w u→Calls Tryz.prog 28 #[.agg #[.slice A k.sizes.length c,.int .i64 k.shift,.int .i64 k.rate,.int .i64 k.mom,.int .i64 k.workers,.int .i64 k.batch,.int .i64 k.micros,.int .i64 k.steps,.int .i64 k.bucket,.int .i64 k.chunk,.int .i64 k.window,.int .i64 k.cap,.int .i64 n]] u fun e J=>e=.returned (.int .i64 (t:Nat))∧Below u.heap.size u J) (T:dz k n=false→t=0):
  Calls Tryz.prog 39 #[.agg #[.slice A k.sizes.length c,.int .i64 k.shift,.int .i64 k.rate,.int .i64 k.mom,.int .i64 k.workers,.int .i64 k.batch,.int .i64 k.micros,.int .i64 k.steps,.int .i64 k.bucket,.int .i64 k.chunk,.int .i64 k.window,.int .i64 k.cap,.int .i64 n]] w fun e u=>e=.returned (.int .i64 (t:Nat))∧Below w.heap.size w u:=by
 obtain ⟨x,o⟩:∃x,w.alloc (.cells #[.slice A k.sizes.length c,.int .i64 k.shift,.int .i64 k.rate,.int .i64 k.mom,.int .i64 k.workers,.int .i64 k.batch,.int .i64 k.micros,.int .i64 k.steps,.int .i64 k.bucket,.int .i64 k.chunk,.int .i64 k.window,.int .i64 k.cap,.int .i64 n] 64)=x:=⟨_,rfl⟩
 have U:x.heap[w.heap.size]?=some (.cells #[.slice A k.sizes.length c,.int .i64 k.shift,.int .i64 k.rate,.int .i64 k.mom,.int .i64 k.workers,.int .i64 k.batch,.int .i64 k.micros,.int .i64 k.steps,.int .i64 k.bucket,.int .i64 k.chunk,.int .i64 k.window,.int .i64 k.cap,.int .i64 n] 64 (0,0)):=by rw [←o];exact EN w _
 have v:Below w.heap.size w x:=by rw [←o];exact (br w).alloc (EM _) _
 have hc:=kh A c k n x (h.below v)
 have t0:=fun u q=>oH (sb U u q)
 obtain ⟨B,i,H,Q,O⟩:=ag o v hc R T
 have N:=br x
 clear o U v hc h R T
 obtain ⟨r,hr⟩:∃r,dz k n=r:=⟨_,rfl⟩
 rw [hr] at H Q O
 clear hr
 cases r with
 | true=>
  go_enter Tryz.func39,Tryz.ntmps39
  go_wp2_with fail
  rw [B.out]
  refine H.out.mono ?_
  rintro e L ⟨rfl,y⟩
  have D:=bt N y
  have C:=aa (i.out.trans (D.mono i.out.size));clear y
  go_wp2_with fail
  refine (Q.out trivial L C.out).mono ?_
  rintro e Y ⟨rfl,V⟩
  have I:=aa (C.out.trans (V.mono C.out.size));clear V
  go_wp2_with fail
  go_ret
  exact ⟨rfl,I.out⟩
 | false=>
  obtain rfl:=O.out rfl
  go_enter Tryz.func39,Tryz.ntmps39
  go_wp2_with fail
  rw [B.out]
  refine H.out.mono ?_
  rintro e L ⟨rfl,y⟩
  have D:=bt N y
  have C:=aa (i.out.trans (D.mono i.out.size));clear y
  go_wp2_with fail
  go_ret
  exact ⟨rfl,C.out⟩
theorem pX (A:Option Addr) (c:Nat) (k:Cfg) (n:Int) (w:World) (h:fI w A c k) (T:oe k n (dz k n)):Cw A c k n w:=by
 by_cases hr:dz k n=true
 ·have Q:=T hr
  have y:=hr
  unfold dz at y
  simp only [Bool.and_eq_true,FM] at y
  have D:=dN.1 y.1
  have x:mM k n=eD (DB k n)*k.steps.toNat:=if_pos hr
  obtain ⟨sz,sh,ra,C,o,ba,mi,sp,bu,ch,wi,ca⟩:=k
  have g1:=D.w;have Y:=D.mi;have g3:=D.bu;have Z:=D.ch;have g5:=D.wi;have U:=D.st
  dsimp only at *
  obtain ⟨o,rfl⟩:∃m:Nat,o=m:=⟨o.toNat,by omega⟩
  obtain ⟨mi,rfl⟩:∃m:Nat,mi=m:=⟨mi.toNat,by omega⟩
  obtain ⟨sp,rfl⟩:∃m:Nat,sp=m:=⟨sp.toNat,by omega⟩
  obtain ⟨bu,rfl⟩:∃m:Nat,bu=m:=⟨bu.toNat,by omega⟩
  obtain ⟨ch,rfl⟩:∃m:Nat,ch=m:=⟨ch.toNat,by omega⟩
  obtain ⟨wi,rfl⟩:∃m:Nat,wi=m:=⟨wi.toNat,by omega⟩
  obtain ⟨n,rfl⟩:∃m:Nat,n=m:=⟨n.toNat,by omega⟩
  have H:aT ⟨o,mi,bu,ch,wi,n⟩:=⟨by simp only;omega,by simp only;omega,by simp only;omega,by simp only;omega,by simp only;omega,by simp only;omega,by simp only;omega,by simp only;omega⟩
  have v:mM ⟨sz,sh,ra,C,o,ba,mi,sp,bu,ch,wi,ca⟩ n=eD ⟨o,mi,bu,ch,wi,n⟩*sp:=x
  have I:∀u,Below w.heap.size w u→Calls Tryz.prog 76 #[.agg (bZ A c ⟨sz,sh,ra,C,o,ba,mi,sp,bu,ch,wi,ca⟩)] u fun e i=>e=.returned (.int .i64 0)∧Below u.heap.size u i:=fun u q=>by
   have:=fU A c ⟨sz,sh,ra,C,o,ba,mi,sp,bu,ch,wi,ca⟩ u (h.below q)
   rwa [y.1] at this
  have L:eD ⟨o,mi,bu,ch,wi,n⟩≤810000:=by
   have O:=H.buks
   have V:=ke H (EM (Pln.buks ⟨o,mi,bu,ch,wi,n⟩).length)
   have:o*(mi+2*(Pln.buks ⟨o,mi,bu,ch,wi,n⟩).length+1)≤8*141:=Nat.mul_le_mul (by omega) (by omega)
   unfold eD;dsimp only;omega
  have N:eD ⟨o,mi,bu,ch,wi,n⟩*sp≤810000*12:=Nat.mul_le_mul L (by omega)
  have R:eD ⟨o,mi,bu,ch,wi,n⟩*sp*o≤810000*12*8:=Nat.mul_le_mul N (by omega)
  refine ⟨fun u q=>?_,fun u q=>?_,fun u q=>?_,?_⟩
  ·rw [v]
   exact pm A c _ n u (h.below q) _ (fun _ i B=>zI ⟨o,mi,bu,ch,wi,n⟩ sp (.slice A sz.length c) (.int .i64 sh) (.int .i64 ra) (.int .i64 C) (.int .i64 ba) (.int .i64 ca) i H (by simp only;omega) (by simp only;omega) (by omega)) (fun e=>by rw [hr] at e;cases e)
  ·rw [v]
   exact mg ⟨o,mi,bu,ch,wi,n⟩ sp (.slice A sz.length c) (.int .i64 sh) (.int .i64 ra) (.int .i64 C) (.int .i64 ba) (.int .i64 ca) u H (by simp only;omega) (by simp only;omega) (by simp only;omega) (by omega) (fun i B=>I i (bt q B))
  ·rw [v]
   have:=sX ⟨o,mi,bu,ch,wi,n⟩ sp (.slice A sz.length c) (.int .i64 sh) (.int .i64 ra) (.int .i64 C) (.int .i64 ba) (.int .i64 ca) u H (by simp only;omega) (by simp only;omega) (by simp only;omega) (by omega) (fun i B=>I i (bt q B))
   rw [Int.natCast_mul] at this
   exact this
  ·rw [v]
   have e:((eD ⟨o,mi,bu,ch,wi,n⟩*sp:Nat):Int)*(o:Int)=((eD ⟨o,mi,bu,ch,wi,n⟩*sp*o:Nat):Int):=(Int.natCast_mul _ _).symm
   dsimp only
   rw [e]
   omega
 ·have J:dz k n=false:=by simpa using hr
  have x:mM k n=0:=if_neg hr
  have hb:aM k≠0∨n<1∨1048576<n:=by
   unfold dz at hr
   simp only [Bool.and_eq_true,FM] at hr
   by_cases O:aM k=0
   ·right;omega
   ·exact .inl O
  refine ⟨fun u q=>?_,fun u q=>?_,fun u q=>?_,?_⟩
  ·rw [x]
   exact pm A c k n u (h.below q) 0 (fun e=>by rw [J] at e;cases e) (fun _=>rfl)
  ·rw [x]
   exact nX _ _ _ _ _ _ _ _ _ _ _ _ n (aM k) u hb (fun i B=>fU A c k i (h.below (bt q B)))
  ·rw [x]
   have:=vd (.slice A k.sizes.length c) (.int .i64 k.shift) (.int .i64 k.rate) (.int .i64 k.mom) k.workers (.int .i64 k.batch) (.int .i64 k.micros) (.int .i64 k.steps) (.int .i64 k.bucket) (.int .i64 k.chunk) (.int .i64 k.window) (.int .i64 k.cap) n (aM k) u hb (fun i B=>fU A c k i (h.below (bt q B)))
   simpa using this
  ·rw [x];simp
def Ev (i:Inp):Prop:=vq i∧(cF i=0→i.cfg.workers≤6∧i.cfg.steps≤5∧i.start.length≤40)
theorem tZ (A:Option Addr) (c:Nat) (D:Option Addr) (I:Nat) (T:Option Addr) (x:Nat) (R:Option Addr) (H:Nat) (i:Inp) (w:World) (h:gF w A c D T x R i):
  Calls Tryz.prog 11 #[.agg (aP A c D I T x R H i)] w (oq (Ev i) w):=by
 obtain ⟨u,y⟩:∃u,w.alloc (.cells (aP A c D I T x R H i) 29)=u:=⟨_,rfl⟩
 have O:u.heap[w.heap.size]?=some (.cells (aP A c D I T x R H i) 29 (0,0)):=by rw [←y];exact EN w _
 have B:Below w.heap.size w u:=by rw [←y];exact (br w).alloc (EM _) _
 have hf:=ua A c D I T x R H i u (h.below B)
 have U:=fun (hs:ie i) o (q:Below u.heap.size u o)=>jO A c D I T x R H i o (((h.rd hs).below B).below q)
 have t4:∀o,Below u.heap.size u o→o.cell? ⟨w.heap.size,4,none⟩=some (.int .i64 i.cfg.workers):=fun o q=>EO o w.heap.size 4 _ _ _ (sb O o q)
 have t7:∀o,Below u.heap.size u o→o.cell? ⟨w.heap.size,7,none⟩=some (.int .i64 i.cfg.steps):=fun o q=>EO o w.heap.size 7 _ _ _ (sb O o q)
 have a1:∀o,Below u.heap.size u o→o.cell? ⟨w.heap.size,13,none⟩=some (.slice T i.start.length x):=fun o q=>EO o w.heap.size 13 _ _ _ (sb O o q)
 unfold oq Ev
 unfold oq at hf
 obtain ⟨N,L,Hf,a0,G0⟩:=ag y B hf U O
 have q0:=br u
 clear y O B hf U h
 go_enter Tryz.func11,Tryz.ntmps11
 go_wp2_with (refine cE (aP A c D I T x R H i) (b:=w.heap.size) (by rw [N.out];exact G0.out) jM rfl rfl rfl rfl ?_)
 rw [N.out]
 refine Hf.out.mono ?_
 rintro e w1 ⟨⟨b,rfl,hb⟩,V⟩
 have Q:=bt q0 V
 obtain ⟨J,Z⟩:=ab (L.out.trans (V.mono L.out.size)) hb;clear hb V q0
 cases b with
 | false=>
  go_wp2_with fail
  go_ret
  exact ⟨⟨false,rfl,fun h=>by cases h⟩,J.out⟩
 | true=>
  go_wp2_with (first | (refine cE (aP A c D I T x R H i) (sb G0.out _ Q) jM rfl rfl rfl rfl ?_) | (refine vr (aP A c D I T x R H i) (sb G0.out _ Q) jM rfl rfl rfl rfl ?_))
  refine (a0.out (Z.out (by trivial)).1 w1 Q).mono ?_
  rintro e w2 ⟨rfl,k2⟩
  have q2:=bt Q k2
  have v:=aa (J.out.trans (k2.mono J.out.size));clear k2 Q
  obtain ⟨C,Y⟩:∃C,cF i=C:=⟨_,rfl⟩
  rw [Y]
  have HC:=aa Y;clear Y
  by_cases h0:C=0
  ·subst h0
   by_cases h6:i.cfg.workers≤6
   ·by_cases h5:i.cfg.steps≤5
    ·by_cases h4:i.start.length≤40
     ·go_wp2_with fail
      go_ret
      exact ⟨⟨_,rfl,fun _=>⟨Z.out (by trivial),fun _=>⟨h6,h5,h4⟩⟩⟩,v.out⟩
     ·go_wp2_with fail
      go_ret
      exact ⟨⟨false,by simp;omega,fun h=>by cases h⟩,v.out⟩
    ·go_wp2_with fail
     go_ret
     exact ⟨.inl rfl,v.out⟩
   ·go_wp2_with fail
    go_ret
    exact ⟨.inl rfl,v.out⟩
  ·go_wp2_with fail
   go_ret
   exact ⟨⟨true,rfl,fun _=>⟨Z.out (by trivial),fun h=>absurd (HC.out.symm.trans h) h0⟩⟩,v.out⟩
end Go.Proofs.YtgmajkppbhiopaaGreat
namespace Go.Proofs.YtgmajkppbhiopaaGreat
open Go.RowKit Go.ChangeShapes Go.WideShapes Go.ChangeAt
theorem AB {H:Type} {i:TypeId×Value→H} {W:World} {base:Nat} {v:Value} {d:DataW H} {p:List MemPlace} (o:Value.okWide Tryz.prog W .any base 22 v) (h:DataW.Trod i Tryz.prog W 0 (fun _=>true) true 22 v d p) (z:fH Tryz.prog 22 d):
  ∃(A:Option Addr) (l:List Int) (c:Nat),v=.slice A l.length c∧vo W A l c:=by
 obtain ⟨a,D,cap,rfl⟩:=okWide_slice Tryz.underlying22 o
 obtain ⟨l,⟨A,c,e,y,u,C,x,B⟩,_⟩:=lW na h z
 simp [Value.cells] at e
 obtain ⟨rfl,rfl,rfl⟩:=e
 exact ⟨_,l,_,rfl,⟨y,u,C,x,qh B⟩⟩
structure Ey (i:Inp):Prop where
 sp:oe i.cfg i.start.length (dz i.cfg i.start.length)
 eq:mM i.cfg i.start.length=kQ i
 le:kQ i≤4860000
theorem vq.bnd {i:Inp} (h:vq i) (v:cF i=0):Ey i:=by
 have o:=h.sm v
 have x:=o.g.c
 have hc:=dN.2 x
 have y:=qK x.z
 have he:=o.g.s
 have hn:1≤i.start.length:=by rw [he];exact y
 have hm:=o.n
 have hr:dz i.cfg i.start.length=true:=by simp only [dz,hc,Bool.and_eq_true,FM];exact ⟨trivial,by omega,by omega⟩
 have u:=vw o.ok
 have A:=vt o.ok
 have B:=o.s
 refine ⟨(h.2 v).1,?_,?_⟩
 ·unfold mM
  rw [if_pos hr,u]
  rfl
 ·rw [u]
  have:eD (ao i)*i.cfg.steps.toNat≤810000*6:=Nat.mul_le_mul A (by omega)
  omega
theorem zH {i:Inp} (h:bP i) (l:List Int):(cK i (ig i) l).2≤kQ i∧((cK i (ig i) l).1.fin i↔(cK i (ig i) l).2=kQ i):=by
 obtain ⟨u,o⟩:=mp (eF.zero h) h l
 rw [qV,FI] at o
 have v:=u.sum_le h
 rw [o] at v
 exact ⟨v,by rw [u.fin_iff h,o]⟩
theorem ta (A:Option Addr) (c:Nat) (D:Option Addr) (L:Nat) (T:Option Addr) (I:Nat) (R:Option Addr) (J:Nat) (i:Inp) (B:Option Addr) (l:List Int) (Q:Nat) (w:World) (h:iC w A c D T I R i) (H:bP i) (hb:Ey i) (hl:l.length≤1000000) (O:Rd w B (ar .i64 l)) {Bo:Bool} (hB:Bo=true↔(cK i (ig i) l).1.fin i):
  Calls Tryz.prog 37 #[.agg (aP A c D L T I R J i),.slice B l.length Q] w fun e o=>e=.returned (.tuple #[.agg #[.int .i64 ((cK i (ig i) l).2:Nat),.int .i64 ((kQ i:Int)-(cK i (ig i) l).2),.int .i64 ((l.length:Int)-(cK i (ig i) l).2),.bool Bo],.int .i64 0])∧Below w.heap.size w o:=by
 have hr:=(zH H l).1
 have U:=hb.le
 have C:=fun o (q:Below w.heap.size w o)=>(pX A c i.cfg i.start.length o (h.c.below q) hb.sp).s o (br o)
 rw [hb.eq] at C
 refine xA (P0:=fun V X o=>WIn (fun _=>False) i V X (ig i) o) (P1:=fun V X o=>WIn (fun _=>False) i V X (cK i (ig i) l).1 o) (P2:=fun V X o=>WIn (fun _=>False) i V X (cK i (ig i) l).1 o) hl (by omega) (by omega) (fun o q=>?_) (fun V X o q x=>?_) (fun V X o q x=>?_) (fun V X o x=>?_)
 ·refine (wJ (E:=fun _=>False) A c D L T I R J i o (h.below q) H (fun j e=>e.elim)).mono ?_
  intro e y hn
  obtain ⟨X,v,u,Y,N⟩:=hn.win
  exact ⟨X,v,u,N⟩
 ·refine (x.run H h.ra h.rm hl (O.below q)).mono ?_
  rintro e y ⟨v,u⟩
  exact ⟨v,u,u.q⟩
 ·refine (C o q).mono ?_
  rintro e y ⟨v,u⟩
  exact ⟨v,x.below u,u⟩
 ·exact x.done H hB
end Go.Proofs.YtgmajkppbhiopaaGreat
