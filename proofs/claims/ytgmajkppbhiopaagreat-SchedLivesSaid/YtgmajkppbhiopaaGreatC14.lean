/- No condition. -/
import Derived.Test.YtgmajkppbhiopaaGreatC13
import Derived.Maps.OwnSet
import Derived.Maps.OwnOps
set_option linter.unusedSimpArgs false
set_option linter.unusedVariables false
set_option maxRecDepth 100000
set_option maxHeartbeats 4000000
namespace Go.Proofs.YtgmajkppbhiopaaGreat
open Go.RowKit
open Tryz
def qZ (D:WAd) (n:Nat):List Value:=(List.range n).map fun y=>.iface 97 (.pointer (some ⟨D.b y,0,none⟩))
def vG (D:WAd) (n:Nat):List Value:=(List.range n).map fun y=>.pointer (some ⟨D.l y,0,none⟩)
theorem Li (D:WAd) {n y:Nat} (h:y<n):(qZ D n)[y]?=some (.iface 97 (.pointer (some ⟨D.b y,0,none⟩))):=by simp [qZ,h]
theorem J5 (D:WAd) {n y:Nat} (h:y<n):(vG D n)[y]?=some (.pointer (some ⟨D.l y,0,none⟩)):=by simp [vG,h]
def WAd.hid (D:WAd) (n:Nat) (E:Nat->Prop) (k:Nat):Prop:=D.all n k\/E k
structure WAt (E:Nat->Prop) (i:Inp) (w:World) (D:WAd) (B:Nat) (M:WSt):Prop where
 mem:fS E i w D B M
 al:gQ i M
 rows:∃AW cw AL cl,w.heap[D.X]?=some (.cells #[.slice AW (az i).W cw,.slice AL (az i).W cl,M8 (M.sum i:Nat)] 96 (0,0))/\Rd (aF (D.hid (az i).W E) w) AW (qZ D (az i).W)/\Rd (aF (D.hid (az i).W E) w) AL (vG D (az i).W)
section
variable {E:Nat->Prop} {i:Inp} {w w':World} {D:WAd} {B x:Nat} {M:WSt}
theorem WAt.more {o:Nat->Prop} (h:WAt E i w D B M) (hb:aq w w') (he:∀k,o k->k<w'.heap.size/\(E k\/w.heap.size<=k)):WAt o i w' D B M:=by
 obtain ⟨x,A,u,v,h1,y,C⟩:=h.rows
 have p:Ext (aF (D.hid (az i).W E) w) (aF (D.hid (az i).W o) w'):=bE (Keep.below hb) fun k hk e=>e.imp id fun e=>(he k e).2.elim id fun e=>absurd hk ap
 exact ⟨h.mem.more hb he,h.al,x,A,u,v,(hb.block _ h.mem.xl).trans h1,aW y p,aW C p⟩
theorem WAt.below (h:WAt E i w D B M) (hb:aq w w'):WAt E i w' D B M:=h.more hb fun k e=>⟨Mi (h.mem.ex k e) hb.size,.inl e⟩
theorem WAt.at (h:WAt E i w D B M) (hs:cz i) (o:x<(az i).W):Calls prog 47 #[(au D.X),M8 (x:Nat)] w fun e w'=>e=.returned (.tuple #[.iface 97 (.pointer (some ⟨D.b x,0,none⟩)),.pointer (some ⟨D.l (pvW (az i).W x),0,none⟩),.pointer (some ⟨D.l x,0,none⟩),.bool true])/\aq w w':=by
 obtain ⟨C,H,y,A,h1,u,v⟩:=h.rows
 have p:=hs.ok.W8
 exact Kk h1 (aW u (et _ _)) (aW v (et _ _)) o ap rfl (Li D o) (J5 D (le ap)) (J5 D o)
theorem WAt.did (h:WAt E i w D B M) {I:WSt} (L:AO E i w D B x I w'):∃o,o.X=D.X/\fS E i w' o B I/\Keep (fun k=>D.all (az i).W k/\k≠D.X) w w'/\(∀k,o.all (az i).W k->D.all (az i).W k\/w.heap.size<=k)/\
  ∃u A p v,w'.heap[D.X]?=some (.cells #[.slice u (az i).W A,.slice p (az i).W v,M8 (M.sum i:Nat)] 96 (0,0))/\Rd (aF (o.hid (az i).W E) w') u (qZ o (az i).W)/\Rd (aF (o.hid (az i).W E) w') p (vG o (az i).W):=by
 obtain ⟨a1,g1,h1,y,C⟩:=L
 obtain ⟨u,A,p,v,J,N,O⟩:=h.rows
 have H:Ext (aF (D.hid (az i).W E) w) (aF ((D.upd x a1 g1).hid (az i).W E) w'):=bE (y.mono fun k _ e=>.inl e.1) fun k hk e=>e.imp (fun e=>(C k e).elim id fun e=>absurd hk ap) id
 exact ⟨D.upd x a1 g1,rfl,h1,y,C,u,A,p,v,(y.block _ h.mem.xl fun e=>e.2 rfl).trans J,aW N H,aW O H⟩
theorem WAt.sum_le (h:WAt E i w D B M) (hs:cz i):M.sum i<=1000000000:=by
 have h1:=h.al.sum_le hs
 have p:=vf hs.ok
 have o:=ve hs.ok
 have u:=hs.s
 have v:wh (az i)*i.cfg.steps.toNat<=810000*6:=Nat.mul_le_mul o ap
 omega
theorem J1 (i:Inp) (x p:Nat):sN i x p<=p:=by
 unfold sN fF eA
 rw [List.length_map]
 refine Mh (List.length_filter_le _ _) (Mh (List.length_filterMap_le _ _) ?_)
 rw [MJ];omega
theorem BF (f:Nat->Nat):∀{n x:Nat},x<n->f x<=((List.range n).map f).sum
 | 0,_,h=>ap
 | n+1,x,h=>by
  rw [MT,List.map_append,List.sum_append]
  simp only [List.map_cons,List.map_nil,List.sum_cons,List.sum_nil,Nat.add_zero]
  by_cases e:x=n
  ·subst e;omega
  ·have:=BF f (n:=n) (x:=x) ap;omega
theorem Bp (h:x<(az i).W):M.pos i x<=M.sum i:=BF _ h
def Lw (E:Nat->Prop) (i:Inp) (w:World) (D:WAd) (B:Nat) (o:WSt) (w':World):Prop:=∃h,h.X=D.X/\WAt E i w' h B o/\Keep (fun k=>D.all (az i).W k) w w'/\∀k,h.all (az i).W k->D.all (az i).W k\/w.heap.size<=k
theorem Ch (h:WAt E i w D B M) (hs:cz i) (Y: -9223372036854775808<=i.cfg.rate/\i.cfg.rate<=9223372036854775807) (a0: -9223372036854775808<=i.cfg.mom/\i.cfg.mom<=9223372036854775807) (z:Int):
  Calls prog 15 #[(au D.X),M8 z] w fun e w'=>e=.returned (.bool (pkZ i M z).2)/\Lw E i w D B (pkZ i M z).1 w':=by
 by_cases hz:0<=z/\z<((az i).W:Int)
 ·obtain ⟨x,rfl⟩:∃x:Nat,z=x:=⟨z.toNat,by omega⟩
  have y:x<(az i).W:=ap
  have e1:pkZ i M x=pkF i M x:=by unfold pkZ;rw [if_pos hz,Int.toNat_natCast]
  rw [e1]
  obtain ⟨C,hp,hb⟩:=vx h.al hs y
  obtain ⟨hA, -,O,U⟩:=vy h.al hs y
  have v:(M.s x).msgs.length<100000000000:=by
   have h1:=h.al.ok.sn x y
   have h2:=h.al.pos_le hs y
   have h3:sN i x (M.pos i x)<=M.pos i x:=J1 i x _
   have h4:M.pos i x<=M.sum i:=Bp y
   have h5:=h.sum_le hs
   omega
  have L:=fun w' (q:aq w w')=>(h.below q).at hs y
  have I:=fun w' (q:aq w w')=>(h.below q).mem.pick hs y h.al.ok v Y a0 hp
  by_cases T:C=0
  ·have ht:(pkF i M x).2=true:=by rw [hb];simp [T]
   rw [ht]
   obtain ⟨-, -,J⟩:=O ht
   have Z:=h.sum_le hs
   obtain ⟨AW,cw,AL,cl,k1,k2,k3⟩:=h.rows
   refine (Ct (X:=D.X) (v0:=.slice AW (az i).W cw) (v1:=.slice AL (az i).W cl) L (R:=fun p=>∃o,aq w o/\AO E i o D B x (pkF i M x).1 p) (fun o q=>(I o q).mono fun e p A=>⟨A.1,?_,o,q,A.2⟩) Z T).mono ?_
   ·obtain ⟨a1,g1, -,Q, -⟩:=A.2
    exact (Q.block _ (Mi h.mem.xl q.size) fun e=>e.2 rfl).trans (sb k1 o q)
   ·rintro e w3 ⟨he,p,⟨o,q,V⟩,rfl⟩
    obtain ⟨N,u,Q,f3,f4,BW,dw,BL,dl,g1,g2,g3⟩:=(h.below q).did V
    have hk:Keep (fun k=>k=D.X) p (p.setCell (ar D.X 2) (M8 ((M.sum i+1:Nat):Int))):=Keep.setCell (S:=fun k=>k=D.X) (Keep.refl _ _) _ (.inr rfl) _
    have H:Ext (aF (N.hid (az i).W E) p) (aF (N.hid (az i).W E) (p.setCell (ar D.X 2) (M8 ((M.sum i+1:Nat):Int)))):=bE (hk.mono fun k _ e=>.inl (.inl (e.trans u.symm))) fun k _ e=>e
    refine ⟨he,N,u,⟨Q.keepQ hk (fun k e=>.inl (e.trans u.symm)) (fun j c hj _ e=>nS hj g1 (by decide) e),hA,BW,dw,BL,dl,?_,aW g2 H,aW g3 H⟩,?_,fun k e=>(f4 k e).imp id fun e=>Mh q.size e⟩
    ·rw [u,J]
     exact ss g1
    ·refine (Keep.below q).trans ((f3.mono fun k _ e=>e.1).trans (hk.mono fun k _ e=>.inl e))
  ·have hf:(pkF i M x).2=false:=by rw [hb];simp [T]
   rw [hf]
   refine (EA L (fun w' q=>(I w' q).mono fun e p A=>⟨A.1,(⟨w',q,A.2⟩:∃o,aq w o/\AO E i o D B x (pkF i M x).1 p)⟩) T).mono ?_
   rintro e p ⟨he,o,q,V⟩
   obtain ⟨N,u,Q,f3,f4,f5⟩:=(h.below q).did V
   exact ⟨he,N,u,⟨Q,hA,by rw [U hf,u];exact f5⟩,(Keep.below q).trans (f3.mono fun k _ e=>e.1),fun k e=>(f4 k e).imp id fun e=>Mh q.size e⟩
 ·have e1:pkZ i M z=(M,false):=by unfold pkZ;rw [if_neg hz]
  rw [e1]
  obtain ⟨AW,cw,AL,cl,h1, -, -⟩:=h.rows
  refine (Cu fun w' q=>I4 (sb h1 w' q) ap).mono ?_
  rintro e p ⟨he,q⟩
  exact ⟨he,D,rfl,h.below q,Keep.below q,fun k e=>.inl e⟩
end
theorem zS {w:World} {base l c:Nat} (hc:1<=c) (h:c<=1048576) (hb:aD w l (M9) c 0 0 0):aV w base l none (LSt.new c):=
 ⟨⟨hc,h,Mb _,by simp [LSt.new],Mf _,by simp [LSt.new],by simp [LSt.new]⟩,M9,[],hb,by simpa [LSt.new] using Mn _ _ _ _,rfl,by simp [LSt.new],by simp,by simp [LSt.new]⟩
def WMk (i:Inp) (X:Nat) (bs h:List Nat) (rb:Nat->Prop) (w:World):Prop:=∃b l a s t,bs=(List.range bs.length).map b/\h=(List.range bs.length).map l/\gY i w (X+1) b l a s t bs.length/\X<w.heap.size/\
 ∀j,rb j->X<j/\j<w.heap.size/\∀y,y<bs.length->(j<s y\/t y<=j)/\j≠l y
theorem xQ (b:Nat->Nat) (k v:Nat):(List.range (k+1)).map (bj b k v)=(List.range k).map b++[v]:=by
 rw [MT,List.map_append]
 congr 1
 ·exact List.map_congr_left fun x h=>bC _ _ (by have:=List.mem_range.1 h;omega)
 ·simp [bJ]
theorem WMk.next {i:Inp} {X k D l1 cap:Nat} {bs T:List Nat} {rb u:Nat->Prop} {w I O:World} {a1:MAd} (h:WMk i X bs T rb w) (hk:bs.length=k) (v:i.cfg.cap.toNat=cap) (hc:1<=cap/\cap<=1048576) (U:aq w I) (L:∀j,Mut D a1 j->w.heap.size<=j)
  (hm:∀(H:Nat->Prop) w'',Keep (fun k=>k<w.heap.size) I w''->(∀k,H k->k<w.heap.size)->aU H w'' D i k a1 (fy i)) (hs:IJ X cap rb u l1 I O):WMk i X (bs++[D]) (T++[l1]) u O:=by
 obtain ⟨b,l,a,s,t,h1,R,A,Z,p⟩:=h
 rw [hk] at h1 R A p
 have V:=U.size
 have x:=A.below U
 have Q:∀j,(j=X\/rb j)->j<w.heap.size:=fun j e=>e.elim (fun e=>ap) fun e=>(p j e).2.1
 have J:gY i O (X+1) b l a s t k:=x.keep hs.hk fun j _ e=>by
  refine ⟨fun y N=>?_,fun c=>hs.hty j c e⟩
  rcases e with rfl | e
  ·have:=A.chain y N
   omega
  ·exact (p j e).2.2 y N
 have Y:=A.more (l1:=l1) ap L hm x J V (hs.hk.mono fun j _ e=>.inl (Q j e)) hs.hl.1 hs.hl.2 (fun B=>by
  rw [v];exact zS hc.1 hc.2 hs.hb)
 have o:(bs++[D]).length=k+1:=by simp [hk]
 refine ⟨_,_,_,_,_,?_,?_,by rw [o];exact Y,by have:=hs.hk.size;omega,fun j e=>?_⟩
 ·rw [o,xQ,<-h1]
 ·rw [o,xQ,<-R]
 ·rw [o]
  refine ⟨(hs.hrb j e).elim (fun e=>(p j e).1) fun e=>ap,hs.hrl j e,fun y N=>?_⟩
  by_cases C:y=k
  ·subst C
   simp only [bJ]
   rcases hs.hrb j e with e | e
   ·have:=(p j e).2.1
    have:=hs.hl.1
    omega
   ·omega
  ·simp only [bC _ _ C]
   rcases hs.hrb j e with e | e
   ·exact (p j e).2.2 y ap
   ·have:=A.chain y ap
    omega
theorem wt (i:Inp):(kF i).sum i=0:=by
 unfold WSt.sum
 have:∀x,(kF i).pos i x=0:=fun x=>by simp [WSt.pos,kF,bD,fy]
 rw [List.map_congr_left (g:=fun _=>0) fun x _=>this x]
 induction (List.range (az i).W) with
 | nil=>rfl
 | cons _ l ih=>simpa using ih
def AN (E:Nat->Prop) (i:Inp) (w:World) (e:Ending) (h:World):Prop:=∃D B,e=.returned (.tuple #[(au D.X),M8 0])/\WAt E i h D B (kF i)/\aq w h/\∀j,D.all (az i).W j->w.heap.size<=j
theorem tD {E:Nat->Prop} (A:Option Addr) (c:Nat) (D:Option Addr) (O:Nat) (T:Option Addr) (L:Nat) (R:Option Addr) (N:Nat) (i:Inp) (w:World) (h:gh w A c D T L R i) (hs:cz i) (hE:∀j,E j->j<w.heap.size):
  Calls prog 13 #[.agg (aQ A c D O T L R N i)] w (AN E i w):=by
 obtain ⟨W1,u⟩:∃W1,w.alloc (.cells (aQ A c D O T L R N i) 29)=W1:=⟨_,rfl⟩
 have V:aq w W1:=by rw [<-u];exact (br w).alloc (Mb _) _
 have ad:W1.heap.size=w.heap.size+1:=by rw [<-u];simp
 have hg:=hs.g.c
 have a9:=hg.w;have a7:=hg.ca
 have ew:((az i).W:Int)=i.cfg.workers:=by simp only [az];omega
 have ec:((i.cfg.cap.toNat:Nat):Int)=i.cfg.cap:=ap
 have av:=hs.ok.W8
 have hI:=fun o (q:aq W1 o)=>(h.below V).below q
 have I:=fun o (q:aq W1 o)=>uz A c D O T L R N i o (hI o q)
 have Y:=fun (x:Nat) o (q:aq W1 o) (hx:x<(az i).W)=>Dv A c D O T L R N i x o (hI o q) hs hx
 have hv:aQ A c D O T L R N i=#[.slice A i.cfg.sizes.length c,M8 i.cfg.shift,M8 i.cfg.rate,M8 i.cfg.mom,M8 ((az i).W:Nat),M8 i.cfg.batch,M8 i.cfg.micros,M8 i.cfg.steps,M8 i.cfg.bucket,M8 i.cfg.chunk,M8 i.cfg.window,M8 (i.cfg.cap.toNat:Nat),.slice D i.data.length O,.slice T i.start.length L,.slice R i.draws.length N]:=by rw [ew,ec]
 rw [pd.2 hs.g] at I
 rw [hv] at I Y u ⊢
 refine (EB (J:=fun X bs ls rb o=>WMk i X bs ls rb o) u ap ap I (fun o=>Jw _ o ap) (fun X o _ hX _=>⟨fun _=>0,fun _=>0,fun _=>⟨0,none,0,0,0,none,0,0,0,0,0,0,0,0,0,none,0,M9⟩,fun _=>0,fun _=>0,rfl,rfl,gY.zero,hX,fun j e=>e.elim⟩) (fun X k bs ls rb o hk a5 hX q a1 a6 hJ=>?_)).mono ?_
 ·refine (Y k o q hk).mono ?_
  rintro e w1 ⟨b,a,rfl,a0,a4,hm⟩
  exact ⟨b,rfl,a0,fun l1 ab w2 a2=>hJ.next a1 rfl ap a0 a4 hm a2⟩
 ·rintro e o ⟨X,bs,ls,AW,AL,cw,cl,rfl,m⟩
  obtain ⟨b,l,a,s,t,h1,h2,Q,h4,h5⟩:=m.j
  rw [m.hb] at h1 h2 Q h5
  have hq:=m.q.size
  have a5:=m.lo
  have Z:fS E i o ⟨X,b,l,a,fun _=>none⟩ o.heap.size (kF i):=Q.mem (Nat.lt_succ_self X) h4 (fun j e=>by have:=hE j e;omega) ap
  have H:∀{e:TypeId} {v:Value} {xs:List Value},o.ownsRow (X+1) e 1 v (az i).W xs->(∀j,v.ownBlock=some j->lQ (.slice AW (az i).W cw) (.slice AL (az i).W cl) j)->∀A n c',v=.slice A n c'->n=(az i).W->Rd (aF ((⟨X,b,l,a,fun _=>none⟩:WAd).hid (az i).W E) o) A xs:=by
   rintro e v xs ho hv A n c' rfl rfl
   refine kZ (Rd.own ho) fun y p C=>?_
   have a8:X+1<=y.block:=by
    rcases ho.2 with ⟨B,_⟩ | ⟨g,_,_,B,_⟩
    ·injection B with e1;rw [e1] at p;cases p
    ·have U:=(ho.lt g (by rw [B];simp [Value.ownBlock])).1
     injection B with e1;rw [e1] at p;cases p;exact U
   have a3:lQ (.slice AW (az i).W cw) (.slice AL (az i).W cl) y.block:=by
    rcases ho.2 with ⟨B,_⟩ | ⟨g,_,_,B,_⟩
    ·injection B with e1;rw [e1] at p;cases p
    ·have U:=hv g (by rw [B];simp [Value.ownBlock])
     injection B with e1;rw [e1] at p;cases p;exact U
   have U:=h5 _ a3
   rcases C with (C | ⟨z,hz,C | C⟩) | C
   ·have ao:y.block=X:=C
    omega
   ·have:=Q.win z hz _ C
    have:=(U.2.2 z hz).1
    omega
   ·exact (U.2.2 z hz).2 (jT C)
   ·have:=hE _ C
    omega
  refine ⟨⟨X,b,l,a,fun _=>none⟩,o.heap.size,rfl,⟨Z,gQ.zero hs,AW,cw,AL,cl,?_,?_,?_⟩,V.trans (m.q.mono ap),?_⟩
  ·have:=m.box
   rw [wt]
   exact this
  ·have:=H m.oW (fun j e=>.inl e) AW _ cw rfl rfl
   rw [h1,List.map_map] at this
   exact this
  ·have:=H m.oL (fun j e=>.inr e) AL _ cl rfl rfl
   rw [h2,List.map_map] at this
   exact this
  ·rintro j (e | ⟨y,p,e | e⟩)
   ·have hj:j=X:=e
    omega
   ·have:=Q.win y p j e
    have:=Q.chain y p
    omega
   ·have hj:j=l y:=jT e
    have:=Q.chain y p
    omega
theorem wD:cW prog 152 12:=⟨⟨_,underlying152,rfl⟩,by kernel_rfl⟩
theorem CA {X n cw:Nat} {Z:Option Addr} {bs:List Nat} {v1 v2:Value} {w:World} {ok:Nat->Bool} {B:Bool} (hb:w.heap[X]?=some (.cells #[.slice Z n cw,v1,v2] 96 (0,0))) (U:Rd w Z (bs.map fun b=>.iface 97 ((au b)))) (hn:bs.length=n) (a1:n<=1000)
  (hB:B=true↔∀k,k<n->ok k=false)
  (hx:∀k b u,bs[k]?=some b->aq w u->Calls prog 218 #[(au b)] u fun e Q=>∃H:Array Value,e=.returned (.tuple #[.agg H,.bool (ok k)])/\(H.size=12/\H.toList.all (·.oneCell')=true)/\aq u Q):
  Calls prog 32 #[(au X)] w fun e u=>e=.returned (.bool B)/\aq w u:=by
 have t:=fun u q=>bx3 (sb hb u q)
 have hm:∀(b:Nat) (w:World),(method 496 97 ((au b)) "Next").run prog w=.ok (218,(au b)) w:=fun _ _=>by kernel_rfl
 obtain ⟨HW,HX,V,Hn,HM⟩:=ah U hx hB hn hm
 have q0:=br w
 clear hb U hx hB hn hm
 go_enter func32,ntmps32
 go_wp2_with fail
 go_loopw [14] (fun v wr=>∃k:Nat,k<=n/\v=M8 k/\(∀j,j<k->ok j=false)/\aq w wr) (fun v _=>n-(intOf v).toNat)
 case atStart=>exact ⟨0,Mf _,rfl,fun j hj=>absurd hj (Nat.not_lt_zero j),q0⟩
 case round=>
  obtain ⟨k,hk,rfl,p,q⟩:=hrel
  have HA:=aa p;clear p
  by_cases y:k<n
  ·have a0:(k:Int)<n:=ap
   obtain ⟨b,x⟩:∃b,bs[k]?=some b:=⟨_,MG (by rw [Hn.o];exact y)⟩
   have hr:=HW.o k (.iface 97 ((au b))) (by rw [List.getElem?_map,x];rfl)
   obtain ⟨b1,o1,rfl,c1⟩:=hr
   have c2:=(World.cell?_of_block (q.block b1 (aA c1))).trans c1
   have Y:=HX.o k b wr x q
   obtain ⟨CX,D⟩:=ae Y q
   have L:=HM.o b
   clear Y x c1
   have tq:=t wr q
   clear t
   go_wp2_with fail
   refine CX.o.mono ?_
   rintro e w1 ⟨H,rfl,⟨C,i⟩,T⟩
   obtain ⟨I,HO,h⟩:=af C i (D.o.trans (T.mono D.o.size));clear C i T q tq c2 L
   cases hok:ok k with
   | true=>
    have O:=aa hok;clear hok
    go_wp2_with (refine aI (Mc _ _) wD rfl rfl rfl rfl I.o (by rw [I.o];rfl) HO.o ?_;intro w3 R A;have J:=aa A;clear R A)
    go_ret
    have N:B=false:=by
     cases hBB:B with
     | false=>rfl
     | true=>have:=V.o.1 hBB k y;rw [O.o] at this;cases this
    refine ⟨by rw [N];rfl,?_⟩
    exact (h.o.alloc h.o.size _).trans (J.o.toBelow (by rw [Mr];have:=h.o.size;omega) (fun j e=>by have:=h.o.size;omega))
   | false=>
    have O:=aa hok;clear hok
    go_wp2_with (refine aI (Mc _ _) wD rfl rfl rfl rfl I.o (by rw [I.o];rfl) HO.o ?_;intro w3 R A;have J:=aa ((h.o.alloc h.o.size _).trans (A.toBelow (by rw [Mr];have:=h.o.size;omega) (fun j e=>by have:=h.o.size;omega)));clear R A)
    go_roundw
    case rel=>
     refine ⟨k+1,by omega,by go_num,fun j hj=>?_,J.o⟩
     rcases Mq j k with h1 | h1
     ·exact HA.o j h1
     ·obtain rfl:j=k:=ap
      exact O.o
    case measure=>simp [intOf];omega
  ·obtain rfl:k=n:=ap
   have D:=aa q;clear t q
   go_wp2_with fail
   go_ret
   exact ⟨by rw [V.o.2 HA.o];rfl,D.o⟩
structure WIn (E:Nat->Prop) (i:Inp) (V:World) (X:Nat) (M:WSt) (w:World):Prop where
 ex:∃D B,D.X=X/\WAt E i w D B M/\∀j,D.all (az i).W j->V.heap.size<=j
 q:aq V w
section
variable {E:Nat->Prop} {i:Inp} {V w w':World} {X:Nat} {M:WSt}
theorem WIn.below (h:WIn E i V X M w) (hb:aq w w'):WIn E i V X M w':=by
 obtain ⟨⟨D,B,h1,o,u⟩,p⟩:=h
 exact ⟨⟨D,B,h1,o.below hb,u⟩,bt p hb⟩
theorem AN.win {e:Ending} (h:AN E i w e w'):∃X,e=.returned (.tuple #[(au X),M8 0])/\WIn E i w X (kF i) w'/\w.heap.size<=X/\aq w w':=by
 obtain ⟨D,B,h1,u,p,o⟩:=h
 exact ⟨D.X,h1,⟨⟨D,B,rfl,u,o⟩,p⟩,o _ (.inl rfl),p⟩
theorem WIn.done (h:WIn E i V X M w) (hs:cz i) {Bo:Bool} (hB:Bo=true↔M.fin i):
  Calls prog 32 #[(au X)] w fun e w'=>e=.returned (.bool Bo)/\aq w w':=by
 obtain ⟨⟨D,B,rfl,v,Y⟩,T⟩:=h
 obtain ⟨U,Z,Q,cl,I,L,R⟩:=v.rows
 have N:=hs.ok.W8
 have O:((List.range (az i).W).map D.b).map (fun b=>Value.iface 97 ((au b)))=qZ D (az i).W:=by rw [List.map_map];rfl
 refine CA (ok:=fun x=>decide (M.pos i x<(db i x).length)) (bs:=(List.range (az i).W).map D.b) I (by rw [O];exact aW L (et _ _)) (by simp) ap ?_ fun x b w' hb q=>?_
 ·rw [hB]
  constructor
  ·intro C x p
   have:=C x p
   simp [this]
  ·intro C x p
   have J:=C x p
   have h6:=v.al.pos_le hs p
   simp only [MZ] at J
   omega
 ·have p:x<(az i).W:=by
   have:=(MF.1 hb).1
   simpa using this
  have A:b=D.b x:=by
   rw [List.getElem?_map,List.getElem?_range p] at hb
   simpa using hb.symm
  subst A
  have hm:=(v.below q).mem.mach x p
  have u:=v.al.ok.mok x p
  cases hy:(cI i x (M.m x).st)[(M.m x).nx]? with
  | none=>
   refine (vE hm (List.getElem?_eq_none_iff.1 hy)).mono ?_
   rintro e H ⟨rfl,k⟩
   have o:=u.cur hs
   rw [hy] at o
   have:=List.getElem?_eq_none_iff.1 o.symm
   exact ⟨_,by rw [show decide (M.pos i x<(db i x).length)=false from MY (by unfold WSt.pos;omega)],⟨rfl,by decide⟩,k⟩
  | some y=>
   refine (jf hm hy).mono ?_
   rintro e H ⟨rfl,k⟩
   have o:=u.cur hs
   rw [hy] at o
   have:=(MF.1 o.symm).1
   exact ⟨_,by rw [show decide (M.pos i x<(db i x).length)=true from MX this],⟨by simp [pX],by rw [List.all_eq_true];exact BG y⟩,k⟩
end
def onL (ok:Nat->Bool) (n:Nat):List Int:=((List.range n).filter ok).map fun k:Nat=>(k:Int)
theorem xr (ok:Nat->Bool) (n:Nat):onL ok (n+1)=onL ok n++if ok n then [(n:Int)] else []:=by
 unfold onL
 rw [MT,List.filter_append,List.map_append]
 cases h:ok n<;>simp [h]
theorem vC (ok:Nat->Bool) (n:Nat):(onL ok n).length<=n:=by
 unfold onL
 rw [List.length_map]
 exact Mh (List.length_filter_le _ _) (by simp)
theorem vh {X n cw:Nat} {AW:Option Addr} {v1 v2:Value} {bb:Nat->Nat} {la lb:Nat->Value} {ok:Nat->Bool} {w:World} (hb:w.heap[X]?=some (.cells #[.slice AW n cw,v1,v2] 96 (0,0))) (hn:n<=1000)
  (B:∀k h,k<n->aq w h->Calls prog 47 #[(au X),M8 (k:Nat)] h fun e i=>e=.returned (.tuple #[.iface 97 (.pointer (some ⟨bb k,0,none⟩)),la k,lb k,.bool true])/\aq h i)
  (C:∀k h,k<n->aq w h->Calls prog 217 #[.pointer (some ⟨bb k,0,none⟩),la k,lb k] h fun e i=>e=.returned (.bool (ok k))/\aq h i):
  Calls prog 30 #[(au X)] w fun e h=>∃v,e=.returned v/\h.ownsRow w.heap.size 3 1 v (onL ok n).length (aB .i64 (onL ok n))/\aq w h:=by
 have t:=fun h q=>bx3 (sb hb h q)
 have hm:∀(b:Nat) (w:World),(method 496 97 ((au b)) "Enabled").run prog w=.ok (217,(au b)) w:=fun _ _=>by kernel_rfl
 obtain ⟨H,L,HM,T⟩:=ag B C hm t
 have q0:=br w
 clear hb B C hm
 go_enter func30,ntmps30
 go_wp2_with fail
 clear t
 go_loopw [3,16] (fun v u wr=>∃k:Nat,k<=n/\u=M8 k/\wr.ownsRow w.heap.size 3 1 v (onL ok k).length (aB .i64 (onL ok k))/\aq w wr) (fun _ u _=>n-(intOf u).toNat)
 case atStart=>exact ⟨0,Mf _,rfl,Mn ..,q0⟩
 case round=>
  obtain ⟨k,hk,rfl,O,q⟩:=hrel
  obtain ⟨A,c,e,hc⟩:=aC O
  subst e
  obtain ⟨HO,I⟩:=ae O q
  have Y:=vC ok k
  clear O
  by_cases x:k<n
  ·have a0:(k:Int)<n:=ap
   have c1:=H.o k wr x q
   have C1:=aa c1;clear c1 q
   go_wp2_with fail
   refine C1.o.mono ?_
   rintro e w1 ⟨rfl,D⟩
   have J:=I.o.trans (D.mono I.o.size)
   obtain ⟨O1,Q1⟩:=ae (ay HO.o D) J
   have c2:=L.o k w1 x J
   have C2:=aa c2
   have Q:=HM.o (bb k)
   clear c2 D J
   go_wp2_with fail
   refine C2.o.mono ?_
   rintro e w2 ⟨rfl,U⟩
   obtain ⟨V,Z⟩:=ae (Q1.o.trans (U.mono Q1.o.size)) (ay O1.o U);clear U Q
   cases hok:ok k with
   | true=>
    have R:=aa hok
    have N:=V.o.size
    clear hok
    go_wp2_with (at_builtin;refine aY gH _ rfl (.tmp 31) (.tmp 33) rfl w.heap.size (.slice A (onL ok k).length c) (onL ok k).length _ rfl Z.o [M8 (k:Nat)] rfl rfl (by simp [Value.oneCell']) ap (by unfold maxLen;omega) N ?_)
    intro g c3 w3 o3 b3 _
    have p:onL ok (k+1)=onL ok k++[(k:Int)]:=by rw [xr,R.o];rfl
    have y:w3.ownsRow w.heap.size 3 1 (.slice (some (ar g 0)) ((onL ok k).length+1) c3) (onL ok (k+1)).length (aB .i64 (onL ok (k+1))):=by
     have e4:(onL ok (k+1)).length=(onL ok k).length+1:=by rw [p];simp
     have e5:aB .i64 (onL ok (k+1))=aB .i64 (onL ok k)++[M8 (k:Nat)]:=by rw [p];simp [aB]
     rw [e4,e5];exact o3
    obtain ⟨O3,Q3⟩:=ae y (V.o.trans b3);clear o3 b3 y p
    go_wp2_with fail
    go_roundw
    case rel=>exact ⟨k+1,by omega,by go_num,O3.o,Q3.o⟩
    case measure=>simp [intOf];omega
   | false=>
    have R:=aa hok
    have p:onL ok (k+1)=onL ok k:=by rw [xr,R.o];simp
    have E3:=aa p;clear hok p
    go_wp2_with fail
    go_roundw
    case rel=>exact ⟨k+1,by omega,by go_num,by rw [E3.o];exact Z.o,V.o⟩
    case measure=>simp [intOf];omega
  ·obtain rfl:k=n:=ap
   have a1:¬((k:Int)<k):=ap
   clear q
   go_wp2_with fail
   go_ret
   exact ⟨_,rfl,HO.o,I.o⟩
theorem Cr {X:Value} {z b:Nat} {la lb:Value} {R:Ending->World->Prop} {w:World} (p:Calls prog 47 #[X,M8 (z:Nat)] w fun e h=>e=.returned (.tuple #[.iface 97 ((au b)),la,lb,.bool true])/\aq w h)
  (i:∀x,aq w x->Calls prog 220 #[(au b)] x fun e h=>(∃v,e=.returned v)/\R e h):
  Calls prog 26 #[X,M8 (z:Nat)] w R:=by
 have hm:∀(w:World),(method 496 97 ((au b)) "Trajectory").run prog w=.ok (220,(au b)) w:=fun _=>by kernel_rfl
 obtain ⟨u,B⟩:=ae p i;clear p i
 go_enter func26,ntmps26
 go_wp2_with fail
 refine u.o.mono ?_
 rintro e A ⟨rfl,y⟩
 have C:=aa (B.o A y);clear y
 go_wp2_with fail
 refine C.o.mono ?_
 rintro e H ⟨⟨v,rfl⟩,hr⟩
 have D:=aa hr;clear hr
 go_wp2_with fail
 exact D.o
def dH (mv:Nat->Array Value) (n:Nat):List Value:=((List.range n).map fun x=>(mv x).toList).flatten
theorem kU (mv:Nat->Array Value) (n:Nat):dH mv (n+1)=dH mv n++(mv n).toList:=by simp [dH,MT]
theorem wH {mv mv':Nat->Array Value} {n:Nat} (h:∀x,x<n->mv x=mv' x):dH mv n=dH mv' n:=by
 unfold dH
 congr 1
 exact List.map_congr_left fun x i=>by rw [h x (List.mem_range.1 i)]
section
variable {mv:Nat->Array Value} {n k x:Nat}
theorem kl (h:∀x,x<n->(mv x).size=k):(dH mv n).length=n*k:=by
 induction n with
 | zero=>simp [dH]
 | succ n ih=>rw [kU,ME,ih (fun x i=>h x ap),Array.length_toList,h n ap,MU]
theorem ou (h:∀x,x<n->(mv x).size=k) (i:x<n) {f:Nat} (o:f<k):(dH mv n)[x*k+f]?=(mv x)[f]?:=by
 induction n with
 | zero=>omega
 | succ n ih=>
  have hl:=kl (n:=n) (fun x i=>h x ap)
  rw [kU]
  by_cases e:x=n
  ·subst e
   rw [MI ap,hl,Nat.add_sub_cancel_left,Array.getElem?_toList]
  ·have:x*k+k<=n*k:=by rw [<-MU];exact M7 k ap
   rw [MH ap]
   exact ih (fun x i=>h x ap) ap
theorem tQ (h:∀x,x<n->(mv x).toList.all (·.oneCell')=true):∀u∈dH mv n,u.oneCell'=true:=by
 intro u i
 simp only [dH,List.mem_flatten,List.mem_map,List.mem_range] at i
 obtain ⟨l,⟨x,o,rfl⟩,i⟩:=i
 exact List.all_eq_true.1 (h x o) u i
theorem jP {w:World} {A:Option Addr} (hr:Rd w A (dH mv n)) (h:∀x,x<n->(mv x).size=k) (hk:0<k) (i:x<n):∃b o,A=some (ar b o)/\w.rangeAt b (o+x*k) (mv x).toList:=by
 have y:=ou h i hk
 rw [Nat.add_zero] at y
 obtain ⟨v,C⟩:∃v,(mv x)[0]?=some v:=⟨_,Array.getElem?_eq_getElem (by rw [h x i];exact hk)⟩
 obtain ⟨b,o,rfl,_⟩:=hr _ _ (y.trans C)
 refine ⟨b,o,rfl,fun j u p=>?_⟩
 have B:j<k:=by have:=(MF.1 p).1;rw [Array.length_toList,h x i] at this;exact this
 obtain ⟨D,H,e,hc⟩:=hr (x*k+j) u (by rw [ou h i B,<-Array.getElem?_toList];exact p)
 injection e with e;injection e with e1 e2 _
 subst e1;subst e2
 rw [MV]
 exact hc
end
def Cy:List Value->Nat->List Value->List Value
 | xs,_,[]=>xs
 | xs,o,v::r=>Cy (xs.set o v) (o+1) r
theorem AX:∀(ys xs:List Value) (o j:Nat),o+ys.length<=xs.length->(Cy xs o ys)[j]?=if o<=j/\j<o+ys.length then ys[j-o]? else xs[j]?
 | [],xs,o,j,_=>by rw [if_neg (by simp [List.length_nil];try omega)];rfl
 | v::r,xs,o,j,h=>by
  rw [List.length_cons] at h
  rw [Cy,AX r (xs.set o v) (o+1) j (by rw [List.length_set];omega),List.length_cons]
  by_cases h1:j=o
  ·subst h1
   rw [if_neg ap,if_pos ap,Nat.sub_self,List.getElem?_set_self ap]
   rfl
  ·by_cases i:o+1<=j/\j<o+1+r.length
   ·rw [if_pos i,if_pos ap,show j-o=(j-(o+1))+1 by omega,Mz]
   ·rw [if_neg i,if_neg ap,List.getElem?_set_ne ap]
theorem CK {mv mv':Nat->Array Value} {n k x:Nat} (h:∀x,x<n->(mv x).size=k) (i:∀x,x<n->(mv' x).size=k) (B:x<n) (hm:∀y,y≠x->mv' y=mv y):Cy (dH mv n) (x*k) (mv' x).toList=dH mv' n:=by
 have hl:=kl h
 have v:=kl i
 have A:x*k+k<=n*k:=by rw [<-MU];exact M7 k ap
 have o:(mv' x).toList.length=k:=by rw [Array.length_toList,i x B]
 refine List.ext_getElem? fun j=>?_
 rw [AX _ _ _ _ ap,o]
 by_cases C:j<n*k
 ·by_cases hk:k=0
  ·subst hk;omega
  obtain ⟨y,f,rfl,p⟩:∃y f,j=y*k+f/\f<k:=⟨j/k,j%k,by rw [Nat.mul_comm,Nat.div_add_mod],Nat.mod_lt _ ap⟩
  have u:y<n:=by
   refine Classical.byContradiction fun hc=>?_
   have:=M7 k (show n<=y by omega)
   omega
  rw [ou i u p]
  by_cases e:y=x
  ·subst e
   rw [if_pos ap,Nat.add_sub_cancel_left,Array.getElem?_toList]
  ·rw [if_neg ?_,ou h u p,hm y e]
   rintro ⟨h1,D⟩
   rcases Nat.lt_or_gt_of_ne e with e | e
   ·have:=M7 k (show y+1<=x by omega)
    rw [MU] at this
    omega
   ·have:=M7 k (show x+1<=y by omega)
    rw [MU] at this
    omega
 ·rw [if_neg ap,List.getElem?_eq_none ap,List.getElem?_eq_none ap]
theorem oH:∀(ys:List Value) {w:World} {base g c n o:Nat} {e:TypeId} {size:Nat} {xs:List Value},w.ownsRow base e size (.slice (some (ar g 0)) n c) n xs->(w.setCells g o ys).ownsRow base e size (.slice (some (ar g 0)) n c) n (Cy xs o ys)
 | [],_,_,_,_,_,_,_,_,_,h=>h
 | v::r,w,base,g,c,n,o,e,size,xs,h=>oH r (h.stored o v).1
theorem iw:∀(ys:List Value) (w:World) (g o:Nat),Keep (fun j=>j=g) w (w.setCells g o ys)
 | [],w,_,_=>Keep.refl _ w
 | v::r,w,g,o=>(Keep.setCell (S:=fun j=>j=g) (Keep.refl _ w) (ar g o) (.inr rfl) v).trans (iw r _ g (o+1))
theorem mQ {w:World} {base g c n:Nat} {e:TypeId} {size:Nat} {xs:List Value} (h:w.ownsRow base e size (.slice (some (ar g 0)) n c) n xs) {x:Nat} (B:x<n):w.there g (x*size) size:=fun j v=>by
 rcases h.2 with ⟨p,_⟩ | ⟨C,cap,i,p,hb,hg,h1,y,u,A⟩
 ·cases p
 ·injection p with e1;injection e1 with e1;injection e1 with e1 _ _
  subst e1
  have o:x*size+j<i.size:=by
   rw [u]
   have:=M7 size (show x+1<=cap by omega)
   rw [MU] at this
   omega
  exact ⟨by rw [Md w g _ _ _ _ hg,Array.getElem?_eq_getElem o];rfl,Mk w g _ _ _ hg⟩
theorem cU:cW prog 39 3:=⟨⟨_,underlying39,rfl⟩,by kernel_rfl⟩
theorem lV:cW prog 106 22:=⟨⟨_,underlying106,rfl⟩,by kernel_rfl⟩
theorem iK:cW prog 75 4:=⟨⟨_,underlying75,rfl⟩,by kernel_rfl⟩
structure RWv (u:World) (vs:Array Value) (n:Nat) (mv lv:Nat->Array Value) (cnt:Nat):Prop where
 ex:∃AM cm AL cl,vs=#[.slice AM n cm,.slice AL n cl,M8 (cnt:Nat)]/\Rd u AM (dH mv n)/\Rd u AL (dH lv n)/\n<=cm/\n<=cl
 sm:∀x,x<n->(mv x).size=22/\(mv x).toList.all (·.oneCell')=true
 sl:∀x,x<n->(lv x).size=4/\(lv x).toList.all (·.oneCell')=true
def KY (R:Array Value->Array Value->Array Value->World->Prop) (C:Int) (w:World) (e:Ending) (i:World):Prop:=∃m1 h v1:Array Value,e=Ending.returned (.tuple #[.agg m1,.agg h,.agg v1,M8 C])/\(m1.size=22/\h.size=4/\v1.size=4)/\(m1.toList.all (·.oneCell')=true/\h.toList.all (·.oneCell')=true/\v1.toList.all (·.oneCell')=true)/\R m1 h v1 i/\aq w i
theorem ES {w:World} {vs:Array Value} {n x p cnt:Nat} {mv N:Nat->Array Value} {C:Int} {R:Array Value->Array Value->Array Value->World->Prop} (h:RWv w vs n mv N cnt) (A:x<n) (hn:n<=1000) (hp:(x+n-1)%n=p)
  (a0:∀i,w.heap.size+4<=i.heap.size->aq w i->Calls prog 89 #[.agg (mv x),.agg (N p),.agg (N x)] i (KY R C (i))) (hR:∀m1 u1 v1 w1 w2,R m1 u1 v1 w1->Keep (fun k=>w.heap.size<=k/\k<w.heap.size+4) w1 w2->R m1 u1 v1 w2):
  Calls prog 48 #[.agg vs,M8 (x:Nat)] w (KY R C (w)):=by
 obtain ⟨⟨AM,cm,AL,cl,rfl,hM,hL, -, -⟩,D,u⟩:=h
 have ab:p<n:=by rw [<-hp];exact Nat.mod_lt _ ap
 obtain ⟨L,o1,rfl,r1⟩:=jP hM (fun x A=>(D x A).1) (by decide) A
 obtain ⟨V,Z,rfl,r2⟩:=jP hL (fun x A=>(u x A).1) (by decide) ab
 obtain ⟨b3,o3,e3,r3⟩:=jP hL (fun x A=>(u x A).1) (by decide) A
 cases e3
 obtain ⟨B,H⟩:∃B,(((w.alloc (.cells #[.slice (some (ar L o1)) n cm,.slice (some (ar V Z)) n cl,M8 (cnt:Nat)] 39)).alloc (.cells Nb 106)).alloc (.cells #[M8 0,M9,M8 0,M8 0] 75)).alloc (.cells #[M8 0,M9,M8 0,M8 0] 75)=B:=⟨_,rfl⟩
 have a4:sZ w [.cells #[.slice (some (ar L o1)) n cm,.slice (some (ar V Z)) n cl,M8 (cnt:Nat)] 39,.cells Nb 106,.cells #[M8 0,M9,M8 0,M8 0] 75,.cells #[M8 0,M9,M8 0,M8 0] 75]=B:=H
 have q0:=eJ [.cells #[.slice (some (ar L o1)) n cm,.slice (some (ar V Z)) n cl,M8 (cnt:Nat)] 39,.cells Nb 106,.cells #[M8 0,M9,M8 0,M8 0] 75,.cells #[M8 0,M9,M8 0,M8 0] 75] w
 have g0:=bZ [.cells #[.slice (some (ar L o1)) n cm,.slice (some (ar V Z)) n cl,M8 (cnt:Nat)] 39,.cells Nb 106,.cells #[M8 0,M9,M8 0,M8 0] 75,.cells #[M8 0,M9,M8 0,M8 0] 75] w 0 rfl
 have g1:=bZ [.cells #[.slice (some (ar L o1)) n cm,.slice (some (ar V Z)) n cl,M8 (cnt:Nat)] 39,.cells Nb 106,.cells #[M8 0,M9,M8 0,M8 0] 75,.cells #[M8 0,M9,M8 0,M8 0] 75] w 1 rfl
 have g2:=bZ [.cells #[.slice (some (ar L o1)) n cm,.slice (some (ar V Z)) n cl,M8 (cnt:Nat)] 39,.cells Nb 106,.cells #[M8 0,M9,M8 0,M8 0] 75,.cells #[M8 0,M9,M8 0,M8 0] 75] w 2 rfl
 have g3:=bZ [.cells #[.slice (some (ar L o1)) n cm,.slice (some (ar V Z)) n cl,M8 (cnt:Nat)] 39,.cells Nb 106,.cells #[M8 0,M9,M8 0,M8 0] 75,.cells #[M8 0,M9,M8 0,M8 0] 75] w 3 rfl
 have a6:B.heap.size=w.heap.size+4:=by rw [<-H];simp
 rw [a4] at q0 g0 g1 g2 g3
 rw [Nat.add_zero] at g0
 have l1:L<w.heap.size:=by
  obtain ⟨v,hv⟩:∃v,(mv x).toList[0]?=some v:=⟨_,MG (by rw [Array.length_toList,(D x A).1];decide)⟩
  exact aA (r1 0 v hv)
 have l2:V<w.heap.size:=by
  obtain ⟨v,hv⟩:∃v,(N x).toList[0]?=some v:=⟨_,MG (by rw [Array.length_toList,(u x A).1];decide)⟩
  exact aA (r3 0 v hv)
 have rg:∀{b o cs},b<w.heap.size->w.rangeAt b o cs->∀i,Keep (fun k=>w.heap.size<k/\k<w.heap.size+4) B i->i.rangeAt b o cs:=fun hb hr i k j v hv=>by
  have h1:=hr j v hv
  exact (World.cell?_of_block ((k.block _ (Mi hb q0.size) (fun e=>ap)).trans (q0.block _ hb))).trans h1
 obtain ⟨R1,R2,R3⟩:=af (fun i q=>rg l1 r1 i q) (fun i q=>rg l2 r2 i q) (fun i q=>rg l2 r3 i q)
 have t:∀i,Keep (fun k=>w.heap.size<k/\k<w.heap.size+4) B i->_:=fun i q=>bx3 ((q.block _ (Ma g0) (fun e=>ap)).trans g0)
 have O:((x:Int)+(n:Int)-1).tmod (n:Int)=(p:Int):=by
  rw [<-hp,Int.tmod_eq_emod_of_nonneg ap,Int.natCast_emod,show ((x+n-1:Nat):Int)=(x:Int)+n-1 by omega]
 have aG:((x:Int)+(n:Int)-1)%(n:Int)=(p:Int):=by rw [<-Int.tmod_eq_emod_of_nonneg ap];exact O
 have b0:¬(n=0):=ap
 have h1:0<=(x:Int):=ap
 have h2:(x:Int)<(n:Int):=ap
 have h3:0<=(p:Int):=ap
 have h4:(p:Int)<(n:Int):=ap
 have w1:IntKind.i64.wrap ((x:Int)+n)=(x:Int)+n:=Mg _ ap
 have w2:IntKind.i64.wrap ((x:Int)+n-1)=(x:Int)+n-1:=Mg _ ap
 have w3:IntKind.i64.wrap (p:Int)=(p:Int):=Mg _ ap
 have w5:IntKind.i64.wrap (((x:Int)+n-1).tmod n)=(p:Int):=by rw [O];exact w3
 have w6:IntKind.i64.wrap (((x:Int)+n-1)%n)=(p:Int):=by rw [aG];exact w3
 have a8:=D x A;have ad:=u p ab;have a5:=u x A
 obtain ⟨aM,HR,aR,Q0,G1,G2,G3,Hm⟩:=ak a0 hR H q0 g1 g2 g3 a8;obtain ⟨Hl,ao⟩:=ae ad a5
 have s0:Keep (fun k=>w.heap.size<k/\k<w.heap.size+4) B B.drew:=(Keep.refl _ _).drew
 have av:=aa a6
 have tl:=sl g3
 clear a0 hR H a4 q0 g0 g1 g2 g3 a8 ad a5 D u hM hL r1 r2 r3 rg hp a6
 go_enter func48,ntmps48
 go_wp2_with fail
 rw [aR.o]
 refine HA.g (fun i:World=>Keep (fun k=>w.heap.size<k/\k<w.heap.size+4) B i) ?_
 refine HA.t ?_ [0,1,2,3] s0 ?_
 refine HA.lr 4 R1.o (by rw [Array.length_toList,Hm.o.1];exact lV) s0 ?_
 refine HA.t ?_ [5,6,7,8,9,10,11,12,13] s0 ?_
 refine HA.lr 14 R2.o (by rw [Array.length_toList,Hl.o.1];exact iK) s0 ?_
 refine HA.t ?_ [15,16,17,18] s0 ?_
 refine HA.lr 19 R3.o (by rw [Array.length_toList,ao.o.1];exact iK) s0 ?_
 have ea:(mv x).toList.toArray=mv x:=Array.toArray_toList
 have eb:(N p).toList.toArray=N p:=Array.toArray_toList
 have ec:(N x).toList.toArray=N x:=Array.toArray_toList
 rw [ea,eb,ec]
 refine HA.c 20 (aM.o _ (by rw [MQ,av.o];omega) (Q0.o.drew)) ?_
 rintro _ w7 ⟨m1,u1,v1,rfl,⟨z1,z2,z3⟩,⟨a1,a2,a3⟩,hr,k7⟩
 have b7:=bt (br B).drew k7
 have s1:=s0.trans (Keep.below (S:=fun k=>w.heap.size<k/\k<w.heap.size+4) k7)
 refine ⟨_,rfl,s1,fun _=>?_⟩
 refine HA.t ?_ [21,22,23,24] s1 ?_
 refine HA.st 25 (sb G1.o _ b7) lV (fun w8 e8 J=>⟨s1.trans (J.mono fun k _ e=>ap),?_⟩) (hn:=z1) (hs:=by rw [z1];rfl) (h1:=a1)
 refine HA.st 26 ((J.block _ (Ma (sb G2.o _ b7)) ap).trans (sb G2.o _ b7)) iK (fun w9 e9 T=>⟨(s1.trans (J.mono fun k _ e=>ap)).trans (T.mono fun k _ e=>ap),?_⟩) (hn:=z2) (hs:=by rw [z2];rfl) (h1:=a2)
 have a7:=(T.block _ (Mi (Ma (sb G3.o _ b7)) J.size) ap).trans ((J.block _ (Ma (sb G3.o _ b7)) ap).trans (sb G3.o _ b7))
 refine HA.st 27 a7 iK (fun I a9 y=>⟨((s1.trans (J.mono fun k _ e=>ap)).trans (T.mono fun k _ e=>ap)).trans (y.mono fun k _ e=>ap),?_⟩) (hn:=z3) (hs:=by rw [z3];rfl) (h1:=a3)
 have Y:=((s1.trans (J.mono fun k _ e=>ap)).trans (T.mono fun k _ e=>ap)).trans (y.mono fun k _ (e:k=w.heap.size+3)=>by omega:Keep (fun k=>w.heap.size<k/\k<w.heap.size+4) w9 I)
 refine HA.t ?_ [28] Y ?_
 refine HA.d ?_
 have f8:I.heap[w.heap.size+1]?=_:=(y.block _ (by have:=Ma e8;have:=T.size;omega) ap).trans ((T.block _ (Ma e8) ap).trans e8)
 have f9:I.heap[w.heap.size+1+1]?=_:=(y.block _ (Ma e9) ap).trans e9
 have U:=HR.o _ _ _ _ _ hr (((J.mono fun k _ (e:k=w.heap.size+1)=>by omega:Keep (fun k=>w.heap.size<=k/\k<w.heap.size+4) w7 w8).trans (T.mono fun k _ (e:k=w.heap.size+2)=>ap)).trans (y.mono fun k _ (e:k=w.heap.size+3)=>ap))
 have Q:aq w I:=Q0.o.trans (Y.toBelow Q0.o.size (fun j e=>ap))
 obtain ⟨HF,F8,F9,aP,Z1,Z2,Z3,A1⟩:=ak (Mj U Q) f8 f9 a9 z1 z2 z3 a1;obtain ⟨A2,A3⟩:=ae a2 a3;clear U Q f8 f9 e8 e9 a9 z1 z2 z3 a1 a2 a3 J T y Y s1 b7 a7 k7 hr t
 go_wp2_with fail
 try simp only [Exit.inBlock,Exit.then]
 refine Mp (fg rfl rfl rfl rfl F8.o F9.o aP.o (by rw [Z1.o];exact lV) (by rw [Z2.o];exact iK) (by rw [Z3.o];exact iK)) rfl ?_
 exact ⟨m1,u1,v1,rfl,⟨Z1.o,Z2.o,Z3.o⟩,⟨A1.o,A2.o,A3.o⟩,HF.o.1,HF.o.2⟩
theorem GP:dq prog 36 106 (.agg Nb) 22 320:=⟨underlying36,info_parts (by kernel_rfl),rfl,by decide⟩
theorem GQ:dq prog 37 75 (.agg #[M8 0,M9,M8 0,M8 0]) 4 48:=⟨underlying37,info_parts (by kernel_rfl),rfl,by decide⟩
section
variable {P:Program} {ops:Array Oper} {Q:Exit->Act->World->Prop} {S:World->Prop} {n:Nat}
theorem XA.sole {L:List Nat} {a:Act} {w:World} (i:Nat) (p:XAS P ops Q S n i L a w) (hr:cY ops L=[i]:=by decide +kernel):XA P ops Q S n L a w:=by
 obtain ⟨o,u,h⟩:=p
 exact XA.one i u hr h
theorem XA.three {L:List Nat} {a:Act} {w:World} (i j k:Nat) (B:XAS P ops Q S n i L a w) (y:XAS P ops Q S n j L a w) (hk:XAS P ops Q S n k L a w) (hr:cY ops L=[i,j,k]:=by decide +kernel):XA P ops Q S n L a w:=by
 obtain ⟨N,A,B⟩:=B
 obtain ⟨O,x,y⟩:=y
 obtain ⟨ok,v,hk⟩:=hk
 have D:unl (bF ops.size L)=unl (bF ops.size (i::L))+1:=cK (by rw [hr];simp)
 have I:unl (bF ops.size L)=unl (bF ops.size (j::L))+1:=cK (by rw [hr];simp)
 have J:unl (bF ops.size L)=unl (bF ops.size (k::L))+1:=cK (by rw [hr];simp)
 have H:unl (bF ops.size (j::L))=unl (bF ops.size (i::L)):=ap
 have C:unl (bF ops.size (k::L))=unl (bF ops.size (i::L)):=ap
 refine ⟨?_⟩
 rw [D]
 refine cB (by rw [dL];exact hr) (by simp) (aS.cons A (fun u p=>B u fun a w o hw=>p.out a w o fun h=>(hw h).out) (aS.cons x (fun u p=>y u fun a w o hw=>p.out a w o fun h=>?_) (aS.cons v (fun u p=>hk u fun a w o hw=>p.out a w o fun h=>?_) aS.nil)))
 ·have:=(hw h).out
  rw [H] at this
  exact this
 ·have:=(hw h).out
  rw [C] at this
  exact this
end
def LC (S:Nat->Prop) (R:Array Value->Array Value->Array Value->World->Prop) (vs:Array Value) (n:Nat) (mv u:Nat->Array Value) (cnt x p:Nat) (C:Int) (w:World) (e:Ending) (i:World):Prop:=
 (C≠0/\e=.returned (.tuple #[.agg vs,.bool false])/\aq w i)\/(C=0/\∃m1 o v1 h:Array Value,e=.returned (.tuple #[.agg h,.bool true])/\RWv (aF S i) h n (bj mv x m1) (if 1<n then bj (bj u p o) x v1 else u) (cnt+1)/\R m1 o v1 i/\aq w i)
theorem CJ {w:World} {vs:Array Value} {n cnt:Nat} {mv T:Nat->Array Value} {z:Int} (h:RWv w vs n mv T cnt) (Y:z<0\/(n:Int)<=z):
  Calls prog 16 #[.agg vs,M8 z] w fun e H=>e=.returned (.tuple #[.agg vs,.bool false])/\aq w H:=by
 obtain ⟨⟨D,cm,v,C,rfl, -, -, -, -⟩, -, -⟩:=h
 obtain ⟨u,i⟩:∃u,(w.alloc (.cells #[.slice D n cm,.slice v n C,M8 (cnt:Nat)] 39)).alloc (.cells #[M9,M9,M8 0] 39)=u:=⟨_,rfl⟩
 have J:u.heap[w.heap.size]?=some (.cells #[.slice D n cm,.slice v n C,M8 (cnt:Nat)] 39 (0,0)):=by rw [<-i];exact sb (Mc w _) _ ((br _).alloc (Mb _) _)
 have g1:u.heap[w.heap.size+1]?=some (.cells #[M9,M9,M8 0] 39 (0,0)):=by rw [<-i];have:=Mc (w.alloc (.cells #[.slice D n cm,.slice v n C,M8 (cnt:Nat)] 39)) (.cells #[M9,M9,M8 0] 39);rwa [Mr] at this
 have N:aq w u:=by rw [<-i];exact ((br w).alloc (Mb _) _).alloc (by rw [Mr];omega) _
 have tl:=sl g1
 have t0:=fun H q=>bx3 (sb J H q)
 have V:=br u
 obtain ⟨y,Q,R,G0⟩:=ag i g1 N J;clear i J g1 N
 have p:∀x,Keep (fun j=>j=w.heap.size+1) u x->aq w x:=fun x k=>R.o.trans (k.toBelow R.o.size (fun j e=>ap))
 have O:=aa p;clear p
 by_cases h1:z<0
 ·go_enter func16,ntmps16
  go_upto_region 1 with (fail)
  rw [y.o]
  go_wp2_with (first | (refine aT #[.slice D n cm,.slice v n C,M8 (cnt:Nat)] (b:=w.heap.size) G0.o cU rfl rfl rfl rfl ?_) | (refine aI (b:=w.heap.size+1) Q.o cU rfl rfl rfl rfl rfl rfl rfl ?_;intro x A B;obtain ⟨L,I⟩:=ae A B;clear A B))
  try simp only [Exit.inBlock,Exit.then]
  refine Mp (dC rfl rfl L.o cU) rfl ?_
  exact ⟨rfl,O.o _ I.o⟩
 ·have U:(n:Int)<=z:=ap
  go_enter func16,ntmps16
  go_upto_region 1 with (fail)
  rw [y.o]
  go_wp2_with (first | (refine aT #[.slice D n cm,.slice v n C,M8 (cnt:Nat)] (b:=w.heap.size) G0.o cU rfl rfl rfl rfl ?_) | (refine aI (b:=w.heap.size+1) Q.o cU rfl rfl rfl rfl rfl rfl rfl ?_;intro x A B;obtain ⟨L,I⟩:=ae A B;clear A B))
  try simp only [Exit.inBlock,Exit.then]
  refine Mp (dC rfl rfl L.o cU) rfl ?_
  exact ⟨rfl,O.o _ I.o⟩
theorem xg {S:Nat->Prop} {R:Array Value->Array Value->Array Value->World->Prop} {w B i W h:World} {n cnt I C cm A b:Nat} {mv u:Nat->Array Value} {m1 p v1:Array Value} (Y:∀k,S k->k<w.heap.size) (L:aq w B) (Q:aq B i) (q:aq i W) (k:Keep (fun j=>j=b) W h) (hb:w.heap.size<=b/\b<w.heap.size+2) (V:b<i.heap.size)
  (oM:W.ownsRow i.heap.size 106 22 (.slice (some (ar I 0)) n cm) n (dH mv n)) (oL:W.ownsRow i.heap.size 75 4 (.slice (some (ar C 0)) n A) n (dH u n)) (hm:∀x,x<n->(mv x).size=22/\(mv x).toList.all (·.oneCell')=true) (hl:∀x,x<n->(u x).size=4/\(u x).toList.all (·.oneCell')=true)
  (hr:R m1 p v1 B) (Z:∀m1 p v1 D T,R m1 p v1 D->Keep (fun k=>w.heap.size<=k/\k<w.heap.size+6) D T->R m1 p v1 T):
  RWv (aF S h) #[.slice (some (ar I 0)) n cm,.slice (some (ar C 0)) n A,M8 ((cnt+1:Nat):Int)] n mv u (cnt+1)/\R m1 p v1 h/\aq w h:=by
 have hz:=L.size;have U:=Q.size
 have y:=k.own oM (fun j h1 H=>by have:=(oM.lt j h1).1;omega)
 have v:=k.own oL (fun j h1 H=>by have:=(oL.lt j h1).1;omega)
 have hc:n<=cm/\n<=A:=by
  obtain ⟨_,_,O,h1⟩:=aC oM
  obtain ⟨_,_,J,H⟩:=aC oL
  injection O with _ _ O;injection J with _ _ J
  omega
 have o:∀k,S k->k<i.heap.size:=fun k e=>by have:=Y k e;omega
 have N:=bt Q q
 exact ⟨⟨⟨_,_,_,_,rfl,gt y o,gt v o,hc⟩,hm,hl⟩,Z _ _ _ _ _ hr ((Keep.below N).trans (k.mono fun j _ e=>ap)),(bt L N).trans (k.toBelow (by have:=q.size;omega) (fun j e=>ap))⟩
theorem RWv.upd {mv:Nat->Array Value} {n k x:Nat} {u:Array Value} (h:∀x,x<n->(mv x).size=k/\(mv x).toList.all (·.oneCell')=true) (p:u.size=k) (i:u.toList.all (·.oneCell')=true):∀y,y<n->(bj mv x u y).size=k/\(bj mv x u y).toList.all (·.oneCell')=true:=fun y o=>by
 by_cases e:y=x
 ·subst e;rw [bJ];exact ⟨p,i⟩
 ·rw [bC _ _ e];exact h y o
theorem pN {mv:Nat->Array Value} {n k x:Nat} {u:Array Value} (h:∀x,x<n->(mv x).size=k/\(mv x).toList.all (·.oneCell')=true) (v:u.size=k) (p:u.toList.all (·.oneCell')=true) (o:x<n):Cy (dH mv n) (x*k) u.toList=dH (bj mv x u) n:=by
 have:=CK (mv:=mv) (mv':=bj mv x u) (fun x o=>(h x o).1) (fun y i=>(RWv.upd h v p y i).1) o (fun y i=>bC _ _ i)
 rwa [bJ] at this
theorem Fd {S:Nat->Prop} {R:Array Value->Array Value->Array Value->World->Prop} {w:World} {vs:Array Value} {n cnt x p:Nat} {mv lv:Nat->Array Value} {C:Int} (hS:∀k,S k->k<w.heap.size) (h:RWv w vs n mv lv cnt) (Z:x<n) (hn:n<=1000) (hp:(x+n-1)%n=p) (f9:cnt<=1000000000)
  (bX:∀u,w.heap.size+6<=u.heap.size->aq w u->Calls prog 89 #[.agg (mv x),.agg (lv p),.agg (lv x)] u (KY R C u)) (hR:∀m1 I v1 w1 w2,R m1 I v1 w1->Keep (fun k=>w.heap.size<=k/\k<w.heap.size+6) w1 w2->R m1 I v1 w2):
  Calls prog 16 #[.agg vs,M8 (x:Nat)] w (LC S R vs n mv lv cnt x p C w):=by
 have bG:p<n:=by rw [<-hp];exact Nat.mod_lt _ ap
 have b4:=fun u (q:aq w u) (hz:u.heap.size=w.heap.size+2)=>ES (R:=R) (C:=C) (show RWv u vs n mv lv cnt from by
  obtain ⟨⟨AM,cm,AL,cl,h1,L,h3,h4⟩,h5,h6⟩:=h
  exact ⟨⟨AM,cm,AL,cl,h1,L.below q,h3.below q,h4⟩,h5,h6⟩) Z hn hp (fun eX h1 q'=>bX eX ap (bt q q')) (fun m1 I v1 w1 w2 hr k=>hR m1 I v1 w1 w2 hr (k.mono fun j _ e=>ap))
 obtain ⟨⟨AM,cm,AL,cl,rfl,hM,hL,fn,g4⟩,aR,b1⟩:=h
 obtain ⟨W0,a5⟩:∃W0,(w.alloc (.cells #[.slice AM n cm,.slice AL n cl,M8 (cnt:Nat)] 39)).alloc (.cells #[M9,M9,M8 0] 39)=W0:=⟨_,rfl⟩
 have g0:W0.heap[w.heap.size]?=some (.cells #[.slice AM n cm,.slice AL n cl,M8 (cnt:Nat)] 39 (0,0)):=by rw [<-a5];exact sb (Mc w _) _ ((br _).alloc (Mb _) _)
 have g1:W0.heap[w.heap.size+1]?=some (.cells #[M9,M9,M8 0] 39 (0,0)):=by rw [<-a5];have:=Mc (w.alloc (.cells #[.slice AM n cm,.slice AL n cl,M8 (cnt:Nat)] 39)) (.cells #[M9,M9,M8 0] 39);rwa [Mr] at this
 have q0:aq w W0:=by rw [<-a5];exact ((br w).alloc (Mb _) _).alloc (by rw [Mr];omega) _
 have d0:W0.heap.size=w.heap.size+2:=by rw [<-a5];simp
 have tl:=sl g1
 have t0:=fun u q=>bx3 (sb g0 u q)
 have q1:=br W0
 have fe:(x:Int)<n:=ap
 have fc:¬((x:Int)<0):=ap
 have cy:∀u,aq w u->Rd u AM (dH mv n):=fun u q=>hM.below q
 have hrl:∀u,aq w u->Rd u AL (dH lv n):=fun u q=>hL.below q
 have d8:=kl (fun x Z=>(aR x Z).1);have e1:=kl (fun x Z=>(b1 x Z).1)
 have cb:=tQ (fun x Z=>(aR x Z).2);have cA:=tQ (fun x Z=>(b1 x Z).2)
 obtain ⟨f4,G1,Q0,G0,dn,HR,el,ec⟩:=ak a5 g1 q0 g0 b4 hR d0 aR;obtain ⟨bw,cj,e4,f5,f2,ej,ei,HS⟩:=ak b1 cy hrl d8 e1 cb cA hS;have Hp:=aa hp;clear a5 g0 g1 q0 b4 hR d0 aR b1 hM hL cy hrl d8 e1 cb cA bX hS hp
 go_enter func16,ntmps16
 go_upto_region 1 with (fail)
 rw [f4.o]
 go_wp2_with (refine aT #[.slice AM n cm,.slice AL n cl,M8 (cnt:Nat)] (b:=w.heap.size) G0.o cU rfl rfl rfl rfl ?_)
 refine (dn.o _ Q0.o (by rw [el.o])).mono ?_
 rintro e D ⟨m1,I,v1,rfl,⟨z1,z2,z3⟩,⟨a1,a2,a3⟩,hr,k5⟩
 have q5:=bt q1 k5
 obtain ⟨Z1,Z2,J,O1,O2,O3,e5⟩:=aj z1 z2 z3 a1 a2 a3 hr;clear z1 z2 z3 a1 a2 a3 hr k5 q1
 have b5:aq D (((D.alloc (.cells Nb 106)).alloc (.cells #[M8 0,M9,M8 0,M8 0] 75)).alloc (.cells #[M8 0,M9,M8 0,M8 0] 75)):=eJ [Obj.cells Nb 106,.cells #[M8 0,M9,M8 0,M8 0] 75,.cells #[M8 0,M9,M8 0,M8 0] 75] D
 obtain ⟨bO,bs,aP,B5⟩:=ag (show (((D.alloc (.cells Nb 106)).alloc (.cells #[M8 0,M9,M8 0,M8 0] 75)).alloc (.cells #[M8 0,M9,M8 0,M8 0] 75)).heap[D.heap.size]?=_ from bZ [Obj.cells Nb 106,.cells #[M8 0,M9,M8 0,M8 0] 75,.cells #[M8 0,M9,M8 0,M8 0] 75] D 0 rfl) (show (((D.alloc (.cells Nb 106)).alloc (.cells #[M8 0,M9,M8 0,M8 0] 75)).alloc (.cells #[M8 0,M9,M8 0,M8 0] 75)).heap[D.heap.size+1]?=_ from bZ [Obj.cells Nb 106,.cells #[M8 0,M9,M8 0,M8 0] 75,.cells #[M8 0,M9,M8 0,M8 0] 75] D 1 rfl) (show (((D.alloc (.cells Nb 106)).alloc (.cells #[M8 0,M9,M8 0,M8 0] 75)).alloc (.cells #[M8 0,M9,M8 0,M8 0] 75)).heap[D.heap.size+1+1]?=_ from bZ [Obj.cells Nb 106,.cells #[M8 0,M9,M8 0,M8 0] 75,.cells #[M8 0,M9,M8 0,M8 0] 75] D 2 rfl) b5;clear b5
 go_upto_region 5 with (first
  | (refine aI (b:=D.heap.size) bO.o lV rfl rfl rfl rfl Z1.o (by rw [Z1.o];rfl) O1.o ?_;intro w6 e6 k6;obtain ⟨E6,K6⟩:=ae e6 k6;clear e6 k6)
  | (refine aI (b:=D.heap.size+1) ((K6.o.block _ (Ma bs.o) ap).trans bs.o) iK rfl rfl rfl rfl Z2.o (by rw [Z2.o];rfl) O2.o ?_;intro w7 e7 k7;obtain ⟨E7,K7⟩:=ae e7 k7;clear e7 k7)
  | (refine aI (b:=D.heap.size+1+1) ((K7.o.block _ (Mi (Ma aP.o) K6.o.size) ap).trans ((K6.o.block _ (Ma aP.o) ap).trans aP.o)) iK rfl rfl rfl rfl J.o (by rw [J.o];rfl) O3.o ?_;intro y e8 k8;obtain ⟨E8,K8⟩:=ae e8 k8;clear e8 k8))
 have bf:aq D y:=B5.o.trans (((K6.o.toBelow B5.o.size (fun j e=>ap)).trans (K7.o.toBelow (by have h1:=B5.o.size;have h2:=K6.o.size;(try simp only [World.size_alloc] at h1 h2 ⊢);omega) (fun j e=>ap))).trans (K8.o.toBelow (by have h1:=B5.o.size;have h2:=K6.o.size;have h3:=K7.o.size;(try simp only [World.size_alloc] at h1 h2 h3 ⊢);omega) (fun j e=>ap)))
 have ea:y.heap[D.heap.size]?=_:=(K8.o.block _ (Mi (Ma E6.o) K7.o.size) ap).trans ((K7.o.block _ (Ma E6.o) ap).trans E6.o)
 have e0:y.heap[D.heap.size+1]?=_:=(K8.o.block _ (Ma E7.o) ap).trans E7.o
 obtain ⟨eS,cn⟩:=ae ea e0
 have q8:=bt q5 bf
 obtain ⟨Q5,d9⟩:=ae q5 bf;clear ea e0 bf B5 bO bs aP E6 E7 K6 K7 K8 q5
 by_cases hC:C=0
 rotate_left
 ·have fr:(C != 0)=true:=by rw [bne_iff_ne];exact hC
  have HC:=aa hC
  have h1:=sb G1.o _ q8
  obtain ⟨H1,Q8⟩:=ae h1 q8;clear h1 hC
  go_wp2_with (first | (refine aT #[.slice AM n cm,.slice AL n cl,M8 (cnt:Nat)] (b:=w.heap.size) (sb G0.o _ Q8.o) cU rfl rfl rfl rfl ?_) | (refine aI (b:=w.heap.size+1) H1.o cU rfl rfl rfl rfl rfl rfl rfl ?_;intro w9 e9 k9;obtain ⟨E9,K9⟩:=ae e9 k9;clear e9 k9))
  try simp only [Exit.inBlock,Exit.then]
  refine Mp (dC rfl rfl E9.o cU) rfl ?_
  exact .inl ⟨HC.o,rfl,(Q0.o.trans (Q8.o.mono Q0.o.size)).trans (K9.o.toBelow (by have h1:=Q0.o.size;have h2:=Q8.o.size;(try simp only [World.size_alloc] at h1 h2 ⊢);omega) (fun j e=>ap))⟩
 subst hC
 go_upto_region 7 with (fail)
 have cv:=sb G0.o _ q8
 have dT:=sb G1.o _ q8
 obtain ⟨ct,a7,Q8⟩:=af cv dT q8
 have bh:IntKind.i64.wrap ((cnt:Int)+1)=((cnt+1:Nat):Int):=by rw [Mg _ ap];push_cast;rfl
 have es:=aa bh;clear cv dT q8 t0 tl bh
 go_cut [11] (fun v wx=>∃N A3 c3 A7 c7,v=(au N)/\wx.heap[N]?=some (.cells #[.slice A3 n c3,.slice A7 n c7,M8 ((cnt+1:Nat):Int)] 39 (0,0))/\y.heap.size<=N/\wx.ownsRow y.heap.size 106 22 (.slice A3 n c3) n (dH mv n)/\wx.ownsRow y.heap.size 75 4 (.slice A7 n c7) n (dH lv n)/\aq y wx)
 case first=>
  have t8:=fun u q=>bx3 (sb ct.o u q)
  obtain ⟨em,eu⟩:=ae (fun u (q:aq y u)=>cj.o u (Q0.o.trans ((bt Q8.o q).mono Q0.o.size))) (fun u (q:aq y u)=>e4.o u (Q0.o.trans ((bt Q8.o q).mono Q0.o.size)))
  have bh:=es.o
  have tl:=fun u (q:aq y u)=>Mi (Ma ct.o) q.size
  have q:=(br y).drew
  refine XA.g 13 (fun u:World=>aq y u) ?_
  refine XA.t ?_ [1,2,5,6,8,9,10] q ?_
  obtain ⟨U,hU⟩:∃U,y.drew=U:=⟨_,rfl⟩
  rw [hU] at q ⊢
  clear hU
  repeat' first
   | (refine XA.three 0 4 12 ?_ ?_ ?_)
   | (refine XA.three 3 4 12 ?_ ?_ ?_)
   | (refine XA.two 0 4 ?_ ?_)
   | (refine XA.two 0 12 ?_ ?_)
   | (refine XA.two 3 4 ?_ ?_)
   | (refine XA.two 3 12 ?_ ?_)
   | (refine XA.two 4 12 ?_ ?_)
   | (refine XA.two 7 12 ?_ ?_)
   | (refine XA.sole 0 ?_)
   | (refine XA.sole 3 ?_)
   | (refine XA.sole 4 ?_)
   | (refine XA.sole 7 ?_)
   | (refine XA.sole 12 ?_)
   | (refine XAS.v (i:=0) (U.alloc (.cells #[] 106)) (.slice (some (ar U.heap.size 0)) 0 0) (q.alloc q.size _) ?_;have nM:(U.alloc (.cells #[] 106)).ownsRow y.heap.size 106 22 (.slice (some (ar U.heap.size 0)) 0 0) 0 []:=aE (ep U 106 22) q.size;have B:=(br U).alloc (Mb _) (.cells #[] 106);obtain ⟨V,hv⟩:∃V,U.alloc (.cells #[] 106)=V:=⟨_,rfl⟩;rw [hv] at nM B ⊢;clear hv;(try replace oM:=ay oM B);(try replace oL:=ay oL B);(try replace A:=sb A _ B);replace q:=bt q B;have oM:=nM;obtain ⟨bM,d2⟩:∃b,U.heap.size=b:=⟨_,rfl⟩;rw [d2] at oM ⊢;clear nM B d2;obtain ⟨U,rfl⟩:∃U,U=V:=⟨_,rfl⟩)
   | (refine XAS.v (i:=4) (U.alloc (.cells #[] 75)) (.slice (some (ar U.heap.size 0)) 0 0) (q.alloc q.size _) ?_;have nL:(U.alloc (.cells #[] 75)).ownsRow y.heap.size 75 4 (.slice (some (ar U.heap.size 0)) 0 0) 0 []:=aE (ep U 75 4) q.size;have B:=(br U).alloc (Mb _) (.cells #[] 75);obtain ⟨V,hv⟩:∃V,U.alloc (.cells #[] 75)=V:=⟨_,rfl⟩;rw [hv] at nL B ⊢;clear hv;(try replace oM:=ay oM B);(try replace oL:=ay oL B);(try replace A:=sb A _ B);replace q:=bt q B;have oL:=nL;obtain ⟨bL,ds⟩:∃b,U.heap.size=b:=⟨_,rfl⟩;rw [ds] at oL ⊢;clear nL B ds;obtain ⟨U,rfl⟩:∃U,U=V:=⟨_,rfl⟩)
   | (refine XAS.v (i:=12) (U.alloc (.cells #[M9,M9,M8 0] 39)) ((au U.heap.size)) (q.alloc q.size _) ?_;have nN:=Mc U (.cells #[M9,M9,M8 0] 39);have lN:=q.size;have B:=(br U).alloc (Mb _) (.cells #[M9,M9,M8 0] 39);obtain ⟨V,hv⟩:∃V,U.alloc (.cells #[M9,M9,M8 0] 39)=V:=⟨_,rfl⟩;rw [hv] at nN B ⊢;clear hv;(try replace oM:=ay oM B);(try replace oL:=ay oL B);(try replace A:=sb A _ B);replace q:=bt q B;have A:=nN;obtain ⟨N,hN⟩:∃b,U.heap.size=b:=⟨_,rfl⟩;rw [hN] at A lN ⊢;clear nN B hN;obtain ⟨U,rfl⟩:∃U,U=V:=⟨_,rfl⟩)
   | (refine XAS.o (i:=3) (fun K' hK=>?_);refine bR GP (.tmp 34) (.tmp 36) rfl rfl y.heap.size (.slice (some (ar bM 0)) 0 0) 0 [] rfl oM AM n cm (dH mv n) rfl (em.o _ q) f5.o ej.o ap (by unfold maxLen;omega) q.size ?_;intro A3 c3 V o3 b3 g3 n3;rw [MW,List.nil_append] at o3;have kG:Keep (fun j=>(Value.slice (some (ar bM 0)) 0 0).ownBlock=some j) U V:=(Keep.refl _ U).grown g3 (fun k hk=>.inr hk);(try replace oL:=kG.own oL (fun j h1 L=>fx oL oM (by decide) j h1 L));(try replace A:=(kG.block _ (Ma A) (fun e=>ax A (by decide) oM e.symm)).trans A);rw [MW];refine hK.out _ _ (q.trans b3) fun _=>?_;replace q:=q.trans b3;clear hK K' n3 g3 b3 kG oM;have oM:=o3;clear o3;obtain ⟨U,rfl⟩:∃U,U=V:=⟨_,rfl⟩)
   | (refine XAS.o (i:=7) (fun K' hK=>?_);refine bR GQ (.tmp 38) (.tmp 40) rfl rfl y.heap.size (.slice (some (ar bL 0)) 0 0) 0 [] rfl oL AL n cl (dH lv n) rfl (eu.o _ q) f2.o ei.o ap (by unfold maxLen;omega) q.size ?_;intro A7 c7 V o7 b7 g7 n7;rw [MW,List.nil_append] at o7;have kG:Keep (fun j=>(Value.slice (some (ar bL 0)) 0 0).ownBlock=some j) U V:=(Keep.refl _ U).grown g7 (fun k hk=>.inr hk);(try replace oM:=kG.own oM (fun j h1 L=>fx oM oL (by decide) j h1 L));(try replace A:=(kG.block _ (Ma A) (fun e=>ax A (by decide) oL e.symm)).trans A);rw [MW];refine hK.out _ _ (q.trans b7) fun _=>?_;replace q:=q.trans b7;clear hK K' n7 g7 b7 kG oL;have oL:=o7;clear o7;obtain ⟨U,rfl⟩:∃U,U=V:=⟨_,rfl⟩)
   | (refine XA.t ?_ [11] q ?_)
   | fail
  all_goals
   refine XA.e ?_
   simp only [MC,MD]
   obtain ⟨GN,OM,OL,QQ⟩:=ag A oM oL q;clear A oM oL q t8
   go_wp2_with (refine aI (b:=N) GN.o cU rfl rfl rfl rfl rfl rfl rfl ?_;intro w9 e9 k9;obtain ⟨E9,K9⟩:=ae e9 k9;clear e9 k9)
   go_meet
   exact ⟨N,_,_,_,_,rfl,E9.o,lN,K9.o.own OM.o (fun j h1 L=>ax GN.o (by decide) OM.o (by rw [h1,L])),K9.o.own OL.o (fun j h1 L=>ax GN.o (by decide) OL.o (by rw [h1,L])),QQ.o.trans (K9.o.toBelow QQ.o.size (fun j e=>ap))⟩
 case rest=>
  obtain ⟨N,A3,c3,A7,c7,rfl,A,lN,oM,oL,kc⟩:=hcut
  obtain ⟨gm,cM,eM,_⟩:=oM.form ap
  injection eM with eM _ eM2
  subst eM;subst eM2
  obtain ⟨gl,cL,eL,_⟩:=oL.form ap
  injection eL with eL _ eL2
  subst eL;subst eL2
  have tm:=mQ oM Z
  have d7:=sb eS.o _ kc;have d4:=sb cn.o _ kc;have dk:=sb E8.o _ kc;have cc:=sb a7.o _ kc
  have tN:=bx3 A
  have e3:=oM.lt gm rfl;have cd:=oL.lt gl rfl
  have fs:¬(n=0):=ap
  have h1:0<=(x:Int):=ap
  have dG:(m1.toList.drop 0).take m1.toList.length=m1.toList:=by rw [MD,MP]
  have da:(I.toList.drop 0).take I.toList.length=I.toList:=by rw [MD,MP]
  have c6:(v1.toList.drop 0).take v1.toList.length=v1.toList:=by rw [MD,MP]
  obtain ⟨f6,ek,fb,fa,g2,bz,a9,bd⟩:=ak tm d7 d4 dk cc A oM oL;obtain ⟨KC,en,ew,f1,dr,ci⟩:=ai kc dG da c6 e3 cd;clear tm d7 d4 dk cc A oM oL kc dG da c6 e3 cd
  have hI:(prog.info? 106).map (·.size)=some m1.size:=by rw [Z1.o];exact lV.s
  have hJ:m1.all (·.oneCell')=true:=by rw [<-Array.all_toList];exact O1.o
  obtain ⟨HI,HJ⟩:=ae hI hJ;clear hI hJ
  go_upto_region 9 with (first | (refine aT m1 ek.o (by rw [Z1.o];exact lV) rfl rfl rfl en.o ?_) | (refine wpList_store_mid rfl 106 _ _ rfl gm (x*22) m1 rfl rfl (by rw [Z1.o];exact f6.o) HI.o HJ.o ?_))
  have H:=iw m1.toList wc gm (x*22)
  have b0:=oH m1.toList (o:=x*22) a9.o
  have bl:=H.own bd.o (fun j h1 L=>fx bd.o a9.o (by decide) j h1 (by rw [L];rfl))
  have b2:=(H.block N (Ma bz.o) (fun e=>(ax bz.o (by decide) a9.o) (by rw [e];rfl))).trans bz.o
  obtain ⟨W9,dv⟩:∃W9,wc.setCells gm (x*22) m1.toList=W9:=⟨_,rfl⟩
  rw [dv] at H b0 bl b2 ⊢
  have f0:Keep (fun j=>y.heap.size<=j) y W9:=(Keep.below KC.o).trans (H.mono fun j _ e=>by have:=dr.o.1;omega)
  rw [pN ec.o Z1.o O1.o Z] at b0
  have dc:=RWv.upd (x:=x) ec.o Z1.o O1.o
  have q9:aq y W9:=KC.o.trans (H.toBelow KC.o.size (fun j e=>by have:=dr.o.1;omega))
  have co:=sb cn.o _ q9;have cf:=sb E8.o _ q9;have cr:=sb a7.o _ q9
  have ee:=bx3 b2
  obtain ⟨bi,a0,a4,Q9,ef,fi,eB,e2⟩:=ak b0 bl b2 q9 co cf cr dc;clear dv H b0 bl b2 f0 q9 co cf cr dc tN
  by_cases cx:1<n
  ·have d6:(1:Int)<n:=ap
   have dp:(prog.info? 75).map (·.size)=some I.size:=by rw [Z2.o];exact iK.s
   have d1:I.all (·.oneCell')=true:=by rw [<-Array.all_toList];exact O2.o
   have d5:(prog.info? 75).map (·.size)=some v1.size:=by rw [J.o];exact iK.s
   have eb:v1.all (·.oneCell')=true:=by rw [<-Array.all_toList];exact O3.o
   have c8:=mQ a0.o bG
   obtain ⟨eG,ev,eV,f3,fd⟩:=ah dp d1 d5 eb c8;clear dp d1 d5 eb c8
   go_upto_region 10 with (fail)
   have ab:((x:Int)+(n:Int)-1).tmod (n:Int)=(p:Int):=by
    rw [<-Hp.o,Int.tmod_eq_emod_of_nonneg ap,Int.natCast_emod,show ((x+n-1:Nat):Int)=(x:Int)+n-1 by omega]
   have cs:((x:Int)+(n:Int)-1)%(n:Int)=(p:Int):=by rw [<-Int.tmod_eq_emod_of_nonneg ap];exact ab
   have h3:0<=(p:Int):=ap
   have h4:(p:Int)<(n:Int):=ap
   have w1:IntKind.i64.wrap ((x:Int)+n)=(x:Int)+n:=Mg _ ap
   have w2:IntKind.i64.wrap ((x:Int)+n-1)=(x:Int)+n-1:=Mg _ ap
   have w3:IntKind.i64.wrap (p:Int)=(p:Int):=Mg _ ap
   have eo:IntKind.i64.wrap (((x:Int)+n-1).tmod n)=(p:Int):=by rw [ab];exact w3
   have w6:IntKind.i64.wrap (((x:Int)+n-1)%n)=(p:Int):=by rw [cs];exact w3
   have tq:=fun u q=>bx3 (sb a4.o u q)
   have tl:=sl a4.o
   have q:=(br W9).drew
   refine XA.g 10 (fun u:World=>aq W9 u) ?_
   refine XA.t ?_ [0,1,2,3,4,5,6,7] q ?_
   refine XA.ld 8 I (fun u q=>sb ef.o u q) (by rw [Z2.o];exact iK) q ?_ (hcs:=ew.o)
   refine XA.t ?_ [9] q ?_
   refine XA.e ?_
   simp only [MC,MD]
   clear tq tl q ab cs h3 h4 w1 w2 w3 eo w6 ee
   go_upto_region 11 with (refine wpList_store_mid rfl 75 _ _ rfl gl (p*4) I rfl rfl (by rw [Z2.o];exact mQ a0.o.drew bG) eG.o ev.o ?_)
   have H:=(Keep.refl (fun j=>j=gl) W9).drew.trans (iw I.toList W9.drew gl (p*4))
   have Y:=oH I.toList (o:=p*4) a0.o.drew
   have av:=H.own bi.o (fun j h1 L=>fx bi.o a0.o (by decide) j h1 (by rw [L];rfl))
   have Q:=(H.block N (Ma a4.o) (fun e=>(ax a4.o (by decide) a0.o) (by rw [e];rfl))).trans a4.o
   obtain ⟨aM,b6⟩:∃aM,W9.drew.setCells gl (p*4) I.toList=aM:=⟨_,rfl⟩
   rw [b6] at H av Y Q ⊢
   rw [pN bw.o Z2.o O2.o bG] at Y
   have cw:=RWv.upd (x:=p) bw.o Z2.o O2.o
   have bN:aq y aM:=Q9.o.trans (H.toBelow Q9.o.size (fun j e=>by have:=ci.o.1;omega))
   have bb:=sb E8.o _ bN
   have c9:=bx3 Q
   obtain ⟨b8,O,a8,bV,dw,d3⟩:=ai av Y Q bN bb cw;clear b6 H av Y Q bN bb cw
   go_upto_region 12 with (first | (refine aT v1 dw.o (by rw [J.o];exact iK) rfl rfl rfl f1.o ?_) | (refine wpList_store_mid rfl 75 _ _ rfl gl (x*4) v1 rfl rfl (by rw [J.o];exact mQ O.o Z) eV.o f3.o ?_))
   have H:=iw v1.toList aM gl (x*4)
   have T:=oH v1.toList (o:=x*4) O.o
   have ad:=H.own b8.o (fun j h1 L=>fx b8.o O.o (by decide) j h1 (by rw [L];rfl))
   have a6:=(H.block N (Ma a8.o) (fun e=>(ax a8.o (by decide) O.o) (by rw [e];rfl))).trans a8.o
   obtain ⟨bn,b9⟩:∃bn,aM.setCells gl (x*4) v1.toList=bn:=⟨_,rfl⟩
   rw [b9] at H ad T a6 ⊢
   rw [pN d3.o J.o O3.o Z] at T
   have bA:aq y bn:=bV.o.trans (H.toBelow bV.o.size (fun j e=>by have:=ci.o.1;omega))
   obtain ⟨be,bv,eY,f7,Qe⟩:=ah (sb a7.o _ bA) a6 ad T bA;clear b9 H ad T a6 bA c9
   go_wp2_with (first | (refine aT #[.slice (some (ar gm 0)) n c3,.slice (some (ar gl 0)) n c7,M8 ((cnt+1:Nat):Int)] (b:=N) bv.o cU rfl rfl rfl rfl ?_) | (refine aI (b:=w.heap.size+1) be.o cU rfl rfl rfl rfl rfl rfl rfl ?_;intro f8 ao aG;obtain ⟨bI,bo⟩:=ae ao aG;clear ao aG))
   try simp only [Exit.inBlock,Exit.then]
   refine Mp (dC rfl rfl bI.o cU) rfl ?_
   exact .inr ⟨rfl,m1,I,v1,_,rfl,by
    rw [if_pos cx]
    exact xg HS.o (Q0.o.trans ((show aq W0 D from Q5.o).mono Q0.o.size)) d9.o Qe.o bo.o ap (Ma a7.o) eY.o f7.o e2.o (RWv.upd d3.o J.o O3.o) e5.o HR.o⟩
  ·have d6:¬((1:Int)<n):=ap
   obtain ⟨be,bv⟩:=ae eB.o a4.o;clear ee
   go_wp2_with (first | (refine aT #[.slice (some (ar gm 0)) n c3,.slice (some (ar gl 0)) n c7,M8 ((cnt+1:Nat):Int)] (b:=N) bv.o cU rfl rfl rfl rfl ?_) | (refine aI (b:=w.heap.size+1) be.o cU rfl rfl rfl rfl rfl rfl rfl ?_;intro f8 ao aG;obtain ⟨bI,bo⟩:=ae ao aG;clear ao aG))
   try simp only [Exit.inBlock,Exit.then]
   refine Mp (dC rfl rfl bI.o cU) rfl ?_
   exact .inr ⟨rfl,m1,I,v1,_,rfl,by
    rw [if_neg cx]
    exact xg HS.o (Q0.o.trans ((show aq W0 D from Q5.o).mono Q0.o.size)) d9.o Q9.o bo.o ap (Ma a7.o) bi.o a0.o e2.o bw.o e5.o HR.o⟩
section
variable {P:Program} {ops:Array Oper} {Q:Exit->Act->World->Prop} {S:World->Prop} {n:Nat}
theorem XAS.c {L:List Nat} {a:Act} {w:World} {i:Nat} {f:FuncId} {args:Array Value} {R:Ending->World->Prop} {o:Oper} (hc:Calls P f args w R)
  (k:∀e p,R e p->∃v,e=.returned v/\S p/\(S p->XA P ops Q S n (i::L) (a.put o.dst v) p)) (u:ops[i]?=some o:=by (simp only [My,Mz,MB];rfl))
  (hw:Region.wanted o (yielded ops a.tmps)=true:=by rfl) (he:(execOp a.eval o).run P w=.ok (.enter f args) w:=by go_simp):XAS P ops Q S n i L a w:=by
 refine ⟨o,u,fun B A=>?_⟩
 rw [if_pos hw]
 unfold Oper.wp
 rw [he]
 refine hc.mono fun e p y=>?_
 obtain ⟨v,rfl,x,h⟩:=k e p y
 exact A.out _ _ x h
end
theorem CZ {w:World} {vs:Array Value} {n cnt:Nat} {mv lv:Nat->Array Value} {dn il:Nat->Nat} {B:Bool} (h:RWv w vs n mv lv cnt) (hn:n<=1000) (hc:∀x,x<n->∃I c,(mv x)[20]?=some (.slice I (il x) c)/\(mv x)[21]?=some (M8 (dn x:Nat))) (hB:B=true↔∀x,x<n->il x<=dn x):
  Calls prog 33 #[.agg vs] w fun e i=>e=.returned (.bool B)/\aq w i:=by
 obtain ⟨⟨Z,cm,AL,cl,rfl,hM,hL, -, -⟩,J,U⟩:=h
 obtain ⟨u,y⟩:∃u,w.alloc (.cells #[.slice Z n cm,.slice AL n cl,M8 (cnt:Nat)] 39)=u:=⟨_,rfl⟩
 have V:u.heap[w.heap.size]?=some (.cells #[.slice Z n cm,.slice AL n cl,M8 (cnt:Nat)] 39 (0,0)):=by rw [<-y];exact Mc w _
 have C:aq w u:=by rw [<-y];exact (br w).alloc (Mb _) _
 have t0:=fun i q=>bx3 (sb V i q)
 have tl:=sl V
 have p:∀x,x<n->∃b o I c,Z=some (ar b o)/\(∀i,aq u i->i.cell? (ar b (o+x*22+20))=some (.slice I (il x) c))/\∀i,aq u i->i.cell? (ar b (o+x*22+21))=some (M8 (dn x:Nat)):=fun x O=>by
  obtain ⟨b,o,e,hr⟩:=jP hM (fun x O=>(J x O).1) (by decide) O
  obtain ⟨I,c,h1,h2⟩:=hc x O
  have c1:=hr 20 _ (by rw [Array.getElem?_toList];exact h1)
  have c2:=hr 21 _ (by rw [Array.getElem?_toList];exact h2)
  exact ⟨b,o,I,c,e,fun i q=>(World.cell?_of_block ((C.trans (q.mono C.size)).block _ (aA c1))).trans c1,fun i q=>(World.cell?_of_block ((C.trans (q.mono C.size)).block _ (aA c2))).trans c2⟩
 obtain ⟨HC,HB,T,Q⟩:=ag p hB y C
 have q:=br u
 clear p hB y C V hM hL J U hc
 go_enter func33,ntmps33
 go_wp2_with fail
 rw [T.o]
 go_loopw [3] (fun v wr=>∃k:Nat,k<=n/\v=M8 k/\(∀j,j<k->il j<=dn j)/\aq u wr) (fun v _=>n-(intOf v).toNat)
 case atStart=>exact ⟨0,Mf _,rfl,fun j hj=>absurd hj (Nat.not_lt_zero j),q⟩
 case round=>
  clear q
  obtain ⟨k,hk,rfl,A,q⟩:=hrel
  have N:=aa A;clear A
  by_cases D:k<n
  ·have R:(k:Int)<n:=ap
   have a0:0<=(k:Int):=ap
   obtain ⟨b,o,I,c,rfl,c1,c2⟩:=HC.o k D
   by_cases L:il k<=dn k
   ·have hd:¬((dn k:Int)<il k):=ap
    go_upto_region 4 with (fail)
    refine HA.g (fun i:World=>aq u i) ?_
    refine HA.t ?_ [0,1,2,3,4,5,6,7,8,9,10,11,12,13] q.drew ?_
    refine HA.d ?_
    have H:=aa q.drew;clear c1 c2 q
    go_wp2_with fail
    go_roundw
    case rel=>
     refine ⟨k+1,by omega,by go_num,fun j hj=>?_,H.o⟩
     rcases Mq j k with h1 | h1
     ·exact N.o j h1
     ·obtain rfl:j=k:=ap
      exact L
    case measure=>simp [intOf];omega
   ·have hd:(dn k:Int)<il k:=ap
    go_upto_region 4 with (fail)
    refine HA.g (fun i:World=>aq u i) ?_
    refine HA.t ?_ [0,1,2,3,4,5,6,7,8,9,10,11,12,13] q.drew ?_
    refine HA.d ?_
    have H:=aa q.drew;clear c1 c2 q
    go_wp2_with fail
    go_ret
    have Y:B=false:=by
     cases hBB:B with
     | false=>rfl
     | true=>exact absurd (HB.o.1 hBB k D) L
    exact ⟨by rw [Y];rfl,Q.o.trans (H.o.mono Q.o.size)⟩
  ·obtain rfl:k=n:=ap
   have H:=aa q
   have R:¬((k:Int)<k):=ap
   go_wp2_with fail
   go_ret
   exact ⟨by rw [HB.o.2 N.o];rfl,Q.o.trans (H.o.mono Q.o.size)⟩
def Ly {σ:Type} (J:World->Array Value->σ->Prop) (S:Nat->Prop) (s:σ) (k:Nat) (w:World) (e:Ending) (i:World):Prop:=
 ∃h:Array Value,e=.returned (.tuple #[.agg h,M8 (k:Nat)])/\h.size=3/\h.toList.all (·.oneCell')=true/\J (aF S i) h s/\aq w i
def Ka {σ:Type} (J:World->Array Value->σ->Prop) (S:Nat->Prop) (s:σ) (b:Bool) (w:World) (e:Ending) (i:World):Prop:=
 ∃h:Array Value,e=.returned (.tuple #[.agg h,.bool b])/\h.size=3/\h.toList.all (·.oneCell')=true/\J (aF S i) h s/\aq w i
theorem Fb {σ:Type} {st:σ->Int->σ×Bool} {J:World->Array Value->σ->Prop} {S:Nat->Prop} {A:Option Addr} {c:Nat} {l:List Int} {s:σ} {w:World} {vs:Array Value} (hS:∀k,S k->k<w.heap.size) (hl:l.length<=1000000) (hA:Rd w A (aB .i64 l)) (hJ:∀u v vs s,J u vs s->Ext u v->J v vs s)
  (hp:∀(S:Nat->Prop) w vs s z,(∀k,S k->k<w.heap.size)->J (aF S w) vs s->z∈l->Calls prog 16 #[.agg vs,M8 z] w (Ka J S (st s z).1 (st s z).2 w)) (h0:J (aF S w) vs s) (hz:vs.size=3) (ho:vs.toList.all (·.oneCell')=true):
  Calls prog 20 #[.agg vs,.slice A l.length c] w (Ly J S (pK st s l).1 (pK st s l).2 w):=by
 obtain ⟨n,hn⟩:∃n,l.length=n:=⟨_,rfl⟩
 rw [hn] at hl ⊢
 obtain ⟨W0,B⟩:∃W0,(w.alloc (.cells vs 39)).alloc (.cells #[M9,M9,M8 0] 39)=W0:=⟨_,rfl⟩
 have g0:W0.heap[w.heap.size]?=some (.cells vs 39 (0,0)):=by rw [<-B];exact sb (Mc w _) _ ((br _).alloc (Mb _) _)
 have g1:W0.heap[w.heap.size+1]?=some (.cells #[M9,M9,M8 0] 39 (0,0)):=by rw [<-B];have:=Mc (w.alloc (.cells vs 39)) (.cells #[M9,M9,M8 0] 39);rwa [Mr] at this
 have q0:aq w W0:=by rw [<-B];exact ((br w).alloc (Mb _) _).alloc (by rw [Mr];omega) _
 have a1:W0.heap.size=w.heap.size+2:=by rw [<-B];simp
 have j0:J (aF (fun k=>S k\/k=w.heap.size\/k=w.heap.size+1) W0) vs s:=hJ _ _ _ _ h0 (bE (Keep.below q0) fun k hk e=>e.elim id fun e=>ap)
 obtain ⟨ad,HP,HJ,Hn,ao,G0,G1,Q0⟩:=ak hA hp hJ hn B g0 g1 q0;obtain ⟨J0,HZ,HO,HS,a7⟩:=ah j0 hz ho hS a1;clear hA hp hJ h0 hn B g0 g1 q0 j0 hz ho hS a1
 go_enter func20,ntmps20
 go_wp2_with fail
 rw [ao.o]
 go_loopw [6,7] (fun v i wr=>∃k:Nat,k<=n/\i=M8 k/\v=M8 ((pK st s (l.take k)).2:Nat)/\∃x,wr.heap[w.heap.size]?=some (.cells x 39 (0,0))/\wr.heap[w.heap.size+1]?=some (.cells #[M9,M9,M8 0] 39 (0,0))/\x.size=3/\x.toList.all (·.oneCell')=true/\J (aF (fun k=>S k\/k=w.heap.size\/k=w.heap.size+1) wr) x (pK st s (l.take k)).1/\aq w wr/\w.heap.size+2<=wr.heap.size) (fun _ i _=>n-(intOf i).toNat)
 case atStart=>exact ⟨0,Mf _,rfl,rfl,vs,G0.o,G1.o,HZ.o,HO.o,J0.o,Q0.o,by rw [a7.o];omega⟩
 case round=>
  obtain ⟨k,hk,rfl,rfl,x,gx,gy,zz,oo,jj,qq,ss⟩:=hrel
  obtain ⟨GX,GY,ZZ,OO,JJ,QQ⟩:=ai gx gy zz oo jj qq;clear gx gy zz oo jj qq
  by_cases a8:k<n
  ·have O:k<l.length:=by rw [Hn.o];exact a8
   obtain ⟨b,o,rfl,p⟩:=(ad.o.below QQ.o).num O
   have aG:(k:Int)<n:=ap
   have aM:0<=(k:Int):=ap
   have a9:=Bb st s l k
   obtain ⟨M,hM⟩:∃M,pK st s (l.take k)=M:=⟨_,rfl⟩
   have a4:pK st s (l.take (k+1))=((st M.1 (nth l k)).1,M.2+if (st M.1 (nth l k)).2 then 1 else 0):=by
    rw [List.take_add_one,MG O,Option.toList_some,tM,hM,du _ _ O]
   rw [hM] at JJ a9 ⊢
   have Z:nth l k∈l:=by rw [du _ _ O];exact List.getElem_mem O
   obtain ⟨HX,HM,T⟩:=af a4 hM Z
   have p':=fun w' (q:aq wr w')=>(World.cell?_of_block (q.block b (aA p))).trans p
   have P':=aa p';clear a4 hM Z p p'
   go_upto_region 5 with (fail)
   go_cut [8,9] (fun v u wx=>∃N h,v=(au N)/\u=.bool (st M.1 (nth l k)).2/\wx.heap[N]?=some (.cells h 39 (0,0))/\wr.heap.size<=N/\h.size=3/\h.toList.all (·.oneCell')=true/\J (aF (fun k=>S k\/k=w.heap.size\/k=w.heap.size+1) wx) h (st M.1 (nth l k)).1/\aq wr wx)
   case first=>
    have p':=P'.o
    have s0:=(br wr).drew
    have j1:=HJ.o _ _ _ _ JJ.o (bE (S':=(fun k=>S k\/k=w.heap.size\/k=w.heap.size+1)) ((Keep.refl (fun k=>S k\/k=w.heap.size\/k=w.heap.size+1) wr).drew) (fun _ _ e=>e))
    have tl:=fun w' (q:aq wr w')=>Mi (Ma GX.o) q.size
    refine XA.g 10 (fun w':World=>aq wr w') ?_
    refine XA.ld 0 x (fun w' q=>sb GX.o w' q) (by rw [ZZ.o];exact cU) s0 ?_ (hcs:=by rw [MD,MP])
    refine XA.t ?_ [1,2,3,4] s0 ?_
    have Q:∀k,(fun k=>S k\/k=w.heap.size\/k=w.heap.size+1) k->k<wr.heap.size:=fun k e=>by
     rcases e with e | e | e
     ·have:=HS.o k e;omega
     ·omega
     ·omega
    refine XA.two 5 9 ?_ ?_
    ·refine XAS.c (HP.o (fun k=>S k\/k=w.heap.size\/k=w.heap.size+1) wr.drew x M.1 (nth l k) Q j1 T.o) ?_
     rintro e V ⟨h,rfl,z2,Y,j2,k6⟩
     have y:=bt s0 k6
     refine ⟨_,rfl,y,fun _=>?_⟩
     refine XA.t ?_ [6,7] y ?_
     refine XA.t0 ?_ [8] y ?_
     refine XA.v 9 (V.alloc (.cells #[M9,M9,M8 0] 39)) ((au V.heap.size)) (y.alloc y.size _) ?_
     refine XA.e ?_
     simp only [MC,MD]
     obtain ⟨GN,S6,J2,C,R⟩:=ah (Mc V (.cells #[M9,M9,M8 0] 39)) y j2 z2 Y;clear j2 z2 Y y k6 p' s0 j1 tl Q
     go_wp2_with (refine aI (b:=V.heap.size) GN.o cU rfl rfl rfl rfl C.o (by rw [C.o];rfl) R.o ?_;intro w7 H I;obtain ⟨U,D⟩:=ae H I;clear H I)
     go_meet
     have a6:aq V w7:=((br V).alloc (Mb _) _).trans (D.o.toBelow (by rw [Mr];omega) (fun j e=>ap))
     exact ⟨V.heap.size,h,rfl,rfl,U.o,S6.o.size,C.o,R.o,HJ.o _ _ _ _ J2.o (im a6),S6.o.trans (a6.mono S6.o.size)⟩
    ·refine XAS.v (wr.drew.alloc (.cells #[M9,M9,M8 0] 39)) ((au wr.drew.heap.size)) (s0.alloc (Mb _) _) ?_
     have s5:aq wr (wr.drew.alloc (.cells #[M9,M9,M8 0] 39)):=s0.alloc (Mb _) _
     have gN:=Mc wr.drew (.cells #[M9,M9,M8 0] 39)
     have a3:(wr.drew.alloc (.cells #[M9,M9,M8 0] 39)).heap.size=wr.heap.size+1:=by simp
     have j5:=HJ.o _ _ _ _ j1 (bE (S':=fun k=>(fun k=>S k\/k=w.heap.size\/k=w.heap.size+1) k\/k=wr.heap.size) (Keep.below ((br wr.drew).alloc (Mb _) (.cells #[M9,M9,M8 0] 39))) (fun k hk e=>e.elim id (fun e=>absurd hk (by rw [MQ];omega))))
     refine XA.c 5 (HP.o (fun k=>(fun k=>S k\/k=w.heap.size\/k=w.heap.size+1) k\/k=wr.heap.size) _ x M.1 (nth l k) (fun k e=>by
      rw [a3]
      rcases e with e | e
      ·have:=Q k e;omega
      ·omega) j5 T.o) ?_
     rintro e V ⟨h,rfl,z2,Y,j2,k6⟩
     have y:=bt s5 k6
     refine ⟨_,rfl,y,fun _=>?_⟩
     refine XA.t ?_ [6,7] y ?_
     refine XA.t0 ?_ [8] y ?_
     refine XA.e ?_
     simp only [MC,MD]
     obtain ⟨GN,S6,J2,C,R⟩:=ah (sb gN _ k6) y j2 z2 Y;clear j2 z2 Y y k6 p' s0 j1 tl Q s5 gN a3 j5
     go_wp2_with (refine aI (b:=wr.heap.size) GN.o cU rfl rfl rfl rfl C.o (by rw [C.o];rfl) R.o ?_;intro w7 H I;obtain ⟨U,D⟩:=ae H I;clear H I)
     go_meet
     exact ⟨wr.heap.size,h,rfl,rfl,U.o,Mb _,C.o,R.o,HJ.o _ _ _ _ J2.o (bE (D.o.mono fun k _ e=>.inr e) (fun k _ e=>.inl e)),S6.o.trans (D.o.toBelow S6.o.size (fun j e=>ap))⟩
   case rest=>
    obtain ⟨N,h,rfl,rfl,gN,lN,z2,Y,j2,kc⟩:=hcut
    obtain ⟨GN,C,R,J2,KC,ab,a0⟩:=aj gN z2 Y j2 kc (sb GX.o wc kc) (sb GY.o wc kc)
    have L:(h.toList.drop 0).take h.toList.length=h.toList:=by rw [MD,MP]
    have EM:=aa L;clear gN z2 Y j2 kc L
    have w1:IntKind.i64.wrap ((M.2:Int)+1)=(M.2:Int)+1:=Mg _ ap
    have w2:IntKind.i64.wrap ((k:Int)+1)=(k:Int)+1:=Mg _ ap
    go_upto_region 7 with (first | (refine aT h GN.o (by rw [C.o];exact cU) rfl rfl rfl EM.o ?_) | (refine aI (b:=w.heap.size) ab.o cU rfl rfl rfl rfl C.o (by rw [C.o,ZZ.o]) R.o ?_;intro w7 H I;obtain ⟨U,D⟩:=ae H I;clear H I))
    have a2:=aa ((D.o.block _ (Ma a0.o) ap).trans a0.o)
    have qc:=QQ.o.trans (KC.o.mono (by have:=QQ.o.size;omega))
    have Q7:=aa (qc.trans (D.o.toBelow qc.size (fun j e=>ap)))
    have J7:=aa (HJ.o _ _ _ _ J2.o (bE (S':=(fun k=>S k\/k=w.heap.size\/k=w.heap.size+1)) (D.o.mono fun k _ e=>.inr (.inl e)) (fun _ _ e=>e)))
    have a5:w.heap.size+2<=w7.heap.size:=by have:=KC.o.size;have:=D.o.size;omega
    clear qc
    cases hb:(st M.1 (nth l k)).2 with
    | true=>
     have HB:=aa hb;clear hb
     go_wp2_with fail
     go_roundw
     case rel=>exact ⟨k+1,by omega,by go_num,by rw [HX.o,HB.o];simp,h,U.o,a2.o,C.o,R.o,by rw [HX.o];exact J7.o,Q7.o,a5⟩
     case measure=>simp [intOf];omega
    | false=>
     have HB:=aa hb;clear hb
     go_wp2_with fail
     go_roundw
     case rel=>exact ⟨k+1,by omega,by go_num,by rw [HX.o,HB.o];simp,h,U.o,a2.o,C.o,R.o,by rw [HX.o];exact J7.o,Q7.o,a5⟩
     case measure=>simp [intOf];omega
  ·obtain rfl:k=n:=ap
   have ht:l.take k=l:=by rw [<-Hn.o,MP]
   have HT:=aa ht
   have L:(x.toList.drop 0).take x.toList.length=x.toList:=by rw [MD,MP]
   have EM:=aa L
   have av:¬((k:Int)<k):=ap
   clear ht L
   go_wp2_with (first | (refine aT x GX.o (by rw [ZZ.o];exact cU) rfl rfl rfl EM.o ?_) | (refine aI (b:=w.heap.size+1) GY.o cU rfl rfl rfl rfl ZZ.o (by rw [ZZ.o];rfl) OO.o ?_;intro w7 H I;obtain ⟨U,D⟩:=ae H I;clear H I))
   try simp only [Exit.inBlock,Exit.then]
   refine Mp (dC rfl rfl U.o (by rw [ZZ.o];exact cU)) rfl ?_
   refine ⟨x,by rw [HT.o];rfl,ZZ.o,OO.o,?_,QQ.o.trans (D.o.toBelow QQ.o.size (fun j e=>ap))⟩
   have:=JJ.o
   rw [HT.o] at this
   exact HJ.o _ _ _ _ this (bE (D.o.mono fun k _ e=>.inr (.inr e)) (fun _ _ e=>.inl e))
theorem Be:cW prog 29 15:=⟨⟨_,underlying29,rfl⟩,by kernel_rfl⟩
theorem Lv {m:Array Value} (h:m.size=22):∃U a1 V N Q O T L J R v x D I p y u A o C H B,m=#[U,a1,V,N,Q,O,T,L,J,R,v,x,D,I,p,y,u,A,o,C,H,B]:=by
 obtain ⟨l⟩:=m
 have i:l.length=22:=h
 clear h
 obtain _ | ⟨U,l⟩:=l
 ·simp at i
 obtain _ | ⟨a1,l⟩:=l
 ·simp at i
 obtain _ | ⟨V,l⟩:=l
 ·simp at i
 obtain _ | ⟨N,l⟩:=l
 ·simp at i
 obtain _ | ⟨Q,l⟩:=l
 ·simp at i
 obtain _ | ⟨O,l⟩:=l
 ·simp at i
 obtain _ | ⟨T,l⟩:=l
 ·simp at i
 obtain _ | ⟨L,l⟩:=l
 ·simp at i
 obtain _ | ⟨J,l⟩:=l
 ·simp at i
 obtain _ | ⟨R,l⟩:=l
 ·simp at i
 obtain _ | ⟨v,l⟩:=l
 ·simp at i
 obtain _ | ⟨x,l⟩:=l
 ·simp at i
 obtain _ | ⟨D,l⟩:=l
 ·simp at i
 obtain _ | ⟨I,l⟩:=l
 ·simp at i
 obtain _ | ⟨p,l⟩:=l
 ·simp at i
 obtain _ | ⟨y,l⟩:=l
 ·simp at i
 obtain _ | ⟨u,l⟩:=l
 ·simp at i
 obtain _ | ⟨A,l⟩:=l
 ·simp at i
 obtain _ | ⟨o,l⟩:=l
 ·simp at i
 obtain _ | ⟨C,l⟩:=l
 ·simp at i
 obtain _ | ⟨H,l⟩:=l
 ·simp at i
 obtain _ | ⟨B,l⟩:=l
 ·simp at i
 obtain _ | ⟨b,l⟩:=l
 ·exact ⟨U,a1,V,N,Q,O,T,L,J,R,v,x,D,I,p,y,u,A,o,C,H,B,rfl⟩
 ·simp at i
theorem fz {S T:Nat->Prop} {a b c:World} (h:Keep S a b) (k:Keep T b c) (hs:∀j,j<a.heap.size->T j->S j):Keep S a c:=
 ⟨k.os.trans h.os,k.tape.trans h.tape,k.output.trans h.output,Mh h.size k.size,fun i o hn=>(k.block i (Mi o h.size) (fun e=>hn (hs i o e))).trans (h.block i o hn)⟩
structure IL (Rm:Nat->Array Value->World->Prop) (w:World) (X cap k:Nat) (wr:World) (mv:Nat->Array Value) (AM AL:Option Addr) (cm cl:Nat):Prop where
 box:wr.heap[X]?=some (.cells #[.slice AM k cm,.slice AL k cl,M8 0] 39 (0,0))
 oM:wr.ownsRow (X+1) 106 22 (.slice AM k cm) k (dH mv k)
 oL:wr.ownsRow (X+1) 75 4 (.slice AL k cl) k (dH (fun _=>#[M8 (cap:Nat),M9,M8 0,M8 0]) k)
 sm:∀x,x<k->(mv x).size=22/\(mv x).toList.all (·.oneCell')=true
 g:∀x,x<k->∀w2,Keep (fun j=>j=w.heap.size+1\/j=X\/lQ (.slice AM k cm) (.slice AL k cl) j) wr w2->Rm x (mv x) w2
 lo:w.heap.size+2<=X
 q:aq w wr
def Lz (S:Nat->Prop) (Rm:Nat->Array Value->World->Prop) (N cap:Nat) (w:World) (e:Ending) (h:World):Prop:=
 ∃(vs':Array Value) (mv:Nat->Array Value),e=.returned (.tuple #[.agg vs',M8 0])/\RWv (aF S h) vs' N mv (fun _=>#[M8 (cap:Nat),M9,M8 0,M8 0]) 0/\(∀x,x<N->Rm x (mv x) h)/\aq w h
theorem Fh {S:Nat->Prop} {Rm:Nat->Array Value->World->Prop} {i0 i1 i2 i3 i5 i6 i7 i8 i9 U ab T L:Value} {N cap:Nat} {w:World} (hS:∀k,S k->k<w.heap.size) (hN:N<=1000) (cr:cap<=1048576)
  (c7:∀i,aq w i->Calls prog 18 #[.agg #[i0,i1,i2,i3,M8 (N:Nat),i5,i6,i7,i8,i9,U,M8 (cap:Nat),ab,T,L]] i fun e b5=>e=.returned (M8 0)/\aq i b5)
  (hm:∀k i,k<N->aq w i->Calls prog 46 #[.agg #[i0,i1,i2,i3,M8 (N:Nat),i5,i6,i7,i8,i9,U,M8 (cap:Nat),ab,T,L],M8 (k:Nat)] i fun e b5=>∃m:Array Value,e=.returned (.tuple #[.agg m,M8 0])/\(m.size=22/\m.toList.all (·.oneCell')=true)/\aq i b5/\∀p,aq w p->Keep (fun j=>j<i.heap.size) b5 p->Rm k m p):
  Calls prog 14 #[.agg #[i0,i1,i2,i3,M8 (N:Nat),i5,i6,i7,i8,i9,U,M8 (cap:Nat),ab,T,L]] w (Lz S Rm N cap w):=by
 obtain ⟨W1,ao⟩:∃W1,(w.alloc (.cells #[i0,i1,i2,i3,M8 (N:Nat),i5,i6,i7,i8,i9,U,M8 (cap:Nat),ab,T,L] 29)).alloc (.cells #[M9,M9,M8 0] 39)=W1:=⟨_,rfl⟩
 have g0:W1.heap[w.heap.size]?=some (.cells #[i0,i1,i2,i3,M8 (N:Nat),i5,i6,i7,i8,i9,U,M8 (cap:Nat),ab,T,L] 29 (0,0)):=by rw [<-ao];exact sb (Mc w _) _ ((br _).alloc (Mb _) _)
 have g1:W1.heap[w.heap.size+1]?=some (.cells #[M9,M9,M8 0] 39 (0,0)):=by rw [<-ao];have:=Mc (w.alloc (.cells #[i0,i1,i2,i3,M8 (N:Nat),i5,i6,i7,i8,i9,U,M8 (cap:Nat),ab,T,L] 29)) (.cells #[M9,M9,M8 0] 39);rwa [Mr] at this
 have q0:aq w W1:=by rw [<-ao];exact ((br w).alloc (Mb _) _).alloc (by rw [Mr];omega) _
 have bN:W1.heap.size=w.heap.size+2:=by rw [<-ao];simp
 have t4:∀i,aq W1 i->i.cell? (ar w.heap.size 4)=some (M8 (N:Nat)):=fun i q=>Md i w.heap.size 4 _ _ _ (sb g0 i q)
 have cx:∀i,aq W1 i->i.cell? (ar w.heap.size 11)=some (M8 (cap:Nat)):=fun i q=>Md i w.heap.size 11 _ _ _ (sb g0 i q)
 have tl:=sl g1
 obtain ⟨co,Hm,bO,G0,G1,Q0,HS,aR⟩:=ak c7 hm ao g0 g1 q0 hS bN
 have q1:=br W1
 clear c7 hm ao g0 g1 q0 hS bN
 go_enter func14,ntmps14
 go_wp2_with (refine aT #[i0,i1,i2,i3,M8 (N:Nat),i5,i6,i7,i8,i9,U,M8 (cap:Nat),ab,T,L] (b:=w.heap.size) (by rw [bO.o];exact G0.o) Be rfl rfl rfl rfl ?_)
 rw [bO.o]
 refine (co.o _ Q0.o).mono ?_
 rintro e p ⟨rfl,k2⟩
 have q2:=bt q1 k2
 clear k2
 go_wp2_with fail
 obtain ⟨X,hX⟩:∃X,p.heap.size=X:=⟨_,rfl⟩
 obtain ⟨W3,bd⟩:∃W3,p.alloc (.cells #[M9,M9,M8 0] 39)=W3:=⟨_,rfl⟩
 have g3:W3.heap[X]?=some (.cells #[M9,M9,M8 0] 39 (0,0)):=by rw [<-bd,<-hX];exact Mc p _
 have q3:aq W1 W3:=by rw [<-bd];exact q2.alloc q2.size _
 have gX:w.heap.size+2<=X:=by rw [<-hX,<-aR.o];exact q2.size
 have m3:IL Rm w X cap 0 W3 (fun _=>#[]) none none 0 0:=⟨g3,Mn ..,Mn ..,fun x hx=>absurd hx (Nat.not_lt_zero _),fun x hx=>absurd hx (Nat.not_lt_zero _),gX,Q0.o.trans (q3.mono Q0.o.size)⟩
 rw [hX,bd]
 obtain ⟨M3,Q3⟩:=ae m3 q3;clear m3 g3 bd hX q2 q1 q3
 go_loopw [6] (fun v wr=>∃k:Nat,k<=N/\v=M8 k/\∃mv AM AL cm cl,IL Rm w X cap k wr mv AM AL cm cl/\aq W1 wr) (fun v _=>N-(intOf v).toNat)
 case atStart=>exact ⟨0,Mf _,rfl,_,_,_,_,_,M3.o,Q3.o⟩
 case round=>
  obtain ⟨k,hk,rfl,mv,AM,AL,cm,cl,m,q⟩:=hrel
  have h:=aa m
  have tb:=bx3 m.box
  have bv:=Ma m.box
  have QR:=aa q;clear m
  by_cases cb:k<N
  ·have d2:(k:Int)<N:=ap
   have cs:IntKind.i64.wrap ((k:Int)+1)=(k:Int)+1:=Mg _ ap
   go_wp2_with (refine aT #[i0,i1,i2,i3,M8 (N:Nat),i5,i6,i7,i8,i9,U,M8 (cap:Nat),ab,T,L] (b:=w.heap.size) (sb G0.o _ QR.o) Be rfl rfl rfl rfl ?_)
   refine (Hm.o k wr cb h.o.q).mono ?_
   rintro e w5 ⟨m1,rfl,⟨z,o⟩,k5,hR⟩
   obtain ⟨a0,a1,a2,a3,a4,a5,a6,a7,a8,a9,D,I,H,Z,B,Y,C,V,A,Q,R,J,rfl⟩:=Lv z
   obtain ⟨O,K5,HR⟩:=af o k5 hR;clear z o hR k5 tb q
   go_upto_region 9 with (refine aI (Mc _ _) lV rfl rfl rfl rfl rfl rfl O.o ?_;intro w6 e6 k6;obtain ⟨E6,K6⟩:=ae e6 (aK k6);clear e6 k6)
   have k6:=bt K5.o K6.o
   have b6:=sb h.o.box w6 k6
   have ci:=bx3 b6
   obtain ⟨B6,bo,bG⟩:=af b6 (ay h.o.oM k6) (ay h.o.oL k6)
   have cw:=k6.size;have b4:=aa k6
   clear b6 k6
   go_wp2_with (first | (refine aT #[a0,a1,a2,a3,a4,a5,a6,a7,a8,a9,D,I,H,Z,B,Y,C,V,A,Q,R,J] E6.o lV rfl rfl rfl rfl ?_) | (at_builtin;refine dy GP _ rfl (.tmp 29) (.tmp 31) rfl (X+1) (.slice AM k cm) k _ rfl (bo.o.alloc _) (some (ar w6.heap.size 0)) 1 1 #[a0,a1,a2,a3,a4,a5,a6,a7,a8,a9,D,I,H,Z,B,Y,C,V,A,Q,R,J].toList rfl (dD w6 _ _ w6.heap.size rfl) rfl (fun u hu=>List.all_eq_true.1 O.o u hu) ap (by unfold maxLen;omega) (by simp;omega) ?_))
   intro A2 c2 w7 o7 b7 g7 n7
   have kA:aq w6 (w6.alloc (.cells #[a0,a1,a2,a3,a4,a5,a6,a7,a8,a9,D,I,H,Z,B,Y,C,V,A,Q,R,J] 106)):=(br w6).alloc (Mb _) _
   have bb:w7.heap[X]?=_:=(b7.block X ap).trans (sb B6.o _ kA)
   have kM:Keep (fun j=>(Value.slice AM k cm).ownBlock=some j) w6 w7:=((Keep.refl _ w6).alloc _).grown g7 (fun k hk=>.inr hk)
   have bV:=kM.own bG.o (fun j h1 h2=>fx bG.o bo.o (by decide) j h1 h2)
   have cM:=kM.size
   have cj:=bx3 bb
   have cL:=Ma bb
   obtain ⟨cc,KM,bX,O7,N7⟩:=ah bb kM bV o7 n7;clear kA bb kM bV o7 n7 b7 g7 ci
   go_upto_region 10 with (fail)
   obtain ⟨W8,be⟩:∃W8,w7.setCell (ar X 0) (.slice A2 (k+1) c2)=W8:=⟨_,rfl⟩
   have k8:Keep (fun j=>j=X) w7 W8:=by rw [<-be];exact Keep.setCell (S:=fun j=>j=X) (Keep.refl _ _) _ (.inr rfl) _
   have b8:W8.heap[X]?=some (.cells #[.slice A2 (k+1) c2,.slice AL k cl,M8 0] 39 (0,0)):=by rw [<-be];exact ss cc.o
   have bM:=k8.own O7.o (fun j h1 h2=>by have:=(O7.o.lt j h1).1;omega)
   have bz:=k8.own bX.o (fun j h1 h2=>by have:=(bX.o.lt j h1).1;omega)
   rw [be]
   have q8:aq W1 W8:=(bt QR.o b4.o).trans ((KM.o.toBelow (by have:=QR.o.size;omega) (fun j e=>by have:=(bo.o.lt j e).1;have:=h.o.lo;have:=aR.o;omega)).trans (k8.toBelow (by have:=QR.o.size;omega) (fun j e=>by have:=h.o.lo;have:=aR.o;omega)))
   have cA:=k8.size
   have d1:=Ma b8
   have cd:=bx3 b8
   obtain ⟨cn,K8,c8,c6,Q8⟩:=ah b8 k8 bM bz q8;clear b8 k8 bM bz be cj
   go_wp2_with (at_builtin;refine dy GQ _ rfl (.tmp 35) (.tmp 40) rfl (X+1) (.slice AL k cl) k _ rfl (c6.o.alloc _) (some (ar W8.heap.size 0)) 1 1 #[M8 (cap:Nat),M9,M8 0,M8 0].toList rfl (dD W8 _ _ W8.heap.size rfl) rfl (by simp [Value.oneCell']) ap (by unfold maxLen;omega) (by simp;omega) ?_)
   intro A3 c3 w9 o9 b9 g9 n9
   have kA:aq W8 (W8.alloc (.cells #[M8 (cap:Nat),M9,M8 0,M8 0] 75)):=(br W8).alloc (Mb _) _
   have bf:w9.heap[X]?=_:=(b9.block X ap).trans (sb cn.o _ kA)
   have kL:Keep (fun j=>(Value.slice AL k cl).ownBlock=some j) W8 w9:=((Keep.refl _ W8).alloc _).grown g9 (fun k hk=>.inr hk)
   have bn:=kL.own c8.o (fun j h1 h2=>fx c8.o c6.o (by decide) j h1 h2)
   have d0:=bx3 bf
   have cv:=Ma bf
   have av:Keep (fun j=>j=X) w9 (w9.setCell (ar X 1) (.slice A3 (k+1) c3)):=Keep.setCell (S:=fun j=>j=X) (Keep.refl _ _) _ (.inr rfl) _
   have bh:(w9.setCell (ar X 1) (.slice A3 (k+1) c3)).heap[X]?=some (.cells #[.slice A2 (k+1) c2,.slice A3 (k+1) c3,M8 0] 39 (0,0)):=ss bf
   have b3:=av.own bn (fun j h1 h2=>by have:=(bn.lt j h1).1;omega)
   have bi:=av.own o9 (fun j h1 h2=>by have:=(o9.lt j h1).1;omega)
   have b0:dH mv k++(#[a0,a1,a2,a3,a4,a5,a6,a7,a8,a9,D,I,H,Z,B,Y,C,V,A,Q,R,J]:Array Value).toList=dH (bj mv k #[a0,a1,a2,a3,a4,a5,a6,a7,a8,a9,D,I,H,Z,B,Y,C,V,A,Q,R,J]) (k+1):=by
    rw [kU,bJ,wH fun y hy=>(bC (f:=mv) (v:=#[a0,a1,a2,a3,a4,a5,a6,a7,a8,a9,D,I,H,Z,B,Y,C,V,A,Q,R,J]) (show y≠k by omega)).symm]
   have ad:dH (fun _=>#[M8 (cap:Nat),M9,M8 0,M8 0]) k++(#[M8 (cap:Nat),M9,M8 0,M8 0]:Array Value).toList=dH (fun _=>#[M8 (cap:Nat),M9,M8 0,M8 0]) (k+1):=(kU _ _).symm
   have aP:Keep (fun j=>j=w.heap.size+1\/j=X\/lQ (.slice AM k cm) (.slice AL k cl) j) wr (w9.setCell (ar X 1) (.slice A3 (k+1) c3)):=
    fz (Keep.below b4.o) (fz (S:=(fun j=>j=w.heap.size+1\/j=X\/lQ (.slice AM k cm) (.slice AL k cl) j)) (KM.o.mono fun j _ e=>.inr (.inr (.inl e))) (fz (S:=(fun j=>j=w.heap.size+1\/j=X\/lQ (.slice AM k cm) (.slice AL k cl) j)) (K8.o.mono fun j _ e=>.inr (.inl e)) (fz (S:=(fun j=>j=w.heap.size+1\/j=X\/lQ (.slice AM k cm) (.slice AL k cl) j)) (kL.mono fun j _ e=>.inr (.inr (.inr e))) (av.mono fun j _ (e:j=X)=>(.inr (.inl e):(fun j=>j=w.heap.size+1\/j=X\/lQ (.slice AM k cm) (.slice AL k cl) j) j)) (fun _ _ e=>e)) (fun _ _ e=>e)) (fun _ _ e=>e)) (fun _ _ e=>e)
   have b2:∀j,j<wr.heap.size->(fun j=>j=w.heap.size+1\/j=X\/lQ (.slice A2 (k+1) c2) (.slice A3 (k+1) c3) j) j->(fun j=>j=w.heap.size+1\/j=X\/lQ (.slice AM k cm) (.slice AL k cl) j) j:=fun j hj e=>by
    rcases e with e | e | e | e
    ·exact .inl e
    ·exact .inr (.inl e)
    ·rcases N7.o with h1 | h1
     ·rw [h1] at e;exact .inr (.inr (.inl e))
     ·rw [h1] at e;simp at e;have:=b4.o.size;omega
    ·rcases n9 with h1 | h1
     ·rw [h1] at e;exact .inr (.inr (.inr e))
     ·rw [h1] at e;simp at e;have:=b4.o.size;omega
   have aM:∀p,Keep (fun j=>j=w.heap.size+1\/j=X\/lQ (.slice A2 (k+1) c2) (.slice A3 (k+1) c3) j) (w9.setCell (ar X 1) (.slice A3 (k+1) c3)) p->aq w p:=fun p kk=>by
    have h1:=fz aP kk b2
    exact h.o.q.trans (h1.toBelow h.o.q.size (fun j e=>by
     rcases e with e | e | e | e
     ·omega
     ·have:=h.o.lo;omega
     ·have:=(h.o.oM.lt j e).1;have:=h.o.lo;omega
     ·have:=(h.o.oL.lt j e).1;have:=h.o.lo;omega))
   have hg:∀x,x<k+1->∀p,Keep (fun j=>j=w.heap.size+1\/j=X\/lQ (.slice A2 (k+1) c2) (.slice A3 (k+1) c3) j) (w9.setCell (ar X 1) (.slice A3 (k+1) c3)) p->Rm x (bj mv k #[a0,a1,a2,a3,a4,a5,a6,a7,a8,a9,D,I,H,Z,B,Y,C,V,A,Q,R,J] x) p:=fun x hx p kk=>by
    by_cases aG:x=k
    ·subst aG
     rw [bJ]
     refine HR.o p (aM p kk) ?_
     have cf:Keep (fun j=>j<wr.heap.size) w5 (w9.setCell (ar X 1) (.slice A3 (x+1) c3)):=
      fz (Keep.below K6.o) (fz (S:=fun j=>j<wr.heap.size) (KM.o.mono fun j _ e=>(h.o.oM.lt j e).2) (fz (S:=fun j=>j<wr.heap.size) (K8.o.mono fun j _ (e:j=X)=>by rw [e];exact bv) (fz (S:=fun j=>j<wr.heap.size) (kL.mono fun j _ e=>(h.o.oL.lt j e).2) (av.mono fun j _ (e:j=X)=>by rw [e];exact bv) (fun _ _ e=>e)) (fun _ _ e=>e)) (fun _ _ e=>e)) (fun _ _ e=>e)
     refine fz cf kk fun j hj e=>?_
     refine Classical.byContradiction fun hc=>?_
     rcases e with e | e | e | e
     ·have:=h.o.q.size;have:=h.o.lo;omega
     ·omega
     ·rcases N7.o with h1 | h1
      ·rw [h1] at e;exact hc (h.o.oM.lt j e).2
      ·rw [h1] at e;simp at e;have:=K6.o.size;omega
     ·rcases n9 with h1 | h1
      ·rw [h1] at e;exact hc (h.o.oL.lt j e).2
      ·rw [h1] at e;simp at e;have:=K6.o.size;omega
    ·rw [bC _ _ aG]
     exact h.o.g x ap p (fz aP kk b2)
   rw [b0] at b3
   have bl:=bi
   rw [ad] at bl
   have b1:IL Rm w X cap (k+1) (w9.setCell (ar X 1) (.slice A3 (k+1) c3)) (bj mv k #[a0,a1,a2,a3,a4,a5,a6,a7,a8,a9,D,I,H,Z,B,Y,C,V,A,Q,R,J]) A2 A3 c2 c3:=⟨bh,b3,bl,fun x hx=>by
    by_cases aG:x=k
    ·subst aG;rw [bJ];exact ⟨rfl,O.o⟩
    ·rw [bC _ _ aG];exact h.o.sm x ap,hg,h.o.lo,aM _ (Keep.refl _ _)⟩
   have qn:=Q8.o.trans ((kL.toBelow (by have:=Q8.o.size;omega) (fun j e=>by have:=(h.o.oL.lt j e).1;have:=h.o.lo;have:=aR.o;omega)).trans (av.toBelow (by have:=Q8.o.size;have:=kL.size;omega) (fun j e=>by have:=h.o.lo;have:=aR.o;omega)))
   obtain ⟨bs,QN⟩:=ae b1 qn;clear b1 qn hg aM b2 aP b0 ad bl b3 bi bh av bn kL bf kA n9 g9 b9 o9 cd
   go_wp2_with fail
   go_roundw
   case rel=>exact ⟨k+1,by omega,by go_num,_,_,_,_,_,bs.o,QN.o⟩
   case measure=>simp [intOf];omega
  ·obtain rfl:k=N:=ap
   have ct:¬((k:Int)<k):=ap
   obtain ⟨GX,c9⟩:=ae h.o.box (sb G1.o _ q)
   go_wp2_with (first | (refine aT #[.slice AM k cm,.slice AL k cl,M8 0] (b:=X) GX.o cU rfl rfl rfl rfl ?_) | (refine aI (b:=w.heap.size+1) c9.o cU rfl rfl rfl rfl rfl rfl rfl ?_;intro w9 e9 k9;obtain ⟨E9,K9⟩:=ae e9 k9;clear e9 k9))
   try simp only [Exit.inBlock,Exit.then]
   refine Mp (dC rfl rfl E9.o cU) rfl ?_
   have cy:=h.o.lo
   have bA:=K9.o.own h.o.oM (fun j h1 h2=>by have:=(h.o.oM.lt j h1).1;omega)
   have bI:=K9.o.own h.o.oL (fun j h1 h2=>by have:=(h.o.oL.lt j h1).1;omega)
   have hc:k<=cm/\k<=cl:=by
    obtain ⟨_,_,e1,h1⟩:=aC bA
    obtain ⟨_,_,e2,h2⟩:=aC bI
    injection e1 with _ _ e1;injection e2 with _ _ e2
    omega
   have bw:∀j,S j->j<X+1:=fun j e=>by have:=HS.o j e;omega
   exact ⟨_,mv,rfl,⟨⟨AM,cm,AL,cl,rfl,gt bA bw,gt bI bw,hc⟩,h.o.sm,fun x hx=>⟨rfl,rfl⟩⟩,fun x hx=>h.o.g x hx _ (K9.o.mono fun j _ e=>.inl e),h.o.q.trans (K9.o.toBelow h.o.q.size (fun j e=>ap))⟩
theorem RWv.ext {u o:World} {vs:Array Value} {n:Nat} {mv i:Nat->Array Value} {cnt:Nat} (h:RWv u vs n mv i cnt) (hb:Ext u o):RWv o vs n mv i cnt:=by
 obtain ⟨⟨B,cm,p,v,h1,y,D,A⟩,C,x⟩:=h
 exact ⟨⟨B,cm,p,v,h1,aW y hb,aW D hb,A⟩,C,x⟩
structure RWm (u:World) (vs:Array Value) (i:Inp) (M:WSt):Prop where
 ex:∃mv lv,RWv u vs (az i).W mv lv (M.sum i)/\(∀x,x<(az i).W->fZ u (mv x) i x (M.m x))/\∀x,x<(az i).W->RL u (lv x) (M.s x)
 al:gQ i M
theorem RWm.ext {u p:World} {vs:Array Value} {i:Inp} {M:WSt} (h:RWm u vs i M) (hb:Ext u p):RWm p vs i M:=by
 obtain ⟨⟨mv,A,h1,v,B⟩,y⟩:=h
 exact ⟨⟨mv,A,h1.ext hb,fun x o=>ks (v x o) hb,fun x o=>lB (B x o) hb⟩,y⟩
theorem RWm.sz {u:World} {vs:Array Value} {i:Inp} {M:WSt} (h:RWm u vs i M):vs.size=3/\vs.toList.all (·.oneCell')=true:=by
 obtain ⟨⟨mv,x,⟨⟨v,cm,o,p,rfl, -⟩, -, -⟩, -, -⟩, -⟩:=h
 exact ⟨rfl,rfl⟩
theorem vw {i:Inp} {M:WSt} {x:Nat} (h:x<(az i).W):pkZ i M x=pkF i M x:=by
 unfold pkZ;rw [if_pos ⟨by omega,by omega⟩,Int.toNat_natCast]
theorem Bs {i:Inp} {M:WSt} {z:Int} (h:¬(0<=z/\z<((az i).W:Int))):pkZ i M z=(M,false):=by
 unfold pkZ;rw [if_neg h]
theorem gQ.msgs_le {i:Inp} {M:WSt} (h:gQ i M) (hs:cz i) {x:Nat} (o:x<(az i).W):(M.s x).msgs.length<=1000000000:=by
 have h1:=h.ok.sn x o
 have C:sN i x (M.pos i x)<=M.pos i x:=J1 i x _
 have A:M.pos i x<=M.sum i:=Bp o
 have B:=h.sum_le hs
 have u:=vf hs.ok
 have p:=ve hs.ok
 have y:=hs.s
 have v:wh (az i)*i.cfg.steps.toNat<=810000*6:=Nat.mul_le_mul p ap
 omega
theorem gQ.sum_lt {i:Inp} {M:WSt} (h:gQ i M) (hs:cz i):M.sum i<=1000000000:=by
 have x:=h.sum_le hs
 have p:=vf hs.ok
 have o:=ve hs.ok
 have v:=hs.s
 have u:wh (az i)*i.cfg.steps.toNat<=810000*6:=Nat.mul_le_mul o ap
 omega
theorem Km {S:Nat->Prop} {w:World} {vs:Array Value} {i:Inp} {M:WSt} (hs:cz i) (hS:∀k,S k->k<w.heap.size) (h:RWm (aF S w) vs i M) (z:Int):
  Calls prog 16 #[.agg vs,M8 z] w (Ka (fun u vs M=>RWm u vs i M) S (pkZ i M z).1 (pkZ i M z).2 w):=by
 have H:=h.sz
 have ao:=hs.ok.W8
 obtain ⟨⟨mv,lv,h1,h2,N⟩,D⟩:=h
 have Z:=h1.ext (et S w)
 by_cases T:0<=z/\z<((az i).W:Int)
 rotate_left
 ·rw [Bs T]
  refine (CJ Z ap).mono ?_
  rintro e o ⟨rfl,hb⟩
  exact ⟨vs,rfl,H.1,H.2,(⟨⟨mv,lv,h1,h2,N⟩,D⟩:RWm (aF S w) vs i M).ext (im hb),hb⟩
 obtain ⟨x,rfl⟩:∃x:Nat,z=x:=⟨z.toNat,by omega⟩
 have A:x<(az i).W:=ap
 have hp:pvW (az i).W x<(az i).W:=le ap
 rw [vw A]
 obtain ⟨C,a6,hb⟩:=vx D hs A
 obtain ⟨hA, -,Y,a0⟩:=vy D hs A
 obtain ⟨m1,s1,t1,U,Q⟩:=a6
 have a9:=fun o (q:aq w o) (hl:w.heap.size+6<=o.heap.size)=>by
  have he:Ext (aF S w) (aF (fun k=>S k\/(w.heap.size<=k/\k<w.heap.size+6)) o):=bE (Keep.below q) (fun k hk e=>e.elim id (fun e=>absurd hk ap))
  exact Jb (S:=(fun k=>S k\/(w.heap.size<=k/\k<w.heap.size+6))) (w:=o) (fun k e=>e.elim (fun e=>by have:=hS k e;omega) (fun e=>ap)) (ks (h2 x A) he) (lB (N _ hp) he) (lB (N x A) he) hs (D.ok.mok x A) (D.ok.msgI A) (D.ok.lok x A).2.1 (by have:=D.msgs_le hs hp;omega) (by have:=D.msgs_le hs A;omega) A U
 refine (Fd (S:=S) (R:=fun m u v o=>fZ (aF (fun k=>S k\/(w.heap.size<=k/\k<w.heap.size+6)) o) m i x m1/\RL (aF (fun k=>S k\/(w.heap.size<=k/\k<w.heap.size+6)) o) u s1/\RL (aF (fun k=>S k\/(w.heap.size<=k/\k<w.heap.size+6)) o) v t1) (C:=(C:Nat)) (p:=pvW (az i).W x) hS Z A ap rfl (D.sum_lt hs) (fun o hl q=>(a9 o q hl).mono ?_) (fun m u v w1 w2 hr k=>?_)).mono ?_
 ·rintro e ad ⟨v1,v2,v3,he,z1,o1,r1,⟨B2,c2,rfl,r2⟩,⟨B3,c3,rfl,r3⟩,a8⟩
  exact ⟨v1,_,_,he,⟨z1,rfl,rfl⟩,⟨o1,rfl,rfl⟩,⟨r1,⟨B2,c2,rfl,r2⟩,⟨B3,c3,rfl,r3⟩⟩,a8⟩
 ·have he:Ext (aF (fun k=>S k\/(w.heap.size<=k/\k<w.heap.size+6)) w1) (aF (fun k=>S k\/(w.heap.size<=k/\k<w.heap.size+6)) w2):=bE (k.mono fun j _ e=>.inr e) (fun _ _ e=>e)
  exact ⟨ks hr.1 he,lB hr.2.1 he,lB hr.2.2 he⟩
 ·rintro e o (⟨hC,he,B⟩ | ⟨hC,a1,a2,a3,V,he,hv,hr,B⟩)
  ·have hf:(pkF i M x).2=false:=by rw [hb];simp;omega
   rw [hf,a0 hf]
   exact ⟨vs,he,H.1,H.2,(⟨⟨mv,lv,h1,h2,N⟩,D⟩:RWm (aF S w) vs i M).ext (im B),B⟩
  ·have a4:C=0:=ap
   have ht:(pkF i M x).2=true:=by rw [hb];simp [a4]
   rw [ht]
   have O:=(Y ht).2.2
   have L:Ext (aF (fun k=>S k\/(w.heap.size<=k/\k<w.heap.size+6)) o) (aF S o):=bE (Keep.refl _ _) (fun k _ e=>.inl e)
   have J:Ext (aF S w) (aF S o):=im B
   have I:RWm (aF S o) V i (pkF i M x).1:=by
    refine ⟨⟨_,_,by rw [O];exact hv,fun y hy=>?_,fun y hy=>?_⟩,hA⟩
    ·rw [Q]
     show fZ _ (bj mv x a1 y) i y (bj M.m x m1 y)
     by_cases e:y=x
     ·subst e;rw [bJ,bJ];exact ks hr.1 L
     ·rw [bC _ _ e,bC _ _ e];exact ks (h2 y hy) J
    ·rw [Q]
     show RL _ ((if 1<(az i).W then bj (bj lv (pvW (az i).W x) a2) x a3 else lv) y) (bj (bj M.s (pvW (az i).W x) s1) x t1 y)
     by_cases hW:1<(az i).W
     ·rw [if_pos hW]
      by_cases e:y=x
      ·subst e;rw [bJ,bJ];exact lB hr.2.2 L
      ·rw [bC _ _ e,bC _ _ e]
       by_cases e2:y=pvW (az i).W x
       ·rw [e2,bJ,bJ];exact lB hr.2.1 L
       ·rw [bC _ _ e2,bC _ _ e2];exact lB (N y hy) J
     ·rw [if_neg hW]
      have a5:y=x:=ap
      have ab:=FR A ap
      subst a5
      rw [bJ]
      have a7:t1=M.s y:=by
       cases U with
       | own=>rfl
       | fin=>rfl
       | full=>rfl
       | none=>rfl
       | other=>rfl
       | send z ac T ha=>exact (iM ap T ha).elim
       | recv z ac T ha=>exact (iM ap T ha).elim
      rw [a7]
      exact lB (N y hy) J
   exact ⟨V,he,I.sz.1,I.sz.2,I,B⟩
theorem Lm {S:Nat->Prop} {w:World} {vs:Array Value} {i:Inp} {M:WSt} (hs:cz i) (v:∀k,S k->k<w.heap.size) (h:RWm (aF S w) vs i M) {A:Option Addr} {c:Nat} {l:List Int} (hl:l.length<=1000000) (hA:Rd w A (aB .i64 l)):
  Calls prog 20 #[.agg vs,.slice A l.length c] w (Ly (fun u vs M=>RWm u vs i M) S (pL i M l).1 (pL i M l).2 w):=
 Fb (st:=pkZ i) v hl hA (fun _ _ _ _ h e=>h.ext e) (fun _ _ _ _ z o p _=>Km hs o p z) h h.sz.1 h.sz.2
theorem Kn {w:World} {vs:Array Value} {i:Inp} {M:WSt} (hs:cz i) (h:RWm w vs i M) {B:Bool} (hB:B=true↔M.fin i):
  Calls prog 33 #[.agg vs] w fun e u=>e=.returned (.bool B)/\aq w u:=by
 have H:=hs.ok.W8
 obtain ⟨⟨mv,lv,h1,v,V⟩,C⟩:=h
 refine CZ (dn:=fun x=>M.pos i x) (il:=fun x=>(db i x).length) h1 ap (fun x o=>?_) ?_
 ·obtain ⟨A,c,D,Q,T,ct,R,N,J,Y,I,L,O,U,SA,Z,IA,ic,y, -⟩:=v x o
  rw [y]
  exact ⟨IA,ic,rfl,rfl⟩
 ·rw [hB]
  constructor
  ·intro p x o
   exact Nat.le_of_eq (p x o).symm
  ·intro p x o
   have:=p x o
   have:=C.pos_le hs o
   omega
theorem Ln {S:Nat->Prop} {w:World} (A:Option Addr) (c:Nat) (D:Option Addr) (C:Nat) (T:Option Addr) (y:Nat) (R:Option Addr) (B:Nat) (i:Inp) (L:∀k,S k->k<w.heap.size) (h:gh w A c D T y R i) (hI:∀o,aq w o->gh (aF S o) A c D T y R i) (hs:cz i):
  Calls prog 14 #[.agg (aQ A c D C T y R B i)] w fun e o=>∃p:Array Value,e=.returned (.tuple #[.agg p,M8 0])/\p.size=3/\p.toList.all (·.oneCell')=true/\RWm (aF S o) p i (kF i)/\aq w o:=by
 have hg:=hs.g.c
 have V:=hg.w;have Q:=hg.ca
 have Y:((az i).W:Int)=i.cfg.workers:=by simp only [az];omega
 have U:((i.cfg.cap.toNat:Nat):Int)=i.cfg.cap:=ap
 have a1:=hs.ok.W8
 have v:=fun o (q:aq w o)=>js A c D C T y R B i o (h.below q)
 have H:=fun (x:Nat) o (q:aq w o) (J:x<(az i).W)=>zh A c D C T y R B i x o (h.below q) hs J
 have hv:aQ A c D C T y R B i=#[.slice A i.cfg.sizes.length c,M8 i.cfg.shift,M8 i.cfg.rate,M8 i.cfg.mom,M8 ((az i).W:Nat),M8 i.cfg.batch,M8 i.cfg.micros,M8 i.cfg.steps,M8 i.cfg.bucket,M8 i.cfg.chunk,M8 i.cfg.window,M8 (i.cfg.cap.toNat:Nat),.slice D i.data.length C,.slice T i.start.length y,.slice R i.draws.length B]:=by rw [Y,U]
 rw [pd.2 hs.g] at v
 rw [hv] at v H ⊢
 refine (Fh (S:=S) (Rm:=fun x m o=>fZ (aF S o) m i x (fy i)) (N:=(az i).W) (cap:=i.cfg.cap.toNat) L ap ap v (fun k o hk q=>(H k o q hk).mono ?_)).mono ?_
 ·rintro e a0 ⟨m,rfl,Z,ho,hb,hr⟩
  refine ⟨m,rfl,⟨Z,ho⟩,hb,fun O q2 k2=>hr _ (fz k2 (DO S O) fun j _ e=>by have:=L j e;have:=q.size;omega) (hI O q2)⟩
 ·rintro e o ⟨p,mv,rfl,I,hm,hb⟩
  have u:RWm (aF S o) p i (kF i):=⟨⟨mv,_,by rw [wt];exact I,hm,fun x J=>⟨none,0,rfl,fw.nil _ _ none,Mb _⟩⟩,gQ.zero hs⟩
  exact ⟨p,rfl,u.sz.1,u.sz.2,u,hb⟩
noncomputable def LS (i:Inp) (M:WSt) (x:Nat):Bool:=(pkF i M x).2
noncomputable def pz (i:Inp) (M:WSt):List Int:=onL (LS i M) (az i).W
section
variable {E:Nat->Prop} {i:Inp} {V w w':World} {X:Nat} {M:WSt}
theorem rX {z:Int} (h:gQ i M) (hs:cz i):z∈pz i M↔(pkZ i M z).2=true:=by
 unfold pz onL
 rw [List.mem_map]
 constructor
 ·rintro ⟨x,p,rfl⟩
  rw [List.mem_filter,List.mem_range] at p
  rw [vw p.1]
  exact p.2
 ·intro o
  by_cases u:0<=z/\z<((az i).W:Int)
  ·obtain ⟨x,rfl⟩:∃x:Nat,z=x:=⟨z.toNat,by omega⟩
   rw [vw ap] at o
   exact ⟨x,List.mem_filter.2 ⟨List.mem_range.2 ap,o⟩,rfl⟩
  ·rw [Bs u] at o
   cases o
theorem Im (h:gQ i M) (hs:cz i) (u:1<=i.cfg.cap.toNat):(pz i M).length=0↔M.fin i:=by
 rw [h.fin_can hs u,List.length_eq_zero_iff]
 constructor
 ·intro he z p hc
  have:(z:Int)∈pz i M:=(rX h hs).2 (by rw [vw p];exact (vy h hs p).2.1.2 hc)
  rw [he] at this
  cases this
 ·intro v
  rcases p:pz i M with _ | ⟨z,l⟩
  ·rfl
  exfalso
  have hm:z∈pz i M:=by rw [p];exact List.mem_cons_self
  unfold pz onL at hm
  rw [List.mem_map] at hm
  obtain ⟨x,o,rfl⟩:=hm
  rw [List.mem_filter,List.mem_range] at o
  exact v x o.1 ((vy h hs o.1).2.1.1 o.2)
theorem WIn.on (h:WIn E i V X M w) (hs:cz i):
  Calls prog 30 #[(au X)] w fun e w'=>∃v,e=.returned v/\w'.ownsRow w.heap.size 3 1 v (pz i M).length (aB .i64 (pz i M))/\aq w w':=by
 obtain ⟨⟨D,B,rfl,o,Q⟩,O⟩:=h
 obtain ⟨L,R,H,I,u,J,N⟩:=o.rows
 have A:=hs.ok.W8
 refine vh (bb:=D.b) (la:=fun x=>.pointer (some ⟨D.l (pvW (az i).W x),0,none⟩)) (lb:=fun x=>.pointer (some ⟨D.l x,0,none⟩)) u ap (fun x w' p q=>(o.below q).at hs p) (fun x w' p q=>?_)
 obtain ⟨C,y,hb⟩:=vx o.al hs p
 have:=(o.below q).mem.enabled hs p o.al.ok (by have:=o.al.msgs_le hs p;omega) y
 rw [<-hb] at this
 exact this
theorem Dt (hs:cz i) {x:Nat} {m:Mst} (h:MOk i x m):m.rc.length<=100:=by
 have h1:=h.rc
 have p:=hs.s
 rcases h.ps with o | o<;>omega
theorem WIn.trajIn (h:WIn E i V X M w) (hs:cz i) {x:Nat} (p:x<(az i).W):
  Calls prog 26 #[(au X),M8 (x:Nat)] w fun e w'=>∃v,e=.returned v/\StL w.heap.size w' (M.m x).rc v/\aq w w':=by
 obtain ⟨⟨D,B,rfl,u,O⟩,N⟩:=h
 refine (Cr (R:=fun e w'=>∃v,e=.returned v/\StL w.heap.size w' (M.m x).rc v/\aq w w') (u.at hs p) fun L q=>?_).mono fun e w' hr=>hr
 have o:=u.al.ok.mok x p
 refine (Ds ((u.below q).mem.mach x p) o.rl hs.n (Dt hs o)).mono ?_
 rintro e Q ⟨v,rfl,C,J⟩
 obtain ⟨rows,H,y,I,A⟩:=C
 exact ⟨⟨v,rfl⟩,v,rfl,⟨rows,aE H q.size,y,I,fun j x p=>(A j x p).base q.size⟩,bt q J⟩
end
structure lI (P:World->Prop) (E:Nat->Prop) (i:Inp) (V:World) (X:Nat) (M:WSt) (w:World):Prop where
 ex:∃D B,D.X=X/\WAt E i w D B M/\(∀j,D.all (az i).W j->V.heap.size<=j)/\P (aF (D.hid (az i).W E) w)
 q:Keep E V w
def JU (P:World->Prop):Prop:=∀u h,Ext u h->P u->P h
theorem su {E:Nat->Prop} {V w w':World} (h:Keep E V w) (hb:aq w w'):Keep E V w':=h.trans (Keep.below hb)
theorem BN {S:Nat->Prop} {u w:World} (hb:aq u w) (h:∀k,S k->u.heap.size<=k):Ext u (aF S w):=fun k hk=>.inr (by
 rw [gC (fun e=>by have:=h k e;omega)]
 exact hb.block k hk)
theorem JE {u v:World} {b:Nat} {c:List Value} {e:TypeId} {y:Value} (h:u.heap[b]?=some (.cells (y::c).toArray e (0,0))) (p:Ext u v):v.heap[b]?=some (.cells (y::c).toArray e (0,0)):=by
 rcases p _ (Ma h) with o | o
 ·rw [o] at h
  simp at h
 ·rw [o];exact h
section
variable {P:World->Prop} {E:Nat->Prop} {i:Inp} {V w w':World} {X:Nat} {M:WSt}
theorem lI.win (h:lI P E i V X M w):WIn E i {w with heap:=#[]} X M w:=by
 obtain ⟨⟨D,B,h1,o,v,p⟩,u⟩:=h
 exact ⟨⟨D,B,h1,o,fun _ _=>Mf _⟩,⟨rfl,rfl,rfl,Mf _,fun k hk=>absurd hk (Nat.not_lt_zero k)⟩⟩
theorem lI.al (h:lI P E i V X M w):gQ i M:=by
 obtain ⟨⟨D,B,h1,o,v,p⟩,u⟩:=h
 exact o.al
theorem lI.p (h:lI P E i V X M w) (hP:JU P):P w:=by
 obtain ⟨⟨D,B,h1,u,x,o⟩,v⟩:=h
 exact hP _ _ (et _ _) o
theorem lI.below (h:lI P E i V X M w) (hP:JU P) (hb:aq w w'):lI P E i V X M w':=by
 obtain ⟨⟨D,B,h1,o,v,p⟩,u⟩:=h
 exact ⟨⟨D,B,h1,o.below hb,v,hP _ _ (im hb) p⟩,su u hb⟩
theorem lI.ref (h:lI P E i V X M w):∃S:Nat->Prop,(∀k,S k->k<w.heap.size)/\P (aF S w)/\(∀k,S k->V.heap.size<=k\/E k)/\∀(p:World->Prop) w',aq w w'->p (aF S w')->lI p E i V X M w':=by
 obtain ⟨⟨D,B,h1,o,u,x⟩,y⟩:=h
 refine ⟨D.hid (az i).W E,fun k e=>e.elim (o.mem.lt k) (o.mem.ex k),x,fun k e=>e.imp (u k) id,fun p w' hb v=>⟨⟨D,B,h1,o.below hb,u,v⟩,su y hb⟩⟩
theorem AN.q {e:Ending} (h:AN E i w e w'):aq w w':=by
 obtain ⟨D,B,h1,p,o,u⟩:=h
 exact o
theorem AN.winP {e:Ending} (h:AN E i w e w') (hP:∀S:Nat->Prop,(∀k,S k->w.heap.size<=k\/E k)->P (aF S w')):∃X,e=.returned (.tuple #[(au X),M8 0])/\lI P E i w X (kF i) w'/\w.heap.size<=X/\aq w w':=by
 obtain ⟨D,B,h1,u,p,o⟩:=h
 exact ⟨D.X,h1,⟨⟨D,B,rfl,u,o,hP _ fun k e=>e.imp (o k) id⟩,Keep.below p⟩,o _ (.inl rfl),p⟩
theorem lI.pick (h:lI P E i V X M w) (hP:JU P) (hs:cz i) (o: -9223372036854775808<=i.cfg.rate/\i.cfg.rate<=9223372036854775807) (p: -9223372036854775808<=i.cfg.mom/\i.cfg.mom<=9223372036854775807) (z:Int):
  Calls prog 15 #[(au X),M8 z] w fun e w'=>e=.returned (.bool (pkZ i M z).2)/\lI P E i V X (pkZ i M z).1 w':=by
 obtain ⟨⟨D,B,rfl,H,y,I⟩,x⟩:=h
 refine (Ch H hs o p z).mono ?_
 rintro e w' ⟨he,J,A,L,u,v⟩
 have N:=x.size
 refine ⟨he,⟨J,B,A,L,fun j C=>(v j C).elim (y j) fun h=>ap,hP _ _ (bE (u.mono fun k _ e=>.inl e) fun k hk e=>e.imp (fun e=>(v k e).elim id fun e=>absurd hk ap) id) I⟩,?_⟩
 exact fz x u fun k hk e=>absurd (y k e) ap
end
def smJ:Inp:=⟨⟨[1,1],1,0,0,2,2,1,0,1,1,1,1⟩,[([1],[1]),([1],[1])],[5,6],[]⟩
theorem EC:lK smJ:=by
 refine ⟨⟨by decide,by decide,⟨⟨by decide,fun k hk=>?_⟩,by decide⟩,by decide,by decide,by decide,by decide,by decide,by decide,by decide⟩,by decide,fun x h=>?_,by decide,by decide⟩
 ·have:k=0\/k=1:=by have:k<2:=hk;omega
  rcases this with rfl | rfl<;>decide
 ·have:x=([1],[1]):=by simpa [smJ] using h
  subst this;decide
theorem yQ:cz smJ:=⟨EC,by decide,by decide,by decide,by decide,by decide⟩
theorem I2:(kF smJ).fin smJ:=fun x i=>by
 have:x=0\/x=1:=by have h:(az smJ).W=2:=rfl;omega
 rcases this with rfl | rfl<;>rfl
theorem Kj {w:World} {b:Nat} (y:w.heap[b]?=some (.cells #[M8 1,M8 1] 3 (0,0))) {b3 b4 b5 b6:Nat} (A:w.heap[b3]?=some (.cells #[M8 1] 2 (0,0))) (u:w.heap[b4]?=some (.cells #[M8 1] 2 (0,0)))
  (v:w.heap[b5]?=some (.cells #[.slice (some (ar b3 0)) 1 1,.slice (some (ar b4 0)) 1 1,.slice (some (ar b3 0)) 1 1,.slice (some (ar b4 0)) 1 1] 91 (0,0))) (p:w.heap[b6]?=some (.cells #[M8 5,M8 6] 2 (0,0))):
  gh w (some (ar b 0)) 2 (some (ar b5 0)) (some (ar b6 0)) 2 none smJ:=by
 refine ⟨⟨by decide,by decide,by decide,wY y⟩,?_,by decide,⟨by decide,by decide,wY p,vc (by simp [smJ])⟩,by decide,Rd.nil _ _,by decide,fun k hk=>absurd hk (by simp [smJ]),by decide,by decide⟩
 refine ⟨[[.slice (some (ar b3 0)) 1 1,.slice (some (ar b4 0)) 1 1],[.slice (some (ar b3 0)) 1 1,.slice (some (ar b4 0)) 1 1]],wY v,rfl,by simp,fun j x o=>?_⟩
 have i:j=0\/j=1:=by have:=(MF.1 o).1;simp [smJ] at this;omega
 have h:x=([1],[1]):=by rcases i with rfl | rfl<;>simpa [smJ] using o.symm
 subst h
 exact ⟨_,_,_,_,by rcases i with rfl | rfl<;>rfl,⟨by decide,by decide,wY A,vc (by simp)⟩,⟨by decide,by decide,wY u,vc (by simp)⟩⟩
theorem qF (w:World):Calls prog 12 #[] w fun e h=>e=.returned (.bool true)/\aq w h:=by
 go_enter func12,ntmps12
 go_wp2_with fail
 have i:=Kj (bZ [.cells #[M8 1,M8 1] 3,.cells #[.slice (some (ar w.heap.size 0)) 2 2,M8 1,M8 0,M8 0,M8 2,M8 2,M8 1,M8 0,M8 1,M8 1,M8 1,M8 1] 24,.cells #[M8 1] 2,.cells #[M8 1] 2,.cells #[.slice (some (ar (w.heap.size+1+1) 0)) 1 1,.slice (some (ar (w.heap.size+1+1+1) 0)) 1 1] 91,.cells #[.slice (some (ar (w.heap.size+1+1) 0)) 1 1,.slice (some (ar (w.heap.size+1+1+1) 0)) 1 1,.slice (some (ar (w.heap.size+1+1) 0)) 1 1,.slice (some (ar (w.heap.size+1+1+1) 0)) 1 1] 91,.cells #[M8 5,M8 6] 2] w 0 rfl) (b3:=w.heap.size+1+1) (b4:=w.heap.size+1+1+1) (b5:=w.heap.size+1+1+1+1+1) (b6:=w.heap.size+1+1+1+1+1+1) (bZ [.cells #[M8 1,M8 1] 3,.cells #[.slice (some (ar w.heap.size 0)) 2 2,M8 1,M8 0,M8 0,M8 2,M8 2,M8 1,M8 0,M8 1,M8 1,M8 1,M8 1] 24,.cells #[M8 1] 2,.cells #[M8 1] 2,.cells #[.slice (some (ar (w.heap.size+1+1) 0)) 1 1,.slice (some (ar (w.heap.size+1+1+1) 0)) 1 1] 91,.cells #[.slice (some (ar (w.heap.size+1+1) 0)) 1 1,.slice (some (ar (w.heap.size+1+1+1) 0)) 1 1,.slice (some (ar (w.heap.size+1+1) 0)) 1 1,.slice (some (ar (w.heap.size+1+1+1) 0)) 1 1] 91,.cells #[M8 5,M8 6] 2] w 2 rfl) (bZ [.cells #[M8 1,M8 1] 3,.cells #[.slice (some (ar w.heap.size 0)) 2 2,M8 1,M8 0,M8 0,M8 2,M8 2,M8 1,M8 0,M8 1,M8 1,M8 1,M8 1] 24,.cells #[M8 1] 2,.cells #[M8 1] 2,.cells #[.slice (some (ar (w.heap.size+1+1) 0)) 1 1,.slice (some (ar (w.heap.size+1+1+1) 0)) 1 1] 91,.cells #[.slice (some (ar (w.heap.size+1+1) 0)) 1 1,.slice (some (ar (w.heap.size+1+1+1) 0)) 1 1,.slice (some (ar (w.heap.size+1+1) 0)) 1 1,.slice (some (ar (w.heap.size+1+1+1) 0)) 1 1] 91,.cells #[M8 5,M8 6] 2] w 3 rfl) (bZ [.cells #[M8 1,M8 1] 3,.cells #[.slice (some (ar w.heap.size 0)) 2 2,M8 1,M8 0,M8 0,M8 2,M8 2,M8 1,M8 0,M8 1,M8 1,M8 1,M8 1] 24,.cells #[M8 1] 2,.cells #[M8 1] 2,.cells #[.slice (some (ar (w.heap.size+1+1) 0)) 1 1,.slice (some (ar (w.heap.size+1+1+1) 0)) 1 1] 91,.cells #[.slice (some (ar (w.heap.size+1+1) 0)) 1 1,.slice (some (ar (w.heap.size+1+1+1) 0)) 1 1,.slice (some (ar (w.heap.size+1+1) 0)) 1 1,.slice (some (ar (w.heap.size+1+1+1) 0)) 1 1] 91,.cells #[M8 5,M8 6] 2] w 5 rfl) (bZ [.cells #[M8 1,M8 1] 3,.cells #[.slice (some (ar w.heap.size 0)) 2 2,M8 1,M8 0,M8 0,M8 2,M8 2,M8 1,M8 0,M8 1,M8 1,M8 1,M8 1] 24,.cells #[M8 1] 2,.cells #[M8 1] 2,.cells #[.slice (some (ar (w.heap.size+1+1) 0)) 1 1,.slice (some (ar (w.heap.size+1+1+1) 0)) 1 1] 91,.cells #[.slice (some (ar (w.heap.size+1+1) 0)) 1 1,.slice (some (ar (w.heap.size+1+1+1) 0)) 1 1,.slice (some (ar (w.heap.size+1+1) 0)) 1 1,.slice (some (ar (w.heap.size+1+1+1) 0)) 1 1] 91,.cells #[M8 5,M8 6] 2] w 6 rfl)
 have hc:=tD (E:=fun _=>False) (some (ar w.heap.size 0)) 2 (some (ar (w.heap.size+1+1+1+1+1) 0)) 2 (some (ar (w.heap.size+1+1+1+1+1+1) 0)) 2 none 0 smJ (sZ w [.cells #[M8 1,M8 1] 3,.cells #[.slice (some (ar w.heap.size 0)) 2 2,M8 1,M8 0,M8 0,M8 2,M8 2,M8 1,M8 0,M8 1,M8 1,M8 1,M8 1] 24,.cells #[M8 1] 2,.cells #[M8 1] 2,.cells #[.slice (some (ar (w.heap.size+1+1) 0)) 1 1,.slice (some (ar (w.heap.size+1+1+1) 0)) 1 1] 91,.cells #[.slice (some (ar (w.heap.size+1+1) 0)) 1 1,.slice (some (ar (w.heap.size+1+1+1) 0)) 1 1,.slice (some (ar (w.heap.size+1+1) 0)) 1 1,.slice (some (ar (w.heap.size+1+1+1) 0)) 1 1] 91,.cells #[M8 5,M8 6] 2]) i yQ (fun _ e=>e.elim)
 have hb:=eJ [.cells #[M8 1,M8 1] 3,.cells #[.slice (some (ar w.heap.size 0)) 2 2,M8 1,M8 0,M8 0,M8 2,M8 2,M8 1,M8 0,M8 1,M8 1,M8 1,M8 1] 24,.cells #[M8 1] 2,.cells #[M8 1] 2,.cells #[.slice (some (ar (w.heap.size+1+1) 0)) 1 1,.slice (some (ar (w.heap.size+1+1+1) 0)) 1 1] 91,.cells #[.slice (some (ar (w.heap.size+1+1) 0)) 1 1,.slice (some (ar (w.heap.size+1+1+1) 0)) 1 1,.slice (some (ar (w.heap.size+1+1) 0)) 1 1,.slice (some (ar (w.heap.size+1+1+1) 0)) 1 1] 91,.cells #[M8 5,M8 6] 2] w
 refine Calls.mono hc ?_
 rintro e p hn
 obtain ⟨X,rfl,hw, -,D⟩:=hn.win
 have J:=hb.trans (D.mono hb.size)
 have L:=fun h (q:aq p h)=>(hw.below q).done yQ (Bo:=true) ⟨fun _=>I2,fun _=>rfl⟩
 have H:=fun h (q:aq p h)=>(hw.below q).trajIn yQ (x:=1) (by decide)
 obtain ⟨Q,N,C⟩:=af L H J;clear i hc hb hn hw D J L H
 go_wp2_with fail
 refine (Q.o p (br p)).mono ?_
 rintro e T ⟨rfl,I⟩
 have u:=aa I;clear I
 go_wp2_with fail
 refine (N.o _ u.o).mono ?_
 rintro e R ⟨v,rfl,B,y⟩
 obtain ⟨A,c,rfl, -⟩:=B.form
 have O:=aa (C.o.trans ((u.o.trans (y.mono u.o.size)).mono C.o.size))
 have h1:((kF smJ).m 1).rc.length=1:=rfl
 rw [h1]
 clear y B
 go_wp2_with fail
 go_ret
 exact ⟨rfl,O.o⟩
def LH (i:Inp):Prop:=IO i/\(dS i=0->i.cfg.workers<=6/\i.cfg.steps<=5/\i.start.length<=40)
theorem zn (A:Option Addr) (c:Nat) (D:Option Addr) (I:Nat) (T:Option Addr) (x:Nat) (R:Option Addr) (H:Nat) (i:Inp) (w:World) (h:jF w A c D T x R i):
  Calls prog 11 #[.agg (aQ A c D I T x R H i)] w (th (LH i) w):=by
 obtain ⟨v,y⟩:∃v,w.alloc (.cells (aQ A c D I T x R H i) 29)=v:=⟨_,rfl⟩
 have O:v.heap[w.heap.size]?=some (.cells (aQ A c D I T x R H i) 29 (0,0)):=by rw [<-y];exact Mc w _
 have B:aq w v:=by rw [<-y];exact (br w).alloc (Mb _) _
 have hf:=zo A c D I T x R H i v (h.below B)
 have U:=fun (hs:ke i) p (q:aq v p)=>js A c D I T x R H i p (((h.rd hs).below B).below q)
 have t4:∀p,aq v p->p.cell? (ar w.heap.size 4)=some (M8 i.cfg.workers):=fun p q=>Md p w.heap.size 4 _ _ _ (sb O p q)
 have t7:∀p,aq v p->p.cell? (ar w.heap.size 7)=some (M8 i.cfg.steps):=fun p q=>Md p w.heap.size 7 _ _ _ (sb O p q)
 have a1:∀p,aq v p->p.cell? (ar w.heap.size 13)=some (.slice T i.start.length x):=fun p q=>Md p w.heap.size 13 _ _ _ (sb O p q)
 unfold th LH
 unfold th at hf
 obtain ⟨N,L,Hf,a0,G0⟩:=ah y B hf U O
 have q0:=br v
 clear y O B hf U h
 go_enter func11,ntmps11
 go_wp2_with (refine aT (aQ A c D I T x R H i) (b:=w.heap.size) (by rw [N.o];exact G0.o) ie rfl rfl rfl rfl ?_)
 rw [N.o]
 refine Hf.o.mono ?_
 rintro e w1 ⟨⟨b,rfl,hb⟩,V⟩
 have Q:=bt q0 V
 obtain ⟨J,Z⟩:=ae (L.o.trans (V.mono L.o.size)) hb;clear hb V q0
 cases b with
 | false=>
  go_wp2_with fail
  go_ret
  exact ⟨⟨false,rfl,fun h=>by cases h⟩,J.o⟩
 | true=>
  go_wp2_with (first | (refine aT (aQ A c D I T x R H i) (sb G0.o _ Q) ie rfl rfl rfl rfl ?_) | (refine qL (aQ A c D I T x R H i) (sb G0.o _ Q) ie rfl rfl rfl rfl ?_))
  refine (a0.o (Z.o (by trivial)).1 w1 Q).mono ?_
  rintro e w2 ⟨rfl,k2⟩
  have q2:=bt Q k2
  have u:=aa (J.o.trans (k2.mono J.o.size));clear k2 Q
  obtain ⟨C,Y⟩:∃C,dS i=C:=⟨_,rfl⟩
  rw [Y]
  have HC:=aa Y;clear Y
  by_cases h0:C=0
  ·subst h0
   by_cases h6:i.cfg.workers<=6
   ·by_cases h5:i.cfg.steps<=5
    ·by_cases h4:i.start.length<=40
     ·go_wp2_with fail
      go_ret
      exact ⟨⟨_,rfl,fun _=>⟨Z.o (by trivial),fun _=>⟨h6,h5,h4⟩⟩⟩,u.o⟩
     ·go_wp2_with fail
      go_ret
      exact ⟨⟨false,by simp;omega,fun h=>by cases h⟩,u.o⟩
    ·go_wp2_with fail
     go_ret
     exact ⟨.inl rfl,u.o⟩
   ·go_wp2_with fail
    go_ret
    exact ⟨.inl rfl,u.o⟩
  ·go_wp2_with fail
   go_ret
   exact ⟨⟨true,rfl,fun _=>⟨Z.o (by trivial),fun h=>absurd (HC.o.symm.trans h) h0⟩⟩,u.o⟩
end Go.Proofs.YtgmajkppbhiopaaGreat
namespace Go.Proofs.YtgmajkppbhiopaaGreat
open Go.RowKit Go.ChangeShapes Go.WideShapes Go.ChangeAt
open Tryz
theorem FL {H:Type} {i:TypeId×Value->H} {W:World} {base:Nat} {v:Value} {d:DataW H} {p:List MemPlace} (o:Value.okWide prog W .any base 22 v) (h:DataW.Trod i prog W 0 (fun _=>true) true 22 v d p) (z:jX prog 22 d):
  ∃(A:Option Addr) (l:List Int) (c:Nat),v=.slice A l.length c/\Le W A l c:=by
 obtain ⟨a,C,cap,rfl⟩:=okWide_slice underlying22 o
 obtain ⟨l,⟨A,c,e,h1,u,B,x,y⟩,_⟩:=qz rS h z
 simp [Value.cells] at e
 obtain ⟨rfl,rfl,rfl⟩:=e
 exact ⟨_,l,_,rfl,⟨h1,u,B,x,vb y⟩⟩
end Go.Proofs.YtgmajkppbhiopaaGreat
