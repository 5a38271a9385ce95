/- No condition. -/
import Derived.Test.YtaccfnffmbndhaaGreatC00
import Derived.Test.YtaccfnffmbndhaaGreatC23
import Derived.Test.YtaccfnffmbndhaaGreatC19
import Derived.Test.YtaccfnffmbndhaaGreatC17
import Derived.Test.YtaccfnffmbndhaaGreatC25
import Derived.Test.YtaccfnffmbndhaaGreatC22
import Derived.Test.YtaccfnffmbndhaaGreatC24
import Derived.Test.YtaccfnffmbndhaaGreatC21
import Derived.Test.YtaccfnffmbndhaaGreatC18
set_option linter.unusedSimpArgs false
set_option linter.unusedVariables false
set_option maxRecDepth 100000
set_option maxHeartbeats 4000000
namespace Go.Proofs.YtaccfnffmbndhaaGreat
open Go.RowKit
section
variable {P:Program} {ops:Array Oper} {Q:Exit→Act→World→Prop} {S:World→Prop} {n:Nat}
structure XAS (P:Program) (ops:Array Oper) (Q:Exit→Act→World→Prop) (S:World→Prop) (n i:Nat) (L:List Nat) (a:Act) (w:World):Prop where
 out:∃o,ops[i]?=some o∧∀K':Act→World→Prop,Shut (∀a w,S w→(S w→XA P ops Q S n (i::L) a w)→K' a w)→if Region.wanted o (yielded ops a.tmps)=true then Oper.wp P o a w K' Q else K' (a.put o.dst undef) w
theorem XAS.v {L:List Nat} {a:Act} {w:World} {i:Nat} {o:Oper} (j:World) (v:Value) (q:S j) (k:XA P ops Q S n (i::L) (a.put o.dst v) j) (p:ops[i]?=some o:=by (simp only [J1,Ka,Kb];rfl))
  (hw:Region.wanted o (yielded ops a.tmps)=true:=by rfl) (he:(execOp a.eval o).run P w=.ok (.value v) j:=by go_simp):XAS P ops Q S n i L a w:=by
 refine ⟨o,p,fun x u=>?_⟩
 rw [if_pos hw]
 unfold Oper.wp
 rw [he]
 exact u.out _ _ q fun _=>k
theorem XAS.o {L:List Nat} {a:Act} {w:World} {o:Oper} {i:Nat}
  (h:∀j:Act→World→Prop,Shut (∀a w,S w→(S w→XA P ops Q S n (i::L) a w)→j a w)→if Region.wanted o (yielded ops a.tmps)=true then Oper.wp P o a w j Q else j (a.put o.dst undef) w)
  (p:ops[i]?=some o:=by (simp only [J1,Ka,Kb];rfl)):XAS P ops Q S n i L a w:=⟨o,p,h⟩
theorem XA.two {L:List Nat} {a:Act} {w:World} (i j:Nat) (y:XAS P ops Q S n i L a w) (q:XAS P ops Q S n j L a w) (hr:cM ops L=[i,j]:=by decide +kernel):XA P ops Q S n L a w:=by
 obtain ⟨H,x,y⟩:=y
 obtain ⟨I,p,q⟩:=q
 have B:unl (bE ops.size L)=unl (bE ops.size (i::L))+1:=cQ (by rw [hr];simp)
 have D:unl (bE ops.size L)=unl (bE ops.size (j::L))+1:=cQ (by rw [hr];simp)
 have C:unl (bE ops.size (j::L))=unl (bE ops.size (i::L)):=by omega
 refine ⟨?_⟩
 rw [B]
 refine cn (by rw [dt];exact hr) (by simp) (aL.cons x (fun A v=>y A fun a w u hw=>v.out a w u fun o=>(hw o).out) (aL.cons p (fun A v=>q A fun a w u hw=>v.out a w u fun o=>?_) aL.nil))
 have:=(hw o).out
 rw [C] at this
 exact this
end
theorem IO {w:World} {A:Option Addr} {l:List Ex} (h:cE rEx 2 w A l):∃i:List (List Value),Rd w A (List.flatten i)∧i.length=l.length∧(∀r∈i,r.length=2)∧(∀j x,l[j]?=some x→rEx w (bq i j) x)∧(List.flatten i).length=l.length*2∧∀u∈List.flatten i,u.oneCell'=true:=by
 obtain ⟨i,h1,o,q,p⟩:=h
 refine ⟨i,h1,o,q,p,by rw [pS q,o],fun u hu=>?_⟩
 obtain ⟨r,hr,hu⟩:=List.mem_flatten.1 hu
 obtain ⟨j,y,e⟩:=List.getElem_of_mem hr
 have hx:=Kh (show j<l.length by omega)
 obtain ⟨H,C,B,D,v,_⟩:=p j _ hx
 rw [oE y,e] at v
 subst v
 simp only [List.mem_cons,List.not_mem_nil,or_false] at hu
 rcases hu with rfl | rfl<;>rfl
theorem ub {S:Nat→Prop} {w:World} {base:Nat} {e:TypeId} {size n c:Nat} {A:Option Addr} {xs:List Value} (h:w.ownsRow base e size (.slice A n c) n xs) (o:∀k,S k→k<base):Rd (ay S w) A xs:=by
 refine kh (Rd.own h) fun y i hs=>?_
 rcases h.2 with ⟨j,_⟩ | ⟨g,_,_,j,q,_⟩
 ·injection j with e1;rw [e1] at i;cases i
 ·injection j with e1;rw [e1] at i;cases i;have p:g<base:=o _ hs;omega
theorem yh {w:World} {vs:Array Value} {i:Inp} {x:Nat} {m:Mst} {s t:LSt} {u v:Array Value} {S:Nat→Prop} (hS:∀k,S k→k<w.heap.size) (h:dM (ay S w) vs i x m) (hu:RL (ay S w) u s) (hv:RL (ay S w) v t) (hs:cU i) {y:Itm} (hy:(dx i x)[aW i x m]?=some y) (k1 k2:Int) (b0 b1:Bool) (i0 i1 i2 i3 i4 i5 i6:Int) (bw:aN y=[KL 6,KL k1,KL k2,.bool b0,.bool b1,KL i0,KL i1,KL i2,KL i3,KL i4,KL i5,KL i6]) (hrc:m.rc.length≤1000)
  (m1:Mst) (h1:m1.P=m.P∧m1.M=m.M∧m1.G=List.replicate i.start.length 0∧m1.rc=m.rc++[(m.P,m.M)]) (aP:aW i x m1=aW i x m+1):
  Calls Tryz.prog 24 #[.agg vs,.agg u,.agg v] w (fun e w'=>mG S i x m1 (s) (t) 0 w e w'):=by
 obtain ⟨A,c,D,cd,T,ct,R,cr,I,L,C,J,GA,gc,SA,sc,bI,oI,ic,B1,c1,B2,c2,dn,il,W0,rfl,rfl,rfl,H⟩:=jy hS h hu hv hs hy
 have aG:=H.rw'
 rw [bw] at aG
 rw [H.dn'] at aP
 obtain ⟨cl,H1,c6⟩:=af aG h1 aP
 obtain ⟨d5,d4,tl,cy,cb,d3,cf⟩:=H.loc
 have q0:=br W0
 clear h hu hv hs hy bw hS h1 aP aG
 go_enter Tryz.func24,Tryz.ntmps24
 go_upto_region 1 with (fail)
 rw [H.eW]
 go_upto_region 4 with (first | (refine dN cl.out fg rfl rfl rfl ?_) | (refine az (JE _ _) fg rfl rfl rfl rfl rfl rfl rfl ?_;intro W3 e3 k3;obtain ⟨E3,K3⟩:=ae e3 (aB k3);clear e3 k3))
 clear d5 d4 tl q0 cy cb d3 cf
 go_upto_region 5 with (first | (refine aJ #[KL i5,KL i6] (b:=W0.heap.size) E3.out fF rfl rfl rfl rfl ?_) | (refine az (JE _ _) fF rfl rfl rfl rfl rfl rfl rfl ?_;intro p e4 k4;obtain ⟨E4,K4⟩:=ae e4 (aB k4);clear e4 k4))
 have y0:p.cell? ⟨W0.heap.size,0,none⟩=some (KL 6):=JF p _ 0 _ _ _ (sb E3.out _ K4.out)
 have a1:=aa (bt K3.out K4.out)
 go_upto_region 26 with (fail)
 have O:=Lib.hid (H.bx _ a1.out).1
 have a8:=H.K.trans (a1.out.mono H.K.size)
 obtain ⟨B,z1,z2,z3,z4,z5,z6⟩:=IO H.R0
 have zr:=fun w' (q:Below p.heap.size p w')=>aU z1 (gn (Keep.below (a8.trans (q.mono a8.size))))
 obtain ⟨rl,ad⟩:∃rl,m.rc.length=rl:=⟨_,rfl⟩
 obtain ⟨bi,Z2,Z3,Z4,Zr,d9⟩:=ai a8 z2 z3 z4 zr ad
 rw [ad] at z5 hrc
 obtain ⟨Z5,Z6,N⟩:=af z5 z6 hrc
 rw [ad] at O ⊢
 clear y0 a8 z1 z2 z3 z4 z5 z6 zr ad hrc
 go_cut [3] (fun v wx=>v=.pointer (some ⟨w.heap.size,0,none⟩)∧∃U c7,wx.heap[w.heap.size]?=some (.cells #[.slice A i.cfg.sizes.length c,KL i.cfg.shift,KL i.cfg.rate,KL i.cfg.mom,KL i.cfg.workers,KL i.cfg.batch,KL i.cfg.micros,KL i.cfg.steps,KL i.cfg.bucket,KL i.cfg.chunk,KL i.cfg.window,KL i.cfg.cap,.slice D i.data.length cd,.slice T i.start.length ct,.slice R i.draws.length cr,KL (x:Nat),.slice I i.start.length L,.slice C i.start.length J,.slice GA i.start.length gc,.slice U (rl+1) c7,.slice (some ⟨bI,oI,none⟩) il ic,KL (dn:Nat)] 43 (0,0))∧wx.ownsRow p.heap.size 39 2 (.slice U (rl+1) c7) (rl+1) (List.flatten B++[.slice I i.start.length L,.slice C i.start.length J])∧Keep (fun k=>k=w.heap.size) p wx)
 case first=>
  have q4:=(br p).drew
  have dc:∀w',Below p.heap.size p w'→w'.cell? ⟨w.heap.size,19,none⟩=some (.slice SA rl sc):=fun w' q=>JF w' _ 19 _ _ _ (sb O.out w' q)
  have tl:=fun w' (q:Below p.heap.size p w')=>JK (JC O.out) q.size
  refine XA.g 9 (fun w':World=>Below p.heap.size p w') ?_
  refine XA.t ?_ [1,2,4] q4 ?_
  refine XA.ld 5 #[.slice I i.start.length L,.slice C i.start.length J] (fun w' q=>sb O.out w' q) jI q4 ?_
  refine XA.two 0 6 ?_ ?_
  ·refine XAS.v (p.drew.alloc (.cells #[] 39)) (.slice (some ⟨p.drew.heap.size,0,none⟩) 0 0) (q4.alloc (JD _) _) ?_
   have Q:(p.drew.alloc (.cells #[] 39)).ownsRow p.heap.size 39 2 (.slice (some ⟨p.drew.heap.size,0,none⟩) 0 0) 0 []:=fq p.drew 39 2
   have q1:=q4.alloc (JD p.heap.size) (.cells #[] 39)
   have s1:(p.drew.alloc (.cells #[] 39)).heap.size=p.drew.heap.size+1:=JS _ _
   obtain ⟨u1,a4⟩:∃u1,p.drew.alloc (.cells #[] 39)=u1:=⟨_,rfl⟩
   rw [a4] at Q q1 s1 ⊢
   clear a4
   refine XA.two 3 6 ?_ ?_
   ·refine XAS.o (fun K' hK=>?_)
    refine bF kE (.tmp 161) (.tmp 163) rfl rfl p.heap.size _ 0 [] rfl Q SA rl sc (List.flatten B) rfl (Zr.out _ q1) Z5.out Z6.out (by have:=N.out;omega) (by unfold maxLen;have:=N.out;omega) q1.size ?_;intro A3 c3 u3 o3 a6 ao bf;rw [Kz,List.nil_append] at o3;have q3:=q1.trans a6;rw [Kz];refine hK.out _ _ q3 fun _=>?_;clear hK K'
    refine XA.v 6 (u3.alloc (.cells #[.slice I i.start.length L,.slice C i.start.length J] 39)) (.slice (some ⟨u3.heap.size,0,none⟩) 1 1) (q3.alloc q3.size _) ?_;have g6:=JE u3 (.cells #[.slice I i.start.length L,.slice C i.start.length J] 39);have b6:=(br u3).alloc (JD _) (.cells #[.slice I i.start.length L,.slice C i.start.length J] 39);have q6:=q3.alloc q3.size (.cells #[.slice I i.start.length L,.slice C i.start.length J] 39);have s6:(u3.alloc (.cells #[.slice I i.start.length L,.slice C i.start.length J] 39)).heap.size=u3.heap.size+1:=JS _ _;obtain ⟨u6,a0⟩:∃v,u3.alloc (.cells #[.slice I i.start.length L,.slice C i.start.length J] 39)=v:=⟨_,rfl⟩;rw [a0] at g6 b6 q6 s6 ⊢;clear a0;have o6:=ap o3 b6
    refine XA.o 7 (fun K' hK=>?_);refine bF kE (.tmp 164) (.tmp 167) rfl rfl p.heap.size _ rl (List.flatten B) rfl o6 (some ⟨_,0,none⟩) 1 1 [.slice I i.start.length L,.slice C i.start.length J] rfl (qL g6) rfl (by simp [Value.oneCell']) (by have:=N.out;omega) (by unfold maxLen;have:=N.out;omega) q6.size ?_;intro U c7 u7 o7 b7 a7 a5;have Z:=q6.trans b7;refine hK.out _ _ Z fun _=>?_;clear hK K';refine XA.t ?_ [8] Z ?_;refine XA.e ?_;simp only [Kc,Ke];have X:=sb O.out _ Z;have bs:=JF u7 w.heap.size 19 _ _ _ X;have bz:=JM u7 w.heap.size 19 _ _ X;have l7:=JC X;have e8:=ss (i:=19) (v:=.slice U (rl+1) c7) X rfl;have k8:Keep (fun k=>k=w.heap.size) u7 (u7.setCell ⟨w.heap.size,19,none⟩ (.slice U (rl+1) c7)):=Keep.setCell (S:=fun k=>k=w.heap.size) (Keep.refl _ _) _ (.inr rfl) _;have o8:=k8.own o7 (fun j Y e=>by have h1:=(o7.lt j Y).1;have h2:=JC O.out;omega);have HF:=aa (⟨e8,o8,(Keep.below Z).trans k8⟩:_∧_∧Keep (fun k=>k=w.heap.size) p _);clear e8 k8 o8 o7 b7 a7 a5 Z X;go_wp2_with fail;go_meet;exact ⟨rfl,U,c7,HF.out⟩
   ·refine XAS.v (u1.alloc (.cells #[.slice I i.start.length L,.slice C i.start.length J] 39)) (.slice (some ⟨u1.heap.size,0,none⟩) 1 1) (q1.alloc q1.size _) ?_;have g6:=JE u1 (.cells #[.slice I i.start.length L,.slice C i.start.length J] 39);have b6:=(br u1).alloc (JD _) (.cells #[.slice I i.start.length L,.slice C i.start.length J] 39);have q6:=q1.alloc q1.size (.cells #[.slice I i.start.length L,.slice C i.start.length J] 39);have s6:(u1.alloc (.cells #[.slice I i.start.length L,.slice C i.start.length J] 39)).heap.size=u1.heap.size+1:=JS _ _;obtain ⟨u6,a0⟩:∃v,u1.alloc (.cells #[.slice I i.start.length L,.slice C i.start.length J] 39)=v:=⟨_,rfl⟩;rw [a0] at g6 b6 q6 s6 ⊢;clear a0
    have bV:=ap Q b6
    refine XA.o 3 (fun K' hK=>?_);refine bF kE (.tmp 161) (.tmp 163) rfl rfl p.heap.size _ 0 [] rfl bV SA rl sc (List.flatten B) rfl (Zr.out _ q6) Z5.out Z6.out (by have:=N.out;omega) (by unfold maxLen;have:=N.out;omega) q6.size ?_;intro A3 c3 u3 o3 a6 ao bf;rw [Kz,List.nil_append] at o3;have q3:=q6.trans a6;rw [Kz];refine hK.out _ _ q3 fun _=>?_;clear hK K'
    have aM:=(ao.block _ (JC g6) (fun e=>by have e':u1.heap.size=p.drew.heap.size:=Option.some.inj e;omega)).trans g6
    refine XA.o 7 (fun K' hK=>?_);refine bF kE (.tmp 164) (.tmp 167) rfl rfl p.heap.size _ rl (List.flatten B) rfl o3 (some ⟨_,0,none⟩) 1 1 [.slice I i.start.length L,.slice C i.start.length J] rfl (qL aM) rfl (by simp [Value.oneCell']) (by have:=N.out;omega) (by unfold maxLen;have:=N.out;omega) q3.size ?_;intro U c7 u7 o7 b7 a7 a5;have Z:=q3.trans b7;refine hK.out _ _ Z fun _=>?_;clear hK K';refine XA.t ?_ [8] Z ?_;refine XA.e ?_;simp only [Kc,Ke];have X:=sb O.out _ Z;have bs:=JF u7 w.heap.size 19 _ _ _ X;have bz:=JM u7 w.heap.size 19 _ _ X;have l7:=JC X;have e8:=ss (i:=19) (v:=.slice U (rl+1) c7) X rfl;have k8:Keep (fun k=>k=w.heap.size) u7 (u7.setCell ⟨w.heap.size,19,none⟩ (.slice U (rl+1) c7)):=Keep.setCell (S:=fun k=>k=w.heap.size) (Keep.refl _ _) _ (.inr rfl) _;have o8:=k8.own o7 (fun j Y e=>by have h1:=(o7.lt j Y).1;have h2:=JC O.out;omega);have HF:=aa (⟨e8,o8,(Keep.below Z).trans k8⟩:_∧_∧Keep (fun k=>k=w.heap.size) p _);clear e8 k8 o8 o7 b7 a7 a5 Z X;go_wp2_with fail;go_meet;exact ⟨rfl,U,c7,HF.out⟩
  ·refine XAS.v (p.drew.alloc (.cells #[.slice I i.start.length L,.slice C i.start.length J] 39)) (.slice (some ⟨p.drew.heap.size,0,none⟩) 1 1) (q4.alloc q4.size _) ?_;have g6:=JE p.drew (.cells #[.slice I i.start.length L,.slice C i.start.length J] 39);have b6:=(br p.drew).alloc (JD _) (.cells #[.slice I i.start.length L,.slice C i.start.length J] 39);have q6:=q4.alloc q4.size (.cells #[.slice I i.start.length L,.slice C i.start.length J] 39);have s6:(p.drew.alloc (.cells #[.slice I i.start.length L,.slice C i.start.length J] 39)).heap.size=p.drew.heap.size+1:=JS _ _;obtain ⟨u6,a0⟩:∃v,p.drew.alloc (.cells #[.slice I i.start.length L,.slice C i.start.length J] 39)=v:=⟨_,rfl⟩;rw [a0] at g6 b6 q6 s6 ⊢;clear a0
   refine XA.v 0 (u6.alloc (.cells #[] 39)) (.slice (some ⟨u6.heap.size,0,none⟩) 0 0) (q6.alloc q6.size _) ?_
   have Q:(u6.alloc (.cells #[] 39)).ownsRow p.heap.size 39 2 (.slice (some ⟨u6.heap.size,0,none⟩) 0 0) 0 []:=ax (fq u6 39 2) q6.size
   have q1:=q6.alloc q6.size (.cells #[] 39)
   have g6:=sb g6 _ ((br u6).alloc (JD _) (.cells #[] 39))
   have l6:p.drew.heap.size<u6.heap.size:=by rw [s6];omega
   obtain ⟨u1,a4⟩:∃u1,u6.alloc (.cells #[] 39)=u1:=⟨_,rfl⟩
   rw [a4] at Q q1 g6 ⊢
   clear a4
   refine XA.o 3 (fun K' hK=>?_);refine bF kE (.tmp 161) (.tmp 163) rfl rfl p.heap.size _ 0 [] rfl Q SA rl sc (List.flatten B) rfl (Zr.out _ q1) Z5.out Z6.out (by have:=N.out;omega) (by unfold maxLen;have:=N.out;omega) q1.size ?_;intro A3 c3 u3 o3 a6 ao bf;rw [Kz,List.nil_append] at o3;have q3:=q1.trans a6;rw [Kz];refine hK.out _ _ q3 fun _=>?_;clear hK K'
   have aM:=(ao.block _ (JC g6) (fun e=>by have e':p.drew.heap.size=u6.heap.size:=Option.some.inj e;omega)).trans g6
   refine XA.o 7 (fun K' hK=>?_);refine bF kE (.tmp 164) (.tmp 167) rfl rfl p.heap.size _ rl (List.flatten B) rfl o3 (some ⟨_,0,none⟩) 1 1 [.slice I i.start.length L,.slice C i.start.length J] rfl (qL aM) rfl (by simp [Value.oneCell']) (by have:=N.out;omega) (by unfold maxLen;have:=N.out;omega) q3.size ?_;intro U c7 u7 o7 b7 a7 a5;have Z:=q3.trans b7;refine hK.out _ _ Z fun _=>?_;clear hK K';refine XA.t ?_ [8] Z ?_;refine XA.e ?_;simp only [Kc,Ke];have X:=sb O.out _ Z;have bs:=JF u7 w.heap.size 19 _ _ _ X;have bz:=JM u7 w.heap.size 19 _ _ X;have l7:=JC X;have e8:=ss (i:=19) (v:=.slice U (rl+1) c7) X rfl;have k8:Keep (fun k=>k=w.heap.size) u7 (u7.setCell ⟨w.heap.size,19,none⟩ (.slice U (rl+1) c7)):=Keep.setCell (S:=fun k=>k=w.heap.size) (Keep.refl _ _) _ (.inr rfl) _;have o8:=k8.own o7 (fun j Y e=>by have h1:=(o7.lt j Y).1;have h2:=JC O.out;omega);have HF:=aa (⟨e8,o8,(Keep.below Z).trans k8⟩:_∧_∧Keep (fun k=>k=w.heap.size) p _);clear e8 k8 o8 o7 b7 a7 a5 Z X;go_wp2_with fail;go_meet;exact ⟨rfl,U,c7,HF.out⟩
 case rest=>
  obtain ⟨rfl,U,c7,ab,o7,kc⟩:=hcut
  obtain ⟨Wm,bo,oM,bM⟩:=j8 ip wc rfl i.start.length (by have:=H.s'.n;omega) (by unfold maxLen;have:=H.s'.n;omega)
  rw [dS] at oM
  have ci:=JF wc w.heap.size 18 _ _ _ ab
  have a3:=sb ab _ bM
  have c8:=JF Wm w.heap.size 18 _ _ _ a3
  have d1:=JM Wm w.heap.size 18 _ _ a3
  have lc:=JC ab
  have lm:=JC a3
  have cw:¬(i.start.length:Int)<0:=by omega
  obtain ⟨d2,O7,KC,OM,BM⟩:=ah a3 o7 kc oM bM;clear a3 o7 kc oM bM ab
  go_upto_region 28 with (fail)
  have a2:=ss (i:=18) (v:=.slice (some ⟨wc.heap.size,0,none⟩) i.start.length i.start.length) d2.out rfl
  have kk:Keep (fun k=>k=w.heap.size) Wm (Wm.setCell ⟨w.heap.size,18,none⟩ (.slice (some ⟨wc.heap.size,0,none⟩) i.start.length i.start.length)):=Keep.setCell (S:=fun k=>k=w.heap.size) (Keep.refl _ _) _ (.inr rfl) _
  obtain ⟨V,hV⟩:∃V,Wm.setCell ⟨w.heap.size,18,none⟩ (.slice (some ⟨wc.heap.size,0,none⟩) i.start.length i.start.length)=V:=⟨_,rfl⟩
  rw [hV] at a2 kk ⊢
  have kV:Keep (fun k=>k=w.heap.size) p V:=(KC.out.trans (Keep.below BM.out)).trans kk
  have hb:=fun {b:Nat} {o:Obj} (h:W0.heap[b]?=some o) (h1:b≠w.heap.size)=>(kV.block b (JC (sb h _ a1.out)) h1).trans (sb h _ a1.out)
  have be:=hb (H.bx _ (br W0)).2.1 (by omega)
  have bO:=hb (H.bx _ (br W0)).2.2.1 (by omega)
  have bb:=hb (H.bx _ (br W0)).2.2.2.1 (by omega)
  have bG:=hb (H.bx _ (br W0)).2.2.2.2.1 (by omega)
  have bU:=hb (H.bx _ (br W0)).2.2.2.2.2 (by omega)
  have bN:=bi.out.trans (kV.toBelow bi.out.size (fun j Y=>Nat.le_of_eq (Eq.symm Y)))
  have da:=JC (H.bx _ (br W0)).2.2.2.2.2
  obtain ⟨bn,bv⟩:=ae (kk.own (ax OM.out (show w.heap.size+6≤wc.heap.size by have:=KC.out.size;have:=a1.out.size;omega)) (fun j Y e=>by have h1:=(OM.out.lt j Y).1;have h2:j=w.heap.size:=e;have:=lc;omega)) (kk.own (ap (ax O7.out (show w.heap.size+6≤p.heap.size by have:=a1.out.size;omega)) BM.out) (fun j Y e=>by have h1:=(O7.out.lt j Y).1;have h2:j=w.heap.size:=e;have:=a1.out.size;omega));clear hV ci c8 d1 lc lm cw kk kV hb bo
  have cs:=JF V w.heap.size 21 _ _ _ a2
  have bX:=JM V w.heap.size 21 _ _ a2
  have lM:=JC a2
  have cv:=H.wd
  have e9:=ss (i:=21) (v:=KL ((dn:Int)+1)) a2 rfl
  have k9:Keep (fun k=>k=w.heap.size) V (V.setCell ⟨w.heap.size,21,none⟩ (KL ((dn:Int)+1))):=Keep.setCell (S:=fun k=>k=w.heap.size) (Keep.refl _ _) _ (.inr rfl) _
  obtain ⟨E9,K9,cj,co,cA,cx,cc,d6⟩:=ak e9 k9 be bO bb bG bU bN;clear e9 k9 be bO bb bG bU bN a2
  go_upto_region 29 with (fail)
  obtain ⟨V9,b9⟩:∃V9,V.setCell ⟨w.heap.size,21,none⟩ (KL ((dn:Int)+1))=V9:=⟨_,rfl⟩
  rw [b9] at E9 K9 ⊢
  clear b9 cs bX lM cv
  obtain ⟨b1,b2,b3,b4,b5⟩:=ta K9.out cj.out co.out cA.out cx.out cc.out
  have hq:Below V9.heap.size V9 V9.drew:=(br V9).drew
  refine HA.g (KB3 w.heap.size V9) ?_
  refine HA.ld3 (vs:=#[.slice A i.cfg.sizes.length c,KL i.cfg.shift,KL i.cfg.rate,KL i.cfg.mom,KL i.cfg.workers,KL i.cfg.batch,KL i.cfg.micros,KL i.cfg.steps,KL i.cfg.bucket,KL i.cfg.chunk,KL i.cfg.window,KL i.cfg.cap,.slice D i.data.length cd,.slice T i.start.length ct,.slice R i.draws.length cr,KL (x:Nat),.slice I i.start.length L,.slice C i.start.length J,.slice (some ⟨wc.heap.size,0,none⟩) i.start.length i.start.length,.slice U (rl+1) c7,.slice (some ⟨bI,oI,none⟩) il ic,KL (dn+1)]) E9.out b1 b2 cI aS aS (Keep.below hq) ?_
  refine HA.st3 3 4 5 b3 b4 b5 cI aS aS hq (fun w8 r3 r4 e8 q8=>?_)
  refine HA.t ?_ [6] q8 ?_
  refine HA.d ?_
  obtain ⟨R3,R4,R5⟩:=af r3 r4 e8
  have F:=jx K9.out q8 d6.out
  obtain ⟨aR,QW⟩:=ae F.1 F.2;clear b1 b2 b3 b4 b5 e8 q8 r3 r4 hq F
  go_wp2_with fail
  refine JQ (fp rfl rfl rfl rfl R3.out R4.out R5.out cI aS aS) rfl ?_
  have av:∀j,w.heap.size+6≤j→¬(w.heap.size≤j∧j<w.heap.size+6):=fun j h1 h2=>by omega
  have d8:=aR.out.own bn.out (fun j Y=>av j (bn.out.lt j Y).1)
  have c9:=aR.out.own bv.out (fun j Y=>av j (bv.out.lt j Y).1)
  have bd:∀k,S k→k<w.heap.size+6:=fun k hk=>by have:=H.S' k hk;omega
  have d7:bD (ay S w8) (some ⟨wc.heap.size,0,none⟩) (List.replicate i.start.length 0) i.start.length:=⟨by simp,by simp;have:=H.s'.n;omega,fM d8 bd,nz _⟩
  have hX:Ext (ay S w) (ay S w8):=cu (Keep.below QW.out) (fun _ _ h=>h)
  have d0:cE rEx 2 (ay S w8) U (m.rc++[(m.P,m.M)]):=by
   refine ⟨B++[[.slice I i.start.length L,.slice C i.start.length J]],?_,by simp [Z2.out],?_,?_⟩
   ·rw [Kr,List.flatten_cons,List.flatten_nil,List.append_nil];exact ub c9 bd
   ·intro r hr
    rcases Kv.1 hr with hr | hr
    ·exact Z3.out r hr
    ·rw [List.mem_singleton.1 hr];rfl
   ·intro j y hy
    have cO:=Z2.out
    rcases JR j m.rc.length with h | h
    ·rw [Ki h] at hy
     have e:bq (B++[[Value.slice I i.start.length L,.slice C i.start.length J]]) j=bq B j:=by simp [bq,Ki (show j<B.length by omega)]
     rw [e];exact bW (Z4.out j y hy) hX
    ·have Y:j=m.rc.length:=by have:=(Kg.1 hy).1;simp at this;omega
     subst Y
     simp at hy
     subst hy
     have e:bq (B++[[Value.slice I i.start.length L,.slice C i.start.length J]]) m.rc.length=[.slice I i.start.length L,.slice C i.start.length J]:=by rw [←cO];simp [bq]
     rw [e];exact ⟨I,L,C,J,by rw [H.Pl,H.Ml],aX H.P0 hX,aX H.M0 hX⟩
  have hX:Ext (ay S w) (ay S w8):=cu (Keep.below QW.out) (fun _ _ h=>h)
  obtain ⟨b8,bl,bA,bh⟩:=H1.out
  exact ⟨_,_,_,rfl,rfl,rfl,⟨A,c,D,cd,T,ct,R,cr,I,L,C,J,some ⟨wc.heap.size,0,none⟩,i.start.length,U,c7,some ⟨bI,oI,none⟩,ic,by rw [H.il',c6.out,bh,Kf,Ko,d9.out];push_cast;rfl,fJ H.I0 hX,by rw [b8];exact aX H.P0 hX,by rw [bl];exact aX H.M0 hX,by rw [bA];exact d7,by rw [bh];exact d0,aU H.It0 hX,by rw [b8];exact H.Pl,by rw [bl];exact H.Ml,by rw [bA];exact (by simp)⟩,⟨B1,c1,rfl,bK H.s0 hX,H.s2⟩,⟨B2,c2,rfl,bK H.t0 hX,H.t2⟩,QW.out⟩
theorem Gh {w:World} {vs:Array Value} {i:Inp} {x:Nat} {m:Mst} {s t:LSt} {u v:Array Value} {S:Nat→Prop} (hS:∀k,S k→k<w.heap.size) (h:dM (ay S w) vs i x m) (hu:RL (ay S w) u s) (hv:RL (ay S w) v t) (hs:cU i) (hy:(dx i x).length≤aW i x m):
  Calls Tryz.prog 24 #[.agg vs,.agg u,.agg v] w (fun e o=>mG S i x m s t 13 w e o):=by
 obtain ⟨A,c,D,cd,T,ct,R,cr,PA,pc,MA,mc,GA,gc,SA,sc,IA,ic,rfl,O,L,U,X,a3,p,a7,ad,a6⟩:=h
 obtain ⟨B1,c1,rfl,I,a8⟩:=hu
 obtain ⟨B2,c2,rfl,Y,aG⟩:=hv
 have hx:=cJ S w
 have hI:=fJ O hx
 have hP:=aX L hx
 have hM:=aX U hx
 have hG:=aX X hx
 have hR:cE rEx 2 w SA m.rc:=dJ bW a3 hx
 have hIt:=aU p hx
 have ao:=bK I hx
 have av:=bK Y hx
 have hal:(dx i x).length≤48000000:=ml hs x (JD _)
 obtain ⟨Q,H⟩:∃Q,aW i x m=Q:=⟨_,rfl⟩
 obtain ⟨Z,a4⟩:∃Z,(dx i x).length=Z:=⟨_,rfl⟩
 rw [H] at hy ⊢
 rw [a4] at hal hy ⊢
 obtain ⟨W0,hW0,g0,g1,g2,g3,g4,g5,k0⟩:=vn w #[.slice A i.cfg.sizes.length c,KL i.cfg.shift,KL i.cfg.rate,KL i.cfg.mom,KL i.cfg.workers,KL i.cfg.batch,KL i.cfg.micros,KL i.cfg.steps,KL i.cfg.bucket,KL i.cfg.chunk,KL i.cfg.window,KL i.cfg.cap,.slice D i.data.length cd,.slice T i.start.length ct,.slice R i.draws.length cr,KL (x:Nat),.slice PA i.start.length pc,.slice MA i.start.length mc,.slice GA i.start.length gc,.slice SA m.rc.length sc,.slice IA Z ic,KL (Q:Nat)] #[KL (s.cap:Nat),.slice B1 s.msgs.length c1,KL (s.recv:Nat),KL (s.peak:Nat)] #[KL (t.cap:Nat),.slice B2 t.msgs.length c2,KL (t.recv:Nat),KL (t.peak:Nat)] KP #[KL 0,KN,KL 0,KL 0] #[KL 0,KN,KL 0,KL 0] 43 73
 have bv:∀o,Below W0.heap.size W0 o→o.cell? ⟨w.heap.size,20,none⟩=some (.slice IA Z ic):=fun o q=>JF o w.heap.size 20 _ _ _ (sb g0 o q)
 have bo:∀o,Below W0.heap.size W0 o→o.cell? ⟨w.heap.size,21,none⟩=some (KL (Q:Nat)):=fun o q=>JF o w.heap.size 21 _ _ _ (sb g0 o q)
 have tl:=sl g0
 have bf:(Z:Int)≤Q:=by omega
 have b0:¬(Q:Int)<Z:=by omega
 have q0:=br W0
 obtain ⟨bn,G0,G1,G2,G3,G4,G5,K0⟩:=ak hW0 g0 g1 g2 g3 g4 g5 k0;obtain ⟨HI,HP,HM,HG,HR,bI,be,bb⟩:=ak hI hP hM hG hR hIt a7 ad;obtain ⟨bs,bG,b9,bz,bd,bh,Hs,bw⟩:=ak a6 ao a8 av aG a4 hs O;obtain ⟨b7,bi,bl,aP,ab,aR,b8,HS⟩:=ak L U X a3 p I Y hS;have b6:=aa H;clear O L U X a3 p I Y hS hx hW0 g0 g1 g2 g3 g4 g5 k0 hI hP hM hG hR hIt a7 ad a6 ao a8 av aG H a4 hs hy hal
 go_enter Tryz.func24,Tryz.ntmps24
 go_upto_region 1 with (fail)
 rw [bn.out]
 go_upto_region 2 with (fail)
 clear bv bo tl q0 bf b0
 have B:=G0.out
 have N:=G1.out
 have a2:=G2.out
 have J:=G3.out
 have a0:=G4.out
 have a5:=G5.out
 have a1:=K0.out
 obtain ⟨V,hV⟩:∃V,W0=V:=⟨_,rfl⟩
 rw [hV] at B N a2 J a0 a5 a1 ⊢
 clear hV
 obtain ⟨E9,aM,K9⟩:=af B a1 (Keep.refl (fun k=>k=w.heap.size) V);clear B a1
 have b1:=N
 have b2:=a2
 have b3:=J
 have b4:=a0
 have b5:=a5
 clear N a2 J a0 a5
 have q9:Keep (fun k=>k=w.heap.size+1+1+1∨k=w.heap.size+1+1+1+1∨k=w.heap.size+1+1+1+1+1) V V.drew:=(Keep.refl _ _).drew
 refine HA.g (fun o:World=>Keep (fun k=>k=w.heap.size+1+1+1∨k=w.heap.size+1+1+1+1∨k=w.heap.size+1+1+1+1+1) V o) ?_
 refine HA.ld 0 #[.slice A i.cfg.sizes.length c,KL i.cfg.shift,KL i.cfg.rate,KL i.cfg.mom,KL i.cfg.workers,KL i.cfg.batch,KL i.cfg.micros,KL i.cfg.steps,KL i.cfg.bucket,KL i.cfg.chunk,KL i.cfg.window,KL i.cfg.cap,.slice D i.data.length cd,.slice T i.start.length ct,.slice R i.draws.length cr,KL (x:Nat),.slice PA i.start.length pc,.slice MA i.start.length mc,.slice GA i.start.length gc,.slice SA m.rc.length sc,.slice IA Z ic,KL (Q:Nat)] (fun o q=>(q.block _ (JC E9.out) (by omega)).trans E9.out) cI q9 ?_
 refine HA.ld 1 #[KL (s.cap:Nat),.slice B1 s.msgs.length c1,KL (s.recv:Nat),KL (s.peak:Nat)] (fun o q=>(q.block _ (JC b1) (by omega)).trans b1) aS q9 ?_
 refine HA.ld 2 #[KL (t.cap:Nat),.slice B2 t.msgs.length c2,KL (t.recv:Nat),KL (t.peak:Nat)] (fun o q=>(q.block _ (JC b2) (by omega)).trans b2) aS q9 ?_
 refine HA.st 3 b3 cI (fun w6 e6 k6=>?_)
 have q6:Keep (fun k=>k=w.heap.size+1+1+1∨k=w.heap.size+1+1+1+1∨k=w.heap.size+1+1+1+1+1) V w6:=q9.trans (k6.mono fun k _ e=>.inl e)
 refine ⟨q6,?_⟩
 have d4:=(k6.block _ (JC b4) (by omega)).trans b4
 have d5:=(k6.block _ (JC b5) (by omega)).trans b5
 refine HA.st 4 d4 aS (fun w7 e7 k7=>?_)
 have q7:Keep (fun k=>k=w.heap.size+1+1+1∨k=w.heap.size+1+1+1+1∨k=w.heap.size+1+1+1+1+1) V w7:=q6.trans (k7.mono fun k _ e=>.inr (.inl e))
 refine ⟨q7,?_⟩
 have f5:=(k7.block _ (JC d5) (by omega)).trans d5
 have f3:=(k7.block _ (JC e6) (by omega)).trans e6
 refine HA.st 5 f5 aS (fun w8 e8 k8=>?_)
 have q8:Keep (fun k=>k=w.heap.size+1+1+1∨k=w.heap.size+1+1+1+1∨k=w.heap.size+1+1+1+1+1) V w8:=q7.trans (k8.mono fun k _ e=>.inr (.inr e))
 refine ⟨q8,?_⟩
 have r3:=(k8.block _ (JC f3) (by omega)).trans f3
 have r4:=(k8.block _ (JC e7) (by omega)).trans e7
 refine HA.t ?_ [6] q8 ?_
 refine HA.d ?_
 obtain ⟨R3,R4,R5⟩:=af r3 r4 e8
 have C:Keep (fun k=>w.heap.size≤k∧k<w.heap.size+6) V w8:=(K9.out.mono fun k _ e=>by omega).trans (q8.mono fun k _ e=>by rcases e with e | e | e<;>omega)
 obtain ⟨bA,QW⟩:=ae C (aM.out.trans (C.toBelow aM.out.size (fun j hj=>hj.1)));clear b1 b2 b3 b4 b5 e6 k6 q6 d4 d5 e7 k7 q7 f5 f3 e8 k8 q8 r3 r4 q9 C
 go_wp2_with fail
 refine JQ (fp rfl rfl rfl rfl R3.out R4.out R5.out cI aS aS) rfl ?_
 have y:Ext (ay S w) (ay S w8):=cu (Keep.below QW.out) (fun _ _ h=>h)
 exact ⟨_,_,_,rfl,rfl,rfl,⟨A,c,D,cd,T,ct,R,cr,PA,pc,MA,mc,GA,gc,SA,sc,IA,ic,by rw [bh.out,b6.out],fJ bw.out y,aX b7.out y,aX bi.out y,aX bl.out y,dJ bW aP.out y,aU ab.out y,be.out,bb.out,bs.out⟩,⟨B1,c1,rfl,bK aR.out y,b9.out⟩,⟨B2,c2,rfl,bK b8.out y,bd.out⟩,QW.out⟩
theorem vZ (i:Inp) (x:Nat) (m:Mst) (y:Itm):(kr i x m y).st=m.st∧(kr i x m y).nx=m.nx:=by
 unfold kr
 split
 ·exact ⟨rfl,rfl⟩
 ·split
  ·exact ⟨rfl,rfl⟩
  ·split<;>exact ⟨rfl,rfl⟩
theorem pr (i:Inp) (x:Nat) (m:Mst):(adv i x m).P=m.P∧(adv i x m).M=m.M∧(adv i x m).G=m.G∧(adv i x m).rc=m.rc:=by
 unfold adv
 split<;>exact ⟨rfl,rfl,rfl,rfl⟩
theorem rO {i:Inp} (hs:cU i) {x:Nat} {m j:Mst} {y:Itm} (p:(bZ i x m.st)[m.nx]?=some y) (h1:j.st=m.st) (o:j.nx=m.nx):aW i x (adv i x j)=aW i x m+1:=by
 have hl:=(Kg.1 p).1
 have e:aW i x j=aW i x m:=by unfold aW;rw [h1,o]
 unfold adv
 by_cases hc:j.nx+1<(bZ i x j.st).length
 ·rw [if_pos hc,←e];exact rG i x j
 ·rw [if_neg hc,←e];exact rF hs (by rw [h1,o] at *;omega)
theorem iU {y:Itm} {a:Acn} {k:Nat} (i:y.a=some a) (j:y.kind=k):aN y=[KL (k:Nat),KL (y.st:Nat),KL (y.n:Nat),.bool a.send,.bool a.add,KL (a.st:Nat),KL (a.bk:Nat),KL (a.ph:Nat),KL (a.rd:Nat),KL (a.ch:Nat),KL (a.at'.1:Nat),KL (a.at'.2:Nat)]:=by
 unfold aN
 rw [i,j]
 rfl
theorem me {y:Itm} {k:Nat} (i:y.a=none) (j:y.kind=k):aN y=[KL (k:Nat),KL (y.st:Nat),KL (y.n:Nat),.bool false,.bool false,KL 0,KL 0,KL 0,KL 0,KL 0,KL 0,KL 0]:=by
 unfold aN
 rw [i,j]
 rfl
theorem Gg {w:World} {vs:Array Value} {i:Inp} {x:Nat} {m m1:Mst} {s t s1 t1:LSt} {u v:Array Value} {S:Nat→Prop} {C:Nat} (A:∀k,S k→k<w.heap.size) (h:dM (ay S w) vs i x m) (hu:RL (ay S w) u s) (hv:RL (ay S w) v t) (hs:cU i) (hm:MOk i x m) (Z:pW i x s) (J:t.recv≤t.msgs.length)
  (H:s.msgs.length≤100000000000) (Q:t.msgs.length≤100000000000) (a0:x<i.cfg.workers.toNat) (hr:gE i x m s t m1 s1 t1 C):
  Calls Tryz.prog 24 #[.agg vs,.agg u,.agg v] w (fun e I=>mG S i x m1 s1 t1 (C:Nat) w e I):=by
 have q:∀{y:Itm} {ac:Acn},(bZ i x m.st)[m.nx]?=some y→y.a=some ac→ac.at'.1<ac.at'.2∧ac.at'.2≤i.start.length:=fun o p=>zo hs.ok (ep o).2 p
 have hcur:=hm.cur hs
 cases hr with
 | fin hf=>
  rw [List.getElem?_eq_none hf] at hcur
  exact Gh A h hu hv hs (List.getElem?_eq_none_iff.1 hcur.symm)
 | own y o p=>
  have R:=hm.okAt hs o p
  obtain ⟨c1,c2⟩:=ep o
  have a1:=uy o
  have B:=hcur.symm.trans o
  obtain ⟨U,V,X,Y⟩:=pr i x (kr i x m y)
  have T:aW i x (adv i x (kr i x m y))=aW i x m+1:=rO hs o (vZ i x m y).1 (vZ i x m y).2
  rcases R.1 with k | k | k | k
  ·refine DX A h hu hv hs B _ _ _ _ _ _ _ _ _ _ _ (me p k) y.st y.n rfl rfl (by rw [a1];exact c1) (rg c2 k) a0 _ ?_ T
   rw [U,V,X,Y];unfold kr;rw [if_pos k];exact ⟨rfl,rfl,rfl,rfl⟩
  ·refine yi A h hu hv hs B _ _ _ _ _ _ _ _ _ _ _ (me p k) _ ?_ T
   rw [U,V,X,Y];unfold kr;rw [if_neg (by omega),if_pos k];exact ⟨rfl,rfl,rfl,rfl⟩
  ·obtain ⟨g,hg,g1,g2⟩:=td c2 (.inr k)
   obtain ⟨j,hj,rfl⟩:=List.getElem_of_mem hg
   have a2:=hs.ok.grp hj
   rw [cF _ _ hj] at a2
   have N:y.n<(aE i).buks.length:=by omega
   have D:=N
   rw [Pln.buks,jY] at D
   obtain ⟨b1,b2,b3⟩:=Fv hs.ok.bu D
   have L:aO (aE i).buks y.n=(bB (aE i).n (aE i).bu (y.n+1),bB (aE i).n (aE i).bu y.n):=b1
   refine ye A h hu hv hs B _ _ _ _ _ _ _ _ _ _ _ (me p k) y.n _ _ rfl N L b2 b3 _ ?_ T
   rw [U,V,X,Y];unfold kr;rw [if_neg (by omega),if_neg (by omega),if_pos k,L];exact ⟨rfl,rfl,rfl,rfl⟩
  ·refine yh A h hu hv hs B _ _ _ _ _ _ _ _ _ _ _ (me p k) (R.2.2.2 k) _ ?_ T
   rw [U,V,X,Y];unfold kr;rw [if_neg (by omega),if_neg (by omega),if_neg (by omega)];exact ⟨rfl,rfl,rfl,rfl⟩
 | send y ac o p hk hroom=>
  exact DU A h hu hv hs (hcur.symm.trans o) _ _ _ _ _ _ _ _ _ _ _ (iU p hk) _ _ rfl rfl (q o p).1 (q o p).2 J Q hroom _ (pr i x m) (rO hs o rfl rfl)
 | full y ac o p hk hf=>
  exact DW A h hu hv hs (hcur.symm.trans o) _ _ _ _ _ _ _ _ _ _ _ (iU p hk) _ _ rfl rfl (q o p).1 (q o p).2 J Q (by omega) _ ⟨rfl,rfl,rfl,rfl⟩ rfl
 | recv y ac o p hk hlt heq=>
  have O:=Z.len hs (ep o).1 (ep o).2 p (oT (ep o).2 p hk) hlt heq
  exact DV A h hu hv hs (hcur.symm.trans o) _ _ _ _ _ _ _ _ _ _ _ (iU p hk) _ _ rfl (Nat.le_of_lt (q o p).1) (q o p).2 H hlt heq O.1 O.2 _ (pr i x _) (rO hs o rfl rfl)
 | none y ac o p hk h0=>
  refine qK A h hu hv hs (hcur.symm.trans o) _ _ _ _ _ _ _ _ _ _ _ (iU p hk) 12 (by decide) (fun B1 c1 I hB=>?_) _ ⟨rfl,rfl,rfl,rfl⟩ rfl
  have:=rU s.cap B1 s.msgs.length c1 s.peak ac.tg I H
  rw [h0]
  exact this
 | other y ac o p hk hlt hne=>
  exact qK A h hu hv hs (hcur.symm.trans o) _ _ _ _ _ _ _ _ _ _ _ (iU p hk) 10 (by decide) (fun B1 c1 I hB=>vl s.cap B1 s.msgs c1 s.recv s.peak ac.tg I hB hlt H hne) _ ⟨rfl,rfl,rfl,rfl⟩ rfl
def nZ (w:World) (base:Nat) (v:Value) (ms:List Msg):Prop:=
 ∃i,w.ownsRow base 91 6 v ms.length (List.flatten i)∧i.length=ms.length∧(∀r∈i,r.length=6)∧∀j,j<ms.length→uH w base (dL i j) (aC ms j)
theorem IC {w:World} {base base':Nat} {e A:TypeId} {size j n C:Nat} {v v':Value} {xs q:List Value} (h:w.ownsRow base e size v n xs) (D:w.ownsRow base' A j v' C q) (u:e≠A):∀k,v.ownBlock=some k→v'.ownBlock≠some k:=fun k p o=>by
 rcases h.2 with ⟨hn,_⟩ | ⟨g,cap,B,rfl,_,hg,_⟩
 ·rw [hn] at p;cases p
 ·obtain rfl:g=k:=by simpa [Value.ownBlock] using p
  rcases D.2 with ⟨hn,_⟩ | ⟨H,x,y,rfl,_,i,_⟩
  ·rw [hn] at o;cases o
  ·obtain rfl:H=g:=by simpa [Value.ownBlock] using o
   rw [hg] at i;injection i with i;injection i with _ i;exact u i
theorem BU {wr y u:World} {base H:Nat} {A x:Option Addr} {k c c2 R O:Nat} {o:List (List Value)} {ms:List Msg} {t0 L t2 C D:Int} {zs:List Int} (U:ms.length=k) (I:base≤wr.heap.size)
  (Q:wr.ownsRow base 91 6 (.slice A k c) k (List.flatten o)) (N:o.length=ms.length) (Y:∀r∈o,r.length=6) (hm:∀j,j<ms.length→uH wr base (dL o j) (aC ms j))
  (hB:Below wr.heap.size wr y) (p:y.ownsRow H 2 1 (.slice x zs.length c2) zs.length (aq .i64 zs)) (Z:wr.heap.size<H) {v:Value} (hg:(y.setCell ⟨wr.heap.size,5,none⟩ v).grownBy u (Value.slice A k c).ownBlock)
  (J:u.ownsRow base 91 6 (.slice (some ⟨R,0,none⟩) (k+1) O) (k+1) (List.flatten o++[KL t0,KL L,KL t2,KL C,KL D,.slice x zs.length c2])):
  nZ u base (.slice (some ⟨R,0,none⟩) (k+1) O) (ms++[⟨⟨t0,L,t2,C,D⟩,zs⟩]):=by
 have X:Keep (fun i=>(Value.slice A k c).ownBlock=some i) wr u:=((Keep.below hB).setCell _ (.inl (JD _)) _).grown hg fun i q=>.inr q
 have T:Keep (fun i=>i=wr.heap.size∨(Value.slice A k c).ownBlock=some i) y u:=((Keep.refl _ _).setCell _ (.inr (.inl rfl)) _).grown hg fun i q=>.inr (.inr q)
 refine ⟨o++[[KL t0,KL L,KL t2,KL C,KL D,.slice x zs.length c2]],?_,by simp [N],?_,?_⟩
 ·rw [Kr,List.flatten_cons,List.flatten_nil,List.append_nil,Kf,Ko,U]
  exact J
 ·intro r hr
  rcases Kv.1 hr with hr | hr
  ·exact Y r hr
  ·rw [List.mem_singleton.1 hr];rfl
 ·intro j hj
  rcases JR j ms.length with h | h
  ·rw [iW _ _ _ (by omega),jf _ _ _ h]
   obtain ⟨B,d,e,hv⟩:=hm j h
   exact ⟨B,d,e,X.own hv fun i q=>IC hv Q (by decide) i q⟩
  ·obtain rfl:j=ms.length:=by simp at hj;omega
   rw [jg,←N,iX]
   refine ⟨x,c2,rfl,ax (base:=H) (T.own p fun i q=>?_) (by omega)⟩
   have:=(p.lt i q).1
   rintro (rfl | V)
   ·omega
   ·have:=(Q.lt i V).2;omega
theorem ED (base b:Nat) (g:Option Nat) (s:LSt) (w:World) (h:aK w base b g s):
  Calls Tryz.prog 85 #[.pointer (some ⟨b,0,none⟩)] w fun e q=>∃A c,e=.returned (.slice A (s.msgs.length-s.recv) c)∧nZ q w.heap.size (.slice A (s.msgs.length-s.recv) c) (s.msgs.drop s.recv)∧Below w.heap.size w q:=by
 have v:=h.ok
 obtain ⟨ring,b2,hc,_⟩:=h.ex
 have hl:=ks b _ _ _ _ _ _ hc v.rs (by have:=v.many;omega)
 obtain ⟨n,hn⟩:∃n,s.msgs.length-s.recv=n:=⟨_,rfl⟩
 have X:(s.msgs.length:Int)-s.recv=(n:Int):=by have:=v.rs;omega
 rw [X] at hl
 rw [hn]
 obtain ⟨H,Hl,C,Hn⟩:=ag h hl v hn;clear h hl v hn X hc
 go_enter Tryz.func85,Tryz.ntmps85
 go_wp2_with fail
 refine Hl.out.mono ?_
 rintro e q ⟨rfl,k,rfl⟩
 go_wp2_with fail
 go_loopw [8,3] (fun i out wr=>∃k A c,k≤n∧i=KL (k:Int)∧out=.slice A k c∧nZ wr w.heap.size (.slice A k c) ((s.msgs.drop s.recv).take k)∧Below w.heap.size w wr) (fun i _ _=>n-(intOf i).toNat)
 case atStart=>
  refine ⟨0,none,0,JH _,rfl,rfl,⟨[],?_,rfl,by simp,by simp⟩,JN (JG _ _) _⟩
  exact ⟨rfl,.inl ⟨rfl,rfl⟩⟩
 case round=>
  obtain ⟨k,A,c,hk,rfl,rfl,hM,hW⟩:=hrel
  by_cases b5:k<n
  ·have b0:=(H.out.below (hW.mono (JD _))).at_ (s.recv+k) (by omega) (by have:=Hn.out;omega)
   obtain ⟨J,rc,A',c',_,u,hi,h6,p⟩:=b0
   have T:=C.out.cap1
   have Y:=C.out.cap2
   have ad:=C.out.many
   have X:=Hn.out
   obtain ⟨m,hm⟩:∃m,aC s.msgs (s.recv+k)=m:=⟨_,rfl⟩
   have a0:m.vals.length≤17592186043904:=by
    refine C.out.vals m ?_
    rw [←hm,aC,List.getD,Kh (by omega)]
    exact List.getElem_mem _
   rw [hm] at h6 p
   obtain ⟨i,O⟩:∃i,(s.recv+k)%s.cap=i:=⟨_,rfl⟩
   rw [O] at hi h6
   obtain ⟨L,hL⟩:∃L,min s.msgs.length s.cap=L:=⟨_,rfl⟩
   rw [hL] at hi u
   obtain ⟨⟨t0,t1,t2,t3,t4⟩,zs⟩:=m
   have hp:=fun W' aP=>ji b (.slice (some ⟨J,0,none⟩) L rc) s.cap s.msgs.length s.recv s.peak (s.recv+k) i W' aP T Y O
   have c0:=u.c0
   have c3:=u.c3
   obtain ⟨d0,d1,d2,d3,d4,d5⟩:=h6
   dsimp only at d0 d1 d2 d3 d4 d5 p a0
   have b7:IntKind.i64.wrap ((s.recv:Int)+(k:Int))=((s.recv+k:Nat):Int):=by rw [JI _ (by omega)];omega
   have b6:=JC u
   have b4:=ar d0
   obtain ⟨Hp,b1,a1,HM,Z,Hm⟩:=ai hp u p hM hW hm;clear hp u p hM hW hm O hL
   go_wp2_with fail
   go_region_held3 (fun q=>q.cell? ⟨b,0,none⟩=some (.slice (some ⟨J,0,none⟩) L rc)∧q.cell? ⟨b,3,none⟩=some (KL (s.recv:Int))∧q.cell? ⟨J,i*6,none⟩=some (KL t0)∧q.cell? ⟨J,i*6+1,none⟩=some (KL t1)∧
     q.cell? ⟨J,i*6+2,none⟩=some (KL t2)∧q.cell? ⟨J,i*6+3,none⟩=some (KL t3)∧q.cell? ⟨J,i*6+4,none⟩=some (KL t4)∧q.cell? ⟨J,i*6+5,none⟩=some (.slice A' zs.length c')) (simp [go_sem, *])
    ((go_at_call 81;refine (Hp.out _ ?_).mono ?_;(focus (repeat' (first | (with_reducible exact b1.out) | (with_reducible refine au.drew ?_) | (with_reducible refine au.drewN ?_ _) | (with_reducible refine au.alloc ?_ _) | (with_reducible refine au.set0 (ring:=.slice RA L rc) ?_ _) | (with_reducible refine au.set2 (sent:=s.msgs.length) ?_ _ _ ?_) | (with_reducible refine au.set4 (peak:=s.peak) ?_ _ _ ?_) | (with_reducible refine au.far ?_ _ _ ?_) | omega | (push_cast;omega))));rintro e q ⟨rfl,rfl⟩))
   all_goals
    go_wp2_with fail
    refine (lp A' zs c' _ ?_ a0).mono ?_
    ·repeat' (first | exact Rd.own a1.out | (with_reducible refine Rd.alloc ?_ _) | (with_reducible refine Rd.drewN ?_ _) | (with_reducible refine Rd.drew ?_))
    rintro e B ⟨v2,rfl,o,j⟩
    have e0:B.cell? ⟨wr.heap.size,0,none⟩=some (KL t0):=by rw [j.cell (by simp)];simp [go_sem]
    have e1:B.cell? ⟨wr.heap.size,1,none⟩=some (KL t1):=by rw [j.cell (by simp)];simp [go_sem]
    have e2:B.cell? ⟨wr.heap.size,2,none⟩=some (KL t2):=by rw [j.cell (by simp)];simp [go_sem]
    have e3:B.cell? ⟨wr.heap.size,3,none⟩=some (KL t3):=by rw [j.cell (by simp)];simp [go_sem]
    have e4:B.cell? ⟨wr.heap.size,4,none⟩=some (KL t4):=by rw [j.cell (by simp)];simp [go_sem]
    have e5:B.cell? ⟨wr.heap.size,5,none⟩=some (.slice A' zs.length c'):=by rw [j.cell (by simp)];simp [go_sem]
    have f5:B.frozen? ⟨wr.heap.size,5,none⟩=false:=by rw [j.frozen (by simp)];simp [go_sem]
    obtain ⟨A2,c2,rfl,_⟩:=aw o
    have R:Below wr.heap.size wr B:=by
     refine Below.trans ?_ (j.mono (by simp))
     exact al
    obtain ⟨Q,y,a2,a7,hMm⟩:=HM.out
    have N:((s.msgs.drop s.recv).take k).length=k:=by simp;omega
    rw [N] at y
    have I:=(ap y R)
    have D:(B.setCell ⟨wr.heap.size,5,none⟩ (.slice A2 zs.length c2)).ownsRow w.heap.size 91 6 (.slice A k c) k (List.flatten Q):=ownsRow_setCell_other I (fun e=>by have:=(y.lt _ e).2;simp at this) _
    have b3:wr.heap.size<B.heap.size:=by have:=j.size;simp at this;omega
    obtain ⟨V,a3,aR,ab,a4,aG,ao,aM⟩:=ak o R N hMm D y a2 a7;clear o j R N hMm y I D a2 a7
    go_wp2_with (at_builtin;refine aQ jD _ rfl (.tmp 30) (.tmp 32) rfl w.heap.size _ k _ rfl a4.out [KL t0,KL t1,KL t2,KL t3,KL t4,.slice A2 zs.length c2] (by simp [go_sem]) rfl (nJ _ _ _ _ _ _ rfl) (by omega) (by unfold maxLen;omega) (by have:=Z.out.size;simp;omega) ?_)
    intro gO cO w5 x a5 a6
    obtain ⟨U,av,a8⟩:=af x a5 a6;clear x a5 a6
    go_wp2_with fail
    go_roundw
    case rel=>
     refine ⟨k+1,some ⟨gO,0,none⟩,cO,by omega,by go_num,rfl,?_,?_⟩
     ·rw [show (s.msgs.drop s.recv).take (k+1)=(s.msgs.drop s.recv).take k++[⟨⟨t0,t1,t2,t3,t4⟩,zs⟩] by
       rw [←Hm.out,List.take_add_one,aC,List.getD]
       simp [List.getElem?_drop,Kh (show s.recv+k<s.msgs.length by omega)]]
      exact BU aR.out Z.out.size aG.out ao.out aM.out ab.out a3.out V.out (by simp) a8.out U.out
     ·have hs:=Z.out.size
      refine Z.out.trans (Below.trans (a3.out.mono hs) (Below.trans ((JG _ _).setCell ?_ _) av.out))
      exact hs
    case measure=>simp [intOf];omega
  ·obtain rfl:k=n:=by omega
   obtain ⟨HM,Z⟩:=ae hM hW;clear hM hW
   go_wp2_with fail
   go_ret
   refine ⟨A,c,rfl,?_,Z.out⟩
   have:=HM.out
   rwa [List.take_of_length_le (by simp;have:=Hn.out;omega)] at this
theorem vk (A1 i:Option Addr) (ms:List Msg) (n c1 c2:Nat) (w:World) (hn:ms.length=n) (h1:bJ w A1 ms) (o:bJ w i ms) (hl:ms.length≤17592186043904) (hv:∀m∈ms,m.vals.length≤17592186043904):
  Calls Tryz.prog 84 #[.slice A1 n c1,.slice i n c2] w fun e j=>e=.returned (.bool true)∧Below w.heap.size w j:=by
 subst hn;exact yd A1 i ms c1 c2 w h1 o hl hv
theorem nZ.rd {w:World} {base:Nat} {A:Option Addr} {n c:Nat} {ms:List Msg} (h:nZ w base (.slice A n c) ms):bJ w A ms:=by
 obtain ⟨i,h1,u,y,v⟩:=h
 refine ⟨i,?_,u,y,fun j q=>?_⟩
 ·obtain rfl:n=ms.length:=by
   obtain ⟨D,C,p,_⟩:=aw h1
   injection p
  exact Rd.own h1
 ·obtain ⟨B,x,e,o⟩:=v j q
  exact ⟨B,x,e,Rd.own o⟩
theorem uX {w:World} {B l:Nat} {g:Option Nat} {s:LSt} {v:Array Value} (hL:aK w B l g s) (hv:RL w v s):
  Calls Tryz.prog 35 #[.pointer (some ⟨l,0,none⟩),.agg v] w fun e u=>e=.returned (.bool true)∧Below w.heap.size w u:=by
 obtain ⟨y,c1,rfl,h1,N⟩:=hv
 have C:=hL.ok
 have g0:=JE w (.cells #[KL (s.cap:Nat),.slice y s.msgs.length c1,KL (s.recv:Nat),KL (s.peak:Nat)] 73)
 have I:=(br w).alloc (JD _) (.cells #[KL (s.cap:Nat),.slice y s.msgs.length c1,KL (s.recv:Nat),KL (s.peak:Nat)] 73)
 obtain ⟨p,hW0⟩:∃p,w.alloc (.cells #[KL (s.cap:Nat),.slice y s.msgs.length c1,KL (s.recv:Nat),KL (s.peak:Nat)] 73)=p:=⟨_,rfl⟩
 rw [hW0] at g0 I
 obtain ⟨J,G0,o,Z,HH,H2,i⟩:=aj hW0 g0 I hL h1 N C;clear hW0 g0 I hL h1 N C
 go_enter Tryz.func35,Tryz.ntmps35
 go_upto_region 1 with (fail)
 rw [J.out]
 have j:=(br p).drew
 refine HA.g (fun u:World=>Below p.heap.size p u) ?_
 refine HA.t ?_ [0] j ?_
 refine HA.ld 2 #[KL (s.cap:Nat),.slice y s.msgs.length c1,KL (s.recv:Nat),KL (s.peak:Nat)] (fun u q=>sb G0.out u q) aS j ?_
 refine HA.c 1 (ED B l g s _ (Z.out.below (o.out.trans (j.mono o.out.size)))) ?_
 rintro e U ⟨A,c,rfl,T,O⟩
 have x:=j.trans (O.mono j.size)
 refine ⟨_,rfl,x,fun _=>?_⟩
 refine HA.c 3 (zG s.cap y s.msgs c1 s.recv s.peak U (HH.out.below (o.out.trans (x.mono o.out.size))) i.out.rs H2.out (JJ i.out.many (by decide))) ?_
 rintro e w5 ⟨X,V,rfl,Q,L⟩
 have H:=x.trans (L.mono x.size)
 refine ⟨_,rfl,H,fun _=>?_⟩
 refine HA.c 4 (vk A X (s.msgs.drop s.recv) (s.msgs.length-s.recv) c V w5 (by simp) (T.rd.below L) Q (by have:=i.out.many;simp;omega) (fun m hm=>i.out.vals m (List.mem_of_mem_drop hm))) ?_
 rintro e w6 ⟨rfl,R⟩
 have D:=H.trans (R.mono H.size)
 refine ⟨_,rfl,D,fun _=>?_⟩
 refine HA.t ?_ [5] D ?_
 refine HA.d ?_
 have Y:=aa (o.out.trans (D.mono o.out.size));clear j x H D O L R T Q
 go_wp2_with fail
 go_ret
 exact ⟨rfl,Y.out⟩
theorem tJ {P:Program} {w:World} {ops:Array Oper} {rest:List Oper} {o:Oper} {a:Act} {Q:Exit→Act→World→Prop} (p:o.guard=none) (d s:Operand) (x C:TypeId)
  (D:o.op=.call {callee:=.builtin .copy,args:=#[d,s],argTypes:=#[x,C]}) (elem:TypeId) (hu:P.underlying x=some (.slice elem)) (hsz:(P.info? elem).map (·.size)=some 1)
  (dp sp:Option Addr) (n m dCap sCap:Nat) (hd:a.eval d=.slice dp n dCap) (hs:a.eval s=.slice sp m sCap)
  (g off:Nat) (cur:List Value) (t:TypeId) (hg:w.heap[g]?=some (.cells cur.toArray t (0,0))) (cs:List Value) (hn:cs.length=Nat.min m n) (hdp:0<n→dp=some ⟨g,off,none⟩) (hr:Rd w sp cs)
  (hfit:off+cs.length≤cur.length) (h1:∀v∈cs,v.oneCell'=true)
  (h:∀A,Hid (A.heap[g]?=some (.cells (splice cur off cs).toArray t (0,0)))→Keep (fun i=>i=g) w A→wpList P ops Q rest (a.put o.dst (goInt cs.length)) A):
  wpList P ops Q (o::rest) a w:=by
 by_cases H:cs.length=0
 ·obtain rfl:cs=[]:=List.eq_nil_of_length_eq_zero H
  refine wpList_copy_nothing p d s x C D elem hu hsz dp sp n dCap m sCap hd hs hn.symm ?_
  exact h w (show _=_ by simpa [splice] using hg) (Keep.refl _ _)
 ·have B:0<n:=by
   rcases Nat.eq_zero_or_pos n with e | e
   ·subst e;rw [show Nat.min m 0=0 from Nat.min_zero m] at hn;exact absurd hn H
   ·exact e
  obtain rfl:=hdp B
  have hx:∃y,sp=some y∧∀j v,cs[j]?=some v→w.cell? (y.add j)=some v:=by
   obtain ⟨b,N,q,_⟩:=hr 0 cs[0] (Kh (by omega))
   refine ⟨_,q,fun j v hv=>?_⟩
   obtain ⟨J,L,e,hc⟩:=hr j v hv
   rw [q] at e
   injection e with e
   injection e with e1 e2 _
   subst e1;subst e2
   rw [Addr.add_lit]
   exact hc
  obtain ⟨y,rfl,u⟩:=hx
  refine wpList_copy_own p d s x C D elem hu hsz g off n dCap y m sCap hd hs cur.toArray t hg cs hn u (by simpa using hfit) h1 ?_
  exact h _ (show _=_ by simpa [splice] using setRow_heap w g _ _ t _ hg) ⟨rfl,rfl,rfl,by simp [World.setRow],fun k I hn=>setRow_other w g k _ hn⟩
theorem pD (w:World) (X Y Z:Array Value) (t u v:TypeId):∃i,((w.alloc (.cells X t)).alloc (.cells Y u)).alloc (.cells Z v)=i∧
  i.heap[w.heap.size]?=some (.cells X t (0,0))∧i.heap[w.heap.size+1]?=some (.cells Y u (0,0))∧i.heap[w.heap.size+1+1]?=some (.cells Z v (0,0))∧Below w.heap.size w i:=
 ⟨_,rfl,cz [.cells X t,.cells Y u,.cells Z v] w 0 rfl,cz [.cells X t,.cells Y u,.cells Z v] w 1 rfl,cz [.cells X t,.cells Y u,.cells Z v] w 2 rfl,er [.cells X t,.cells Y u,.cells Z v] w⟩
theorem Ic {i:Inp} {x:Nat} {y:Itm} (h:y∈dx i x):∃st,y∈aD (aE i) x st:=by
 obtain ⟨st,_,h⟩:=List.mem_flatMap.1 h
 exact ⟨st,h⟩
theorem xm {w:World} {vs:Array Value} {i:Inp} {x:Nat} {m:Mst} {S:Nat→Prop} (hS:∀k,S k→k<w.heap.size) (h0:dM (ay S w) vs i x m) (hs:cU i) (hd:aW i x m≤(dx i x).length) (XA:Option Addr) (xs:List Int) (L xc:Nat) (good:Bool) (tr tk:Int) (av:Rd (ay S w) XA (aq .i64 xs)) (hw:W64 xs) (hL:xs.length=L) (hl:L≤50):
  Calls Tryz.prog 32 #[.agg vs,.agg #[.slice XA L xc,.bool good,.int .u8 tr,.int .u8 tk]] w fun e w'=>∃(t:Tg) (zs:List Int) (B:Option Addr) (d:Nat),e=.returned (.agg #[KL t.a,KL t.b,KL t.c,KL t.d,KL t.e,.slice B zs.length d])∧Rd (ay S w') B (aq .i64 zs)∧W64 zs∧zs.length≤60∧
   (t.a=999∨zs.length=(tZ (aE i) x t).2-(tZ (aE i) x t).1)∧Below w.heap.size w w':=by
 have h:=du h0 (cJ S w)
 have hA:=aU av (cJ S w)
 clear h0
 obtain ⟨A,c,D,cd,T,ct,R,cr,PA,pc,MA,mc,GA,gc,SA,sc,IA,ic,rfl,hI,hP,hM,hG,hR,hIt,bv,bU,bo⟩:=h
 have hal:(dx i x).length≤48000000:=ml hs x (JD _)
 obtain ⟨bI,oI,b2⟩:∃bI oI,∀k y,(dx i x)[k]?=some y→IA=some ⟨bI,oI,none⟩∧w.rangeAt bI (oI+k*12) (aN y):=by
  rcases Nat.eq_zero_or_pos (dx i x).length with e | e
  ·exact ⟨0,0,fun k y hy=>by have:=(Kg.1 hy).1;omega⟩
  ·obtain ⟨bI,oI,e1,_⟩:=lA hIt (Kh e)
   refine ⟨bI,oI,fun k y hy=>?_⟩
   obtain ⟨b',o',e2,hr⟩:=lA hIt hy
   rw [e1] at e2;cases e2
   exact ⟨e1,hr⟩
 obtain ⟨il,a1⟩:∃il,(dx i x).length=il:=⟨_,rfl⟩
 obtain ⟨dn,ab⟩:∃dn,aW i x m=dn:=⟨_,rfl⟩
 rw [a1] at hal hd
 rw [ab] at hd
 rw [a1,ab]
 obtain ⟨W0,hW0,g0,g1,g2,k0⟩:=pD w #[.slice A i.cfg.sizes.length c,KL i.cfg.shift,KL i.cfg.rate,KL i.cfg.mom,KL i.cfg.workers,KL i.cfg.batch,KL i.cfg.micros,KL i.cfg.steps,KL i.cfg.bucket,KL i.cfg.chunk,KL i.cfg.window,KL i.cfg.cap,.slice D i.data.length cd,.slice T i.start.length ct,.slice R i.draws.length cr,KL (x:Nat),.slice PA i.start.length pc,.slice MA i.start.length mc,.slice GA i.start.length gc,.slice SA m.rc.length sc,.slice IA il ic,KL (dn:Nat)] #[.slice XA L xc,.bool good,.int .u8 tr,.int .u8 tk] La 43 89 91
 obtain ⟨cj,G0,G1,G2,K0,c8,bX,HA⟩:=ak hW0 g0 g1 g2 k0 b2 a1 hA;obtain ⟨cb,HS,b3,HW,Hs⟩:=ah av hS hL hw hs
 have c0:W0.cell? ⟨w.heap.size+1,0,none⟩=some (.slice XA L xc):=JF W0 _ 0 _ _ _ g1
 clear hW0 g0 g1 g2 k0 b2 a1 hA av hS hL hw hs hI hP hM hG hR hIt bv bU bo ab
 go_enter Tryz.func32,Tryz.ntmps32
 go_upto_region 1 with (fail)
 rw [cj.out]
 go_upto_region 2 with (refine az (JE _ _) gL rfl rfl rfl rfl rfl rfl rfl ?_;intro W1 e1 k1;obtain ⟨E1,K1⟩:=ae e1 (aB k1);clear e1 k1)
 clear c0
 have bV:W1.cell? ⟨w.heap.size,21,none⟩=some (KL (dn:Nat)):=JF W1 _ 21 _ _ _ (sb G0.out _ K1.out)
 go_wp2_with fail
 clear bV
 go_loopw [6] (fun z wr=>∃k:Nat,k≤il∧z=KL k∧Below W1.heap.size W1 wr) (fun z _=>il-(intOf z).toNat)
 case atStart=>exact ⟨dn,hd,rfl,br _⟩
 case round=>
  obtain ⟨k,hk,rfl,q⟩:=hrel
  have gx:=sb (sb G0.out _ K1.out) _ q
  have gy:=sb (sb G1.out _ K1.out) _ q
  have gz:=sb (sb G2.out _ K1.out) _ q
  have ge:=sb E1.out _ q
  obtain ⟨Q,GX,GY,GZ,GE⟩:=ah q gx gy gz ge
  have co:=JF wr w.heap.size 20 _ _ _ gx
  clear gx gy gz ge q
  by_cases bA:k<il
  ·obtain ⟨y,hy⟩:∃y,(dx i x)[k]?=some y:=⟨_,Kh (by rw [bX.out];exact bA)⟩
   obtain ⟨rfl,a3⟩:=c8.out k y hy
   have C:=K0.out.trans (K1.out.mono K0.out.size)
   have H:=C.trans (Q.out.mono C.size)
   have v:wr.rangeAt bI (oI+k*12) (aN y):=fun j u hu=>am H (a3 j u hu)
   have Y:=aa H
   have bG:(k:Int)<il:=by omega
   have cx:¬(k:Int)<0:=by omega
   have cv:¬il≤k:=by omega
   have lw:=JC GX.out
   have ly:=JC GY.out
   have lz:=JC GZ.out
   have le:=JC GE.out
   clear a3 H C
   by_cases hc:y.kind=4∧good=true
   ·obtain ⟨aP,rfl⟩:=hc
    obtain ⟨st,p⟩:=Ic (List.mem_of_getElem? hy)
    obtain ⟨I,O⟩:∃I,y.a=some I:=by
     cases ha:y.a with
     | none=>have:=lq p ha;omega
     | some I=>exact ⟨I,rfl⟩
    obtain ⟨a5,a4⟩:=zo Hs.out.ok p O
    have bi:=FK p O (oT p O aP)
    rw [iU O aP] at v
    have aR:=Hs.out.ok.n
    obtain ⟨lo,ad⟩:∃lo,I.at'.1=lo:=⟨_,rfl⟩
    obtain ⟨hi,Z⟩:∃hi,I.at'.2=hi:=⟨_,rfl⟩
    rw [ad,Z] at v a5
    rw [Z] at a4
    obtain ⟨n,hn⟩:∃n,hi-lo=n:=⟨_,rfl⟩
    have cs:IntKind.i64.wrap ((hi:Int)-(lo:Int))=(n:Int):=by rw [JI _ (by omega)];omega
    have cA:¬(n:Int)<0:=by omega
    obtain ⟨ao,cf,c6,c9,Hn,U,cy⟩:=aj v bi ad Z hn (show n≤60 by omega) (show 0<n by omega)
    clear v bi ad Z hn a5 a4 p O aP aR
    go_upto_region 6 with (first | (refine dN ao.out fg rfl rfl rfl ?_) | (refine az (JE _ _) fg rfl rfl rfl rfl rfl rfl rfl ?_;intro o e3 k3;obtain ⟨E3,V⟩:=ae e3 (aB k3);clear e3 k3))
    have y0:o.cell? ⟨wr.heap.size,0,none⟩=some (KL 4):=JF o _ 0 _ _ _ E3.out
    have bs:o.cell? ⟨wr.heap.size,10,none⟩=some (KL (lo:Nat)):=JF o _ 10 _ _ _ E3.out
    have bz:o.cell? ⟨wr.heap.size,11,none⟩=some (KL (hi:Nat)):=JF o _ 11 _ _ _ E3.out
    have yg:o.cell? ⟨w.heap.size+1,1,none⟩=some (.bool true):=JF o _ 1 _ _ _ (sb GY.out _ V.out)
    obtain ⟨Wm,bd,oM,bM⟩:=j8 ip o rfl n (by have:=U.out;omega) (by unfold maxLen;have:=U.out;omega)
    rw [dS] at oM
    obtain ⟨OM,BM⟩:=ae oM bM;clear oM bM co
    go_upto_region 8 with (fail)
    clear bd y0 bs bz yg
    obtain ⟨a8,hcur,be,bn,b5⟩:=zQ OM.out
    have a0:(aq .i64 (xs.take n)).length=Nat.min L n:=by rw [a9,Kk,b3.out];exact Nat.min_comm _ _
    have N:0+(aq .i64 (xs.take n)).length≤a8.length:=by rw [a0];have:Nat.min L n≤n:=Nat.min_le_right _ _;omega
    have a6:∀w':World,w'.heap[o.heap.size]?=some (.cells (splice a8 0 (aq .i64 (xs.take n))).toArray 2 (0,0))→w'.ownsRow o.heap.size 2 1 (.slice (some ⟨o.heap.size,0,none⟩) n n) n (aq .i64 (jp (List.replicate n 0) 0 (xs.take n) false)):=fun w' hw=>by
     have:=b5 w' _ hw (qx N)
     rwa [pE (by rw [a0];have:Nat.min L n≤n:=Nat.min_le_right _ _;omega) bn,be,jB,tz (by rw [Kk,Km];omega)] at this
    have X:=V.out.trans (BM.out.mono V.out.size)
    have aG:=Y.out.trans (X.mono Y.out.size)
    have bh:Rd Wm XA (aq .i64 (xs.take n)):=by have:=(HA.out.below aG).take n;rwa [cK] at this
    have ym:Wm.cell? ⟨w.heap.size+1,0,none⟩=some (.slice XA L xc):=JF Wm _ 0 _ _ _ (sb GY.out _ X)
    obtain ⟨b8,bN,b4,bb,bw,bl,b9⟩:=aj hcur a0 N a6 bh X aG;clear hcur be bn b5 a0 N a6 bh X aG
    go_upto_region 9 with (refine tJ rfl (.tmp 44) (.tmp 46) 26 26 rfl 2 Tryz.underlying26 (by kernel_rfl) (some ⟨o.heap.size,0,none⟩) XA n L n xc rfl rfl o.heap.size 0 a8 2 b8.out (aq .i64 (xs.take n)) bN.out (fun _=>rfl) bw.out b4.out (bP _ _) ?_;intro W6 g6 k6;obtain ⟨O6,K6⟩:=ae (bb.out W6 g6.out) k6;clear g6 k6)
    clear ym
    have bf:=(K6.out.block wr.heap.size (JC (sb E3.out _ BM.out)) (by have:=JC E3.out;omega)).trans (sb E3.out _ BM.out)
    have b7:=(K6.out.block (w.heap.size+1+1) (JC (sb GZ.out _ bl.out)) (by have:=V.out.size;omega)).trans (sb GZ.out _ bl.out)
    obtain ⟨c7,cc⟩:=ae bf b7;clear bf b7
    go_wp2_with (first | (refine aJ #[KL (I.st:Nat),KL (I.bk:Nat),KL (I.ph:Nat),KL (I.rd:Nat),KL (I.ch:Nat)] (b:=wr.heap.size) c7.out ff rfl rfl rfl rfl ?_) | (refine az cc.out gL rfl rfl rfl rfl rfl rfl rfl ?_;intro W9 e9 k9;obtain ⟨E9,K9⟩:=ae e9 k9;clear e9 k9))
    refine JQ (ny rfl rfl E9.out gL) rfl ?_
    have b6:Below w.heap.size w W6:=b9.out.trans (K6.out.toBelow b9.out.size (fun j J=>by have e':j=o.heap.size:=J;have:=Y.out.size;have:=V.out.size;omega))
    have a2:Below w.heap.size w W9:=b6.trans (K9.out.toBelow b6.size (fun j J=>by have e':j=w.heap.size+1+1:=J;omega))
    have o9:=K9.out.own O6.out (fun j J e=>by have e':j=w.heap.size+1+1:=e;have:=(O6.out.lt j J).1;have:=V.out.size;omega)
    have a7:(jp (List.replicate n 0) 0 (xs.take n) false).length=n:=by rw [lF,Km]
    refine ⟨I.tg,jp (List.replicate n 0) 0 (xs.take n) false,some ⟨o.heap.size,0,none⟩,⟨n,by rw [a7];rfl⟩,fM o9 (fun j J=>by have:=HS.out j J;have:=Y.out.size;have:=V.out.size;omega),rJ (nz _) (fun j J=>by rw [Kk] at J;rw [eF (by omega)];exact HW.out j (by omega)),by rw [a7];exact U.out,.inr ?_,a2⟩
    rw [a7,←cf.out,c6.out,c9.out]
    exact Hn.out.symm
   ·obtain ⟨k0,k1,k2,b0,b1,i0,i1,i2,i3,i4,i5,i6,aM⟩:=mb y
    have e0:(y.kind:Int)=k0:=by have:=aM;simp only [aN,List.cons.injEq,Value.int.injEq,true_and] at this;exact this.1
    rw [aM] at v
    have ao:=aa v
    have cw:IntKind.i64.wrap ((k:Int)+1)=((k+1:Nat):Int):=by rw [JI _ (by omega)];push_cast;rfl
    obtain ⟨Hc,cl⟩:=ae hc e0;clear v aM hc e0
    go_upto_region 6 with (first | (refine dN ao.out fg rfl rfl rfl ?_) | (refine az (JE _ _) fg rfl rfl rfl rfl rfl rfl rfl ?_;intro o e3 k3;obtain ⟨E3,V⟩:=ae e3 (aB k3);clear e3 k3))
    have y0:o.cell? ⟨wr.heap.size,0,none⟩=some (KL k0):=JF o _ 0 _ _ _ E3.out
    have yg:o.cell? ⟨w.heap.size+1,1,none⟩=some (.bool good):=JF o _ 1 _ _ _ (sb GY.out _ V.out)
    have Q3:=aa (Q.out.trans (V.out.mono Q.out.size))
    by_cases h4:k0=4
    ·have ci:good=false:=by
      have:=Hc.out;have:=cl.out
      cases good with
      | true=>exact absurd ⟨by omega,rfl⟩ Hc.out
      | false=>rfl
     subst h4 ci
     go_wp2_with fail
     go_roundw
     case rel=>exact ⟨k+1,by omega,by go_num,Q3.out⟩
     case measure=>simp [intOf];omega
    ·go_wp2_with fail
     go_roundw
     case rel=>exact ⟨k+1,by omega,by go_num,Q3.out⟩
     case measure=>simp [intOf];omega
  ·obtain rfl:k=il:=by omega
   have bG:¬(k:Int)<k:=by omega
   go_wp2_with (first | (refine aJ #[KL 999,KL 0,KL 0,KL 0,KL 0,.slice XA L xc] (b:=W0.heap.size) GE.out gL rfl rfl rfl rfl ?_) | (refine az GZ.out gL rfl rfl rfl rfl rfl rfl rfl ?_;intro W9 e9 k9;obtain ⟨E9,K9⟩:=ae e9 k9;clear e9 k9))
   refine JQ (ny rfl rfl E9.out gL) rfl ?_
   have C:=K0.out.trans (K1.out.mono K0.out.size)
   have H:=C.trans (Q.out.mono C.size)
   have a2:Below w.heap.size w W9:=H.trans (K9.out.toBelow H.size (fun j J=>by have e':j=w.heap.size+1+1:=J;omega))
   have bO:=b3.out
   subst bO
   exact ⟨⟨999,0,0,0,0⟩,xs,XA,⟨xc,rfl⟩,aU cb.out (cX a2),HW.out,by omega,.inl rfl,a2⟩
def fm (E:Nat→Prop) (b:Nat) (a:MAd) (l:Nat) (g:Option Nat) (l':Nat) (g':Option Nat) (k:Nat):Prop:=kW b a l g l' g' k∨E k
theorem Wld.sl {E:Nat→Prop} {B:Nat} {w:World} {b l l' x:Nat} {i:Inp} {a:MAd} {m:Mst} {s t:LSt} {g g':Option Nat} (h:Wld E B w b l l' i x a m s t g g'):∀k,fm E b a l g l' g' k→k<w.heap.size:=fun k e=>e.elim (h.lts k) (h.ex k)
structure Jnt (E:Nat→Prop) (B:Nat) (w:World) (b l l':Nat) (i:Inp) (x:Nat) (a:MAd) (m:Mst) (s t:LSt) (g g':Option Nat) (vs u v:Array Value):Prop where
 wl:Wld E B w b l l' i x a m s t g g'
 rm:dM (ay (fm E b a l g l' g') w) vs i x m
 ru:RL (ay (fm E b a l g l' g') w) u s
 rv:RL (ay (fm E b a l g l' g') w) v t
 ok:MOk i x m
 ms:pW i x s
section
variable {E:Nat→Prop} {B:Nat} {w w':World} {b l l' x:Nat} {i:Inp} {a:MAd} {m:Mst} {s t:LSt} {g g':Option Nat} {vs u v:Array Value}
theorem Jnt.below (h:Jnt E B w b l l' i x a m s t g g' vs u v) (j:Below w.heap.size w w'):Jnt E B w' b l l' i x a m s t g g' vs u v:=
 ⟨h.wl.below j,du h.rm (cX j),eh h.ru (cX j),eh h.rv (cX j),h.ok,h.ms⟩
theorem Jnt.keepE (h:Jnt E B w b l l' i x a m s t g g' vs u v) (o:Keep E w w') (he:∀(j:Nat) (c:Array Value),w.heap[j]?=some (.cells c 2 (0,0))→B≤j→¬E j):Jnt E B w' b l l' i x a m s t g g' vs u v:=
 have hx:Ext (ay (fm E b a l g l' g') w) (ay (fm E b a l g l' g') w'):=cu (o.mono fun k _ e=>.inr e) (fun _ _ e=>e)
 ⟨h.wl.keepE o he,du h.rm hx,eh h.ru hx,eh h.rv hx,h.ok,h.ms⟩
theorem Jnt.same (h:Jnt E B w b l l' i x a m s t g g' vs u v) (hs:cU i):Calls Tryz.prog 14 #[.pointer (some ⟨b,0,none⟩),.agg vs] w fun e w'=>e=.returned (KL 1)∧Below w.heap.size w w':=
 Cj h.wl.mach h.wl.hn (du h.rm (cJ _ _)) hs (h.ok.cur hs) (h.ok.done hs) (h.ok.opn hs) h.ok.rl (by
  have:=h.ok.rc
  have:=hs.s
  rcases h.ok.ps with ⟨h1,_⟩ | ⟨h1,_⟩<;>omega)
theorem Jnt.sentF (h:Jnt E B w b l l' i x a m s t g g' vs u v):Calls Tryz.prog 35 #[.pointer (some ⟨l,0,none⟩),.agg u] w fun e w'=>e=.returned (.bool true)∧Below w.heap.size w w':=uX h.wl.lf (eh h.ru (cJ _ _))
theorem Jnt.sentT (h:Jnt E B w b l l' i x a m s t g g' vs u v):Calls Tryz.prog 35 #[.pointer (some ⟨l',0,none⟩),.agg v] w fun e w'=>e=.returned (.bool true)∧Below w.heap.size w w':=uX h.wl.lt (eh h.rv (cJ _ _))
structure Mid (E:Nat→Prop) (B:Nat) (w:World) (b l l':Nat) (i:Inp) (x:Nat) (a:MAd) (m m1:Mst) (s t s1 t1:LSt) (g g':Option Nat) (vs u v:Array Value) (C:Nat):Prop where
 wl:Wld E B w b l l' i x a m1 s1 t1 g g'
 rm:dM (ay (fm E b a l g l' g') w) vs i x m
 ru:RL (ay (fm E b a l g l' g') w) u s
 rv:RL (ay (fm E b a l g l' g') w) v t
 ok:MOk i x m
 ms:pW i x s
 tr:gE i x m s t m1 s1 t1 C
theorem Mid.below {q:Mst} {p o:LSt} {C:Nat} (h:Mid E B w b l l' i x a m q s t p o g g' vs u v C) (j:Below w.heap.size w w'):Mid E B w' b l l' i x a m q s t p o g g' vs u v C:=
 ⟨h.wl.below j,du h.rm (cX j),eh h.ru (cX j),eh h.rv (cX j),h.ok,h.ms,h.tr⟩
theorem Jnt.do_ {J:Mst} {H A:LSt} {C:Nat} (h:Jnt E B w b l l' i x a m s t g g' vs u v) (hs:cU i) (j:t.msgs.length<100000000000)
  (q: -9223372036854775808≤i.cfg.rate∧i.cfg.rate≤9223372036854775807) (y: -9223372036854775808≤i.cfg.mom∧i.cfg.mom≤9223372036854775807) (hr:gE i x m s t J H A C):
  Calls Tryz.prog 17 #[.pointer (some ⟨b,0,none⟩),.pointer (some ⟨l,0,none⟩),.pointer (some ⟨l',0,none⟩)] w fun e w'=>e=.returned (KL (C:Nat))∧
   ∃p o,Mid E B w' b l l' i x p m J s t H A g o vs u v C∧Keep (kW b a l g l' g') w w'∧∀k,kW b p l g l' o k→kW b a l g l' g' k∨w.heap.size≤k:=by
 refine (GH h.wl hs h.ok h.ms j q y hr).mono ?_
 rintro e w' ⟨he,p,o,h1,D,I⟩
 have hx:Ext (ay (fm E b a l g l' g') w) (ay (fm E b p l g l' o) w'):=cu (D.mono fun k _ e=>.inl e) (fun k L e=>e.elim (fun e=>(I k e).elim .inl (fun e=>by omega)) .inr)
 exact ⟨he,p,o,⟨h1,du h.rm hx,eh h.ru hx,eh h.rv hx,h.ok,h.ms,hr⟩,D,I⟩
theorem Mid.rdo {J:Mst} {H D:LSt} {C:Nat} (h:Mid E B w b l l' i x a m J s t H D g g' vs u v C) (hs:cU i) (p:t.recv≤t.msgs.length) (q:s.msgs.length≤100000000000) (y:t.msgs.length≤100000000000) (A:x<i.cfg.workers.toNat):
  Calls Tryz.prog 24 #[.agg vs,.agg u,.agg v] w fun e w'=>∃j o v1,e=.returned (.tuple #[.agg j,.agg o,.agg v1,KL (C:Nat)])∧j.size=22∧j.toList.all (·.oneCell')=true∧Jnt E B w' b l l' i x a J H D g g' j o v1∧Below w.heap.size w w':=by
 refine (Gg h.wl.sl h.rm h.ru h.rv hs h.ok h.ms p q y A h.tr).mono ?_
 rintro e w' ⟨j,o,v1,he,h1,L,Q,N,O,I⟩
 exact ⟨j,o,v1,he,h1,L,⟨h.wl.below I,Q,N,O,h.tr.ok hs h.ok,(h.tr.msgs h.ms).1⟩,I⟩
theorem Jnt.en (h:Jnt E B w b l l' i x a m s t g g' vs u v) {q:Mst} {p o:LSt} {C:Nat} (hs:cU i) (j:t.msgs.length<100000000000) (hr:gE i x m s t q p o C):
  Calls Tryz.prog 18 #[.pointer (some ⟨b,0,none⟩),.pointer (some ⟨l,0,none⟩),.pointer (some ⟨l',0,none⟩)] w fun e w'=>e=.returned (.bool (decide (C=0)))∧Below w.heap.size w w':=GC h.wl hs h.ok j hr
end
end Go.Proofs.YtaccfnffmbndhaaGreat
