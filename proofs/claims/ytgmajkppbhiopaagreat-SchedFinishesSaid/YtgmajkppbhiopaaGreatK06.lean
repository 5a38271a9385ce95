/- No condition. -/
import Derived.Test.YtgmajkppbhiopaaGreatK05
import Derived.Maps.OwnSet
import Derived.Maps.OwnOps
set_option linter.unusedSimpArgs false
set_option linter.unusedVariables false
set_option maxRecDepth 100000
set_option maxHeartbeats 4000000
namespace Go.Proofs.YtgmajkppbhiopaaGreat
open Go.RowKit Tryz
variable {a:Acn} {f:Func} {i:Inp} {most:Int} {y:Itm} {l:List Itm} {m:Mst} {W X base bk c j k n nx ph q r s st wi x:Nat} {g:Nat->Int} {S:Nat->Prop} {A:Nat×Nat} {p:Pln} {vs:R6} {w:R8} {P:R8->Prop} {b:Rg} {v:Value} {M M0:WSt}
def me {σ:Type} (fin:σ->Bool) (st:σ->Int->σ×Bool) (n:Nat):Nat->Nat->σ->σ×Nat
 | 0,p,s=>(s,p)
 | f+1,p,s=>if fin s then (s,p) else me fin st n f (p+1) (st s ((p%n:Nat):Int)).1
theorem OS (z:Int) (w:R8):Vj 21 #[.pointer none,QZ z] w λe h=>Vi e (.tuple #[QZ 0,.bool true])/\aq w h:=by
 have H:=aa (λh=>EW h);go_enter func21,ntmps21;go_wp2;go_step3;go_wp2;go_step3;go_wp2_with fail;refine (H.o _).mono ?_;rintro e x ⟨rfl,i⟩;have u:=aa i;clear i;go_wp2_with fail;refine (H.o _).mono ?_;rintro e y ⟨rfl,p⟩;have v:=aa (bt u.o p);clear p;go_wp2_with fail;simp only [Exit.noGoto];go_ret2;exact ⟨rfl,v.o⟩
theorem IW {σ:Type} {st:σ->Int->σ×Bool} {fin:σ->Bool} {I:R8->σ->Prop} {s:σ} (hn:1<=n) (aM:n<=1000) (hm:most<=1000000) (hb:∀w s,I w s->∃AW cw v1 v2,Vg w X #[.slice AW n cw,v1,v2] 96) (hd:∀w s,I w s->Vj 32 #[(au X)] w λe O=>Vi e (.bool (fin s))/\I O s) (hp:∀w s (z:Nat),I w s->z<n->Vj 15 #[(au X),Vd z] w λe O=>Vi e (.bool (st s z).2)/\I O (st s z).1) (h0:I w s):Vj 21 #[(au X),QZ most] w λe O=>Vi e (.tuple #[QZ ((me fin st n most.toNat 0 s).2:Nat),.bool (fin (me fin st n most.toNat 0 s).1)])/\I O (me fin st n most.toNat 0 s).1:=by
 have ⟨Hb,Hd,Hp,H0⟩:=ag hb hd hp h0;clear hb hd hp h0;go_enter func21,ntmps21;go_wp2_with fail;refine wp_scope_jumps 0 (λa' O=>∃(p:Nat) (s':σ) (u6 u7 u8 u9 V U a3 a9 a8 av a4 a1 a5 ab Y a2 a7 a6 ad a0 ao:Value),a'={tmps:=#[(au X),QZ most,undef,undef,Vd p,.bool false,u6,u7,u8,u9,V,U,a3,a9,a8,av,a4,a1,a5,ab,Y,a2,a7,a6,ad,a0,ao],defers:=[]}/\(p:Int)<=1000000/\I O s'/\me fin st n (most-p).toNat p s'=me fin st n most.toNat 0 s) (λa' _=>(most-intOf (a'.tmps.getD 4 undef)).toNat) rfl ?_ ?_
 .go_wp2;go_step3;go_wp2_with fail;refine (Hd.o _ _ H0.o).mono ?_;rintro e w1 ⟨rfl,H⟩;have A:=aa H;clear H;have ⟨B,u⟩:=Vb (fin s);rw [u];have y:=aa (u▸Hd.o _ _ A.o);by_cases v:B=true\/most<=0
  .have hS:me fin st n most.toNat 0 s=(s,0):=by
    have h0:most.toNat=(most-0).toNat:=by rw [Int.sub_zero]
    rw [h0];rcases v with h | h
    .rw [h] at u
     cases (most-0).toNat with
     | zero=>rfl
     | succ f=>simp [me,u]
    .rw [show (most-0).toNat=0 by omega];rfl
   have ⟨HS,C⟩:=ae hS u;have Q:B=false->most<=0:=λh=>v.resolve_left (by rw [h];simp);clear v hS u
   cases B with
   | true=>
    go_wp2_with fail;refine y.o.mono ?_;rintro e w2 ⟨rfl,i⟩;have x:=aa i;clear i;go_wp2_with fail;simp only [Exit.jump];go_ret2;rw [HS.o];exact ⟨by rw [C.o];rfl,x.o⟩
   | false=>
    have R:most<=0:=Q rfl;go_wp2_with fail;refine y.o.mono ?_;rintro e w2 ⟨rfl,i⟩;have x:=aa i;clear i;go_wp2_with fail;simp only [Exit.jump];go_ret2;rw [HS.o];exact ⟨by rw [C.o];rfl,x.o⟩
  .obtain rfl:B=false:=by cases B with | true=>exact absurd (.inl rfl) v | false=>rfl
   have R:¬most<=0:=λh=>v (.inr h);have ⟨r,hr⟩:=Vb (0%n);have hz:r<n:=by rw [<-hr];exact Nat.mod_lt _ ap
   have J:=Hp.o _ _ r A.o hz;have ⟨AW,cw,v1,v2,D⟩:=Hb.o _ _ A.o;have tb:=bx3 D;have L:((0:Nat):Int)%(n:Int)=(r:Int):=by rw [<-hr];omega
   have T:(((0:Nat):Int)).tmod (n:Int)=(r:Int):=by rw [Int.tmod_eq_emod_of_nonneg ap];exact L
   have aG:¬(n=0):=ap;have Z:IntKind.i64.wrap (r:Int)=(r:Int):=P3 _ ap;have w4:IntKind.i64.wrap (((0:Nat):Int).tmod (n:Int))=(r:Int):=by rw [T];exact Z
   have w5:IntKind.i64.wrap (((0:Nat):Int)%(n:Int))=(r:Int):=by rw [L];exact Z
   have w6:IntKind.i64.wrap (((0:Nat):Int)+1)=((0:Nat):Int)+1:=P3 _ ap;have ⟨N,Hr⟩:=ae J hr;clear J D y v hz hr;go_wp2_with fail;rw [show r=0 by rw [<-Hr.o];exact Nat.zero_mod n] at N;refine N.o.mono ?_;rintro e w2 ⟨rfl,i⟩;have x:=aa i;clear i tb;go_wp2;go_step3;refine ⟨rfl,1,(st s 0).1,_,_,_,_,_,_,_,_,_,_,_,_,_,_,_,_,_,_,_,_,_,rfl,ap,x.o,?_⟩;rw [show most.toNat=(most-1).toNat+1 by omega,me,if_neg (by rw [u];simp)];rfl
 .rintro a' O ⟨p,s',u6,u7,u8,u9,V,U,a3,a9,a8,av,a4,a1,a5,ab,Y,a2,a7,a6,ad,a0,ao,rfl,hp,hI,hs⟩;go_wp2_with fail;refine (Hd.o _ _ hI).mono ?_;rintro e w1 ⟨rfl,H⟩;have A:=aa H;clear H;have ⟨B,u⟩:=Vb (fin s');rw [u];have y:=aa (u▸Hd.o _ _ A.o);by_cases v:B=true\/most<=(p:Int)
  .have hS:me fin st n most.toNat 0 s=(s',p):=by
    rw [<-hs];rcases v with h | h
    .rw [h] at u
     cases (most-(p:Int)).toNat with
     | zero=>rfl
     | succ f=>simp [me,u]
    .rw [show (most-(p:Int)).toNat=0 by omega];rfl
   have ⟨HS,C⟩:=ae hS u;have Q:B=false->most<=(p:Int):=λh=>v.resolve_left (by rw [h];simp);clear v hS u
   cases B with
   | true=>
    go_wp2_with fail;refine y.o.mono ?_;rintro e w2 ⟨rfl,i⟩;have x:=aa i;clear i;go_wp2_with fail;simp only [Exit.jump];go_ret2;rw [HS.o];exact ⟨by rw [C.o];rfl,x.o⟩
   | false=>
    have R:most<=(p:Int):=Q rfl;go_wp2_with fail;refine y.o.mono ?_;rintro e w2 ⟨rfl,i⟩;have x:=aa i;clear i;go_wp2_with fail;simp only [Exit.jump];go_ret2;rw [HS.o];exact ⟨by rw [C.o];rfl,x.o⟩
  .obtain rfl:B=false:=by cases B with | true=>exact absurd (.inl rfl) v | false=>rfl
   have R:¬most<=(p:Int):=λh=>v (.inr h);have ⟨r,hr⟩:=Vb (p%n);have hz:r<n:=by rw [<-hr];exact Nat.mod_lt _ ap
   have J:=Hp.o _ _ r A.o hz;have ⟨AW,cw,v1,v2,D⟩:=Hb.o _ _ A.o;have tb:=bx3 D;have L:((p:Nat):Int)%(n:Int)=(r:Int):=by rw [<-hr];omega
   have T:(((p:Nat):Int)).tmod (n:Int)=(r:Int):=by rw [Int.tmod_eq_emod_of_nonneg ap];exact L
   have aG:¬(n=0):=ap;have Z:IntKind.i64.wrap (r:Int)=(r:Int):=P3 _ ap;have w4:IntKind.i64.wrap (((p:Nat):Int).tmod (n:Int))=(r:Int):=by rw [T];exact Z
   have w5:IntKind.i64.wrap (((p:Nat):Int)%(n:Int))=(r:Int):=by rw [L];exact Z
   have w6:IntKind.i64.wrap (((p:Nat):Int)+1)=((p:Nat):Int)+1:=P3 _ ap;have ⟨N,Hr⟩:=ae J hr;clear J D y v hz hr;go_wp2_with fail;refine N.o.mono ?_;rintro e w2 ⟨rfl,i⟩;have x:=aa i;clear i tb;go_wp2;go_step3;refine ⟨rfl,⟨p+1,(st s' ((r:Nat):Int)).1,_,_,_,_,_,_,_,_,_,_,_,_,_,_,_,_,_,_,_,_,_,rfl,ap,x.o,?_⟩,?_⟩
   .rw [<-hs,show (most-(p:Int)).toNat=(most-((p+1:Nat):Int)).toNat+1 by omega]
    show _=(if fin s'=true then _ else _)
    rw [if_neg (by rw [u];simp),Hr.o]
   .simp [intOf];omega
noncomputable def AN (i:Inp) (M:WSt):Bool:=open Classical in decide (M.fin i)
theorem uM:AN i M=true↔M.fin i:=by unfold AN;exact @decide_eq_true_iff _ (Classical.propDecidable _)
noncomputable def C3 (i:Inp) (M:WSt) (most:Int):WSt×Nat:=me (AN i) (pkZ i) (ax i).W most.toNat 0 M
theorem AK {σ:Type} {fin:σ->Bool} {st:σ->Int->σ×Bool} {Q:σ->Prop} (i:∀s z,Q s->Q (st s z).1):∀f p s,Q s->Q (me fin st n f p s).1
 | 0,_,_,h=>h
 | f+1,p,s,h=>by
  unfold me
  split
  .exact h
  .exact AK i f _ _ (i _ _ h)
theorem pt {P:Program} {x y z:Tmp} {o:R9} (h:f.results=#[.cell x o,.tmp y,.tmp z]) {tmps:R6} {b:Nat} {xs:R6} {t:R9} (v:tmps.getD x undef=(au b)) (hb:w.heap[b]?=some (.cells xs t A)) (hr:dg P o xs.size):(results f tmps).run P w=.ok (.tuple #[.agg xs,tmps.getD y undef,tmps.getD z undef]) w:=by
 obtain ⟨⟨d,h1,p⟩,u⟩:=hr;have:=run_loadVar_mid (P:=P) w b 0 o xs.toList d (eF hb 0 (by rw [Qs,QF])) h1 p (by simpa using u);rw [Array.toArray_toList] at this;have i:tmps[x]?.getD undef=(au b):=by simpa using v
 simp [results,h,i,asAddr,this]
def OE {σ:Type} (J:R8->R6->σ->Prop) (S:Nat->Prop) (r:σ×Nat) (b:Bool) (w:R8) (e:Ending) (i:R8):Prop:=
 ∃h:R6,e=.returned (.tuple #[.agg h,QZ (r.2:Nat),.bool b])/\h.size=3/\h.toList.all (·.oneCell')=true/\J (aH S i) h r.1/\aq w i
theorem Jn {σ:Type} {st:σ->Int->σ×Bool} {fin:σ->Bool} {J:R8->R6->σ->Prop} {s:σ} (hn:1<=n) (b4:n<=1000) (hm:most<=1000000) (hS:∀k,S k->k<w.heap.size) (hJ:∀u v vs s,J u vs s->Ext u v->J v vs s) (hL:∀u vs s,J u vs s->∃U cm v1 v2,vs=#[.slice U n cm,v1,v2]) (hd:∀w vs s,J w vs s->Vj 33 #[.agg vs] w λe x=>Vi e (.bool (fin s))/\aq w x) (hp:∀(S:Nat->Prop) w vs s (z:Nat),(∀k,S k->k<w.heap.size)->J (aH S w) vs s->z<n->Vj 16 #[.agg vs,Vd z] w (LX J S (st s (z:Nat)).1 (st s (z:Nat)).2 w)) (h0:J (aH S w) vs s) (hz:vs.size=3) (ho:vs.toList.all (·.oneCell')=true):Vj 22 #[.agg vs,QZ most] w (OE J S (me fin st n most.toNat 0 s) (fin (me fin st n most.toNat 0 s).1) w):=by
 obtain ⟨W0,L⟩:=Vb ((w.alloc (.cells vs 39)).alloc (.cells #[Ra,Ra,QZ 0] 39));have g0:Vg W0 w.heap.size vs 39:=by rw [<-L];exact sb (PW w _) _ ((br _).alloc (PV _) _)
 have g1:Vg W0 (w.heap.size+1) #[Ra,Ra,QZ 0] 39:=by rw [<-L];have:=PW (w.alloc (.cells vs 39)) (.cells #[Ra,Ra,QZ 0] 39);rwa [Qg] at this
 have q0:aq w W0:=by rw [<-L];exact ((br w).alloc (PV _) _).alloc (by rw [Qg];omega) _
 have a5:W0.heap.size=w.heap.size+2:=by rw [<-L];simp
 have j0:J (aH (λk=>S k\/k=w.heap.size\/k=w.heap.size+1) W0) vs s:=hJ _ _ _ _ h0 (bC (Keep.below q0) λk hk e=>e.elim id λe=>ap);obtain ⟨Fr,I⟩:=Vb (me fin st n most.toNat 0 s);rw [I];obtain ⟨HP,H,HL,HD,b1,G0,G1,Q0⟩:=ak hp hJ hL hd L g0 g1 q0;obtain ⟨J0,HZ,HO,HS,aG,ao⟩:=ai j0 hz ho hS a5 (show me fin st n (most-((0:Nat):Int)).toNat 0 s=Fr by rw [<-I];simp);clear hp hJ hL hd h0 L g0 g1 q0 j0 hz ho hS a5 I;go_enter func22,ntmps22;go_wp2_with fail;rw [b1.o]
 go_loopw [7] (λv wr=>∃(p:Nat) (s':σ) (Q:R6),v=Vd p/\(p:Int)<=1000000/\me fin st n (most-(p:Int)).toNat p s'=Fr/\Vg wr w.heap.size Q 39/\Vg wr (w.heap.size+1) #[Ra,Ra,QZ 0] 39/\Q.size=3/\Q.toList.all (·.oneCell')=true/\J (aH (λk=>S k\/k=w.heap.size\/k=w.heap.size+1) wr) Q s'/\aq w wr/\w.heap.size+2<=wr.heap.size) (λv _=>(most-intOf v).toNat)
 .exact ⟨0,s,vs,rfl,ap,ao.o,G0.o,G1.o,HZ.o,HO.o,J0.o,Q0.o,by rw [aG.o];omega⟩
 case round=>
  obtain ⟨p,s',Q,rfl,hp,hF,gx,gy,zz,oo,jj,qq,ss⟩:=hrel;obtain ⟨U,cm,v1,v2,rfl⟩:=HL.o _ _ _ jj;have a2:=HD.o wr _ _ (H.o _ _ _ _ jj (dO _ _));obtain ⟨fb,a4⟩:=Vb (fin s');rw [a4] at a2;obtain ⟨GX,GY,OO,JJ,QQ,O,HF,ad⟩:=ak gx gy oo jj qq a2 hF a4;clear gx gy oo jj qq a2 hF a4 ao;by_cases Z:(p:Int)<most/\fb=false
  .obtain ⟨ab,rfl⟩:=Z;go_wp2_with (refine mw #[.slice U n cm,v1,v2] (b:=w.heap.size) (o:=0) GX.o bW rfl rfl rfl rfl ?_);refine O.o.mono ?_;rintro e i ⟨rfl,A⟩;obtain ⟨K5,B,T,J5,Q5⟩:=ah A (sb GX.o i A) (sb GY.o i A) (H.o _ _ _ _ JJ.o (dI A)) (bt QQ.o A);have a8:=P4 ss A.size;clear A GX GY JJ QQ O;go_upto_region 3 with (fail);obtain ⟨r,hr⟩:=Vb (p%n);have hz:r<n:=by rw [<-hr];exact Nat.mod_lt _ ap
   have a6:((p:Nat):Int)%(n:Int)=(r:Int):=by rw [<-hr];omega
   have aP:(((p:Nat):Int)).tmod (n:Int)=(r:Int):=by rw [Int.tmod_eq_emod_of_nonneg ap];exact a6
   have b5:¬(n=0):=ap;have w3:IntKind.i64.wrap (r:Int)=(r:Int):=P3 _ ap;have w4:IntKind.i64.wrap (((p:Nat):Int).tmod (n:Int))=(r:Int):=by rw [aP];exact w3
   have b2:IntKind.i64.wrap (((p:Nat):Int)%(n:Int))=(r:Int):=by rw [a6];exact w3
   have b3:IntKind.i64.wrap (((p:Nat):Int)+1)=((p:Nat):Int)+1:=P3 _ ap;have Hr:=aa hr;clear hr;have t0:=λx q=>bx3 (sb B.o x q);have s0:=(br i).drew;have j1:=H.o _ _ _ _ J5.o (bC (S':=(λk=>S k\/k=w.heap.size\/k=w.heap.size+1)) ((Keep.refl (λk=>S k\/k=w.heap.size\/k=w.heap.size+1) i).drew) (λ_ _ e=>e))
   have a9:∀k,(λk=>S k\/k=w.heap.size\/k=w.heap.size+1) k->k<i.heap.size:=λk e=>by
    rcases e with e | e | e
    .have:=HS.o k e;omega
    .omega
    .omega
   refine XA.g 10 (λx:R8=>aq i x) ?_;refine XA.ld 0 #[.slice U n cm,v1,v2] (λx q=>sb B.o x q) bW s0 ?_;refine XA.t ?_ [1,2,3,4,5] s0 ?_;refine XA.c 6 (HP.o (λk=>S k\/k=w.heap.size\/k=w.heap.size+1) i.drew _ s' r a9 j1 hz) ?_;rintro e w6 ⟨b0,rfl,z2,o2,j2,k6⟩;have y:=bt s0 k6;refine ⟨_,rfl,y,λ_=>?_⟩;refine XA.t ?_ [7,8] y ?_;refine XA.t0 ?_ [9] y ?_;refine XA.e ?_;simp only [Qq,Qs];obtain ⟨av,a7,Y,J2,Z2,O2⟩:=ai (sb B.o w6 y) (sb T.o w6 y) y j2 z2 o2;clear j2 z2 o2 y k6 s0 j1 a9 t0;go_wp2_with (refine aI (b:=w.heap.size) av.o bW rfl rfl rfl rfl Z2.o (by rw [Z2.o];rfl) O2.o ?_;intro w7 e7 N;obtain ⟨E7,V⟩:=ae e7 N;clear e7 N);have aM:=aa ((V.o.block _ (PU a7.o) ap).trans a7.o);have Q7:=aa ((bt Q5.o Y.o).trans (V.o.toBelow (bt Q5.o Y.o).size (λj e=>ap)));have J7:=aa (H.o _ _ _ _ J2.o (bC (S':=(λk=>S k\/k=w.heap.size\/k=w.heap.size+1)) (V.o.mono λk _ e=>.inr (.inl e)) (λ_ _ e=>e)));have aR:w.heap.size+2<=w7.heap.size:=by have:=Y.o.size;have:=V.o.size;omega
   go_roundw
   case rel=>
    refine ⟨p+1,_,b0,Vc,ap,?_,E7.o,aM.o,Z2.o,O2.o,J7.o,Q7.o,aR⟩;rw [<-HF.o,show (most-(p:Int)).toNat=(most-((p+1:Nat):Int)).toNat+1 by omega]
    show _=(if fin s'=true then _ else _)
    rw [if_neg (by rw [ad.o];simp),Hr.o]
   case measure=>exact Va
  .have I:Fr=(s',p):=by
    rw [<-HF.o];by_cases h:(p:Int)<most
    .have hf:fin s'=true:=by
      cases fb with
      | true=>exact ad.o
      | false=>exact absurd ⟨h,rfl⟩ Z
     cases (most-(p:Int)).toNat with
     | zero=>rfl
     | succ f=>simp [me,hf]
    .rw [show (most-(p:Int)).toNat=0 by omega];rfl
   have a0:=aa I
   have a3:¬(p:Int)<most\/fb=true:=by
    by_cases h:(p:Int)<most
    .right;cases fb with | true=>rfl | false=>exact absurd ⟨h,rfl⟩ Z
    .exact .inl h
   clear I Z;by_cases ab:(p:Int)<most
   .obtain rfl:fb=true:=a3.resolve_left (λh=>h ab);go_wp2_with (refine mw #[.slice U n cm,v1,v2] (b:=w.heap.size) (o:=0) GX.o bW rfl rfl rfl rfl ?_);refine O.o.mono ?_;rintro e i ⟨rfl,A⟩;obtain ⟨B,T⟩:=ae (sb GX.o i A) (sb GY.o i A);have j5:=H.o _ _ _ _ JJ.o (dI (S:=(λk=>S k\/k=w.heap.size\/k=w.heap.size+1)) A);have Q5:=aa (bt QQ.o A);have R:=λx (q:aq i x)=>HD.o x _ _ (H.o _ _ _ _ (H.o _ _ _ _ j5 (dI q)) (dO _ _));obtain ⟨a1,J5⟩:=ae R j5;have a8:=P4 ss A.size;clear A GX GY JJ QQ O R j5;go_upto_region 5 with (fail);have s0:=(br i).drew;have D:∀x,Keep (λk=>k=w.heap.size+1) i x->Vg x w.heap.size #[.slice U n cm,v1,v2] 39:=λx k=>(k.block _ (PU B.o) ap).trans B.o;have C:Keep (λk=>k=w.heap.size+1) i i.drew:=Keep.below s0;refine HA.g (λx:R8=>Keep (λk=>k=w.heap.size+1) i x) ?_;refine HA.ld 0 #[.slice U n cm,v1,v2] D bW C ?_;refine HA.t ?_ [1] C ?_;refine HA.ld 2 #[.slice U n cm,v1,v2] D bW C ?_;refine HA.c 3 (a1.o i.drew s0) ?_;rintro e w6 ⟨rfl,k6⟩;have y:=bt s0 k6;refine ⟨_,rfl,Keep.below y,λ_=>?_⟩;refine HA.st 4 (sb T.o w6 y) bW (λw7 e7 N=>⟨(Keep.below y).trans (N.mono λ_ _ e=>e),?_⟩) (h1:=OO.o);refine HA.t ?_ [5,6] ((Keep.below y).trans (N.mono λ_ _ e=>e)) ?_;refine HA.d ?_;obtain ⟨E7,V,Y⟩:=af e7 N y;clear k6 s0 y C D e7 N;go_wp2_with fail
    try simp only [Exit.inBlock,Exit.then]
    refine Qd (pt rfl rfl E7.o bW) rfl ?_;rw [a0.o];have q6:=bt Q5.o Y.o;exact ⟨_,rfl,rfl,OO.o,H.o _ _ _ _ (H.o _ _ _ _ J5.o (dI Y.o)) (bC (V.o.mono λk _ e=>.inr (.inr e)) (λ_ _ e=>.inl e)),q6.trans (V.o.toBelow q6.size (λj e=>ap))⟩
   .obtain ⟨i,A,rfl⟩:∃i,aq wr i/\i=wr:=⟨wr,br wr,rfl⟩;obtain ⟨B,T⟩:=ae (sb GX.o i A) (sb GY.o i A);have j5:=H.o _ _ _ _ JJ.o (dI (S:=(λk=>S k\/k=w.heap.size\/k=w.heap.size+1)) A);have Q5:=aa (bt QQ.o A);have R:=λx (q:aq i x)=>HD.o x _ _ (H.o _ _ _ _ (H.o _ _ _ _ j5 (dI q)) (dO _ _));obtain ⟨a1,J5⟩:=ae R j5;have a8:=P4 ss A.size;clear A GX GY JJ QQ O R j5;go_upto_region 5 with (fail);have s0:=(br i).drew;have D:∀x,Keep (λk=>k=w.heap.size+1) i x->Vg x w.heap.size #[.slice U n cm,v1,v2] 39:=λx k=>(k.block _ (PU B.o) ap).trans B.o;have C:Keep (λk=>k=w.heap.size+1) i i.drew:=Keep.below s0;refine HA.g (λx:R8=>Keep (λk=>k=w.heap.size+1) i x) ?_;refine HA.ld 0 #[.slice U n cm,v1,v2] D bW C ?_;refine HA.t ?_ [1] C ?_;refine HA.ld 2 #[.slice U n cm,v1,v2] D bW C ?_;refine HA.c 3 (a1.o i.drew s0) ?_;rintro e w6 ⟨rfl,k6⟩;have y:=bt s0 k6;refine ⟨_,rfl,Keep.below y,λ_=>?_⟩;refine HA.st 4 (sb T.o w6 y) bW (λw7 e7 N=>⟨(Keep.below y).trans (N.mono λ_ _ e=>e),?_⟩) (h1:=OO.o);refine HA.t ?_ [5,6] ((Keep.below y).trans (N.mono λ_ _ e=>e)) ?_;refine HA.d ?_;obtain ⟨E7,V,Y⟩:=af e7 N y;clear k6 s0 y C D e7 N;go_wp2_with fail
    try simp only [Exit.inBlock,Exit.then]
    refine Qd (pt rfl rfl E7.o bW) rfl ?_;rw [a0.o];have q6:=bt Q5.o Y.o;exact ⟨_,rfl,rfl,OO.o,H.o _ _ _ _ (H.o _ _ _ _ J5.o (dI Y.o)) (bC (V.o.mono λk _ e=>.inr (.inr e)) (λ_ _ e=>.inl e)),q6.trans (V.o.toBelow q6.size (λj e=>ap))⟩
theorem WB.fin {V:R8} {Y:Nat} (h:WB P Y vs i V X M w) (hP:vH P) (hs:bK i) (x: -9223372036854775808<=i.cfg.rate/\i.cfg.rate<=9223372036854775807) (y: -9223372036854775808<=i.cfg.mom/\i.cfg.mom<=9223372036854775807) (hm:most<=1000000):Vj 21 #[(au X),QZ most] w λe o=>Vi e (.tuple #[QZ ((C3 i M most).2:Nat),.bool (AN i (C3 i M most).1)])/\WB P Y vs i V X (C3 i M most).1 o:=by
 have L:=hs.ok.W8;have v:1<=(ax i).W:=by have:=hs.g.c.w;simp only [ax];omega
 refine IW (st:=pkZ i) (fin:=AN i) (I:=λo u=>WB P Y vs i V X u o) v ap hm (λo u p=>?_) (λo u p=>?_) (λo u z p _=>p.pick hP hs x y z) h
 .obtain ⟨⟨D,B,rfl,C, -⟩, -⟩:=p.j.win;obtain ⟨H,J,N,Q,A,R,O⟩:=C.rows;exact ⟨H,J,_,_,A⟩
 .refine (p.j.win.done hs uM).mono ?_;rintro e T ⟨he,q⟩;exact ⟨he,p.below hP q⟩
theorem OV (hs:bK i) (hm:most<=1000000) (y:∀k,S k->k<w.heap.size) (h:RWm (aH S w) vs i M):Vj 22 #[.agg vs,QZ most] w (OE (λu vs M=>RWm u vs i M) S (C3 i M most) (AN i (C3 i M most).1) w):=by
 have x:=hs.ok.W8;have p:1<=(ax i).W:=by have:=hs.g.c.w;simp only [ax];omega
 refine Jn (st:=pkZ i) (fin:=AN i) p ap hm y (λ_ _ _ _ h e=>h.ext e) (λu vs M h=>?_) (λw vs M h=>I7 hs h uM) (λS w vs M z o v _=>I6 hs o v z) h h.sz.1 h.sz.2;obtain ⟨⟨mv,D,⟨⟨C,cm,A,B,rfl, -⟩, -, -⟩, -, -⟩, -⟩:=h;exact ⟨_,_,_,_,rfl⟩
theorem Im (a b:Int):wrap64 (wrap64 a+b)=wrap64 (a+b):=by unfold wrap64;omega
theorem Dv (a b:Int):wrap64 (wrap64 a+wrap64 b)=wrap64 (a+b):=by unfold wrap64;omega
theorem Ik (a:Int):wrap64 (wrap64 a)=wrap64 a:=by unfold wrap64;omega
def jh (i:Inp) (P:Q_) (k:Nat):Rl->Int
 | []=>0
 | x::l=>nth (fR i.cfg.sizes P i.cfg.shift x.1 x.2) k+jh i P k l
theorem vU (i:Inp) (P:Q_) (k:Nat) (b:Rl):∀a:Rl,jh i P k (a++b)=jh i P k a+jh i P k b
 | []=>by simp [jh]
 | x::a=>by have:=vU i P k b a;simp only [List.cons_append,jh,this];omega
theorem sD (i:Inp) (P:Q_) (hk:k<cnt i) (l:Rl):nth (dE i P l) k=wrap64 (jh i P k l):=by
 have h:∀(l:Rl) (a:Q_),a.length=cnt i->nth (l.foldl (λa x=>eT a (fR i.cfg.sizes P i.cfg.shift x.1 x.2)) a) k=wrap64 (nth a k+jh i P k l)\/l=[]:=by
  intro l
  induction l with
  | nil=>intro a _;exact .inr rfl
  | cons x l ih=>
   intro a o;have e:nth (eT a (fR i.cfg.sizes P i.cfg.shift x.1 x.2)) k=wrap64 (nth a k+nth (fR i.cfg.sizes P i.cfg.shift x.1 x.2) k):=bJ _ ap;rw [List.foldl_cons];rcases ih (eT a (fR i.cfg.sizes P i.cfg.shift x.1 x.2)) (by rw [gK];exact o) with h | rfl
   .rw [h,e,Im];left;simp only [jh];congr 1;omega
   .left;rw [List.foldl_nil,e];simp [jh]
 rcases h l (List.replicate (cnt i) 0) V3 with h | rfl
 .unfold dE;rw [h];congr 1;simp [nth,hk]
 .simp [dE,nth,hk,jh,wrap64]
def ry (i:Inp) (z st k:Nat):Q_:=(List.range k).foldl (λg a=>dh i (dq i st).1 g (cI i.data (oY i z st a))) (List.replicate i.start.length 0)
def CM (i:Inp) (z st:Nat):Q_:=ry i z st (ax i).mi
theorem wU (i:Inp) (z st k:Nat):ry i z st (k+1)=dh i (dq i st).1 (ry i z st k) (cI i.data (oY i z st k)):=by
 unfold ry;rw [QL,List.foldl_append];rfl
theorem vD (i:Inp) (P:Q_):∀(l:Rl) (G:Q_),(dh i P G l).length=G.length:=by
 intro l
 induction l with
 | nil=>intro G;rfl
 | cons x l ih=>intro G;show (dh i P (eT G _) l).length=_;rw [ih,gK]
theorem Ku (i:Inp) (z st:Nat):∀k,(ry i z st k).length=i.start.length:=by
 intro k
 induction k with
 | zero=>simp [ry]
 | succ k ih=>rw [wU,vD,ih]
def nh (i:Inp) (z st:Nat):Q_:=cQ (cN i.draws i.data.length i.cfg.batch.toNat st) i.cfg.workers.toNat z
theorem Kv (hs:bK i) (z st:Nat):CM i z st=dE i (dq i st).1 (cI i.data (nh i z st)):=by
 have h:0<(ax i).mi:=by have:=hs.g.c.mi;simp only [ax];omega
 unfold CM ry;have:=vC i (dq i st).1 (List.replicate i.start.length 0) i.data (nh i z st) (ax i).mi h;rw [hs.g.s] at this;rw [hs.g.s];exact this
theorem Au (hs:bK i) (z st:Nat) (h:q<i.start.length):nth (CM i z st) q=wrap64 (jh i (dq i st).1 q (cI i.data (nh i z st))):=by
 rw [Kv hs,sD i _ (by rw [<-hs.g.s];exact h)]
def pB (i:Inp) (st q:Nat):Int:=nth (pq i (dq i st).1 st) q
theorem BP (i:Inp) (P:Q_) (st q:Nat):∀k,jh i P q (cI i.data ((cN i.draws (Vo i) i.cfg.batch.toNat st).take (bdN (cN i.draws (Vo i) i.cfg.batch.toNat st).length i.cfg.workers.toNat k)))=((List.range k).map λz=>jh i P q (cI i.data (nh i z st))).sum:=by
 intro k
 induction k with
 | zero=>simp [bdN,cI,jh]
 | succ k ih=>
  rw [<-ug,QL,List.map_append,List.sum_append,<-ih];simp only [List.map_cons,List.map_nil,List.sum_cons,List.sum_nil,Int.add_zero];rw [show cI i.data (List.take (bdN (cN i.draws (Vo i) i.cfg.batch.toNat st).length i.cfg.workers.toNat k) (cN i.draws (Vo i) i.cfg.batch.toNat st)++cQ (cN i.draws (Vo i) i.cfg.batch.toNat st) i.cfg.workers.toNat k)=cI i.data (List.take (bdN (cN i.draws (Vo i) i.cfg.batch.toNat st).length i.cfg.workers.toNat k) (cN i.draws (Vo i) i.cfg.batch.toNat st))++cI i.data (nh i k st) by simp [cI,nh],vU]
theorem KO (hs:bK i) (st:Nat) (o:q<i.start.length):pB i st q=wrap64 ((List.range (ax i).W).map λz=>jh i (dq i st).1 q (cI i.data (nh i z st))).sum:=by
 have h:0<i.cfg.workers.toNat:=hs.ok.W1;unfold pB pq;rw [sD i _ (by rw [<-hs.g.s];exact o),<-BP i (dq i st).1 st q (ax i).W,show (ax i).W=i.cfg.workers.toNat from rfl,s9 _ _ h,QF]
def rq (i:Inp) (st s k q:Nat):Int:=wrap64 ((List.range (k+1)).map λd=>nth (CM i ((s+d)%(ax i).W) st) q).sum
theorem wC (hs:bK i) (st:Nat) (h:s<(ax i).W) (o:q<i.start.length):rq i st s 0 q=nth (CM i s st) q:=by
 unfold rq;simp only [QP,List.range_one,List.map_cons,List.map_nil,List.sum_cons,List.sum_nil,Nat.add_zero,Int.add_zero];rw [Nat.mod_eq_of_lt h,Au hs s st o,Ik]
theorem FC (i:Inp) (st s k q:Nat):wrap64 (nth (CM i ((s+(k+1))%(ax i).W) st) q+rq i st s k q)=rq i st s (k+1) q:=by
 unfold rq;rw [QL (n:=k+1),List.map_append,List.sum_append];simp only [List.map_cons,List.map_nil,List.sum_cons,List.sum_nil,Int.add_zero];rw [Int.add_comm,Im]
theorem Il (f:Nat->Int):∀n,wrap64 ((List.range n).map λd=>wrap64 (f d)).sum=wrap64 ((List.range n).map f).sum:=by
 intro n
 induction n with
 | zero=>rfl
 | succ n ih=>
  rw [QL,List.map_append,List.map_append,List.sum_append,List.sum_append];simp only [List.map_cons,List.map_nil,List.sum_cons,List.sum_nil,Int.add_zero];rw [<-Dv,ih,Ik,Dv]
theorem vT (f:Nat->Int) (a:Nat):∀b,((List.range (a+b)).map f).sum=((List.range a).map f).sum+((List.range b).map λd=>f (a+d)).sum:=by
 intro b
 induction b with
 | zero=>simp
 | succ b ih=>
  rw [<-QO,QL,List.map_append,List.sum_append,ih,QL,List.map_append,List.sum_append];simp only [List.map_cons,List.map_nil,List.sum_cons,List.sum_nil,Int.add_zero];omega
theorem jy {f:Nat->Int} (h:∀k,k<n->f k=g k):(List.range n).map f=(List.range n).map g:=List.map_congr_left λk hk=>h k (List.mem_range.1 hk)
theorem Mk (f:Nat->Int) (h:s<W):((List.range W).map λd=>f ((s+d)%W)).sum=((List.range W).map f).sum:=by
 have o:=vT (λd=>f ((s+d)%W)) (W-s) s;have i:=vT f s (W-s);rw [show W-s+s=W by omega] at o;rw [show s+(W-s)=W by omega] at i;rw [o,i,Int.add_comm]
 congr 2
 .exact jy λk hk=>by rw [show s+(W-s+k)=k+W by omega,Nat.add_mod_right,Nat.mod_eq_of_lt ap]
 .exact jy λk hk=>by rw [Nat.mod_eq_of_lt ap]
theorem ro (hs:bK i) (st:Nat) (h:s<(ax i).W) (o:q<i.start.length):rq i st s ((ax i).W-1) q=pB i st q:=by
 unfold rq;rw [show (ax i).W-1+1=(ax i).W by omega,Mk (λz=>nth (CM i z st) q) h,KO hs st o,<-Il (λz=>jh i (dq i st).1 q (cI i.data (nh i z st)))]
 congr 2
 exact jy λz _=>Au hs z st o
theorem iJ (h:a∈cF (aE p x st)):a.st=st/\a.ph<2/\a.rd<p.W-1/\a.bk<p.buks.length/\a∈db st a.bk (aK p.buks a.bk) p.W p.ck x a.ph a.rd:=by
 rw [jW] at h;simp only [nQ,nS,List.mem_flatMap,List.mem_range] at h;obtain ⟨k,hk,ph,i,r,hr,j,A,o⟩:=h;have ⟨h1,u,y,v,_⟩:=lX o;rw [h1,u,y,v];exact ⟨rfl,i,hr,ap,o⟩
theorem Nn (o:bU p) (h:ph<2) (hr:r<p.W-1) (v:bk<p.buks.length) (u:a∈db st bk (aK p.buks bk) p.W p.ck x ph r):a∈cF (aE p x st):=by
 rw [jW];simp only [nQ,nS,List.mem_flatMap,List.mem_range];have hw:=o.wi;have i:=Nat.div_add_mod bk p.wi;have hm:=Nat.mod_lt bk (show 0<p.wi by omega);rw [Nat.mul_comm] at i;refine ⟨bk/p.wi,?_,ph,h,r,hr,bk%p.wi,ap,by rw [i];exact u⟩;unfold di;rw [if_neg ap];have:bk/p.wi<=(p.buks.length-1)/p.wi:=Nat.div_le_div_right ap;omega
theorem rh:a∈db st bk b W c x ph r↔ (∃ch,ch<(chR (aK (dy b W) (cV W x ph r)) c).length/\a=⟨true,false,st,bk,ph,r,ch,aK (chR (aK (dy b W) (cV W x ph r)) c) ch⟩)\/ (∃ch,ch<(chR (aK (dy b W) (cH W x ph r)) c).length/\a=⟨false,ph==0,st,bk,ph,r,ch,aK (chR (aK (dy b W) (cH W x ph r)) c) ch⟩):=by
 unfold db iR;rw [List.mem_flatMap];constructor
 .rintro ⟨k,hk,h⟩;rw [QI] at h;rcases h with h | h<;>split at h
  .rename_i hl;exact .inl ⟨k,hl,by simpa using h⟩
  .simp at h
  .rename_i hl;exact .inr ⟨k,hl,by simpa using h⟩
  .simp at h
 .rintro (⟨ch,hl,rfl⟩ | ⟨ch,hl,rfl⟩)
  .exact ⟨ch,List.mem_range.2 ap,QI.2 (.inl (by rw [if_pos hl];simp))⟩
  .exact ⟨ch,List.mem_range.2 ap,QI.2 (.inr (by rw [if_pos hl];simp))⟩
def Cov (r:Rg) (q:Nat):Prop:=r.1<=q/\q<r.2
theorem xQ (h:s<W):aK (dy b W) s=(bdN (b.2-b.1) W s+b.1,bdN (b.2-b.1) W (s+1)+b.1):=by
 simp [aK,dy,shR,fT,List.getD,h]
theorem Eh {s:Rg} (h:k<(chR s c).length):aK (chR s c) k=(k*c+s.1,min (k*c+c) (s.2-s.1)+s.1)/\k<di (s.2-s.1) c:=by
 have hl:(chR s c).length=di (s.2-s.1) c:=by simp [chR,shR,fp]
 rw [hl] at h;exact ⟨by simp [aK,chR,shR,fp,List.getD,h],h⟩
theorem DE {s':Nat} (h:s<W) (p:s'<W) (c:Cov (aK (dy b W) s) q) (i:Cov (aK (dy b W) s') q):s=s':=by
 rw [xQ h] at c;rw [xQ p] at i;obtain ⟨c1,c2⟩:=c;obtain ⟨u,o⟩:=i;simp only at c1 c2 u o;rcases Nat.lt_trichotomy s s' with e | e | e
 .have:=kC (b.2-b.1) W (show s+1<=s' by omega);omega
 .exact e
 .have:=kC (b.2-b.1) W (show s'+1<=s by omega);omega
theorem NK (p:0<W) (h:Cov b q):∃s,s<W/\Cov (aK (dy b W) s) q:=by
 obtain ⟨h1,u⟩:=h
 have i:∀k,k<=W->q-b.1<bdN (b.2-b.1) W k->∃s,s<k/\bdN (b.2-b.1) W s<=q-b.1/\q-b.1<bdN (b.2-b.1) W (s+1):=by
  intro k
  induction k with
  | zero=>intro _ h;simp [bdN] at h
  | succ k ih=>
   intro hk h;by_cases o:q-b.1<bdN (b.2-b.1) W k
   .have ⟨s,hs,h⟩:=ih ap o;exact ⟨s,ap,h⟩
   .exact ⟨k,ap,ap,h⟩
 have ⟨s,hs,o,v⟩:=i W (PV _) (by rw [s9 _ _ p];omega);refine ⟨s,hs,?_⟩;rw [xQ hs];exact ⟨by simp only;omega,by simp only;omega⟩
theorem yD {s:Rg} (h:k<(chR s c).length) (hc:Cov (aK (chR s c) k) q):Cov s q:=by
 have ⟨e,_⟩:=Eh h;rw [e] at hc;obtain ⟨h1,i⟩:=hc;simp only at h1 i;exact ⟨ap,ap⟩
theorem On {s:Rg} {i:Nat} (h:k<(chR s c).length) (p:i<(chR s c).length) (hc:Cov (aK (chR s c) k) q) (o:Cov (aK (chR s c) i) q):k=i:=by
 rw [(Eh h).1] at hc;rw [(Eh p).1] at o;obtain ⟨h1,u⟩:=hc;obtain ⟨x,v⟩:=o;simp only at h1 u x v;rcases Nat.lt_trichotomy k i with e | e | e
 .have:=QY c (show k+1<=i by omega);rw [QM] at this;omega
 .exact e
 .have:=QY c (show i+1<=k by omega);rw [QM] at this;omega
theorem Pf {s:Rg} (hc:1<=c) (h:Cov s q):∃k,k<(chR s c).length/\Cov (aK (chR s c) k) q:=by
 obtain ⟨h1,o⟩:=h;have hl:(chR s c).length=di (s.2-s.1) c:=by simp [chR,shR,fp]
 have i:=Nat.div_add_mod (q-s.1) c;have hm:=Nat.mod_lt (q-s.1) (show 0<c by omega);rw [Nat.mul_comm] at i
 have hk:(q-s.1)/c<(chR s c).length:=by
  rw [hl];unfold di;rw [if_neg ap];have:(q-s.1)/c<=(s.2-s.1-1)/c:=Nat.div_le_div_right ap;omega
 refine ⟨_,hk,?_⟩;rw [(Eh hk).1];exact ⟨by simp only;omega,by simp only;omega⟩
theorem yG {i:Nat} (h:k<=i):bB n s i<=bB n s k:=by
 unfold bB;have:=QY s (show di n s-i<=di n s-k by omega);omega
theorem sZ (i:bU p) (h:j<p.buks.length):aK p.buks j=(bB p.n p.bu (j+1),bB p.n p.bu j):=by
 rw [Pln.buks,js] at h;exact (Dg i.bu h).1
theorem sY (u:bU p) {i:Nat} (x:j<p.buks.length) (o:i<p.buks.length) (h:Cov (aK p.buks j) q) (v:Cov (aK p.buks i) q):j=i:=by
 rw [sZ u x] at h;rw [sZ u o] at v;obtain ⟨h1,y⟩:=h;obtain ⟨B,A⟩:=v;simp only at h1 y B A;rcases Nat.lt_trichotomy j i with e | e | e
 .have:=yG (n:=p.n) (s:=p.bu) (show j+1<=i by omega);omega
 .exact e
 .have:=yG (n:=p.n) (s:=p.bu) (show i+1<=j by omega);omega
theorem LB (v:bU p) (h:q<p.n):∃j,j<p.buks.length/\Cov (aK p.buks j) q:=by
 have o:∀k,k<=di p.n p.bu->bB p.n p.bu k<=q->∃j,j<k/\bB p.n p.bu (j+1)<=q/\q<bB p.n p.bu j:=by
  intro k
  induction k with
  | zero=>intro _ u;rw [yF _ _ v.bu] at u;omega
  | succ k ih=>
   intro hk u;by_cases A:bB p.n p.bu k<=q
   .have ⟨j,x,h⟩:=ih ap A;exact ⟨j,ap,h⟩
   .exact ⟨k,ap,u,ap⟩
 have ⟨j,x,h1,y⟩:=o _ (PV _) (by rw [Ot];omega);have i:j<p.buks.length:=by rw [Pln.buks,js];exact x
 exact ⟨j,i,by rw [sZ v i];exact ⟨h1,y⟩⟩
theorem tU (o:bU p) (h:ph<2) (hr:r<p.W-1) (i:bk<p.buks.length) (hs:cH p.W x ph r=s) (hc:Cov (aK (dy (aK p.buks bk) p.W) s) q):
  ∃a∈cF (aE p x st),a.send=false/\a.st=st/\a.bk=bk/\a.ph=ph/\a.rd=r/\Cov a.at' q:=by
 subst hs;have ⟨k,hk,u⟩:=Pf o.ck hc;exact ⟨_,Nn o h hr i (rh.2 (.inr ⟨k,hk,rfl⟩)),rfl,rfl,rfl,rfl,rfl,u⟩
theorem yd (h:a∈cF (aE p x st)) (hs:a.send=false):a.add=(a.ph==0)/\a.ch<(chR (aK (dy (aK p.buks a.bk) p.W) (cH p.W x a.ph a.rd)) p.ck).length/\a.at'=aK (chR (aK (dy (aK p.buks a.bk) p.W) (cH p.W x a.ph a.rd)) p.ck) a.ch:=by
 have ⟨_,_,_,_,o⟩:=iJ h;rcases rh.1 o with ⟨ch,hl,e⟩ | ⟨ch,hl,e⟩
 .rw [e] at hs;cases hs
 .have i:a.ch=ch:=by rw [e]
  refine ⟨by rw [e],by rw [i];exact hl,by rw [i];rw [e]⟩
theorem NI (h:a∈cF (aE p x st)) (hs:a.send=true):a.ch<(chR (aK (dy (aK p.buks a.bk) p.W) (cV p.W x a.ph a.rd)) p.ck).length/\a.at'=aK (chR (aK (dy (aK p.buks a.bk) p.W) (cV p.W x a.ph a.rd)) p.ck) a.ch:=by
 have ⟨_,_,_,_,o⟩:=iJ h;rcases rh.1 o with ⟨ch,hl,e⟩ | ⟨ch,hl,e⟩
 .have i:a.ch=ch:=by rw [e]
  exact ⟨by rw [i];exact hl,by rw [i];rw [e]⟩
 .rw [e] at hs;cases hs
theorem gP {a b:Nat} (hb:b<W) (h:∃k,a=b+k*W):a%W=b:=by
 obtain ⟨k,rfl⟩:=h;rw [Nat.add_mul_mod_self_right,Nat.mod_eq_of_lt hb]
theorem tC (i:x<W) (hr:r<W-1):cH W x 0 r<W/\(cH W x 0 r+(r+1))%W=x/\cH W x 0 r≠x:=by
 unfold cH;rcases Qf x (r+1) with h | h
 .have e:(x+(2*W+0-r-1))%W=x+W-r-1:=gP ap ⟨1,ap⟩;rw [e];exact ⟨ap,gP i ⟨1,ap⟩,ap⟩
 .have e:(x+(2*W+0-r-1))%W=x-r-1:=gP ap ⟨2,ap⟩;rw [e];exact ⟨ap,gP i ⟨0,ap⟩,ap⟩
theorem ET {o:Nat} (v:x<W) (u:ph<2) (hr:r<W-1) (p:o<W-1) (h:cH W x ph r=cH W x ph o):r=o:=by
 unfold cH at h
 have i:∀r,r<W-1->(x+(2*W+ph-r-1))%W=if x+ph<r+1 then x+ph+W-r-1 else if x+ph-r-1<W then x+ph-r-1 else x+ph-r-1-W:=λr hr=>by
  split
  .exact gP ap ⟨1,ap⟩
  .split
   .exact gP ap ⟨2,ap⟩
   .exact gP ap ⟨3,ap⟩
 rw [i r hr,i o p] at h
 split at h<;>(try split at h)<;>(try split at h)<;>(try split at h)<;>omega
theorem zc (h:x<W):cV W x 0 0=x:=by
 unfold cV;exact gP h ⟨2,ap⟩
theorem rY (hr:r+1<=W):cV W x ph (r+1)=cH W x ph r:=by
 unfold cV cH;rw [show 2*W+ph-(r+1)=2*W+ph-r-1 by omega]
theorem I2 (h:2<=W):cV W x 1 0=cH W x 0 (W-2):=by
 unfold cV cH;rw [show x+(2*W+1-0)=x+(2*W+0-(W-2)-1)+W by omega,Nat.add_mod_right]
theorem ES (i:x<W) (hr:r<W-1):cV W (pvW W x) ph r=cH W x ph r:=by
 have h:=zb (W:=W) (x:=pvW W x) (ph:=ph) (r:=r) hr;rw [show (pvW W x+1)%W=x from um i] at h;exact h
theorem IY (o:x<W) (hs:s<W) (i:2<=W):s=cH W x 0 (W-2)\/∃r,r<W-1/\cH W x 1 r=s:=by
 by_cases h:s=cH W x 0 (W-2)
 .exact .inl h
 .right
  have e:cH W x 0 (W-2)=if x+1<W then x+1 else 0:=by
   unfold cH
   split
   .exact gP ap ⟨1,ap⟩
   .exact gP ap ⟨2,ap⟩
  rw [e] at h;rcases Qf x s with h1 | h1
  .refine ⟨x+W-s,by split at h<;>omega,?_⟩;unfold cH;exact gP hs ⟨1,ap⟩
  .refine ⟨x-s,by split at h<;>omega,?_⟩;unfold cH;exact gP hs ⟨2,ap⟩
theorem rJ (h:l[k]?=some y):cF (l.take (k+1))=cF (l.take k)++y.a.toList:=by
 have e:cF [y]=y.a.toList:=by
  unfold cF
  cases e:y.a<;>simp [e]
 rw [List.take_add_one,h,fk,<-e];rfl
theorem fI (h:a∈cF (l.take k)):a∈cF l:=by
 rw [jZ l k,fk];exact List.mem_append_left _ h
theorem yu {b:Acn} (p:(cF l).Pairwise λa b=>a.key wi<b.key wi) (v:l[k]?=some y) (hb:y.a=some b) (i:a∈cF l) (u:a.key wi<b.key wi):a∈cF (l.take k):=by
 rw [jZ l k,fk,QI] at i;rcases i with i | i
 .exact i
 .have ⟨x,o,h⟩:=M8 p i;rw [v] at o
  cases o
  have:=h b hb;omega
theorem KA {b:Acn} (h:InS p st a) (hb:InS p st b) (i:a.bk=b.bk) (hs:a.ph<b.ph):a.key p.wi<b.key p.wi:=by
 refine rz ?_;unfold Cor.q Acn.cor;simp only;rw [h.st,hb.st,i];have h1:=h.rd;have o:=h.bk;have v:=h.ch;have u:=hb.bk;omega
theorem Kz {b:Acn} (i:InS p st a) (hb:InS p st b) (o:a.bk=b.bk) (h:a.ph=b.ph) (hs:a.rd<b.rd):a.key p.wi<b.key p.wi:=by
 refine rz ?_;unfold Cor.q Acn.cor;simp only;rw [i.st,hb.st,o,h];have u:=i.bk;have x:=i.ch;have v:=hb.bk;omega
theorem sL (hs:s<W) (h:Cov (aK (dy b W) s) q):Cov b q:=by
 rw [xQ hs] at h;obtain ⟨h1,i⟩:=h;simp only at h1 i;have:=fU (b.2-b.1) W (s+1) ap ap;exact ⟨ap,ap⟩
theorem MB (I:bU p) (T:x<p.W) {b:Acn} (J:a∈cF (aE p x st)) (hb:b∈cF (aE p x st)) (sa:a.send=false) (sb:b.send=false) (i:a.ph=b.ph) (ca:Cov a.at' q) (C:Cov b.at' q):a.key p.wi=b.key p.wi/\a.bk=b.bk/\a.rd=b.rd:=by
 have ⟨a1,V,N,Q,_⟩:=iJ J;have ⟨L,R,b3,b4,_⟩:=iJ hb;have ⟨_,la,U⟩:=yd J sa;have ⟨_,lb,O⟩:=yd hb sb;rw [U] at ca;rw [O] at C;have o:=yD la ca;have y:=yD lb C;have A:0<p.W:=I.W1;have D:=sL (by unfold cH;exact Nat.mod_lt _ A) o;have B:=sL (by unfold cH;exact Nat.mod_lt _ A) y;have h:=sY I Q b4 D B;rw [h] at o;have v:=DE (by unfold cH;exact Nat.mod_lt _ A) (by unfold cH;exact Nat.mod_lt _ A) o y;rw [i] at v;have u:=ET T R N b3 v
 have H:a.ch=b.ch:=by
  rw [i,u,h] at la ca;exact On la lb ca C
 refine ⟨?_,h,u⟩;unfold Acn.key Cor.q Acn.cor;simp only;rw [a1,L,h,i,u,H,sa,sb]
theorem qH (h:nx<p.mi):(aE p x st)[nx]?=some ⟨1,st,nx,none⟩:=by
 unfold aE;rw [Qz,Qw (by simpa using h)];simp [h]
theorem Fq (i:(aE p x st)[nx]?=some y) (h:p.mi<=nx):y.kind≠1:=by
 unfold aE at i;rw [Qz,Qx (by simpa using h)] at i;have:=List.mem_of_getElem? i;rw [QI,List.mem_singleton] at this;rcases this with h | rfl
 .have ⟨g,_,h⟩:=List.mem_flatMap.1 h;unfold dt at h;simp only [QI,List.mem_map,List.mem_flatMap] at h;rcases h with (⟨_,_,rfl⟩ | ⟨_,_,_,_,_,_,h⟩) | ⟨_,_,rfl⟩
  .exact λe=>by cases e
  .unfold cz at h;obtain ⟨c,_,rfl⟩:=List.mem_map.1 h;unfold fy
   split<;>exact λe=>by cases e
  .exact λe=>by cases e
 .exact λe=>by cases e
theorem pT {p:Pln} {x st:Nat}:∀{nx:Nat},nx<=p.mi->cF ((aE p x st).take nx)=[]/\opP p x st nx=(0,0)
 | 0,_=>⟨rfl,rfl⟩
 | nx+1,h=>by
  obtain ⟨h1,o⟩:=pT (p:=p) (x:=x) (st:=st) (nx:=nx) ap;have i:=qH (p:=p) (x:=x) (st:=st) (show nx<p.mi by omega);refine ⟨?_,?_⟩
  .rw [rJ i,h1];rfl
  .rw [jn i,o];rfl
theorem LU (i:(aE p x st)[nx]?=some y) (o:y.a=some a):p.mi<=nx:=by
 rcases Qf nx p.mi with h | h
 .rw [qH h] at i
  cases i
  cases o
 .exact h
def opA:Nat×Nat->List Itm->Prop
 | _,[]=>True
 | s,y::r=>(∀a,y.a=some a->s.1<=a.bk)/\opA (opF s y) r
theorem ou:∀(l r:List Itm) (s:Nat×Nat),opA s (l++r)↔opA s l/\opA (l.foldl opF s) r
 | [],r,s=>by simp [opA]
 | y::l,r,s=>by
  have:=ou l r (opF s y);simp only [List.cons_append,opA,List.foldl_cons,this,and_assoc]
theorem JW:∀{l:List Itm} {s:Nat×Nat} {k:Nat} {y:Itm} {a:Acn},opA s l->l[k]?=some y->y.a=some a->((l.take k).foldl opF s).1<=a.bk
 | [],_,_,_,_,_,h,_=>by simp at h
 | z::l,s,0,y,a,hr,h,ha=>by
  simp only [Qp,Option.some.injEq] at h;subst h;exact hr.1 a ha
 | z::l,s,k+1,y,a,hr,h,ha=>by
  rw [Qo] at h;rw [List.take_succ_cons,List.foldl_cons];exact JW hr.2 h ha
theorem np:∀{l:List Itm} (s:Nat×Nat),(∀y∈l,y.a=none)->opA s l
 | [],_,_=>trivial
 | y::l,s,h=>⟨λa i=>(by rw [h y (List.mem_cons_self ..)] at i;cases i),np _ λz o=>h z (List.mem_cons_of_mem _ o)⟩
theorem D0:∀{l:List Itm} (s:Nat×Nat),(∀y∈l,(y.kind≠2/\y.kind≠5)/\∀a,y.a=some a->s.1<=a.bk)->opA s l
 | [],_,_=>trivial
 | y::l,s,h=>by
  have ⟨⟨h1,i⟩,o⟩:=h y (List.mem_cons_self ..);refine ⟨o,?_⟩;have e:opF s y=s:=by unfold opF;rw [if_neg h1,if_neg i]
  rw [e];exact D0 s λz p=>h z (List.mem_cons_of_mem _ p)
theorem FW (x st:Nat) (g:Rg) (h1:g.1<=g.2) (u:g.2<=Vq p) (v:g.2<=g.1+p.wi):opA (g.1,g.1) (dt p x st g):=by
 have a1:=rr (wi:=p.wi) (nb:=Vq p) st g.1 (g.2-g.1) g.1 ap ap
 have hr:∀y∈((List.range 2).flatMap λph=>(List.range (p.W-1)).flatMap λr=>(List.range' g.1 (g.2-g.1)).flatMap λj=>cz p x st ph r j),(y.kind≠2/\y.kind≠5)/\∀a,y.a=some a->g.1<=a.bk:=λy h=>by
  simp only [List.mem_flatMap] at h;obtain ⟨_,_,_,_,j,o,h⟩:=h;unfold cz at h;obtain ⟨c,hc,rfl⟩:=List.mem_map.1 h
  have hk:(fy st c).kind≠2/\(fy st c).kind≠5:=by
   unfold fy
   split<;>exact ⟨λe=>(by cases e),λe=>(by cases e)⟩
  refine ⟨hk,λa i=>?_⟩;simp only [fy,Option.some.injEq] at i;subst i;rw [(lX hc).2.1];exact (List.mem_range'_1.1 o).1
 unfold dt;rw [ou,ou,a1.2];exact ⟨⟨np _ λy h=>by obtain ⟨_,_,rfl⟩:=List.mem_map.1 h;rfl,D0 _ hr⟩,np _ λy h=>by obtain ⟨_,_,rfl⟩:=List.mem_map.1 h;rfl⟩
theorem ul (h:bU p) (x st:Nat):∀k,k<=di p.buks.length p.wi->opA (0,0) (((List.range k).map λj=>((j*p.wi,min (j*p.wi+p.wi) p.buks.length):Rg)).flatMap (dt p x st))
 | 0,_=>trivial
 | k+1,hk=>by
  have v:=ul h x st k ap;have o:=(rt h x st k (by unfold Vq at *;omega)).2;have u:=iH (n:=p.buks.length) (size:=p.wi) (k:=k) ap;have i:min (k*p.wi) p.buks.length=k*p.wi:=ap;have hg:=FW (p:=p) x st (k*p.wi,min (k*p.wi+p.wi) p.buks.length) (by show k*p.wi<=_;omega) (by show min _ _<=_;unfold Vq at *;omega) (by show min _ _<=_;unfold Vq at *;omega);rw [QL,List.map_append,List.flatMap_append,ou,o,i];simp only [List.map_cons,List.map_nil,List.flatMap_cons,List.flatMap_nil,List.append_nil];exact ⟨v,hg⟩
theorem FV (o:bU p) (x st:Nat):opA (0,0) (aE p x st):=by
 have a1:=qC (wi:=p.wi) (nb:=p.buks.length) (l:=(List.range p.mi).map λa=>(⟨1,st,a,none⟩:Itm)) (0,0) (λy h=>by obtain ⟨_,_,rfl⟩:=List.mem_map.1 h;exact ⟨λe=>(by cases e),λe=>(by cases e)⟩);have i:p.grps=(List.range (di p.buks.length p.wi)).map λj=>((j*p.wi,min (j*p.wi+p.wi) p.buks.length):Rg):=rfl;unfold aE;rw [i,ou,ou,a1.2];exact ⟨⟨np _ λy h=>by obtain ⟨_,_,rfl⟩:=List.mem_map.1 h;rfl,ul o x st _ (PV _)⟩,np _ λy h=>by rw [List.mem_singleton.1 h]⟩
theorem zQ:∀(l:List Itm) (s:Nat×Nat),s.1<=(l.foldl opF s).1
 | [],_=>PV _
 | y::l,s=>by
  have:=zQ l (opF s y);have h:s.1<=(opF s y).1:=by unfold opF;split<;>(try split)<;>simp
  exact P4 h this
theorem JV {i:Nat} (h:k<=i):(opP p x st k).1<=(opP p x st i).1:=by
 unfold opP;obtain ⟨d,rfl⟩:∃d,i=k+d:=⟨i-k,ap⟩;rw [List.take_add,List.foldl_append];exact zQ _ _
theorem yQ (v:bU p) (u:(aE p x st)[nx]?=some y) (hk:y.kind=5) (h:a∈cF (aE p x st)) (hb:a.bk=y.n):a∈cF ((aE p x st).take nx):=by
 have B:=(qD (iC v x st).1 u).2 hk;have hs:=jn u;unfold opF at hs;rw [if_neg ap,if_pos hk] at hs;rw [jZ (aE p x st) nx,fk,QI] at h;rcases h with h | h
 .exact h
 .exfalso;unfold cF at h;have ⟨z,C,i⟩:=List.mem_filterMap.1 h;obtain ⟨j,o⟩:=List.getElem?_of_mem C;rw [List.getElem?_drop] at o
  have H:j≠0:=by
   rintro rfl;rw [Nat.add_zero,u] at o
   cases o
   rcases uC (List.mem_of_getElem? u) with ⟨e,_⟩ | ⟨b,_,e⟩
   .rw [e] at i;cases i
   .rw [hk] at e;split at e<;>cases e
  have h1:=JW (FV v x st) o i;have A:=JV (p:=p) (x:=x) (st:=st) (show nx+1<=nx+j by omega);rw [hs] at A;have I:y.n=(opP p x st nx).1:=B.1;have D:(opP p x st (nx+j)).1<=a.bk:=h1;simp only at A;omega
def GI (i:Inp) (x st nx:Nat) (G:Q_) (q:Nat):Prop:= (∀a∈cF ((aE (ax i) x st).take nx),a.send=false->a.ph=1->Cov a.at' q->nth G q=pB i st q)/\ (∀a∈cF ((aE (ax i) x st).take nx),a.send=false->a.ph=0->Cov a.at' q->(∀b∈cF ((aE (ax i) x st).take nx),b.send=false->b.ph=1->¬Cov b.at' q)->nth G q=rq i st (cH (ax i).W x 0 a.rd) (a.rd+1) q)/\ ((∀a∈cF ((aE (ax i) x st).take nx),a.send=false->¬Cov a.at' q)->nth G q=nth (ry i x st (min nx (ax i).mi)) q)
section
variable {i:Inp} {x st nx q:Nat} {G:Q_} {y:Itm} {b:Acn}
theorem inS {p:Pln} (i:bU p) {a:Acn} (h:a∈cF (aE p x st)):InS p st a:=by
 rw [jW] at h;exact If i h
theorem ng {p:Pln} (h:bU p):(cF (aE p x st)).Pairwise λa b=>a.key p.wi<b.key p.wi:=by
 rw [jW];exact LR h x st
theorem sO {p:Pln} (i:bU p) {a:Acn} (o:a∈cF (aE p x st)) (hs:a.send=false) (hc:Cov a.at' q):Cov (aK (dy (aK p.buks a.bk) p.W) (cH p.W x a.ph a.rd)) q/\Cov (aK p.buks a.bk) q:=by
 have ⟨_,l,e⟩:=yd o hs;rw [e] at hc;have h:=yD l hc;exact ⟨h,sL (by unfold cH;exact Nat.mod_lt _ i.W1) h⟩
theorem Mo {p:Pln} (i:bU p) {a:Acn} (o:a∈cF (aE p x st)) (hs:a.send=true) (hc:Cov a.at' q):Cov (aK (dy (aK p.buks a.bk) p.W) (cV p.W x a.ph a.rd)) q/\Cov (aK p.buks a.bk) q:=by
 have ⟨l,e⟩:=NI o hs;rw [e] at hc;have h:=yD l hc;exact ⟨h,sL (by unfold cV;exact Nat.mod_lt _ i.W1) h⟩
theorem D1 {p:Pln} (h:bU p) {a:Acn} (u:(aE p x st)[nx]?=some y) (hb:y.a=some b) (A:b.ph=0) (o:a∈cF ((aE p x st).take nx)) (h1:a.ph=1) (hk:a.bk=b.bk):False:=by
 have i:b∈cF (aE p x st):=kE (List.mem_of_getElem? u) hb;have v:=vi (ng h) u hb o;have B:=KA (inS h i) (inS h (fI o)) hk.symm ap;omega
theorem GI.send (h:GI i x st nx G q) (hs:bK i) (L:x<(ax i).W) (N:(aE (ax i) x st)[nx]?=some y) (hb:y.a=some b) (Y:b.send=true) (hc:Cov b.at' q) (hq:q<Vn i):
  nth G q=if b.ph=0 then rq i st (cV (ax i).W x 0 b.rd) b.rd q else pB i st q:=by
 have p:=hs.ok;have B:b∈cF (aE (ax i) x st):=kE (List.mem_of_getElem? N) hb;have ⟨b1,b2,b3,b4,_⟩:=iJ B;have ⟨A,bk⟩:=Mo p B Y hc;have a0:=LU N hb;obtain ⟨h1,h2,h3⟩:=h;have D:∀a∈cF ((aE (ax i) x st).take nx),a.send=false->Cov a.at' q->a.bk=b.bk:=λa o v u=>sY p (iJ (fI o)).2.2.2.1 b4 (sO p (fI o) v u).2 bk;rcases (show b.ph=0\/b.ph=1 by omega) with U | p1
 .rw [if_pos U];rw [U] at A;have O:∀a∈cF ((aE (ax i) x st).take nx),a.send=false->a.ph=1->¬Cov a.at' q:=λa o v V u=>D1 p N hb U o V (D a o v u)
  cases hr:b.rd with
  | zero=>
   rw [hr,zc L] at A;rw [zc L,wC hs st L hq,h3 (λa o v u=>?_),Nat.min_eq_right a0]
   .rfl
   .have ⟨_,a2,C,_,_⟩:=iJ (fI o);rcases (show a.ph=0\/a.ph=1 by omega) with e | e
    .have Q:=(sO p (fI o) v u).1;rw [D a o v u,e] at Q;exact (tC L C).2.2 (DE (tC L C).1 L Q A)
    .exact O a o v e u
  | succ r=>
   rw [hr] at b3 A;rw [rY ap] at A |-;have ⟨a,o,a1,a2,C,H,T,R⟩:=tU (x:=x) (st:=st) p (show 0<2 by decide) (show r<(ax i).W-1 by omega) b4 rfl A;have I:=yu (ng p) N hb o (Kz (inS p o) (inS p B) C (by rw [H,U]) ap);have:=h2 a I a1 H R O
   rwa [T] at this
 .rw [if_neg ap];have a7:2<=(ax i).W:=ap;by_cases J:∃a∈cF ((aE (ax i) x st).take nx),a.send=false/\a.ph=1/\Cov a.at' q
  .obtain ⟨a,o,e1,Z,e3⟩:=J;exact h1 a o e1 Z e3
  .rw [p1] at A
   cases hr:b.rd with
   | zero=>
    rw [hr,I2 a7] at A;have ⟨a,o,a1,a2,C,H,T,R⟩:=tU (x:=x) (st:=st) p (show 0<2 by decide) (show (ax i).W-2<(ax i).W-1 by omega) b4 rfl A;have I:=yu (ng p) N hb o (KA (inS p o) (inS p B) C ap);have:=h2 a I a1 H R (λc hc e1 Z e3=>J ⟨c,hc,e1,Z,e3⟩);rw [this,T,show (ax i).W-2+1=(ax i).W-1 by omega];exact ro hs st (tC L ap).1 hq
   | succ r=>
    rw [hr] at b3 A;rw [rY ap] at A;have ⟨a,o,a1,a2,C,H,T,R⟩:=tU (x:=x) (st:=st) p (show 1<2 by decide) (show r<(ax i).W-1 by omega) b4 rfl A;exact absurd ⟨a,yu (ng p) N hb o (Kz (inS p o) (inS p B) C (by rw [H,p1]) ap),a1,H,R⟩ J
theorem GI.upd (h:GI i x st nx G q) (hs:bK i) (v:x<(ax i).W) (T:(aE (ax i) x st)[nx]?=some y) (hk:y.kind=5) (hn:y.n<(ax i).buks.length) (hc:Cov (aK (ax i).buks y.n) q) (A:q<Vn i) (I:(ax i).mi<=nx):nth G q=pB i st q:=by
 have u:=hs.ok;obtain ⟨h1,U,Z⟩:=h;by_cases o:∃a∈cF ((aE (ax i) x st).take nx),a.send=false/\a.ph=1/\Cov a.at' q
 .obtain ⟨a,p,L,C,N⟩:=o;exact h1 a p L C N
 .rcases Qf (ax i).W 2 with Q | Q
  .have V:=u.W1;have a0:x=0:=ap;rw [Z (λa p Y _=>by have:=yJ (fI p);omega),Nat.min_eq_right I];have e:=ro hs st v A;rw [show (ax i).W-1=0 by omega,wC hs st v A] at e;exact e
  .have ⟨s,O,D⟩:=NK (W:=(ax i).W) ap hc;rcases IY v O Q with e | ⟨r,hr,e⟩
   .rw [e] at D;have ⟨a,p,a1,a2,B,H,R,J⟩:=tU (x:=x) (st:=st) u (show 0<2 by decide) (show (ax i).W-2<(ax i).W-1 by omega) hn rfl D;have:=U a (yQ u T hk p B) a1 H J (λc hc L C N=>o ⟨c,hc,L,C,N⟩);rw [this,R,show (ax i).W-2+1=(ax i).W-1 by omega];exact ro hs st (tC v ap).1 A
   .have ⟨a,p,a1,a2,B,H,R,J⟩:=tU (x:=x) (st:=st) u (show 1<2 by decide) hr hn e D;exact absurd ⟨a,yQ u T hk p B,a1,H,J⟩ o
def Du (i:Inp) (x:Nat) (c:Cor) (v:Q_):Prop:=v.length=c.at'.2-c.at'.1/\∀t,t<v.length->nth v t=if c.ph=0 then rq i c.st (cV (ax i).W x 0 c.rd) c.rd (c.at'.1+t) else pB i c.st (c.at'.1+t)
theorem GI.recv (h:GI i x st nx G q) (hs:bK i) (hx:x<(ax i).W) (U:(aE (ax i) x st)[nx]?=some y) (hb:y.a=some b) (C:b.send=false) (hq:q<G.length) {v:Q_} (hv:Du i (pvW (ax i).W x) b.cor v):GI i x st (nx+1) (iK G b.at'.1 v b.add) q:=by
 have T:=hs.ok;have I:b∈cF (aE (ax i) x st):=kE (List.mem_of_getElem? U) hb;have ⟨b1,b2,b3,b4,_⟩:=iJ I;have Z:=LU U hb;have Q:cF ((aE (ax i) x st).take (nx+1))=cF ((aE (ax i) x st).take nx)++[b]:=by rw [rJ U,hb];rfl
 obtain ⟨v1,v2⟩:=hv;have a1:v.length=b.at'.2-b.at'.1:=v1;have e:=nI (G:=G) (lo:=b.at'.1) (v:=v) (add:=b.add) (k:=v.length) (j:=q) hq;have R:nth (iK G b.at'.1 v b.add) q=_:=e;obtain ⟨h1,h2,h3⟩:=h;have hm:min (nx+1) (ax i).mi=min nx (ax i).mi:=ap;by_cases hc:Cov b.at' q
 .obtain ⟨c1,c2⟩:=hc;rw [if_pos ⟨c1,ap⟩] at R;have a0:=v2 (q-b.at'.1) ap;have A:nth v (q-b.at'.1)=if b.ph=0 then rq i b.st (cV (ax i).W (pvW (ax i).W x) 0 b.rd) b.rd (b.at'.1+(q-b.at'.1)) else pB i b.st (b.at'.1+(q-b.at'.1)):=a0
  rw [show b.at'.1+(q-b.at'.1)=q by omega,b1,ES hx b3] at A;have ⟨J,_,_⟩:=yd I C;unfold GI;rw [Q];rcases (show b.ph=0\/b.ph=1 by omega) with V | p1
  .rw [if_pos V] at A;rw [J,V,if_pos (show ((0:Nat)==0)=true from rfl),A] at R;have bk:=(sO T I C ⟨c1,c2⟩).2;have N:∀a∈cF ((aE (ax i) x st).take nx),a.send=false->a.ph=1->¬Cov a.at' q:=λa p u B o=>D1 T U hb V p B (sY T (iJ (fI p)).2.2.2.1 b4 (sO T (fI p) u o).2 bk)
   have O:∀a∈cF ((aE (ax i) x st).take nx),a.send=false->a.ph=0->¬Cov a.at' q:=λa p u D o=>by
    have h4:=(MB T hx (fI p) I u C (by rw [D,V]) o ⟨c1,c2⟩).1;have h5:=vi (ng T) U hb p;omega
   have L:=h3 (λa p u o=>by
    rcases (show a.ph=0\/a.ph=1 by have:=(iJ (fI p)).2.1;omega) with e0 | e1
    .exact O a p u e0 o
    .exact N a p u e1 o)
   rw [Nat.min_eq_right Z] at L
   have H:nth (iK G b.at'.1 v b.add) q=rq i st (cH (ax i).W x 0 b.rd) (b.rd+1) q:=by
    rw [J,V];rw [R,L,<-FC,(tC hx b3).2.1];rfl
   refine ⟨λa p u B o=>?_,λa p u D o _=>?_,λhn=>absurd ⟨c1,c2⟩ (hn b V3 C)⟩
   .rcases QI.1 p with p | p
    .exact absurd o (N a p u B)
    .rw [List.mem_singleton.1 p] at B;omega
   .rcases QI.1 p with p | p
    .exact absurd o (O a p u D)
    .rw [List.mem_singleton.1 p];exact H
  .rw [if_neg ap] at A
   have H:nth (iK G b.at'.1 v b.add) q=pB i st q:=by
    rw [J,p1];rw [J,p1,if_neg (show ¬((1:Nat)==0)=true by decide)] at R;exact R.trans A
   refine ⟨λ_ _ _ _ _=>H,λa p u D o hn=>absurd ⟨c1,c2⟩ (hn b V3 C p1),λhn=>absurd ⟨c1,c2⟩ (hn b V3 C)⟩
 .rw [if_neg (λhh=>hc ⟨hh.1,ap⟩)] at R;unfold GI;rw [Q,hm,R];refine ⟨λa p u B o=>?_,λa p u D o hn=>?_,λhn=>h3 λa p=>hn a (List.mem_append_left _ p)⟩
  .rcases QI.1 p with p | p
   .exact h1 a p u B o
   .rw [List.mem_singleton.1 p] at o;exact absurd o hc
  .rcases QI.1 p with p | p
   .exact h2 a p u D o λc Y=>hn c (List.mem_append_left _ Y)
   .rw [List.mem_singleton.1 p] at o;exact absurd o hc
theorem GI.same (h:GI i x st nx G q) (H:(aE (ax i) x st)[nx]?=some y) (C:(ax i).mi<=nx) (hn:∀a,y.a=some a->a.send=true):GI i x st (nx+1) G q:=by
 have hm:min (nx+1) (ax i).mi=min nx (ax i).mi:=ap;obtain ⟨h1,D,I⟩:=h;unfold GI;rw [rJ H,hm];have hb:∀a∈y.a.toList,a.send=true:=λa o=>hn a (by cases e:y.a<;>rw [e] at o<;>simp at o;rw [o]);refine ⟨λa o p A v=>?_,λa o p B v u=>?_,λu=>I λa o=>u a (List.mem_append_left _ o)⟩
 .rcases QI.1 o with o | o
  .exact h1 a o p A v
  .rw [hb a o] at p;cases p
 .rcases QI.1 o with o | o
  .exact D a o p B v λc hc=>u c (List.mem_append_left _ hc)
  .rw [hb a o] at p;cases p
end
structure RIv (i:Inp) (x:Nat) (m:Mst):Prop where
 rc:m.rc=jX i (m.st+1)
 pm:m.st<i.cfg.steps.toNat->∀j,j<(ax i).buks.length->∀q,Cov (aK (ax i).buks j) q->nth m.P q=nth (dq i (if j<(opP (ax i) x m.st m.nx).1 then m.st+1 else m.st)).1 q/\nth m.M q=nth (dq i (if j<(opP (ax i) x m.st m.nx).1 then m.st+1 else m.st)).2 q
 g:m.st<i.cfg.steps.toNat->∀q,q<i.start.length->GI i x m.st m.nx m.G q
theorem OX (i:bU p) (o:j<p.buks.length) (h:Cov (aK p.buks j) q):q<p.n:=by
 rw [sZ i o] at h;have:=yG (n:=p.n) (s:=p.bu) (PZ j);rw [yF _ _ i.bu] at this;exact P6 h.2 this
theorem RIv.zero (hs:bK i) (x:Nat):RIv i x (fm i):=by
 refine ⟨rfl_rc hs,λ_ j _ q o=>?_,λ_ q _=>?_⟩
 .have e:(opP (ax i) x (fm i).st (fm i).nx).1=0:=rfl;rw [e,if_neg ap];refine ⟨rfl,?_⟩
  show nth (List.replicate i.start.length 0) q=nth (List.replicate (cnt i) 0) q
  rw [hs.g.s]
 .refine ⟨λa h=>by simp [cF,fm] at h,λa h=>by simp [cF,fm] at h,λ_=>?_⟩
  show nth (List.replicate i.start.length 0) q=nth (ry i x 0 (min 0 _)) q
  rw [Nat.zero_min];rfl
where
 rfl_rc {i:Inp} (hs:bK i):(fm i).rc=jX i 1:=by
  show [(i.start,List.replicate i.start.length 0)]=_
  rw [hs.g.s];rfl
section
variable {i:Inp} {x:Nat} {m m1:Mst} {y:Itm}
theorem qP (hs:bK i) (o:(cC i x m.st)[m.nx]?=some y) (hk:y.kind≠6) (h1:m1.st=m.st) (p:m1.nx=m.nx):adv i x m1={m1 with nx:=m.nx+1}/\m.st<i.cfg.steps.toNat/\(aE (ax i) x m.st)[m.nx]?=some y:=by
 have ⟨g1,u⟩:=dm o;have hc:cC i x m.st=aE (ax i) x m.st:=if_pos g1;rw [hc] at o;have hr:=rC hs.ok o;have hl:=(Qu.1 o).1;refine ⟨?_,g1,o⟩;unfold adv
 rw [h1,p,hc,if_pos (by
  rcases Qf (m.nx+1) (aE (ax i) x m.st).length with h | h
  .exact h
  .exact absurd (hr.2 ap) hk)]
theorem Nm (hs:bK i) (h:(cC i x m.st)[m.nx]?=some y) (hk:y.kind=6) (h1:m1.st=m.st) (o:m1.nx=m.nx):adv i x m1={m1 with st:=m.st+1,nx:=0}/\m.st<i.cfg.steps.toNat/\(aE (ax i) x m.st)[m.nx]?=some y/\m.nx+1=(aE (ax i) x m.st).length:=by
 have ⟨g1,p⟩:=dm h;have hc:cC i x m.st=aE (ax i) x m.st:=if_pos g1;rw [hc] at h;have hr:=(rC hs.ok h).1 hk;refine ⟨?_,g1,h,hr⟩;unfold adv;rw [h1,o,hc,if_neg ap]
theorem D4 (o:(aE (ax i) x m.st)[m.nx]?=some y) (hk:y.kind≠1):(ax i).mi<=m.nx:=by
 rcases Qf m.nx (ax i).mi with h | h
 .rw [qH h] at o;cases o;exact absurd rfl hk
 .exact h
theorem RIv.all (h:RIv i x m) (hm:MOk i x m) (hs:bK i) (o:m.st<i.cfg.steps.toNat) {k:Nat} (hk:∀j,j<(ax i).buks.length->(if j<(opP (ax i) x m.st m.nx).1 then m.st+1 else m.st)=k):m.P=(dq i k).1/\m.M=(dq i k).2:=by
 have hl:=tj i hs.g.s k;refine ⟨gQ (by rw [hm.lP,hl.1,hs.g.s]) λq u=>?_,gQ (by rw [hm.lM,hl.2,hs.g.s]) λq u=>?_⟩
 .have ⟨j,p,hc⟩:=LB hs.ok (q:=q) (by rw [hm.lP] at u;exact u);have:=(h.pm o j p q hc).1
  rwa [hk j p] at this
 .have ⟨j,p,hc⟩:=LB hs.ok (q:=q) (by rw [hm.lM] at u;exact u);have:=(h.pm o j p q hc).2
  rwa [hk j p] at this
theorem RIv.own (h:RIv i x m) (hm:MOk i x m) (hs:bK i) (hx:x<(ax i).W) (R:(cC i x m.st)[m.nx]?=some y) (C:y.a=none):RIv i x (adv i x (gY i x m y)):=by
 have O:=hs.ok;have ⟨V,U⟩:=nC i x m y;rcases jp (dm R).2 C with k | k | k | k
 .have ⟨J,u,o⟩:=qP hs R ap V U
  have a0:m.nx<(ax i).mi:=by
   rcases Qf m.nx (ax i).mi with h | h
   .exact h
   .exact absurd k (Fq o h)
  have ey:=o;rw [qH a0] at ey
  cases ey
  have ⟨t1,t2⟩:=pT (p:=ax i) (x:=x) (st:=m.st) (nx:=m.nx) ap;have ⟨t3,t4⟩:=pT (p:=ax i) (x:=x) (st:=m.st) (nx:=m.nx+1) ap;have hP:=(h.all hm hs u (k:=m.st) (λj _=>by rw [t2,if_neg (by show ¬j<0;omega)])).1
  have hG:m.G=ry i x m.st m.nx:=gQ (by rw [hm.lG,Ku]) λq B=>by
   have:=(h.g u q (by rw [hm.lG] at B;exact B)).2.2 (λa C=>by rw [t1] at C;cases C)
   rwa [Nat.min_eq_left ap] at this
  rw [J]
  have I:gY i x m ⟨1,m.st,m.nx,none⟩={m with G:=ry i x m.st (m.nx+1)}:=by
   unfold gY;rw [if_pos rfl,wU,<-hG,<-hP]
  rw [I];refine ⟨h.rc,λ_ j D q B=>?_,λ_ q B=>?_⟩
  .have:=h.pm u j D q B;rw [t2] at this
   show nth m.P q=nth (dq i (if j<(opP (ax i) x m.st (m.nx+1)).1 then m.st+1 else m.st)).1 q/\nth m.M q=nth (dq i (if j<(opP (ax i) x m.st (m.nx+1)).1 then m.st+1 else m.st)).2 q
   rw [t4];exact this
  .show GI i x m.st (m.nx+1) (ry i x m.st (m.nx+1)) q
   unfold GI;rw [t3];exact ⟨λa C=>(by cases C),λa C=>(by cases C),λ_=>(by rw [Nat.min_eq_left ap])⟩
 .have ⟨J,u,o⟩:=qP hs R ap V U;rw [J]
  have I:gY i x m y={m with op:=m.op++[y.n]}:=by
   unfold gY;rw [if_neg ap,if_pos k]
  rw [I];refine ⟨h.rc,λ_ j D q B=>?_,λ_ q B=>?_⟩
  .have eo:(opP (ax i) x m.st (m.nx+1)).1=(opP (ax i) x m.st m.nx).1:=by rw [jn o];unfold opF;rw [if_pos k]
   show nth m.P q=nth (dq i (if j<(opP (ax i) x m.st (m.nx+1)).1 then m.st+1 else m.st)).1 q/\nth m.M q=nth (dq i (if j<(opP (ax i) x m.st (m.nx+1)).1 then m.st+1 else m.st)).2 q
   rw [eo];exact h.pm u j D q B
  .exact (h.g u q B).same o (D4 o ap) (λa e=>by rw [C] at e;cases e)
 .have ⟨J,u,o⟩:=qP hs R ap V U;rw [J];have h5:=(qD (iC O x m.st).1 o).2 k;have a3:=(sQ O x m.st m.nx).2.1;have a2:y.n=(opP (ax i) x m.st m.nx).1:=h5.1
  have N:y.n<(ax i).buks.length:=by
   have:(opP (ax i) x m.st m.nx).1<(opP (ax i) x m.st m.nx).2:=h5.2;omega
  have eo:(opP (ax i) x m.st (m.nx+1)).1=(opP (ax i) x m.st m.nx).1+1:=by rw [jn o];unfold opF;rw [if_neg ap,if_pos k]
  obtain ⟨lo,v,hr⟩:∃lo v,aK (ax i).buks y.n=(lo,v):=⟨_,_,rfl⟩
  have I:gY i x m y={m with P:=apP i.cfg.rate i.cfg.mom i.cfg.shift m.P m.M ((m.G.drop lo).take (v-lo)) lo (v-lo),M:=apM i.cfg.mom i.cfg.shift m.M ((m.G.drop lo).take (v-lo)) lo (v-lo),op:=ir m.op y.n}:=by
   unfold gY;rw [if_neg ap,if_neg ap,if_pos k,hr]
  rw [I];have hl:=tj i hs.g.s m.st;refine ⟨h.rc,λ_ j D q B=>?_,λ_ q B=>?_⟩
  .have Y:=OX O D B;have A:q<(Vn i):=Y
   show nth (apP i.cfg.rate i.cfg.mom i.cfg.shift m.P m.M ((m.G.drop lo).take (v-lo)) lo (v-lo)) q=nth (dq i (if j<(opP (ax i) x m.st (m.nx+1)).1 then m.st+1 else m.st)).1 q/\nth (apM i.cfg.mom i.cfg.shift m.M ((m.G.drop lo).take (v-lo)) lo (v-lo)) q=nth (dq i (if j<(opP (ax i) x m.st (m.nx+1)).1 then m.st+1 else m.st)).2 q
   have aP:nth (apP i.cfg.rate i.cfg.mom i.cfg.shift m.P m.M ((m.G.drop lo).take (v-lo)) lo (v-lo)) q=if lo<=q/\q<lo+(v-lo) then kU i.cfg.rate i.cfg.shift (nth m.P q) (eE i.cfg.mom i.cfg.shift (nth m.M q) (nth ((m.G.drop lo).take (v-lo)) (q-lo))) else nth m.P q:=bJ _ (by rw [hm.lP];exact A)
   have aM:nth (apM i.cfg.mom i.cfg.shift m.M ((m.G.drop lo).take (v-lo)) lo (v-lo)) q=if lo<=q/\q<lo+(v-lo) then eE i.cfg.mom i.cfg.shift (nth m.M q) (nth ((m.G.drop lo).take (v-lo)) (q-lo)) else nth m.M q:=bJ _ (by rw [hm.lM];exact A)
   rw [aP,aM,eo];have H:=h.pm u j D q B;by_cases T:j=y.n
   .subst T;have hc:=B;rw [hr] at hc;obtain ⟨c1,c2⟩:=hc;simp only at c1 c2;rw [if_neg ap] at H;have Q:lo<=q/\q<lo+(v-lo):=⟨c1,ap⟩;rw [if_pos Q,if_pos Q,if_pos ap,eH ap,eI,show lo+(q-lo)=q by omega,(h.g u q A).upd hs hx o k N B A (D4 o ap),H.1,H.2];have f1:nth (dq i (m.st+1)).1 q=kU i.cfg.rate i.cfg.shift (nth (dq i m.st).1 q) (eE i.cfg.mom i.cfg.shift (nth (dq i m.st).2 q) (nth (pq i (dq i m.st).1 m.st) q)):=bJ _ (by rw [hl.1,<-hs.g.s];exact A);have f2:nth (dq i (m.st+1)).2 q=eE i.cfg.mom i.cfg.shift (nth (dq i m.st).2 q) (nth (pq i (dq i m.st).1 m.st) q):=bJ _ (by rw [hl.2,<-hs.g.s];exact A);rw [f1,f2];exact ⟨rfl,rfl⟩
   .have L:¬(lo<=q/\q<lo+(v-lo)):=λhh=>T (sY O D N B (by rw [hr];exact ⟨hh.1,by show q<v;omega⟩));rw [if_neg L,if_neg L];have ej:(if j<(opP (ax i) x m.st m.nx).1+1 then m.st+1 else m.st)=if j<(opP (ax i) x m.st m.nx).1 then m.st+1 else m.st:=by split<;>split<;>omega
    rw [ej];exact H
  .exact (h.g u q B).same o (D4 o ap) (λa e=>by rw [C] at e;cases e)
 .have ⟨J,u,o,a1⟩:=Nm hs R k V U;rw [J]
  have I:gY i x m y={m with rc:=m.rc++[(m.P,m.M)],G:=List.replicate (Vn i) 0}:=by
   unfold gY;rw [if_neg ap,if_neg ap,if_neg ap]
  rw [I]
  have Z:(opP (ax i) x m.st m.nx).1=(ax i).buks.length:=by
   have h1:=DY O (x:=x) (st:=m.st) (nx:=m.nx+1) ap;rw [jn o] at h1;unfold opF at h1;rw [if_neg ap,if_neg ap] at h1;rw [h1]
  have ⟨hP,hM⟩:=h.all hm hs u (k:=m.st+1) (λj D=>by rw [Z,if_pos D]);refine ⟨?_,λ_ j D q B=>?_,λ_ q B=>?_⟩
  .show m.rc++[(m.P,m.M)]=jX i (m.st+1+1)
   rw [Bu,h.rc,hP,hM]
  .show nth m.P q=nth (dq i (if j<0 then m.st+1+1 else m.st+1)).1 q/\nth m.M q=nth (dq i (if j<0 then m.st+1+1 else m.st+1)).2 q
   rw [if_neg ap,hP,hM];exact ⟨rfl,rfl⟩
  .refine ⟨λa C=>by simp [cF] at C,λa C=>by simp [cF] at C,λ_=>?_⟩
   show nth (List.replicate (Vn i) 0) q=nth (ry i x (m.st+1) (min 0 _)) q
   rw [Nat.zero_min];rfl
theorem RIv.send (h:RIv i x m) (hs:bK i) (B:(cC i x m.st)[m.nx]?=some y) {a:Acn} (D:y.a=some a) (hk:y.kind=3) (v:a.send=true):RIv i x (adv i x m):=by
 have ⟨H,p,o⟩:=qP (m1:=m) hs B ap rfl rfl;rw [H];have C:opP (ax i) x m.st (m.nx+1)=opP (ax i) x m.st m.nx:=by rw [jn o];unfold opF;rw [if_neg ap,if_neg ap]
 refine ⟨h.rc,λ_ j A q u=>?_,λ_ q u=>?_⟩
 .show nth m.P q=nth (dq i (if j<(opP (ax i) x m.st (m.nx+1)).1 then m.st+1 else m.st)).1 q/\nth m.M q=nth (dq i (if j<(opP (ax i) x m.st (m.nx+1)).1 then m.st+1 else m.st)).2 q
  rw [C];exact h.pm p j A q u
 .exact (h.g p q u).same o (D4 o ap) (λb e=>by rw [D] at e;cases e;exact v)
theorem RIv.recv (h:RIv i x m) (hm:MOk i x m) (hs:bK i) (L:x<(ax i).W) (C:(cC i x m.st)[m.nx]?=some y) {a:Acn} (H:y.a=some a) (hk:y.kind=4) (A:a.send=false) {v:Q_} (I:Du i (pvW (ax i).W x) a.cor v):RIv i x (adv i x {m with G:=iK m.G a.at'.1 v a.add}):=by
 have ⟨J,o,p⟩:=qP (m1:={m with G:=iK m.G a.at'.1 v a.add}) hs C ap rfl rfl;rw [J];have D:opP (ax i) x m.st (m.nx+1)=opP (ax i) x m.st m.nx:=by rw [jn p];unfold opF;rw [if_neg ap,if_neg ap]
 refine ⟨h.rc,λ_ j B q u=>?_,λ_ q u=>?_⟩
 .show nth m.P q=nth (dq i (if j<(opP (ax i) x m.st (m.nx+1)).1 then m.st+1 else m.st)).1 q/\nth m.M q=nth (dq i (if j<(opP (ax i) x m.st (m.nx+1)).1 then m.st+1 else m.st)).2 q
  rw [D];exact h.pm o j B q u
 .exact (h.g o q u).recv hs L p H A (by rw [hm.lG];exact u) I
end
structure RW (i:Inp) (M:WSt):Prop where
 mv:∀x,x<(ax i).W->RIv i x (M.m x)
 ct:∀x,x<(ax i).W->∀j,j<(M.s x).msgs.length->∃c,(ie (dA i x))[j]?=some c/\Du i x c (aO (M.s x).msgs j).vals
theorem Pk.ring {i:Inp} {M M1:WSt} {x C:Nat} (hp:Pk i M x M1 C) (h:WOk i M) (hr:RW i M) (hs:bK i) (A:x<(ax i).W):RW i M1:=by
 obtain ⟨m1,s1,t1,Y,rfl⟩:=hp;have L:pvW (ax i).W x<(ax i).W:=lI ap;have B:=h.cur hs A;have o:RW i ⟨aY M.m x (M.m x),aY (aY M.s (pvW (ax i).W x) (M.s (pvW (ax i).W x))) x (M.s x)⟩:=by rw [yZ];exact hr
 have H:RIv i x m1->∀z,z<(ax i).W->RIv i z (aY M.m x m1 z):=λhm z v=>by
  by_cases e:z=x
  .subst e;rw [bF];exact hm
  .rw [bD _ _ e];exact hr.mv z v
 cases Y with
 | fin=>exact o
 | full=>exact o
 | none=>exact o
 | other=>exact o
 | own y hy ha=>
  rw [fY,fY];exact ⟨H ((hr.mv x A).own (h.mok x A) hs A hy ha),hr.ct⟩
 | send y a hy ha hk hroom=>
  have p:=dm hy
  have u:a.send=true:=by
   have:=(iU p.2 ha).1
   cases e:a.send with
   | true=>rfl
   | false=>rw [e,hk] at this;cases this
  have a0:=yK hs.ok p.2 ha;have O:=p.1
  have V:(aE (ax i) x (M.m x).st)[(M.m x).nx]?=some y:=by
   have hc:cC i x (M.m x).st=aE (ax i) x (M.m x).st:=if_pos O
   rwa [hc] at hy
  have U:=(iJ (kE p.2 ha)).1;rw [fY];refine ⟨H ((hr.mv x A).send hs hy ha hk u),λz v j D=>?_⟩;by_cases e:z=x
  .subst e
   have I:((⟨aY M.m z (adv i z (M.m z)),aY M.s z ((M.s z).send ⟨a.tg,((M.m z).G.drop a.at'.1).take (a.at'.2-a.at'.1)⟩)⟩:WSt).s z).msgs=(M.s z).msgs++[⟨a.tg,((M.m z).G.drop a.at'.1).take (a.at'.2-a.at'.1)⟩]:=by
    show (aY M.s z _ z).msgs=_;rw [bF];rfl
   rw [I] at D |-;rw [uq];by_cases hl:j<(M.s z).msgs.length
   .rw [if_pos hl];exact hr.ct z v j hl
   .rw [Qt,QC] at D;have Q:j=(M.s z).msgs.length:=ap;rw [if_neg hl,if_pos Q];have hn:(ax i).n=i.start.length:=rfl
    have R:(((M.m z).G.drop a.at'.1).take (a.at'.2-a.at'.1)).length=a.at'.2-a.at'.1:=by
     rw [Qy,QB,(h.mok z v).lG];omega
    rw [B] at hy;refine ⟨a.cor,by rw [Q,h.sn z v];exact za hy ha u,R,λt Y=>?_⟩
    have Z:t<a.at'.2-a.at'.1:=by
     have:t<(((M.m z).G.drop a.at'.1).take (a.at'.2-a.at'.1)).length:=Y;omega
    show nth (((M.m z).G.drop a.at'.1).take (a.at'.2-a.at'.1)) t=if a.ph=0 then rq i a.st (cV (ax i).W z 0 a.rd) a.rd (a.at'.1+t) else pB i a.st (a.at'.1+t)
    rw [eH Z,eI,U];exact ((hr.mv z v).g O (a.at'.1+t) ap).send hs v V ha u ⟨by omega,by omega⟩ (by unfold Vn at *;omega)
  .have I:(⟨aY M.m x (adv i x (M.m x)),aY M.s x ((M.s x).send ⟨a.tg,((M.m x).G.drop a.at'.1).take (a.at'.2-a.at'.1)⟩)⟩:WSt).s z=M.s z:=bD _ _ e;rw [I] at D |-;exact hr.ct z v j D
 | recv y a hy ha hk hlt heq=>
  have p:=dm hy;have u:=oD p.2 ha hk;obtain ⟨c,c1,c2⟩:=hr.ct _ L _ hlt;have J:=h.rn _ L;rw [um A] at J;have e:=un i (pvW (ax i).W x) i.cfg.steps.toNat;rw [show (pvW (ax i).W x+1)%(ax i).W=x from um A] at e;rw [show ie (dA i (pvW (ax i).W x))=iz (dA i x) from e,J] at c1;have N:=hy;rw [B] at N;have T:=zv N ha u;rw [show (iz (List.take (M.pos i x) (dA i x))).length=rN i x (M.pos i x) from rfl,c1] at T;injection T with T
  subst T;refine ⟨H ((hr.mv x A).recv (h.mok x A) hs A hy ha hk u c2),λz v j D=>?_⟩
  have hm:((⟨aY M.m x (adv i x {M.m x with G:=iK (M.m x).G a.at'.1 (aO (M.s (pvW (ax i).W x)).msgs (M.s (pvW (ax i).W x)).recv).vals a.add}),aY (aY M.s (pvW (ax i).W x) {M.s (pvW (ax i).W x) with recv:=(M.s (pvW (ax i).W x)).recv+1}) x (M.s x)⟩:WSt).s z).msgs=(M.s z).msgs:=by
   show (aY (aY M.s (pvW (ax i).W x) _) x (M.s x) z).msgs=_
   by_cases I:z=x
   .subst I;rw [bF]
   .rw [bD _ _ I];by_cases e2:z=pvW (ax i).W x
    .subst e2;rw [bF]
    .rw [bD _ _ e2]
  rw [hm] at D |-;exact hr.ct z v j D
theorem RW.zero (hs:bK i):RW i (lE i):=⟨λx _=>RIv.zero hs x,λx _ j h=>by simp [lE,LSt.new] at h⟩
theorem RIv.done (h:RIv i x m) (hm:MOk i x m) (hs:bK i) (o:bq i x m=(dA i x).length):m.rc=jX i (i.cfg.steps.toNat+1):=by
 rw [h.rc];rcases hm.ps with ⟨h1,p⟩ | ⟨h1,_⟩
 .rw [kD hs.ok] at o;unfold bq at o;have:=QY (aE (ax i) x 0).length (Nat.succ_le_of_lt h1);rw [QM] at this;omega
 .rw [h1]
theorem RW.pickZ (hr:RW i M) (h:fW i M) (hs:bK i) (z:Int):RW i (pkZ i M z).1:=by
 unfold pkZ
 split
 .obtain ⟨C,o, -⟩:=pN h hs (x:=z.toNat) ap;exact o.ring h.ok hr hs ap
 .exact hr
theorem RW.run (hr:RW i M) (h:fW i M) (hs:bK i):∀l:Q_,RW i (lV i M l).1:=by
 have o:∀l:Q_,RW i (lV i M l.reverse).1:=by
  intro l
  induction l with
  | nil=>exact hr
  | cons z l ih=>
   rw [List.reverse_cons,wg];exact ih.pickZ (DH h hs _).1 hs z
 intro l;have:=o l.reverse
 rwa [List.reverse_reverse] at this
def smJ:Inp:=⟨⟨[1,1],1,0,0,2,2,1,0,1,1,1,1⟩,[([1],[1]),([1],[1])],[5,6],[]⟩
theorem IQ:iX smJ:=by
 refine ⟨⟨by decide,by decide,⟨⟨by decide,λk hk=>?_⟩,by decide⟩,by decide,by decide,by decide,by decide,by decide,by decide,by decide⟩,by decide,λx h=>?_,by decide,by decide⟩
 .have:k=0\/k=1:=by have:k<2:=hk;omega
  rcases this with rfl | rfl<;>decide
 .have:x=([1],[1]):=by simpa [smJ] using h
  subst this;decide
theorem BN:bK smJ:=⟨IQ,by decide,by decide,by decide,by decide,by decide⟩
theorem Mp:(lE smJ).fin smJ:=λx i=>by
 have:x=0\/x=1:=by have h:(ax smJ).W=2:=rfl;omega
 rcases this with rfl | rfl<;>rfl
theorem NJ {b:Nat} (y:Vg w b #[QZ 1,QZ 1] 3) {b3 b4 b5 b6:Nat} (A:Vg w b3 #[QZ 1] 2) (u:Vg w b4 #[QZ 1] 2) (v:Vg w b5 #[Vf b3 0 1 1,Vf b4 0 1 1,Vf b3 0 1 1,Vf b4 0 1 1] 91) (p:Vg w b6 #[QZ 5,QZ 6] 2):
  gM w (some (ar b 0)) 2 (some (ar b5 0)) (some (ar b6 0)) 2 none smJ:=by
 refine ⟨⟨by decide,by decide,by decide,zy y⟩,?_,by decide,⟨by decide,by decide,zy p,xH (by simp [smJ])⟩,by decide,Rd.nil _ _,by decide,λk hk=>absurd hk (by simp [smJ]),by decide,by decide⟩;refine ⟨[[Vf b3 0 1 1,Vf b4 0 1 1],[Vf b3 0 1 1,Vf b4 0 1 1]],zy v,rfl,by simp,λj x o=>?_⟩;have i:j=0\/j=1:=by have:=(Qu.1 o).1;simp [smJ] at this;omega
 have h:x=([1],[1]):=by rcases i with rfl | rfl<;>simpa [smJ] using o.symm
 subst h;exact ⟨_,_,_,_,by rcases i with rfl | rfl<;>rfl,⟨by decide,by decide,zy A,xH V3⟩,⟨by decide,by decide,zy u,xH V3⟩⟩
theorem sG (w:R8):Vj 12 #[] w λe h=>Vi e (.bool true)/\aq w h:=by
 go_enter func12,ntmps12;go_wp2_with fail;have i:=NJ (cu [.cells #[QZ 1,QZ 1] 3,.cells #[Vf (Ve w) 0 2 2,QZ 1,QZ 0,QZ 0,QZ 2,QZ 2,QZ 1,QZ 0,QZ 1,QZ 1,QZ 1,QZ 1] 24,.cells #[QZ 1] 2,.cells #[QZ 1] 2,.cells #[Vf (Ve w+1+1) 0 1 1,Vf (Ve w+1+1+1) 0 1 1] 91,.cells #[Vf (Ve w+1+1) 0 1 1,Vf (Ve w+1+1+1) 0 1 1,Vf (Ve w+1+1) 0 1 1,Vf (Ve w+1+1+1) 0 1 1] 91,.cells #[QZ 5,QZ 6] 2] w 0 rfl) (b3:=Ve w+1+1) (b4:=Ve w+1+1+1) (b5:=Ve w+1+1+1+1+1) (b6:=Ve w+1+1+1+1+1+1) (cu [.cells #[QZ 1,QZ 1] 3,.cells #[Vf (Ve w) 0 2 2,QZ 1,QZ 0,QZ 0,QZ 2,QZ 2,QZ 1,QZ 0,QZ 1,QZ 1,QZ 1,QZ 1] 24,.cells #[QZ 1] 2,.cells #[QZ 1] 2,.cells #[Vf (Ve w+1+1) 0 1 1,Vf (Ve w+1+1+1) 0 1 1] 91,.cells #[Vf (Ve w+1+1) 0 1 1,Vf (Ve w+1+1+1) 0 1 1,Vf (Ve w+1+1) 0 1 1,Vf (Ve w+1+1+1) 0 1 1] 91,.cells #[QZ 5,QZ 6] 2] w 2 rfl) (cu [.cells #[QZ 1,QZ 1] 3,.cells #[Vf (Ve w) 0 2 2,QZ 1,QZ 0,QZ 0,QZ 2,QZ 2,QZ 1,QZ 0,QZ 1,QZ 1,QZ 1,QZ 1] 24,.cells #[QZ 1] 2,.cells #[QZ 1] 2,.cells #[Vf (Ve w+1+1) 0 1 1,Vf (Ve w+1+1+1) 0 1 1] 91,.cells #[Vf (Ve w+1+1) 0 1 1,Vf (Ve w+1+1+1) 0 1 1,Vf (Ve w+1+1) 0 1 1,Vf (Ve w+1+1+1) 0 1 1] 91,.cells #[QZ 5,QZ 6] 2] w 3 rfl) (cu [.cells #[QZ 1,QZ 1] 3,.cells #[Vf (Ve w) 0 2 2,QZ 1,QZ 0,QZ 0,QZ 2,QZ 2,QZ 1,QZ 0,QZ 1,QZ 1,QZ 1,QZ 1] 24,.cells #[QZ 1] 2,.cells #[QZ 1] 2,.cells #[Vf (Ve w+1+1) 0 1 1,Vf (Ve w+1+1+1) 0 1 1] 91,.cells #[Vf (Ve w+1+1) 0 1 1,Vf (Ve w+1+1+1) 0 1 1,Vf (Ve w+1+1) 0 1 1,Vf (Ve w+1+1+1) 0 1 1] 91,.cells #[QZ 5,QZ 6] 2] w 5 rfl) (cu [.cells #[QZ 1,QZ 1] 3,.cells #[Vf (Ve w) 0 2 2,QZ 1,QZ 0,QZ 0,QZ 2,QZ 2,QZ 1,QZ 0,QZ 1,QZ 1,QZ 1,QZ 1] 24,.cells #[QZ 1] 2,.cells #[QZ 1] 2,.cells #[Vf (Ve w+1+1) 0 1 1,Vf (Ve w+1+1+1) 0 1 1] 91,.cells #[Vf (Ve w+1+1) 0 1 1,Vf (Ve w+1+1+1) 0 1 1,Vf (Ve w+1+1) 0 1 1,Vf (Ve w+1+1+1) 0 1 1] 91,.cells #[QZ 5,QZ 6] 2] w 6 rfl);have hc:=vQ (E:=λ_=>False) (some (ar (Ve w) 0)) 2 (some (ar (Ve w+1+1+1+1+1) 0)) 2 (some (ar (Ve w+1+1+1+1+1+1) 0)) 2 none 0 smJ (vl w [.cells #[QZ 1,QZ 1] 3,.cells #[Vf (Ve w) 0 2 2,QZ 1,QZ 0,QZ 0,QZ 2,QZ 2,QZ 1,QZ 0,QZ 1,QZ 1,QZ 1,QZ 1] 24,.cells #[QZ 1] 2,.cells #[QZ 1] 2,.cells #[Vf (Ve w+1+1) 0 1 1,Vf (Ve w+1+1+1) 0 1 1] 91,.cells #[Vf (Ve w+1+1) 0 1 1,Vf (Ve w+1+1+1) 0 1 1,Vf (Ve w+1+1) 0 1 1,Vf (Ve w+1+1+1) 0 1 1] 91,.cells #[QZ 5,QZ 6] 2]) i BN (λ_ e=>e.elim);have hb:=eJ [.cells #[QZ 1,QZ 1] 3,.cells #[Vf (Ve w) 0 2 2,QZ 1,QZ 0,QZ 0,QZ 2,QZ 2,QZ 1,QZ 0,QZ 1,QZ 1,QZ 1,QZ 1] 24,.cells #[QZ 1] 2,.cells #[QZ 1] 2,.cells #[Vf (Ve w+1+1) 0 1 1,Vf (Ve w+1+1+1) 0 1 1] 91,.cells #[Vf (Ve w+1+1) 0 1 1,Vf (Ve w+1+1+1) 0 1 1,Vf (Ve w+1+1) 0 1 1,Vf (Ve w+1+1+1) 0 1 1] 91,.cells #[QZ 5,QZ 6] 2] w;refine Calls.mono hc ?_;rintro e p hn;obtain ⟨X,rfl,hw, -,D⟩:=hn.win;have J:=hb.trans (D.mono hb.size);have L:=λh (q:aq p h)=>(hw.below q).done BN (Bo:=true) ⟨λ_=>Mp,λ_=>rfl⟩;have H:=λh (q:aq p h)=>(hw.below q).trajIn BN (x:=1) V0;have ⟨Q,N,C⟩:=af L H J;clear i hc hb hn hw D J L H;go_wp2_with fail;refine (Q.o p (br p)).mono ?_;rintro e T ⟨rfl,I⟩;have u:=aa I;clear I;go_wp2_with fail;refine (N.o _ u.o).mono ?_;rintro e R ⟨v,rfl,B,y⟩;obtain ⟨A,c,rfl, -⟩:=B.form;have O:=aa (C.o.trans ((u.o.trans (y.mono u.o.size)).mono C.o.size));have h1:((lE smJ).m 1).rc.length=1:=rfl;rw [h1];clear y B;go_wp2;go_ret;exact ⟨rfl,O.o⟩
def Pw (i:Inp):Prop:=Mb i/\(ez i=0->i.cfg.workers<=6/\i.cfg.steps<=5/\i.start.length<=40)
theorem Ck (A:N_) (c:Nat) (D:N_) (H:Nat) (T:N_) (ct:Nat) (R:N_) (B:Nat) (i:Inp) (w:R8) (h:kJ w A c D T ct R i):Vj 11 #[.agg (aL A c D H T ct R B i)] w (vr (Pw i) w):=by
 have ⟨v,x⟩:=Vb (w.alloc (.cells (aL A c D H T ct R B i) 29));have N:Vg v (Ve w) (aL A c D H T ct R B i) 29:=by rw [<-x];exact PW w _
 have y:aq w v:=by rw [<-x];exact (br w).alloc (PV _) _
 have Z:=Cl A c D H T ct R B i v (h.below y);have Q:=λ(hs:lO i) p (q:aq v p)=>iP A c D H T ct R B i p (((h.rd hs).below y).below q);have t4:∀p,aq v p->Vh p (Ve w) 4 (QZ i.cfg.workers):=λp q=>PX p (Ve w) 4 _ _ _ (sb N p q);have t7:∀p,aq v p->Vh p (Ve w) 7 (QZ i.cfg.steps):=λp q=>PX p (Ve w) 7 _ _ _ (sb N p q);have a1:∀p,aq v p->Vh p (Ve w) 13 (.slice T (Vn i) ct):=λp q=>PX p (Ve w) 13 _ _ _ (sb N p q);unfold vr Pw;unfold vr at Z;have ⟨L,J,Hf,a0,G0⟩:=ah x y Z Q N;have q0:=br v;clear x N y Z Q h;go_enter func11,ntmps11;go_wp2_with (refine aQ (aL A c D H T ct R B i) (b:=Ve w) (by rw [L.o];exact G0.o) gu rfl rfl rfl rfl ?_);rw [L.o];refine Hf.o.mono ?_;rintro e w1 ⟨⟨b,rfl,hb⟩,U⟩;have O:=bt q0 U;have ⟨I,Y⟩:=ae (J.o.trans (U.mono J.o.size)) hb;clear hb U q0
 cases b with
 | false=>
  go_wp2;go_ret;exact ⟨⟨false,rfl,λh=>by cases h⟩,I.o⟩
 | true=>
  go_wp2_with (first | (refine aQ (aL A c D H T ct R B i) (sb G0.o _ O) gu rfl rfl rfl rfl ?_) | (refine mw (aL A c D H T ct R B i) (sb G0.o _ O) gu rfl rfl rfl rfl ?_));refine (a0.o (Y.o (by trivial)).1 w1 O).mono ?_;rintro e w2 ⟨rfl,k2⟩;have q2:=bt O k2;have u:=aa (I.o.trans (k2.mono I.o.size));clear k2 O;have ⟨C,V⟩:=Vb (ez i);rw [V];have HC:=aa V;clear V;by_cases h0:C=0
  .subst h0;by_cases h6:i.cfg.workers<=6
   .by_cases h5:i.cfg.steps<=5
    .by_cases h4:Vn i<=40
     .go_wp2;go_ret;exact ⟨⟨_,rfl,λ_=>⟨Y.o (by trivial),λ_=>⟨h6,h5,h4⟩⟩⟩,u.o⟩
     .go_wp2;go_ret;exact ⟨⟨false,by simp;omega,λh=>by cases h⟩,u.o⟩
    .go_wp2;go_ret;exact ⟨.inl rfl,u.o⟩
   .go_wp2;go_ret;exact ⟨.inl rfl,u.o⟩
  .go_wp2;go_ret;exact ⟨⟨true,rfl,λ_=>⟨Y.o (by trivial),λh=>absurd (HC.o.symm.trans h) h0⟩⟩,u.o⟩
section
open Go.ChangeShapes Go.WideShapes Go.ChangeAt
theorem JR {H:Type} {i:R9×Value->H} {W:R8} {d:DataW H} {p:List MemPlace} (o:Value.okWide prog W .any base 22 v) (h:DataW.Trod i prog W 0 (λ_=>true) true 22 v d p) (z:jH prog 22 d):
  ∃(A:N_) (l:Q_) (c:Nat),v=.slice A l.length c/\OB W A l c:=by
 obtain ⟨a,C,cap,rfl⟩:=okWide_slice underlying22 o;have ⟨l,⟨A,c,e,h1,u,B,x,y⟩,_⟩:=sy uk h z;simp [Value.cells] at e;obtain ⟨rfl,rfl,rfl⟩:=e;exact ⟨_,l,_,rfl,⟨h1,u,B,x,xG y⟩⟩
def MtP (h:N_) (o:Q_) (vs:R6) (i:Inp) (M0:WSt) (u:R8):Prop:=Rd u h (aA .i64 o)/\RWm u vs i M0
theorem MtP.stab {o:N_} {p:Q_}:vH (MtP o p vs i M0):=λ_ _ he h=>⟨aW h.1 he,h.2.ext he⟩
end
theorem JE (A:N_) (c:Nat) (D:N_) (p:Nat) (T:N_) (ct:Nat) (R:N_) (u:Nat) (i:Inp) (hs:bK i):∃v:R6,(∀w,Vj 29 #[.agg (aL A c D p T ct R u i)] w λe o=>Vi e (.agg v)/\aq w o)/\
  ∀w,Vj 28 #[.agg v] w λe o=>Vi e (Vd (vw i))/\aq w o:=by
 have hg:=hs.g.c;have O:=hg.w;have y:=hg.mi;have x:=hg.st;have I:=hg.bu;have U:=hg.ch;have C:=hg.wi;have J:((ax i).W:Int)=i.cfg.workers:=by simp only [ax];omega
 have Q:((ax i).mi:Int)=i.cfg.micros:=by simp only [ax];omega
 have L:((i.cfg.steps.toNat:Nat):Int)=i.cfg.steps:=ap;have N:((ax i).bu:Int)=i.cfg.bucket:=by simp only [ax];omega
 have B:((ax i).ck:Int)=i.cfg.chunk:=by simp only [ax];omega
 have H:((ax i).wi:Int)=i.cfg.window:=by simp only [ax];omega
 have h:=λo=>I8 (ax i) i.cfg.steps.toNat (.slice A i.cfg.sizes.length c) (QZ i.cfg.shift) (QZ i.cfg.rate) (QZ i.cfg.mom) (QZ i.cfg.batch) (QZ i.cfg.cap) o hs.ok (by simp only [ax];omega) (by simp only [ax];omega) (by have:=hs.s;omega);unfold Vd at h;rw [<-sK hs.ok,J,Q,L,N,B,H] at h;exact ⟨_,λo=>jl A i.cfg.sizes.length c i.cfg.shift i.cfg.rate i.cfg.mom i.cfg.workers i.cfg.batch i.cfg.micros i.cfg.steps i.cfg.bucket i.cfg.chunk i.cfg.window i.cfg.cap D i.data.length p T i.start.length ct R i.draws.length u o,h⟩
section
open Go.ChangeShapes Go.WideShapes Go.ChangeAt
theorem qe {H:Type} {d8:R9×Value->H} {base:Nat} {v0 v1 v2:Value} {d0 d1 d2:DataW H} {p0 p1 p2:List MemPlace} (W:R8) (o0:Value.okWide prog W .any base 29 v0) (h0:DataW.Trod d8 prog W 0 (λ_=>true) true 29 v0 d0 p0) (z0:jH prog 29 d0) (o1:Value.okWide prog W .any base 22 v1) (h1:DataW.Trod d8 prog W 0 (λ_=>true) true 22 v1 d1 p1) (z1:jH prog 22 d1) (o2:Value.okWide prog W .any base 3 v2) (h2:DataW.Trod d8 prog W 0 (λ_=>true) true 3 v2 d2 p2) (z2:jH prog 3 d2):Calls prog 5 #[v0,v1,v2] W λe y=>e=.returned (.bool true)/\aq W y:=by
 obtain ⟨A,c,D,V,T,ct,R,N,i,rfl,hI,_⟩:=JT o0 h0 z0;obtain ⟨B0,O,dk,rfl,ei⟩:=JR o1 h1 z1;obtain ⟨most,rfl,_,_,g1⟩:=open_int underlying3 o2 h2;clear o0 h0 z0 o1 h1 z1 o2 h2 z2 g1;have b0:=λy (q:aq W y)=>Ck A c D V T ct R N i y (hI.below q);have eL:=λy (q:aq W y) (hs:lO i)=>(hI.below q).rd hs;have e8:=λy (q:aq W y)=>ei.hr.below q;unfold vr at b0;obtain ⟨W1,b8⟩:∃W1,W.alloc (.cells (aL A c D V T ct R N i) 29)=W1:=⟨_,rfl⟩;have hx:W1.heap[W.heap.size]?=some (.cells (aL A c D V T ct R N i) 29 (0,0)):=by rw [<-b8];exact PW W _
 have hB:aq W W1:=by rw [<-b8];exact (br W).alloc (PV _) _
 have tl:=sl hx;obtain ⟨L,eu,ee,a0,HB,gb,Hx,bh⟩:=ak hx b8 b0 eL hB e8 (λy (q:aq W1 y)=>hB.trans (q.mono hB.size)) (λy (q:aq W1 y)=>(sG y).mono λe gk (h:_/\Below _ _ _)=>(⟨h.1,hB.trans ((q.trans (h.2.mono q.size)).mono hB.size)⟩:e=.returned (.bool true)/\aq W gk));obtain ⟨bn,aG⟩:∃bn,O.length=bn:=⟨_,rfl⟩;rw [aG];have b6:=aa aG;clear b0 eL hI hx hB b8 e8 ei aG;go_enter func5,ntmps5;go_wp2_with (refine aQ (aL A c D V T ct R N i) (b:=W.heap.size) (by rw [eu.o];exact L.o) gu rfl rfl rfl rfl ?_);rw [eu.o];have q1:=br W1;refine (ee.o W1 (Hx.o _ q1)).mono ?_;rintro e w2 ⟨⟨b,rfl,c8⟩,k2⟩;have q2:=bt q1 k2;clear q1 k2;rcases eD b with rfl | rfl
 .clear c8;go_wp2_with fail;refine (bh.o _ q2).mono ?_;rintro e w3 ⟨rfl,h3⟩;go_wp2;go_ret;exact ⟨rfl,h3⟩
 obtain ⟨Hs,Q2⟩:=ae (c8 rfl) q2;have ej:=aa (a0.o w2 (Hx.o _ q2) Hs.o.1.1);clear c8 q2;go_wp2_with (refine mw (aL A c D V T ct R N i) (sb L.o _ Q2.o) gu rfl rfl rfl rfl ?_);refine (iP A c D V T ct R N i w2 ej.o).mono ?_;rintro e w3 ⟨rfl,k3⟩;have Q3:=aa (bt Q2.o k3);clear k3 ej;by_cases a2:ez i=0/\bn<=100/\most<=4000;rotate_left
 .obtain ⟨C,hC⟩:∃C,ez i=C:=⟨_,rfl⟩;rw [hC] at a2 |-;clear hC;by_cases h0:C=0
  .subst h0;by_cases dn:bn<=100
   .have d3:¬(100:Int)<bn:=ap
    have gd:(4000:Int)<most:=by
     by_cases h:(4000:Int)<most
     .exact h
     .exact absurd ⟨rfl,dn,by omega⟩ a2
    clear a2;go_wp2_with fail;refine (bh.o _ Q3.o).mono ?_;rintro e w4 ⟨rfl,h3⟩;go_wp2;go_ret;exact ⟨rfl,h3⟩
   .have d3:(100:Int)<bn:=ap;clear a2;go_wp2_with fail;refine (bh.o _ Q3.o).mono ?_;rintro e w4 ⟨rfl,h3⟩;go_wp2;go_ret;exact ⟨rfl,h3⟩
  .clear a2;have gO:(C != 0)=true:=by rw [bne_iff_ne];exact h0
   go_wp2_with fail;refine (bh.o _ Q3.o).mono ?_;rintro e w4 ⟨rfl,h3⟩;go_wp2;go_ret;exact ⟨rfl,h3⟩
 obtain ⟨hc,gI,gx⟩:=a2;have dv:=Hs.o.1.sm hc;rw [hc];have x:=aa dv;have gm:¬(100:Int)<bn:=ap;have fi:¬(4000:Int)<most:=ap;have a4:=aa Hs.o.1.1;have fa:=aa (a0.o w3 (Hx.o _ Q3.o) a4.o).ra;have dp:=aa (a0.o w3 (Hx.o _ Q3.o) a4.o).rm;clear hc dv Hs;go_wp2_with (refine aQ (aL A c D V T ct R N i) (b:=W.heap.size) (sb L.o _ Q3.o) gu rfl rfl rfl rfl ?_);have eq:=aa (a0.o w3 (Hx.o _ Q3.o) a4.o);have I:=vQ (E:=λ_=>False) A c D V T ct R N i w3 eq.o x.o (λ_ e=>e.elim);refine I.mono ?_;rintro e w4 hn;obtain ⟨X,rfl,J4,hX,k4⟩:=hn.winP (P:=λu=>gM u A c D T ct R i/\Rd u B0 (aA .i64 O)) (λS hS=>⟨fM eq.o (yz hn.q λk e=>(hS k e).elim id False.elim),aW (gb.o _ (Hx.o _ Q3.o)) (yz hn.q λk e=>(hS k e).elim id False.elim)⟩);obtain ⟨cc,Q4⟩:=ae J4 (bt Q3.o k4);clear J4 hn I k4;go_wp2_with (refine aQ (aL A c D V T ct R N i) (b:=W.heap.size) (sb L.o _ Q4.o) gu rfl rfl rfl rfl ?_);obtain ⟨S,cj,⟨cb,f3⟩,g9,c6⟩:=cc.o.refE;have I:=OU (S:=S) A c D V T ct R N i cj (a0.o w4 (Hx.o _ Q4.o) a4.o) (λy q=>fM cb (dI q)) x.o;obtain ⟨gs,g0,dG,bA⟩:=ag cj cb f3 c6;clear cj cb f3 g9 c6;refine I.mono ?_;rintro e w5 ⟨vs,rfl,hz,ho,hm,k5⟩;obtain ⟨Hz,Ho,HM,K5,Q5⟩:=ah hz ho hm k5 (bt Q4.o k5);clear I hz ho hm k5;go_upto_region 5 with (refine aI (PW _ _) bW rfl rfl rfl rfl Hz.o (by rw [Hz.o];rfl) Ho.o ?_;intro w6 e6 k6;obtain ⟨E6,K6⟩:=ae e6 (aN k6);clear e6 k6);have Q6:=aa (bt Q5.o K6.o);obtain ⟨Y,hY⟩:∃Y,w5.heap.size=Y:=⟨_,rfl⟩;have cM:aq w4 w6:=bt K5.o K6.o
 have J6:=bA.o (MtP B0 O vs i (lE i)) (λk=>k=Y) w6 cM (λ_ e=>e.elim) (λk e=>⟨by have:=PU E6.o;omega,.inr (by have:=K5.o.size;omega)⟩)
  ⟨aW dG.o (bC (Keep.below cM) λk hk e=>e.elim id λe=>by have:=K5.o.size;omega),HM.o.ext (bC (Keep.below K6.o) λk hk e=>e.elim id λe=>ap)⟩
 obtain ⟨e1,em⟩:=ae (show WB (MtP B0 O vs i (lE i)) Y vs i w3 X (lE i) w6 from ⟨J6,by rw [<-hY];exact E6.o⟩) (show w3.heap.size<=Y by have:=K5.o.size;have:=cc.o.q.size;omega);clear HM K5 K6 gs g0 dG bA cc cM J6 E6 Q6 Q5;rw [hY];clear hY;have U:=aa (e1.o.run MtP.stab x.o fa.o dp.o (A:=B0) (c:=dk) (l:=O) (by rw [b6.o];omega) (λu hu=>hu.1));rw [b6.o] at U;obtain ⟨M0,b7⟩:∃M0,(lV i (lE i) O).1=M0:=⟨_,rfl⟩;obtain ⟨n0,cx⟩:∃n0,(lV i (lE i) O).2=n0:=⟨_,rfl⟩;have bv:fW i M0/\RW i M0:=by rw [<-b7];exact ⟨(DH (fW.zero x.o) x.o O).1,(RW.zero x.o).run (fW.zero x.o) x.o O⟩
 rw [b7,cx] at U;obtain ⟨es,ev,bV⟩:=af b7 cx bv;clear e1 b7 cx bv;go_wp2_with fail;refine U.o.mono ?_;rintro e w7 ⟨rfl,j7⟩;obtain ⟨E7,d5⟩:=ae j7.b (λy (q:aq w7 y)=>sb j7.b y q);obtain ⟨S1,f4,b9, -,a5⟩:=j7.j.ref;have ab:=OT (S:=S1) (w:=w7) (A:=B0) (c:=dk) (l:=O) x.o f4 b9.2 (by rw [b6.o];omega) (aW b9.1 (dO _ _));rw [b6.o,es.o,ev.o] at ab;obtain ⟨bO,f8,a3⟩:=af ab b9.1 a5;clear j7 f4 b9 a5 ab U;go_wp2_with (refine aQ vs (b:=Y) (o:=0) E7.o (by rw [Hz.o];exact bW) rfl rfl rfl (by rw [Qs];exact QF) ?_);refine bO.o.mono ?_;rintro e w8 ⟨bf,rfl,eo,ef,e7,k8⟩;obtain ⟨cL,fn,eV,K8⟩:=ag eo ef e7 k8;clear bO eo ef e7 k8;go_upto_region 7 with (refine aI (b:=Y) (d5.o w8 K8.o) bW rfl rfl rfl rfl cL.o (by rw [Hz.o];exact cL.o.symm) fn.o ?_;intro w9 e9 k9;obtain ⟨E9,K9⟩:=ae e9 k9;clear e9 k9);have J8:=a3.o (MtP B0 O bf i M0) w8 K8.o ⟨aW f8.o (dI K8.o),eV.o⟩;have j9:=(show WB (MtP B0 O bf i M0) Y vs i w3 X M0 w8 from ⟨J8,d5.o w8 K8.o⟩).put MtP.stab K9.o E9.o;obtain ⟨M1,b2⟩:∃M1,(C3 i M0 most).1=M1:=⟨_,rfl⟩;obtain ⟨n1,c9⟩:∃n1,(C3 i M0 most).2=n1:=⟨_,rfl⟩;obtain ⟨fb,bd⟩:∃fb,AN i M1=fb:=⟨_,rfl⟩;have ad:=j9.fin MtP.stab x.o fa.o dp.o (most:=most) ap;have bb:=λ(S:Nat->Prop) y hS h=>OV (S:=S) (w:=y) (vs:=bf) (i:=i) (M:=M0) (most:=most) x.o ap hS h;rw [b2,c9,bd] at ad;unfold OE at bb;simp only [b2,c9,bd] at bb
 have bI:fW i M1/\RW i M1:=by
  rw [<-b2];exact AK (Q:=λM=>fW i M/\RW i M) (λM z h=>⟨(JH h.1 x.o z).1,h.2.pickZ h.1 x.o z⟩) _ _ _ bV.o
 have bN:fb=true↔M1.fin i:=by rw [<-bd];exact uM
 obtain ⟨c7,fd,a9,bo⟩:=ag ad bb bI bN;clear J8 j9 b2 c9 bd ad bb bI bN E7 d5 f8 a3 eV K8 K9 E9 es ev bV;go_wp2_with fail;refine c7.o.mono ?_;rintro e eG ⟨rfl,co⟩;have eS:=aa co.b;obtain ⟨S2,er,d9, -,aP⟩:=co.j.ref;have f7:=fd.o S2 eG er d9.2;obtain ⟨f0,dT,aM⟩:=af f7 d9.1 aP;clear co er d9 aP f7 c7 fd;go_wp2_with (refine aQ bf (b:=Y) (o:=0) eS.o (by rw [cL.o];exact bW) rfl rfl rfl (by rw [Qs];exact QF) ?_);refine f0.o.mono ?_;rintro e gc ⟨d6,rfl,dw,eX,f1,ew⟩;obtain ⟨cw,g3,f5,ek⟩:=ag dw eX f1 ew;clear f0 dw eX f1 ew;go_upto_region 9 with (refine aI (PW _ _) bW rfl rfl rfl rfl cw.o (by rw [cw.o];rfl) g3.o ?_;intro fc eM f9;obtain ⟨dc,cA⟩:=ae eM (aN f9);clear eM f9);have a7:aq eG fc:=bt ek.o cA.o;have b3:=aM.o (MtP B0 O d6 i M1) fc a7 ⟨aW dT.o (dI a7),f5.o.ext (dI cA.o)⟩;obtain ⟨Z,hZ⟩:∃Z,gc.heap.size=Z:=⟨_,rfl⟩;rw [hZ];rw [hZ] at dc;obtain ⟨a8,bs⟩:=ae (NQ b3.win x.o (b3.p MtP.stab).2) b3;have gy:(fb != fb)=false:=by simp
 have gG:((n1:Int) != n1)=false:=by simp
 clear a7 b3 hZ aM dT f5 ek cA eS;go_wp2_with (refine mw d6 (b:=Z) (o:=0) dc.o (by rw [cw.o];exact bW) rfl rfl rfl (by rw [Qs];exact QF) ?_);refine a8.o.mono ?_;rintro e cP ⟨rfl,eB⟩;have d7:=bs.o.below MtP.stab eB;obtain ⟨gf,bM⟩:=ae (λ(y:R8) (J:kK (MtP B0 O d6 i M1) (λk=>k=Y) i w3 X M1 y)=>bt Q3.o (J.q.toBelow (PV _) (λk e=>by rw [show k=Y from e];exact em.o))) d7;have b5:=aa (gf.o cP d7);clear d7 eB a8 bs gy gG dc;go_wp2_with (refine aQ (aL A c D V T ct R N i) (b:=W.heap.size) (sb L.o _ b5.o) gu rfl rfl rfl rfl ?_);refine (xW A c D V T ct R N i cP (a0.o cP (Hx.o _ b5.o) a4.o) x.o.g).mono ?_;intro e av ds;rcases (ds.is x.o.g) with ⟨cn,⟨-,AS,cs,rfl,e5⟩ | ⟨fr, -⟩⟩
 rotate_left
 .exact absurd x.o.g fr
 obtain ⟨fe,bX,ci⟩:=af e5 (bM.o.below MtP.stab cn) (bt b5.o cn);have g6:=x.o.s;have g7:=x.o.g.c.w;have gl:=x.o.ok.W8;obtain ⟨Wn,ea⟩:∃Wn:Nat,i.cfg.workers=(Wn:Int):=⟨i.cfg.workers.toNat,by omega⟩;have b1:(ax i).W=Wn:=by simp only [ax];omega
 have c4:av.cell? (ar W.heap.size 4)=some (QZ (Wn:Nat)):=by rw [<-ea];exact PX av W.heap.size 4 _ _ _ (sb L.o av ci.o)
 obtain ⟨TL,be⟩:∃TL,jX i (i.cfg.steps.toNat+1)=TL:=⟨_,rfl⟩;have a6:TL.length=i.cfg.steps.toNat+1:=by rw [<-be];simp [jX]
 obtain ⟨sn,cl⟩:∃sn,i.cfg.steps.toNat+1=sn:=⟨_,rfl⟩;rw [be] at fe;rw [cl] at a6;rw [cl]
 have el:fb=true->∀k,k<Wn->(M1.m k).rc=TL:=λhb k hk=>by
  rw [<-be];have hx:k<(ax i).W:=by rw [b1];exact hk
  exact (a9.o.2.mv k hx).done (a9.o.1.ok.mok k hx) x.o (bo.o.1 hb k hx)
 obtain ⟨fs,B,g4⟩:=af el a6 b1;have gN:sn<=7:=ap;rw [b1] at gl;clear ds e5 cn be a6 el b1 ea g7 g6 cl bM b5;go_wp2_with fail;clear c4
 go_loopw [91] (λu wr=>∃k:Nat,k<=Wn/\u=QZ k/\aq av wr) (λu _=>Wn-(intOf u).toNat)
 .exact ⟨0,PZ _,rfl,br av⟩
 case round=>
  obtain ⟨k,hk,rfl,q⟩:=hrel;by_cases e2:k<Wn
  .have gR:(k:Int)<Wn:=ap;have Qr:=aa q;have w1:IntKind.i64.wrap ((k:Int)+1)=(k:Int)+1:=P3 _ ap
   cases fb with
   | false=>
    clear q;go_wp2;go_roundw
    .exact ⟨k+1,by omega,by go_num,Qr.o⟩
    .simp [intOf];omega
   | true=>
    have hx:k<(ax i).W:=by rw [g4.o];exact e2
    have cO:=(bX.o.below MtP.stab q).win.trajIn x.o hx;rw [fs.o rfl k e2] at cO;have ey:=aa cO;clear cO q hx;go_wp2_with fail;refine ey.o.mono ?_;rintro e cv ⟨v,rfl,cy,a1⟩;obtain ⟨gA,gz,rfl, -⟩:=cy.form;have da:=xr gA TL gz cv cy.rd (by rw [B.o];omega);rw [B.o] at da;obtain ⟨dr,go⟩:=ae da a1;rw [B.o];clear cy a1 da ey;go_wp2_with fail;refine dr.o.mono ?_;rintro e d4 ⟨gg,g2,rfl,e4,ao⟩;have cf:=bt (bt Qr.o go.o) ao;have b4:=vW gg AS TL TL g2 cs d4 e4 (fe.o.below dB cf) (by rw [B.o];omega) (by rw [B.o];omega);rw [B.o] at b4;simp only [decide_true] at b4;obtain ⟨bG,g5⟩:=ae b4 cf;clear e4 ao cf b4 dr;go_wp2_with fail;refine bG.o.mono ?_;rintro e f6 ⟨rfl,aR⟩;have gp:=aa (bt g5.o aR);clear aR bG;go_wp2;go_roundw
    .exact ⟨k+1,by omega,by go_num,gp.o⟩
    .simp [intOf];omega
  .obtain rfl:k=Wn:=ap;have gJ:¬((k:Int)<k):=ap;have Qr:=aa q;have jr:=bX.o.below MtP.stab q;obtain ⟨PL,ec,eb⟩:=JE A c D V T ct R N i x.o;have bi:=λy (q:aq wr y)=>(jr.below MtP.stab q).win.cnt;have e0:fb=true->M1.sum i=vw i:=λhb=>(a9.o.1.fin_iff x.o).1 (bo.o.1 hb);obtain ⟨g8,ga,en,gB,QW⟩:=ah ec eb bi (λy (qq:aq wr y)=>sb L.o y (bt (bt ci.o q) qq)) (bt ci.o q);clear ec eb bi jr q;go_upto_region 18 with (fail);have s0:=(br wr).drew;refine HA.g (λy=>aq wr y) ?_;refine HA.c 0 (sG wr.drew) ?_;rintro e cv ⟨rfl,a1⟩;have s1:=bt s0 a1;refine ⟨_,rfl,s1,λ_=>?_⟩
   cases fb with
   | false=>
    refine HA.t ?_ [1,2,3,4,5,6,7,8,9,10,11,12,13] s1 ?_;refine HA.d ?_;have S1:=aa s1;clear s0 s1 a1;go_wp2;go_ret;exact ⟨rfl,Hx.o _ (bt QW.o S1.o)⟩
   | true=>
    have gv:((M1.sum i:Int)==(vw i:Nat))=true:=by rw [e0 rfl];simp
    obtain ⟨e3,bw⟩:∃e3,M1.sum i=e3:=⟨_,rfl⟩;obtain ⟨f2,bz⟩:∃f2,vw i=f2:=⟨_,rfl⟩;rw [bw,bz] at gv;refine HA.t ?_ [1,2,3,4,5] s1 ?_;refine HA.ld 7 (aL A c D V T ct R N i) (b:=W.heap.size) (off:=0) (λy q=>gB.o y q) gu s1 ?_;refine HA.c 6 (en.o cv s1) ?_;rintro e d4 ⟨rfl,ao⟩;have s2:=bt s1 ao;refine ⟨_,rfl,s2,λ_=>?_⟩;refine HA.c 8 (g8.o d4) ?_;rintro e f6 ⟨rfl,aR⟩;have s3:=bt s2 aR;refine ⟨_,rfl,s3,λ_=>?_⟩;refine HA.c 9 (ga.o f6) ?_;rintro e gT ⟨rfl,eY⟩;have s4:=bt s3 eY;refine ⟨_,rfl,s4,λ_=>?_⟩;rw [bw,bz];refine HA.t ?_ [10,11,12,13] s4 ?_;refine HA.d ?_;have S4:=aa s4;clear s0 s1 s2 s3 s4 a1 ao aR eY;go_wp2;go_ret;exact ⟨rfl,Hx.o _ (bt QW.o S4.o)⟩
end
end Go.Proofs.YtgmajkppbhiopaaGreat
