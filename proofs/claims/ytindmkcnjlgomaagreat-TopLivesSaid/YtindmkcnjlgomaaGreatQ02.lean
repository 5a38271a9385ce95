/- No condition. -/
import Derived.Test.YtindmkcnjlgomaaGreatQ01
import Derived.Deep.RegionHeld3
import Derived.IntWalk
import Derived.RangeFuncNested
import Derived.RangeFuncBound
import Derived.RangeFuncCalls
import Derived.RangeFuncLeaves
import Derived.RangeFuncBox
import Derived.Shelf.Abstract
import Derived.OwnWalkIn
import Derived.TacticsInMore
import Derived.LoopNIn
import Derived.LoopIn
set_option linter.unusedSimpArgs false
set_option linter.unusedVariables false
set_option maxRecDepth 100000
set_option maxHeartbeats 4000000
namespace Go.Proofs.YtindmkcnjlgomaaGreat
open Go.RowKit
open Tryz
theorem lV (n:Int) (w:R8):Calls prog 98 #[RI n] w λe h=>e=.returned (.bool (okB n))/\w=h:=by
 by_cases h1:n<1
 .go_enter func98,ntmps98;go_wp2;go_ret;exact ⟨cP (by unfold okB;simp;omega),rfl⟩
 .by_cases i:1048576<n
  .go_enter func98,ntmps98;go_wp2;go_ret;exact ⟨cP (by unfold okB;simp;omega),rfl⟩
  .go_enter func98,ntmps98;go_wp2;go_ret;exact ⟨cP (by unfold okB;simp;omega),rfl⟩
def PW (sz:Q_) (w:R8) (e:Ending) (h:R8):Prop:=aq w h/\((dY sz/\∃b,e=.returned (.tuple #[(au b),RI 0])/\cS 199 h b sz/\w.heap.size<=b)\/(¬dY sz/\e=.returned (.tuple #[.pointer none,RI (ff sz)])))
def Ps (sz:Q_) (w:R8) (e:Ending) (h:R8):Prop:=aq w h/\((dY sz/\∃b,e=.returned (.tuple #[(au b),RI 0])/\cS 199 (gE w.heap.size h) b sz/\w.heap.size<=b)\/(¬dY sz/\e=.returned (.tuple #[.pointer none,RI (ff sz)])))
theorem ul (A:N_) (sz:Q_) (c:Nat) (w:R8) (hA:Rd w A (aA .i64 sz)) (hc:sz.length<=c) (hm:c<=9223372036854775807):Calls prog 65 #[.slice A sz.length c] w (Ps sz w):=by
 by_cases h1:2<=sz.length/\sz.length<=16
 .by_cases i:∀k,k<sz.length->1<=nth sz k/\nth sz k<=1048576
  .refine (zJ A sz c w hA hc hm ⟨h1,i⟩).mono λe o ⟨hb,h⟩=>⟨hb,?_⟩;rcases h with ⟨h,he⟩ | ⟨h,b,he,hs,p⟩
   .have hg:¬dY sz:=λhg=>by have:=hg.2;omega
    exact .inr ⟨hg,by rw [np hg ⟨h1,i⟩];exact he⟩
   .exact .inl ⟨⟨⟨h1,i⟩,h⟩,b,he,hs,p⟩
  .refine (Cw A sz c w hA hc hm h1 i).mono λe o ⟨he,hw⟩=>?_;subst hw;exact ⟨QA _ _,.inr ⟨λhg=>i hg.1.2,by rw [iw (λhr=>i hr.2)];exact he⟩⟩
 .refine (Cx A sz c w hc hm h1).mono λe o ⟨he,hw⟩=>?_;subst hw;exact ⟨QA _ _,.inr ⟨λhg=>h1 hg.1.1,by rw [iw (λhr=>h1 hr.1)];exact he⟩⟩
theorem wS (A:N_) (sz:Q_) (c:Nat) (w:R8) (hA:Rd w A (aA .i64 sz)) (hc:sz.length<=c) (hm:c<=9223372036854775807):Calls prog 65 #[.slice A sz.length c] w (PW sz w):=by
 refine (ul A sz c w hA hc hm).mono ?_;rintro e o ⟨hb,⟨hg,b,he,hs,i⟩ | h⟩
 .exact ⟨hb,.inl ⟨hg,b,he,oN hs (Agr.refl _ _),i⟩⟩
 .exact ⟨hb,.inr h⟩
abbrev dH (A:N_) (c:Nat) (k:Cfg):R6:=#[.slice A k.sizes.length c,RI k.shift,RI k.rate,RI k.mom,RI k.workers,RI k.batch,RI k.micros,RI k.steps,RI k.bucket,RI k.chunk,RI k.window,RI k.cap]
structure kF (w:R8) (A:N_) (c:Nat) (k:Cfg):Prop where
 hc:k.sizes.length<=c
 hm:c<=9223372036854775807
 hl:k.sizes.length<=17592186043904
 hr:Rd w A (aA .i64 k.sizes)
theorem kF.below {w i:R8} {A:N_} {c:Nat} {k:Cfg} (h:kF w A c k) (hb:aq w i):kF i A c k:=⟨h.hc,h.hm,h.hl,h.hr.below hb⟩
theorem mx (A:N_) (c:Nat) (k:Cfg) (w:R8) (h:kF w A c k):Calls prog 64 #[.agg (dH A c k)] w λe D=>e=.returned (RI (cK k))/\aq w D:=by
 have J:=λD (q:aq w D)=>wS A k.sizes c D (h.hr.below q) h.hc h.hm;have f6:=@Mo k;have f9:=@Mm k;have fs:=@Mk k;have f2:=@Mp k;have f7:=@Mn k;have f0:=@Mq k;unfold wkB shB rj baB uk at *;obtain ⟨B,C⟩:∃B,cK k=B:=⟨_,rfl⟩;rw [C] at f6 f9 fs f2 f7 f0 |-;clear C h;obtain ⟨sz,sh,ra,mo,H,ba,mi,st,bu,ch,wi,ca⟩:=k;dsimp only [dH] at *;obtain ⟨L,hL⟩:∃L,sz.length=L:=⟨_,rfl⟩;rw [hL] at J |-;obtain ⟨a3,F6,F9,Fs,Y,F7,F0⟩:=aj J f6 f9 fs f2 f7 f0;clear J f6 f9 fs f2 f7 f0 hL;go_enter func64,ntmps64;go_wp2_with fail;have hz:=Qy w (.cells #[.slice A L c,RI sh,RI ra,RI mo,RI H,RI ba,RI mi,RI st,RI bu,RI ch,RI wi,RI ca] 24);have hB:=(QA _ w).alloc (Qx _) (.cells #[.slice A L c,RI sh,RI ra,RI mo,RI H,RI ba,RI mi,RI st,RI bu,RI ch,RI wi,RI ca] 24);refine (a3.o _ hB).mono ?_;rintro e w1 ⟨x,hs⟩;have a0:=(x.block _ (Qw hz)).trans hz;have u:=aa (hB.trans (x.mono hB.size));obtain ⟨⟨z0,z1,z2,z3,z4,z5,z6,z7,z8,z9,a4,a6⟩,zf⟩:=kw a0;clear hz hB x a0
 -- the sizes' B
 obtain ⟨p,sc,rfl,a1⟩:∃p sc,e=.returned (.tuple #[.pointer p,RI sc])/\ff sz=sc:=by
  rcases hs with ⟨hg,b,rfl,_⟩ | ⟨hg,rfl⟩
  .exact ⟨_,0,rfl,kR hg⟩
  .exact ⟨_,_,rfl,rfl⟩
 have i:=aa a1;clear hs a1;by_cases h1:H<1
 .go_wp2_with fail;go_ret;exact ⟨bj (F6.o (by rw [RE];omega)).symm,u.o⟩
 by_cases a7:64<H
 .go_wp2_with fail;go_ret;exact ⟨bj (F6.o (by rw [RE];omega)).symm,u.o⟩
 have v:=aa (show decide (1<=H/\H<=64)=true by rw [RF];omega);by_cases h2:sh<1
 .go_wp2_with fail;go_ret;exact ⟨bj (F9.o v.o (by rw [RE];omega)).symm,u.o⟩
 by_cases a5:62<sh
 .go_wp2_with fail;go_ret;exact ⟨bj (F9.o v.o (by rw [RE];omega)).symm,u.o⟩
 have y:=aa (show decide (1<=sh/\sh<=62)=true by rw [RF];omega);by_cases h3:sc≠0
 .have hq:(sc != 0)=true:=by rw [bne_iff_ne];exact h3
  have H3:=aa h3;clear h3;go_wp2_with fail;go_ret;exact ⟨bj (by rw [Fs.o v.o y.o (by rw [i.o];exact H3.o)];exact i.o.symm),u.o⟩
 obtain rfl:sc=0:=ap;clear h3;go_wp2_with fail;refine (lV mi _).mono ?_;rintro e D ⟨rfl,rfl⟩;obtain ⟨b0,Q⟩:∃b,okB mi=b:=⟨_,rfl⟩;have I:=aa Q;rw [Q];clear Q;rcases dW b0 with rfl | rfl
 .go_wp2_with fail;go_ret;exact ⟨bj (Y.o v.o y.o i.o (by simp [I.o])).symm,u.o⟩
 go_wp2_with fail;refine (lV bu _).mono ?_;rintro e D ⟨rfl,rfl⟩;obtain ⟨b1,x⟩:∃b,okB bu=b:=⟨_,rfl⟩;have U:=aa x;rw [x];clear x;rcases dW b1 with rfl | rfl
 .go_wp2_with fail;go_ret;exact ⟨bj (Y.o v.o y.o i.o (by simp [I.o,U.o])).symm,u.o⟩
 go_wp2_with fail;refine (lV ch _).mono ?_;rintro e D ⟨rfl,rfl⟩;obtain ⟨b2,R⟩:∃b,okB ch=b:=⟨_,rfl⟩;have Z:=aa R;rw [R];clear R;rcases dW b2 with rfl | rfl
 .go_wp2_with fail;go_ret;exact ⟨bj (Y.o v.o y.o i.o (by simp [I.o,U.o,Z.o])).symm,u.o⟩
 go_wp2_with fail;refine (lV wi _).mono ?_;rintro e D ⟨rfl,rfl⟩;obtain ⟨b3,V⟩:∃b,okB wi=b:=⟨_,rfl⟩;have O3:=aa V;rw [V];clear V;rcases dW b3 with rfl | rfl
 .go_wp2_with fail;go_ret;exact ⟨bj (Y.o v.o y.o i.o (by simp [I.o,U.o,Z.o,O3.o])).symm,u.o⟩
 go_wp2_with fail;refine (lV ca _).mono ?_;rintro e D ⟨rfl,rfl⟩;obtain ⟨b4,T⟩:∃b,okB ca=b:=⟨_,rfl⟩;have O4:=aa T;rw [T];clear T;rcases dW b4 with rfl | rfl
 .go_wp2_with fail;go_ret;exact ⟨bj (Y.o v.o y.o i.o (by simp [I.o,U.o,Z.o,O3.o,O4.o])).symm,u.o⟩
 by_cases h4:st=0
 .have hq:(st != 0)=false:=by rw [h4];rfl
  have N:=aa (show (okB mi&&okB bu&&okB ch&&okB wi&&okB ca&&decide (0<=st/\st<=1048576))=true by rw [I.o,U.o,Z.o,O3.o,O4.o];simp;omega);clear h4;by_cases h5:ba<H
  .go_wp2_with fail;go_ret;exact ⟨bj (F7.o v.o y.o i.o N.o (by rw [RE];omega)).symm,u.o⟩
  by_cases a2:1048576<ba
  .go_wp2_with fail;go_ret;exact ⟨bj (F7.o v.o y.o i.o N.o (by rw [RE];omega)).symm,u.o⟩
  go_wp2_with fail;go_ret;exact ⟨bj (F0.o v.o y.o i.o N.o (by rw [RF];omega)).symm,u.o⟩
 .have hq:(st != 0)=true:=by rw [bne_iff_ne];exact h4
  have H4:=aa h4;clear h4;go_wp2_with fail;refine (lV st _).mono ?_;rintro e D ⟨rfl,rfl⟩;obtain ⟨b5,O⟩:∃b,okB st=b:=⟨_,rfl⟩;have O5:=aa O;rw [O];clear O;rcases dW b5 with rfl | rfl
  .go_wp2_with fail;go_ret;exact ⟨bj (Y.o v.o y.o i.o (by rw [I.o,U.o,Z.o,O3.o,O4.o];have:=GW O5.o;have:=H4.o;simp;omega)).symm,u.o⟩
  have N:=aa (show (okB mi&&okB bu&&okB ch&&okB wi&&okB ca&&decide (0<=st/\st<=1048576))=true by rw [I.o,U.o,Z.o,O3.o,O4.o];have:=mh O5.o;simp;omega);by_cases h5:ba<H
  .go_wp2_with fail;go_ret;exact ⟨bj (F7.o v.o y.o i.o N.o (by rw [RE];omega)).symm,u.o⟩
  by_cases a2:1048576<ba
  .go_wp2_with fail;go_ret;exact ⟨bj (F7.o v.o y.o i.o N.o (by rw [RE];omega)).symm,u.o⟩
  go_wp2_with fail;go_ret;exact ⟨bj (F0.o v.o y.o i.o N.o (by rw [RF];omega)).symm,u.o⟩
theorem ke (A:N_) (sz:Q_) (m c:Nat) (w:R8) (hA:Rd w A (aA .i64 sz)) (T:dm sz) (h1:1<=m) (hm:m<=sz.length):Calls prog 59 #[.slice A m c] w λe w'=>e=.returned (RI (bS sz (m-1):Int))/\∃n,w'=w.drewN n:=by
 have a2:m<=16:=by have:=T.1.2;omega
 obtain ⟨u,J,Hm⟩:=af hA T hm;clear hA T hm;go_enter func59,ntmps59;go_wp2_with fail
 go_loopw [3,4] (λv i wr=>∃k:Nat,k+1<=m/\i=RI k/\v=RI (bS sz k:Int)/\∃n,wr=w.drewN n) (λ_ i _=>m-(intOf i).toNat)
 .exact ⟨0,h1,rfl,rfl,0,rfl⟩
 case round=>
  obtain ⟨k,hk,rfl,rfl,n,rfl⟩:=hrel;by_cases a0:k+1<m
  .have hm:=Hm.o;have Q:=J.o.at (k:=k) ap;have D:=J.o.at (k:=k+1) ap;obtain ⟨b,o,rfl,p0⟩:=u.o.num (show k<sz.length by omega);obtain ⟨_,_,I,p1⟩:=u.o.num (show k+1<sz.length by omega);injection I with I;injection I with e1 e2 _;subst e1;subst e2
   have hb:=J.o.bound (k:=k+1) ap;rw [Q.2.2] at p0;rw [D.2.2] at p1;have hc:bS sz (k+1)=bS sz k+(szN sz k+1)*szN sz (k+1):=rfl;obtain ⟨a,ha⟩:∃a,szN sz k=a:=⟨_,rfl⟩;obtain ⟨d,Z⟩:∃d,szN sz (k+1)=d:=⟨_,rfl⟩;obtain ⟨N,V⟩:∃N,bS sz k=N:=⟨_,rfl⟩;obtain ⟨M,x⟩:∃M,bS sz (k+1)=M:=⟨_,rfl⟩;obtain ⟨p,L⟩:∃p,(a+1)*d=p:=⟨_,rfl⟩;rw [ha] at p0 Q hc;rw [Z] at p1 D hc;rw [V,x,L] at hc;rw [x] at hb;rw [V];have HM:=aa x;clear x V ha Z;have y:(k:Int)+1<m:=ap;have Y:(k:Int)<m:=ap;have H:(0:Int)<=(k:Int)+1:=ap;have R:((k:Int)+1).toNat=k+1:=ap;have U:IntKind.i64.wrap ((k:Int)+1)=(k:Int)+1:=QC _ ap;have O:IntKind.i64.wrap ((a:Int)+1)=(a:Int)+1:=QC _ ap;have h:((a:Int)+1)*(d:Int)=(p:Int):=by rw [<-L];push_cast;rfl
   have C:IntKind.i64.wrap (((a:Int)+1)*(d:Int))=(p:Int):=by rw [h];exact QC _ ap
   have B:IntKind.i64.wrap ((N:Int)+(p:Int))=(M:Int):=by rw [QC _ ap];omega
   clear h L hc hb Q D;go_wp2_with fail
   go_quiet (fail)
   clear U O C B Y y H R;go_wp2_with fail;go_roundw
   .exact ⟨k+1,by omega,by go_num,by rw [HM.o],_,by first | rfl | exact World.drewN_drewN _ _ _⟩
   .simp [intOf];omega
  .obtain rfl:k=m-1:=ap;have a1:IntKind.i64.wrap (((m-1:Nat):Int)+1)=(m:Int):=by rw [QC _ ap];omega
   go_wp2_with fail;go_ret;exact ⟨rfl,n,rfl⟩
theorem yK (A:N_) (sz:Q_) (c:Nat) (w:R8) (hl:sz.length<=17592186043904) (h:¬(2<=sz.length/\sz.length<=16)):Calls prog 88 #[.slice A sz.length c] w λe i=>e=.returned (RI 5)/\w=i:=by
 by_cases h1:sz.length<2
 .go_enter func88,ntmps88;go_wp2;go_ret;exact ⟨rfl,rfl⟩
 .have o:16<sz.length:=ap;go_enter func88,ntmps88;go_wp2;go_ret;exact ⟨rfl,rfl⟩
def ya (sz:Q_):Int:=if 1048576<bS sz (sz.length-1) then 4 else 0
theorem Ay (A:N_) (sz:Q_) (c:Nat) (w:R8) (hA:Rd w A (aA .i64 sz)) (h:2<=sz.length/\sz.length<=16):Calls prog 88 #[.slice A sz.length c] w λe T=>((dm sz/\e=.returned (RI (ya sz)))\/(¬dm sz/\e=.returned (RI 5)))/\∃n,T=w.drewN n:=by
 obtain ⟨h1,Z⟩:=h;obtain ⟨n,hn⟩:∃n,sz.length=n:=⟨_,rfl⟩;have J:=λ(C:dm sz)=>ke A sz n c w hA C ap ap;have C:(∀k,k<n->1<=nth sz k/\nth sz k<=1048576)->dm sz:=λh=>⟨by omega,by rw [hn];exact h⟩;have L:dm sz->∀k,k<n->1<=nth sz k/\nth sz k<=1048576:=λh=>by rw [<-hn];exact h.2
 have R:ya sz=if 1048576<bS sz (n-1) then 4 else 0:=by unfold ya;rw [hn]
 rw [hn] at h1 Z |-;obtain ⟨V,Q,HR,N,Y,O⟩:=ai hA J C L hn R;clear hA J C L hn R;go_enter func88,ntmps88;go_wp2_with fail
 go_loop [3] (λi=>∃k:Nat,k<=n/\i=RI k/\an (∀j,j<k->1<=nth sz j/\nth sz j<=1048576)) (λi=>n-(intOf i).toNat)
 .exact ⟨0,QB _,rfl,aa λj hj=>ap⟩
 case round=>
  obtain ⟨k,hk,rfl,y⟩:=hrel;by_cases D:k<n
  .obtain ⟨b,o,rfl,p⟩:=V.o.num (show k<sz.length by rw [Y.o];exact D);by_cases a0:nth sz k<1
   .have u:¬dm sz:=λh=>by have:=N.o h k D;omega
    have I:=aa u;clear u;go_wp2_with fail;go_ret;exact ⟨.inr ⟨I.o,rfl⟩,0,rfl⟩
   .by_cases a1:1048576<nth sz k
    .have u:¬dm sz:=λh=>by have:=N.o h k D;omega
     have I:=aa u;clear u;go_wp2_with fail;go_ret;exact ⟨.inr ⟨I.o,rfl⟩,0,rfl⟩
    .have Hz:=aa (show 1<=nth sz k/\nth sz k<=1048576 by omega);go_wp2_with fail;go_round
     case rel=>exact ⟨k+1,by omega,by go_num,aa (p:=∀j,j<k+1->1<=nth sz j/\nth sz j<=1048576) λj hj=>by
      rcases QO j k with h | h
      .exact y.out j h
      .obtain rfl:j=k:=ap
       exact Hz.o⟩
     case measure=>simp [intOf];omega
  .obtain rfl:k=n:=ap;have C:=HR.o y.out;have hb:=C.bound (k:=k-1) (by rw [Y.o];omega);have x:=aa C;clear C;by_cases B:1048576<bS sz (k-1)
   .have U:(1048576:Int)<bS sz (k-1):=ap;have v:ya sz=4:=by rw [O.o,if_pos B]
    have H:=aa v;clear v;go_wp2_with fail;refine (Q.o x.o).mono ?_;rintro e T ⟨rfl,m,rfl⟩;go_wp2_with fail;go_ret;exact ⟨.inl ⟨x.o,by rw [H.o];rfl⟩,m,rfl⟩
   .have U:¬(1048576:Int)<bS sz (k-1):=ap;have v:ya sz=0:=by rw [O.o,if_neg B]
    have H:=aa v;clear v;go_wp2_with fail;refine (Q.o x.o).mono ?_;rintro e T ⟨rfl,m,rfl⟩;go_wp2_with fail;go_ret;exact ⟨.inl ⟨x.o,by rw [H.o];rfl⟩,m,rfl⟩
def btB (x lo h:Int):Bool:=decide (lo<=x/\x<=h)
theorem pG (x lo h:Int) (w:R8):Calls prog 57 #[RI x,RI lo,RI h] w λe i=>e=.returned (.bool (btB x lo h))/\w=i:=by
 by_cases h1:lo<=x
 .by_cases o:x<=h
  .go_enter func57,ntmps57;go_wp2;go_ret;exact ⟨cP (by unfold btB;simp [h1,o]),rfl⟩
  .go_enter func57,ntmps57;go_wp2;go_ret;exact ⟨cP (by unfold btB;simp;omega),rfl⟩
 .go_enter func57,ntmps57;go_wp2;go_ret;exact ⟨cP (by unfold btB;simp;omega),rfl⟩
theorem JV (A:N_) (sz:Q_) (c:Nat) (w:R8) (hA:Rd w A (aA .i64 sz)) (hl:sz.length<=17592186043904):Calls prog 88 #[.slice A sz.length c] w λe o=>e=.returned (RI (ff sz))/\∃n,o=w.drewN n:=by
 by_cases h:2<=sz.length/\sz.length<=16
 .refine (Ay A sz c w hA h).mono λe o ⟨h1,p⟩=>⟨?_,p⟩;rcases h1 with ⟨i,rfl⟩ | ⟨i,rfl⟩
  .refine bj ?_;unfold ya;by_cases hc:1048576<bS sz (sz.length-1)
   .rw [if_pos hc,np (λhg=>by have:=hg.2;omega) i]
   .rw [if_neg hc,kR ⟨i,by omega⟩]
  .exact bj (iw i).symm
 .exact (yK A sz c w hl h).mono λe o ⟨h1,p⟩=>⟨by rw [h1,iw (λhr=>h hr.1)],0,p.symm⟩
theorem JA (a b c d e f:Int) {g:Bool} {l:Q_} (hl:[a,b,c,d,e,f]=l) {k:Nat} (hk:k<5) (h:okB (nth l k)=false):(okB a&&okB b&&okB c&&okB d&&okB e&&g)=false:=by
 subst hl
 match k,hk with
 | 0,_=>simp only [show nth [a,b,c,d,e,f] 0=a from rfl] at h;simp [h]
 | 1,_=>simp only [show nth [a,b,c,d,e,f] 1=b from rfl] at h;simp [h]
 | 2,_=>simp only [show nth [a,b,c,d,e,f] 2=c from rfl] at h;simp [h]
 | 3,_=>simp only [show nth [a,b,c,d,e,f] 3=d from rfl] at h;simp [h]
 | 4,_=>simp only [show nth [a,b,c,d,e,f] 4=e from rfl] at h;simp [h]
theorem FK (a b c d e f:Int) (g:Bool) {l:Q_} (hl:[a,b,c,d,e,f]=l) (h:∀j,j<5->okB (nth l j)=true) (hg:g=true):(okB a&&okB b&&okB c&&okB d&&okB e&&g)=true:=by
 subst hl;have p:okB a=true:=h 0 ap;have h1:okB b=true:=h 1 ap;have i:okB c=true:=h 2 ap;have u:okB d=true:=h 3 ap;have o:okB e=true:=h 4 ap;simp [p,h1,i,u,o,hg]
theorem qT (A:N_) (c:Nat) (k:Cfg) (w:R8) (h:kF w A c k):Calls prog 56 #[.agg (dH A c k)] w λe J=>e=.returned (RI (cK k))/\aq w J:=by
 have Z:=λJ (q:aq w J)=>JV A k.sizes c J (h.hr.below q) h.hl;have f6:=@Mo k;have f9:=@Mm k;have fs:=@Mk k;have f2:=@Mp k;have f7:=@Mn k;have f0:=@Mq k;unfold wkB shB rj baB uk at *;obtain ⟨T,D⟩:∃T,cK k=T:=⟨_,rfl⟩;rw [D] at f6 f9 fs f2 f7 f0 |-;clear D h;obtain ⟨sz,sh,ra,mo,B,ba,mi,st,bu,ch,wi,ca⟩:=k;dsimp only [dH] at *;obtain ⟨L,hL⟩:∃L,sz.length=L:=⟨_,rfl⟩;obtain ⟨sc,a2⟩:∃sc,ff sz=sc:=⟨_,rfl⟩;rw [hL,a2] at Z;rw [a2] at fs f2 f7 f0;rw [hL] at |-;obtain ⟨a6,F6,F9,Fs,F2,F7,F0⟩:=aj Z f6 f9 fs f2 f7 f0;clear Z f6 f9 fs f2 f7 f0 hL a2;go_enter func56,ntmps56;go_wp2_with fail;have hz:=Qy w (.cells #[.slice A L c,RI sh,RI ra,RI mo,RI B,RI ba,RI mi,RI st,RI bu,RI ch,RI wi,RI ca] 24);have hB:=(QA _ w).alloc (Qx _) (.cells #[.slice A L c,RI sh,RI ra,RI mo,RI B,RI ba,RI mi,RI st,RI bu,RI ch,RI wi,RI ca] 24);obtain ⟨W0,a3⟩:∃W0,W0=w.alloc (.cells #[.slice A L c,RI sh,RI ra,RI mo,RI B,RI ba,RI mi,RI st,RI bu,RI ch,RI wi,RI ca] 24):=⟨_,rfl⟩;rw [<-a3] at hz hB |-;clear a3;obtain ⟨⟨z0,z1,z2,z3,z4,z5,z6,z7,z8,z9,I,R⟩,zf⟩:=kw hz;obtain ⟨y,HZ⟩:=ae hB hz;clear hB hz;refine (pG B 1 64 _).mono ?_;rintro e J ⟨rfl,rfl⟩;obtain ⟨b1,u⟩:∃b1,btB B 1 64=b1:=⟨_,rfl⟩;have Y:=aa (show decide (1<=B/\B<=64)=b1 from u);rw [u];clear u;rcases dW b1 with rfl | rfl
 .go_wp2_with fail;go_ret;exact ⟨bj (F6.o Y.o).symm,y.o⟩
 go_wp2_with fail;refine (pG sh 1 62 _).mono ?_;rintro e J ⟨rfl,rfl⟩;obtain ⟨b2,a0⟩:∃b2,btB sh 1 62=b2:=⟨_,rfl⟩;have G2:=aa (show decide (1<=sh/\sh<=62)=b2 from a0);rw [a0];clear a0;rcases dW b2 with rfl | rfl
 .go_wp2_with fail;go_ret;exact ⟨bj (F9.o Y.o G2.o).symm,y.o⟩
 go_wp2_with fail;refine (a6.o _ y.o).mono ?_;rintro e J ⟨rfl,d,rfl⟩;have u:=QH y.o d;have O:(W0.drewN d).heap[w.heap.size]?=some (.cells #[.slice A L c,RI sh,RI ra,RI mo,RI B,RI ba,RI mi,RI st,RI bu,RI ch,RI wi,RI ca] 24 (0,0)):=HZ.o;generalize W0.drewN d=W1 at u O |-;clear z0 z1 z2 z3 z4 z5 z6 z7 z8 z9 I R zf y HZ;obtain ⟨⟨z0,z1,z2,z3,z4,z5,z6,z7,z8,z9,I,R⟩,zf⟩:=kw O;obtain ⟨y,HZ⟩:=ae u O;clear u O;by_cases h3:sc≠0
 .have hq:(sc != 0)=true:=by rw [bne_iff_ne];exact h3
  have H3:=aa h3;clear h3;go_wp2_with fail;go_ret;exact ⟨bj (Fs.o Y.o G2.o H3.o).symm,y.o⟩
 obtain rfl:sc=0:=ap;clear h3;have lz:w.heap.size<W1.heap.size:=Qw HZ.o;by_cases h4:st<0
 .go_wp2_with fail;go_ret;exact ⟨bj (F2.o Y.o G2.o trivial (by rw [RD (show ¬(0<=st/\st<=1048576) by omega),Bool.and_false])).symm,y.o.alloc y.o.size _⟩
 by_cases a8:1048576<st
 .go_wp2_with fail;go_ret;exact ⟨bj (F2.o Y.o G2.o trivial (by rw [RD (show ¬(0<=st/\st<=1048576) by omega),Bool.and_false])).symm,y.o.alloc y.o.size _⟩
 have GS:=aa (show decide (0<=st/\st<=1048576)=true by rw [RF];omega);have a4:=dV W1 (aA .i64 [mi,bu,ch,wi,ca,st+1]) 3 _ rfl;have H:=(QL W1 (.cells (aA .i64 [mi,bu,ch,wi,ca,st+1]).toArray 3) _ (Qw HZ.o)).trans HZ.o;obtain ⟨Q,a1⟩:=ae a4 H;clear a4 H;go_wp2_with fail;clear z0 z1 z2 z3 z4 z5 z6 z7 z8 z9 I R zf;have C:=aa (y.o.alloc y.o.size (.cells (aA .i64 [mi,bu,ch,wi,ca,st+1]).toArray 3));obtain ⟨l,hl⟩:∃l:Q_,[mi,bu,ch,wi,ca,st+1]=l:=⟨_,rfl⟩;have HL:=aa hl;change Code.wp _ _ _ _ (W1.alloc (.cells (aA .i64 [mi,bu,ch,wi,ca,st+1]).toArray 3));rw [hl] at Q a1 C |-;clear hl y HZ lz;obtain ⟨p,hp⟩:∃p,W1.heap.size=p:=⟨_,rfl⟩;rw [hp] at Q |-;generalize W1.alloc (.cells (aA .i64 l).toArray 3)=W2 at Q a1 C |-;clear hp
 go_loopw [5] (λi wr=>∃k:Nat,k<=5/\i=RI k/\an (∀j,j<k->okB (nth l j)=true)/\wr=W2) (λi _=>5-(intOf i).toNat)
 .exact ⟨0,QB _,rfl,aa λj hj=>ap,rfl⟩
 case round=>
  obtain ⟨k,hk,rfl,V,rfl⟩:=hrel;by_cases a5:k<5
  .have U:k<l.length:=by rw [<-HL.o];simp only [List.length_cons,List.length_nil];omega
   obtain ⟨b',o,e1,hc⟩:=Q.o.num U;have a7:(k:Int)<5:=ap;injection e1 with e1;injection e1 with e1 e2 _;subst e1;subst e2
   obtain ⟨x,hx⟩:∃x,nth l k=x:=⟨_,rfl⟩;rw [hx,RB] at hc;have Hx:=aa hx;clear hx U;go_wp2_with fail;refine (pG x 1 1048576 _).mono ?_;rintro e J ⟨rfl,rfl⟩;obtain ⟨N,v⟩:∃N,btB x 1 1048576=N:=⟨_,rfl⟩;have G3:=aa (show okB x=N from v);rw [v];clear v;rcases dW N with rfl | rfl
   .go_wp2_with fail;go_ret;exact ⟨bj (F2.o Y.o G2.o trivial (JA mi bu ch wi ca _ HL.o a5 (by rw [Hx.o];exact G3.o))).symm,C.o⟩
   go_wp2_with fail;go_roundw
   case rel=>exact ⟨k+1,by omega,by go_num,aa (p:=∀j,j<k+1->okB (nth l j)=true) λj hj=>by
    rcases QO j k with h | h
    .exact V.out j h
    .obtain rfl:j=k:=ap
     rw [Hx.o];exact G3.o,trivial⟩
   case measure=>simp [intOf];omega
  .obtain rfl:k=5:=ap;have hn:=FK mi bu ch wi ca _ (decide (0<=st/\st<=1048576)) HL.o V.out GS.o;have Hn:=aa hn;clear hn;have H:=a1.o;obtain ⟨⟨z0,z1,z2,z3,z4,z5,z6,z7,z8,z9,I,R⟩,zf⟩:=kw H;clear H;go_wp2_with fail;refine (pG ba B 1048576 _).mono ?_;rintro e J ⟨rfl,rfl⟩;obtain ⟨N,v⟩:∃N,btB ba B 1048576=N:=⟨_,rfl⟩;have G3:=aa (show decide (B<=ba/\ba<=1048576)=N from v);rw [v];clear v;rcases dW N with rfl | rfl
   .go_wp2_with fail;go_ret;exact ⟨bj (F7.o Y.o G2.o trivial Hn.o G3.o).symm,C.o⟩
   go_wp2_with fail;go_ret;exact ⟨bj (F0.o Y.o G2.o trivial Hn.o G3.o).symm,C.o⟩
def di (n size:Nat):Nat:=if n=0 then 0 else (n-1)/size+1
theorem IF (n s:Nat) (hn:1<=n):((n:Int)-1)/(s:Int)=(((n-1)/s:Nat):Int):=by
 rw [show ((n:Int)-1)=((n-1:Nat):Int) by omega,<-Int.natCast_ediv]
theorem fE (n size:Nat):di n size<=n:=by
 unfold di
 split
 .omega
 .have:=Nat.div_le_self (n-1) size;omega
theorem iI {n size k:Nat} (h:k<di n size):k*size<n:=by
 unfold di at h
 split at h
 .omega
 .have h1:k<=(n-1)/size:=ap;have i:=RH size h1;have o:=Nat.div_mul_le_self (n-1) size;omega
def gu (n size k:Nat):R7:=(List.range k).flatMap λj=>[RI ((j*size:Nat):Int),RI ((min (j*size+size) n:Nat):Int)]
theorem jI (n size k:Nat):gu n size (k+1)=gu n size k++[RI ((k*size:Nat):Int),RI ((min (k*size+size) n:Nat):Int)]:=by simp [gu,Rx,List.flatMap_append]
theorem ti (n size k:Nat):(gu n size k).length=k*2:=by
 induction k with
 | zero=>simp [gu]
 | succ k ih=>rw [jI,Rh,ih];simp;omega
theorem DV (n size:Nat) {j k:Nat} (h:j<k):(gu n size k)[j*2]?=some (RI ((j*size:Nat):Int))/\(gu n size k)[j*2+1]?=some (RI ((min (j*size+size) n:Nat):Int)):=by
 induction k with
 | zero=>omega
 | succ k ih=>
  rw [jI];rcases QO j k with i | i
  .obtain ⟨h1,o⟩:=ih i;have hl:=ti n size k;rw [Rk ap,Rk ap];exact ⟨h1,o⟩
  .obtain rfl:j=k:=ap;have hl:=ti n size j;rw [Rl ap,Rl ap,hl];simp
theorem DQ (n batch:Nat) (hb:1<=batch) (hn:batch<=n):di (n-n%batch) batch=n/batch:=by
 have h1:=Nat.div_add_mod n batch;have i:=Nat.div_pos hn hb;have o:n-n%batch=batch*(n/batch):=ap;have p:1<=batch*(n/batch):=Nat.mul_pos hb i;unfold di;rw [if_neg ap,o]
 have h:batch*(n/batch)-1=batch*(n/batch-1)+(batch-1):=by
  have:batch*(n/batch)=batch*(n/batch-1)+batch:=by rw [<-Nat.mul_succ];congr 1;omega
  omega
 rw [h,Nat.mul_add_div hb,show (batch-1)/batch=0 from Nat.div_eq_of_lt ap];omega
theorem Ft (n batch j:Nat) (hb:1<=batch) (h:j<n/batch):min (j*batch+batch) (n-n%batch)=j*batch+batch:=by
 have h1:=Nat.div_add_mod n batch;have i:(j+1)*batch<=(n/batch)*batch:=RH _ h;rw [Ry] at i;have o:(n/batch)*batch=batch*(n/batch):=Nat.mul_comm _ _;omega
theorem qE (n batch j:Nat) (h:j<n/batch):j*batch+batch<=n:=by
 have h1:=Nat.div_mul_le_self n batch;have i:(j+1)*batch<=(n/batch)*batch:=RH _ h;rw [Ry] at i;omega
theorem tM (n size:Nat) (hs:1<=size):di n size=(n+size-1)/size:=by
 unfold di
 split
 .subst_vars;rw [RB,Nat.div_eq_of_lt ap]
 .rw [show n+size-1=(n-1)+size by omega,Nat.add_div_right _ hs]
abbrev Rg:=Nat×Nat
def aS (l:List Rg):R7:=l.flatMap λr=>[RI (r.1:Int),RI (r.2:Int)]
theorem iQ (a b:List Rg):aS (a++b)=aS a++aS b:=by simp [aS]
theorem qg:∀l:List Rg,(aS l).length=l.length*2
 | []=>rfl
 | r::l=>by have:=qg l;simp only [aS,List.flatMap_cons,Rh,List.length_cons,List.length_nil] at *;omega
theorem oZ:∀{l:List Rg} {j:Nat} {r:Rg},l[j]?=some r->(aS l)[j*2]?=some (RI (r.1:Int))/\(aS l)[j*2+1]?=some (RI (r.2:Int))
 | [],_,_,h=>by simp at h
 | x::l,0,r,h=>by simp only [Rc,Option.some.injEq] at h;subst h;exact ⟨rfl,rfl⟩
 | x::l,j+1,r,h=>by
  simp only [Ra] at h;have:=oZ h;have e:aS (x::l)=[RI (x.1:Int),RI (x.2:Int)]++aS l:=by simp [aS]
  rw [e,Rl (by simp;omega),Rl (by simp;omega)];simp only [List.length_cons,List.length_nil];rw [show (j+1)*2-(0+1+1)=j*2 by omega,show (j+1)*2+1-(0+1+1)=j*2+1 by omega];exact this
def fv (n s:Nat):List Rg:=(List.range (di n s)).map λj=>(j*s,min (j*s+s) n)
theorem fm (n s:Nat):(fv n s).length=di n s:=by simp [fv]
theorem sy (n s:Nat):aS (fv n s)=gu n s (di n s):=by simp [aS,fv,gu,List.flatMap_map]
def bdN (n k i:Nat):Nat:=i*(n/k)+min i (n%k)
def fz (n k:Nat):List Rg:=(List.range k).map λi=>(bdN n k i,bdN n k (i+1))
theorem eH (n k:Nat):(fz n k).length=k:=by simp [fz]
def shR (d:Nat) (l:List Rg):List Rg:=l.map λr=>(r.1+d,r.2+d)
theorem mL (d:Nat) (l:List Rg):(shR d l).length=l.length:=by simp [shR]
def dz (b:Rg) (W:Nat):List Rg:=shR b.1 (fz (b.2-b.1) W)
theorem qO (b:Rg) (W:Nat):(dz b W).length=W:=by rw [dz,mL,eH]
def chR (s:Rg) (c:Nat):List Rg:=shR s.1 (fv (s.2-s.1) c)
def qx (n s:Nat):List Rg:=(fv n s).reverse
theorem jq (n s:Nat):(qx n s).length=di n s:=by rw [qx,List.length_reverse,fm]
def aK (l:List Rg) (j:Nat):Rg:=l.getD j (0,0)
def lC (b:Rg) (W c:Nat):Nat:=((dz b W).map λs=>(chR s c).length).sum
structure Acn where
 send:Bool
 add:Bool
 st:Nat
 bk:Nat
 ph:Nat
 rd:Nat
 ch:Nat
 at':Rg
def cT (W w ph r:Nat):Nat:=(w+(2*W+ph-r))%W
def cE (W w ph r:Nat):Nat:=(w+(2*W+ph-r-1))%W
def iR (x y:List Rg) (f g:Nat->Rg->Acn):List Acn:= (List.range (max x.length y.length)).flatMap λi=>(if i<x.length then [f i (aK x i)] else [])++(if i<y.length then [g i (aK y i)] else [])
theorem Df (x y:List Rg) (f g:Nat->Rg->Acn):(iR x y f g).length=x.length+y.length:=by
 have h:∀m,((List.range m).flatMap λi=>(if i<x.length then [f i (aK x i)] else [])++(if i<y.length then [g i (aK y i)] else [])).length=min m x.length+min m y.length:=by
  intro m
  induction m with
  | zero=>simp
  | succ m ih=>
   rw [Rx,List.flatMap_append,Rh,ih];simp only [List.flatMap_cons,List.flatMap_nil,List.append_nil,Rh];by_cases h1:m<x.length<;>by_cases o:m<y.length<;>simp [h1,o]<;>omega
 unfold iR;rw [h];omega
def cZ (st bk:Nat) (b:Rg) (W c w ph r:Nat):List Acn:=
 iR (chR (aK (dz b W) (cT W w ph r)) c) (chR (aK (dz b W) (cE W w ph r)) c) (λi s=>⟨true,false,st,bk,ph,r,i,s⟩) (λi s=>⟨false,ph==0,st,bk,ph,r,i,s⟩)
structure Pln where
 W:Nat
 mi:Nat
 bu:Nat
 ck:Nat
 wi:Nat
 n:Nat
structure Itm where
 kind:Nat
 st:Nat
 n:Nat
 a:Option Acn
def Pln.buks (p:Pln):List Rg:=qx p.n p.bu
def Pln.grps (p:Pln):List Rg:=fv p.buks.length p.wi
def fD (st:Nat) (a:Acn):Itm:=⟨if a.send then 3 else 4,st,0,some a⟩
def cq (p:Pln) (w st ph r j:Nat):List Itm:=(cZ st j (aK p.buks j) p.W p.ck w ph r).map (fD st)
def dx (p:Pln) (w st:Nat) (g:Rg):List Itm:= (List.range' g.1 (g.2-g.1)).map (λj=>⟨2,st,j,none⟩)++ ((List.range 2).flatMap λph=>(List.range (p.W-1)).flatMap λr=>(List.range' g.1 (g.2-g.1)).flatMap λj=>cq p w st ph r j)++ (List.range' g.1 (g.2-g.1)).map (λj=>⟨5,st,j,none⟩)
def aE (p:Pln) (w st:Nat):List Itm:= (List.range p.mi).map (λa=>⟨1,st,a,none⟩)++p.grps.flatMap (dx p w st)++[⟨6,st,0,none⟩]
def bH (n:Nat) (f:Nat->Nat):Nat:=((List.range n).map f).sum
theorem eP (n:Nat) (f:Nat->Nat):bH (n+1) f=bH n f+f n:=by simp [bH,Rx]
theorem dZ {n:Nat} {f g:Nat->Nat} (h:∀k,k<n->f k=g k):bH n f=bH n g:=by
 unfold bH;congr 1;exact List.map_congr_left λk hk=>h k (List.mem_range.1 hk)
theorem jM (n:Nat) (f g:Nat->Nat):bH n (λk=>f k+g k)=bH n f+bH n g:=by
 induction n with
 | zero=>rfl
 | succ n ih=>rw [eP,eP,eP,ih];omega
theorem fx (n c:Nat):bH n (λ_=>c)=n*c:=by
 induction n with
 | zero=>simp [bH]
 | succ n ih=>rw [eP,ih,Ry]
theorem iP (n m:Nat) (f:Nat->Nat->Nat):bH n (λi=>bH m (f i))=bH m (λj=>bH n (λi=>f i j)):=by
 induction n with
 | zero=>simp only [bH,List.range_zero,List.map_nil,List.sum_nil];rw [show (λ_:Nat=>0)=λ_=>0 from rfl];exact (fx m 0).symm
 | succ n ih=>rw [eP,ih,<-jM];exact dZ λj _=>(eP n (λi=>f i j)).symm
theorem kT (a b:Nat) (f:Nat->Nat):bH (a+b) f=bH a f+bH b (λk=>f (a+k)):=by
 induction b with
 | zero=>simp [bH]
 | succ b ih=>rw [<-Rz,eP,ih,eP];omega
theorem ui (W a:Nat) (f:Nat->Nat):bH W (λw=>f ((w+a)%W))=bH W f:=by
 rcases Nat.eq_zero_or_pos W with rfl | p
 .rfl
 have h:∀d,d<W->bH W (λw=>f ((w+d)%W))=bH W f:=by
  intro d u;have i:=kT (W-d) d (λw=>f ((w+d)%W));have o:=kT d (W-d) f;rw [show W-d+d=W by omega] at i;rw [show d+(W-d)=W by omega] at o;rw [i,o,Nat.add_comm]
  congr 1
  .exact dZ λk hk=>by
    congr 1
    rw [show W-d+k+d=k+W by omega,Nat.add_mod_right,Nat.mod_eq_of_lt ap]
  .exact dZ λk hk=>by rw [Nat.mod_eq_of_lt ap,Nat.add_comm]
 rw [<-h (a%W) (Nat.mod_lt _ p)];exact dZ λk _=>by rw [Nat.add_mod_mod]
theorem uj {α:Type} (l:List α) (d:α) (f:α->Nat):(l.map f).sum=bH l.length λk=>f (l.getD k d):=by
 induction l with
 | nil=>rfl
 | cons x l ih=>
  rw [List.map_cons,List.sum_cons,ih,List.length_cons,Nat.add_comm l.length 1,kT 1];have:bH 1 (λk=>f ((x::l).getD k d))=f x:=by simp [bH]
  rw [this]
  congr 1
  exact dZ λk _=>by rw [Nat.add_comm 1 k,List.getD_cons_succ]
theorem DH {β:Type} (n:Nat) (f:Nat->List β):((List.range n).flatMap f).length=bH n λk=>(f k).length:=by
 rw [List.length_flatMap];rfl
theorem BC {β:Type} (a n:Nat) (f:Nat->List β):((List.range' a n).flatMap f).length=bH n λk=>(f (a+k)).length:=by
 rw [List.length_flatMap];unfold bH;rw [List.range'_eq_map_range,List.map_map];rfl
theorem Mv (n s:Nat) (hs:1<=s) (f:Nat->Nat):((fv n s).map λg=>bH (g.2-g.1) λk=>f (g.1+k)).sum=bH n f:=by
 have h:∀m,m<=di n s->(((List.range m).map λj=>(j*s,min (j*s+s) n)).map λg:Rg=>bH (g.2-g.1) λk=>f (g.1+k)).sum=bH (min (m*s) n) f:=by
  intro m
  induction m with
  | zero=>intro _;simp [bH]
  | succ m ih=>
   intro hm;have h1:=iI (n:=n) (size:=s) (k:=m) ap;rw [Rx,List.map_append,List.map_append,List.sum_append,ih ap];simp only [List.map_cons,List.map_nil,List.sum_cons,List.sum_nil,Nat.add_zero];rw [show min (m*s) n=m*s by omega,Ry];have:=kT (m*s) (min (m*s+s) n-m*s) f;rw [show m*s+(min (m*s+s) n-m*s)=min (m*s+s) n by omega] at this;exact this.symm
 have:=h (di n s) (Qx _);unfold fv;rw [this]
 congr 1
 rcases Nat.eq_zero_or_pos n with rfl | hn
 .simp
 .have:n<=di n s*s:=by
   unfold di;rw [if_neg ap,Ry];have:=Nat.div_add_mod (n-1) s;have:=Nat.mod_lt (n-1) (show 0<s by omega);have:s*((n-1)/s)=(n-1)/s*s:=Nat.mul_comm _ _;omega
  omega
theorem j8 (st bk:Nat) (b:Rg) (W c w ph r:Nat):(cZ st bk b W c w ph r).length=(chR (aK (dz b W) (cT W w ph r)) c).length+(chR (aK (dz b W) (cE W w ph r)) c).length:=Df _ _ _ _
theorem AZ (b:Rg) (W c:Nat):lC b W c=bH W λs=>(chR (aK (dz b W) s) c).length:=by
 unfold lC;rw [uj _ (0,0),qO];rfl
theorem CO (st bk:Nat) (b:Rg) (W c ph r:Nat):bH W (λw=>(cZ st bk b W c w ph r).length)=2*lC b W c:=by
 simp only [j8,jM];unfold cT cE;rw [ui W _ (λs=>(chR (aK (dz b W) s) c).length),ui W _ (λs=>(chR (aK (dz b W) s) c).length),<-AZ];omega
theorem DC (p:Pln) (w st:Nat) (g:Rg):(dx p w st g).length=bH (g.2-g.1) λk=>2+bH 2 λph=>bH (p.W-1) λr=>(cq p w st ph r (g.1+k)).length:=by
 unfold dx;simp only [Rh,List.length_map,List.length_range',DH,BC];rw [jM,fx]
 have e:(bH 2 λph=>bH (p.W-1) λr=>bH (g.2-g.1) λk=>(cq p w st ph r (g.1+k)).length)=bH (g.2-g.1) λk=>bH 2 λph=>bH (p.W-1) λr=>(cq p w st ph r (g.1+k)).length:=by
  rw [dZ (g:=λph=>bH (g.2-g.1) λk=>bH (p.W-1) λr=>(cq p w st ph r (g.1+k)).length) (λph _=>iP _ _ _),iP]
 rw [e];omega
theorem qu (p:Pln) (w st:Nat) (hw:1<=p.wi):(aE p w st).length=p.mi+1+bH p.buks.length λj=>2+bH 2 λph=>bH (p.W-1) λr=>(cq p w st ph r j).length:=by
 unfold aE;simp only [Rh,List.length_map,List.length_range,List.length_flatMap,List.length_cons,List.length_nil]
 have:((p.grps.map λa=>(dx p w st a).length)).sum=bH p.buks.length λj=>2+bH 2 λph=>bH (p.W-1) λr=>(cq p w st ph r j).length:=by
  simp only [DC];exact Mv p.buks.length p.wi hw λj=>2+bH 2 λph=>bH (p.W-1) λr=>(cq p w st ph r j).length
 rw [this];omega
theorem It (p:Pln) (st:Nat) (hw:1<=p.wi):bH p.W (λw=>(aE p w st).length)=p.W*(p.mi+2*p.buks.length+1)+(p.buks.map λb=>4*(p.W-1)*lC b p.W p.ck).sum:=by
 simp only [qu p _ st hw];rw [jM,fx,iP]
 have e:∀j,bH p.W (λw=>2+bH 2 λph=>bH (p.W-1) λr=>(cq p w st ph r j).length)=2*p.W+4*(p.W-1)*lC (aK p.buks j) p.W p.ck:=by
  intro j;rw [jM,fx,iP]
  have:(bH 2 λph=>bH p.W λw=>bH (p.W-1) λr=>(cq p w st ph r j).length)=bH 2 λ_=>(p.W-1)*(2*lC (aK p.buks j) p.W p.ck):=by
   refine dZ λph _=>?_;rw [iP,<-fx];refine dZ λr _=>?_;unfold cq;simp only [List.length_map];exact CO _ _ _ _ _ _ _
  rw [this,fx,Nat.mul_comm p.W 2,show 2*((p.W-1)*(2*lC (aK p.buks j) p.W p.ck))=4*(p.W-1)*lC (aK p.buks j) p.W p.ck by rw [Nat.mul_left_comm (p.W-1) 2,<-Nat.mul_assoc,<-Nat.mul_assoc]]
 rw [dZ (λj _=>e j),jM,fx,uj _ (0,0)];unfold aK
 have:p.W*(p.mi+1)+p.buks.length*(2*p.W)=p.W*(p.mi+2*p.buks.length+1):=by
  rw [show p.mi+2*p.buks.length+1=p.mi+1+2*p.buks.length by omega,Nat.mul_add p.W (p.mi+1),show p.buks.length*(2*p.W)=p.W*(2*p.buks.length) by rw [Nat.mul_left_comm,Nat.mul_comm p.buks.length,Nat.mul_left_comm]]
 omega
end Go.Proofs.YtindmkcnjlgomaaGreat
namespace Go.Proofs.YtindmkcnjlgomaaGreat
open Tryz
theorem BJ (m k:Nat) (hk:0<k):(m%k+1<k->(m+1)/k=m/k/\(m+1)%k=m%k+1)/\(¬m%k+1<k->(m+1)/k=m/k+1/\(m+1)%k=0):=by
 have h1:=Nat.div_add_mod m k;have i:=Nat.mod_lt m hk;constructor
 .intro h;have e:m+1=(m%k+1)+k*(m/k):=ap;rw [e,Nat.add_mul_div_left _ _ hk,Nat.add_mul_mod_self_left,Nat.div_eq_of_lt h,Nat.mod_eq_of_lt h];omega
 .intro h;have e:m+1=k*(m/k+1):=by rw [Nat.mul_succ];omega
  rw [e,Nat.mul_div_cancel_left _ hk,Nat.mul_mod_right];exact ⟨rfl,rfl⟩
def szE (k m i:Nat):Nat:=m/k+if i<m%k then 1 else 0
theorem Jh {k:Nat} (i:Nat):szE k 0 i=0:=by simp [szE]
theorem Ji {k m i:Nat} (p:i<k):szE k (m+1) i=szE k m i+if i=m%k then 1 else 0:=by
 obtain ⟨h1,o⟩:=BJ m k ap;have hm:=Nat.mod_lt m (show 0<k by omega);unfold szE;by_cases h:m%k+1<k
 .rw [(h1 h).1,(h1 h).2]
  split<;>split<;>split<;>omega
 .rw [(o h).1,(o h).2]
  split<;>split<;>split<;>omega
theorem rC (n k i:Nat):bdN n k (i+1)=bdN n k i+szE k n i:=by
 unfold bdN szE;rw [Ry]
 split<;>omega
theorem tT (n k:Nat) (hk:0<k):bdN n k k=n:=by
 unfold bdN;have h1:=Nat.div_add_mod n k;have h:=Nat.mod_lt n hk;omega
theorem ky (n k:Nat) {i j:Nat} (h:i<=j):bdN n k i<=bdN n k j:=by
 unfold bdN;have:=RH (n/k) h;omega
theorem fY (n k i:Nat) (hk:0<k) (h:i<=k):bdN n k i<=n:=by
 have:=ky n k h
 rwa [tT n k hk] at this
theorem vy (n k m:Nat):(List.range (m+1)).map (λi=>(bdN n k i,bdN n k (i+1)))=(List.range m).map (λi=>(bdN n k i,bdN n k (i+1)))++[(bdN n k m,bdN n k (m+1))]:=by
 rw [Rx,List.map_append];rfl
end Go.Proofs.YtindmkcnjlgomaaGreat
namespace Go.Proofs.YtindmkcnjlgomaaGreat
open Go.RowKit
open Tryz
theorem sw (n size:Nat) (w:R8) (hn:n<=1048576) (hs:1<=size) (v:size<=1048576):Calls prog 111 #[RI n,RI size] w λe u=>e=.returned (RI (di n size:Int))/\w=u:=by
 have B:¬((size:Int)<1):=ap;by_cases p:n=0
 .subst p;go_enter func111,ntmps111;go_wp2;go_ret;exact ⟨rfl,rfl⟩
 .have x:¬((n:Int)<1):=ap;have i:(0:Int)<=(n:Int)-1:=ap;have he:=IF n size ap;have o:=Nat.div_le_self (n-1) size;have hc:di n size=(n-1)/size+1:=by unfold di;rw [if_neg p]
  rw [hc];obtain ⟨y,h⟩:∃y,(n-1)/size=y:=⟨_,rfl⟩;rw [h] at he o |-;have A:((n:Int)-1).tdiv size=y:=by rw [Int.tdiv_eq_ediv_of_nonneg i,he]
  obtain ⟨D,C⟩:=ae h hc;clear h hc p;go_enter func111,ntmps111;go_wp2;go_ret;exact ⟨rfl,rfl⟩
theorem ng (n size:Nat) (w:R8) (hn:n<=1048576) (hs:1<=size) (T:size<=1048576):Calls prog 107 #[RI n,RI size] w λe Q=>∃v,e=.returned v/\Q.ownsRow w.heap.size 69 2 v (di n size) (gu n size (di n size))/\aq w Q:=by
 have D:=sw n size w hn hs T;have Y:=fE n size;have A:=λk (h:k<di n size)=>iI h;obtain ⟨m,hm⟩:∃m,di n size=m:=⟨_,rfl⟩;rw [hm] at D Y A |-;obtain ⟨R,U⟩:=ae D A;clear D hm A;go_enter func107,ntmps107;go_wp2_with fail;refine R.o.mono ?_;rintro e Q ⟨rfl,rfl⟩;go_wp2_with fail
 go_loopw [5,11] (λv x wr=>∃k:Nat,k<=m/\x=RI k/\wr.ownsRow w.heap.size 69 2 v k (gu n size k)/\aq w wr) (λ_ x _=>m-(intOf x).toNat)
 .exact ⟨0,QB _,rfl,QI _ _ _ _,QA _ _⟩
 case round=>
  obtain ⟨k,hk,rfl,i,hb⟩:=hrel;by_cases O:k<m
  .have V:=U.o k O;obtain ⟨y,N⟩:∃y,k*size=y:=⟨_,rfl⟩;rw [N] at V;have a0:(k:Int)*(size:Int)=(y:Int):=by rw [<-N];push_cast;rfl
   obtain ⟨Z,cl,rfl,_⟩:=aD i;obtain ⟨Hy,p,J⟩:=af N i hb;clear i hb N;by_cases a1:(size:Int)<=(n:Int)-y
   .have L:(y:Int)+size<=n:=ap;go_wp2_with (at_builtin;refine aX nd _ rfl (.tmp 17) (.tmp 27) rfl w.heap.size (.slice Z k cl) k _ rfl p.o [RI (y:Int),RI ((y:Int)+size)] rfl rfl (cH .i64 [_,_]) ap (by unfold maxLen;omega) J.o.size ?_);intro g6 c6 w6 u B I;obtain ⟨H,C⟩:=ae u (J.o.trans B);clear u B I;go_wp2_with fail;go_roundw
    case rel=>
     refine ⟨k+1,by omega,by go_num,?_,C.o⟩;rw [jI,Hy.o,show ((min (y+size) n:Nat):Int)=(y:Int)+size by omega];exact H.o
    case measure=>simp [intOf];omega
   .have L:(n:Int)-y<size:=ap;go_wp2_with (at_builtin;refine aX nd _ rfl (.tmp 17) (.tmp 27) rfl w.heap.size (.slice Z k cl) k _ rfl p.o [RI (y:Int),RI ((y:Int)+((n:Int)-y))] rfl rfl (cH .i64 [_,_]) ap (by unfold maxLen;omega) J.o.size ?_);intro g6 c6 w6 u B I;obtain ⟨H,C⟩:=ae u (J.o.trans B);clear u B I;go_wp2_with fail;go_roundw
    case rel=>
     refine ⟨k+1,by omega,by go_num,?_,C.o⟩;rw [jI,Hy.o,show ((min (y+size) n:Nat):Int)=(y:Int)+((n:Int)-y) by omega];exact H.o
    case measure=>simp [intOf];omega
  .obtain rfl:m=k:=ap;obtain ⟨p,J⟩:=ae i hb;clear i hb;go_wp2_with fail;go_ret;exact ⟨_,rfl,p.o,J.o⟩
theorem mT (a b:Nat) (w:R8) (p:a<=1048576) (hb:b<=1048576):Calls prog 124 #[.agg #[RI a,RI b]] w λe o=>e=.returned (RI ((b-a:Nat):Int))/\aq w o:=by
 have hB:aq w (w.alloc (.cells #[RI a,RI b] 69)):=(br w).alloc (Qx _) _;by_cases h:a<=b
 .have h1:¬((b:Int)-a<0):=ap;have i:((b-a:Nat):Int)=(b:Int)-a:=ap;rw [i];clear i;go_enter func124,ntmps124;go_wp2;go_ret;exact ⟨bj (by first | rfl | omega | (simp;omega)),hB⟩
 .have h1:(b:Int)-a<0:=ap;have i:((b-a:Nat):Int)=0:=ap;rw [i];clear i;go_enter func124,ntmps124;go_wp2;go_ret;exact ⟨bj (by first | rfl | omega | (simp;omega)),hB⟩
theorem IL (i n k V bk:Nat) (w:R8) (hn:w.heap[V]?=some (.cells #[RI n] 3 (0,0))) (hk:w.heap[bk]?=some (.cells #[RI k] 3 (0,0))) (h1:1<=k) (h2:k<=1048576) (h3:n<=1048576) (hi:i<=k):Calls prog 149 #[RI i,(au V),(au bk)] w λe u=>e=.returned (RI (bdN n k i:Int))/\aq w u:=by
 have tn:=λu q=>bx1 (sb hn u q);have tk:=λu q=>bx1 (sb hk u q);have J:=br w;have a0:¬(k=0):=ap;have x:(n:Int).tdiv (k:Int)=((n/k:Nat):Int):=rfl;have I:(n:Int)/(k:Int)=((n/k:Nat):Int):=rfl;have D:(n:Int).tmod (k:Int)=((n%k:Nat):Int):=rfl;have y:(n:Int)%(k:Int)=((n%k:Nat):Int):=rfl;have H:=fY n k i ap hi;have h:bdN n k i=i*(n/k)+min i (n%k):=rfl;have T:n/k<=n:=Nat.div_le_self _ _;obtain ⟨q,Y⟩:∃q,n/k=q:=⟨_,rfl⟩;obtain ⟨r,hr⟩:∃r,n%k=r:=⟨_,rfl⟩;obtain ⟨p,Q⟩:∃p,i*q=p:=⟨_,rfl⟩;have hm:(i:Int)*(q:Int)=(p:Int):=by rw [<-Q];push_cast;rfl
 rw [Y] at x I h T;rw [hr] at D y h;rw [Q] at h;have Z:p<=1048576:=ap;have R:IntKind.i64.wrap (p:Int)=p:=QC _ ap;have O:IntKind.i64.wrap (q:Int)=q:=QC _ ap;obtain ⟨d,U⟩:∃d,bdN n k i=d:=⟨_,rfl⟩;rw [U] at H h |-;have A:=aa h;clear hn hk Y hr Q U h H;go_enter func149,ntmps149;go_wp2_with fail;refine HA.g (λu:R8=>aq w u) ?_;refine HA.t ?_ [0,1,2,3,4,5,6,7,8] J.drew ?_;obtain ⟨v,C⟩:∃v:Nat,min i r=v:=⟨_,rfl⟩;have B:(if r<i then (r:Int) else (i:Int))=(v:Int):=by rw [<-C];split<;>omega
 have N:IntKind.i64.wrap ((p:Int)+(v:Int))=(p:Int)+v:=QC _ ap;refine HA.t ?_ [9] J.drew ?_;refine HA.t ?_ [10,11] J.drew ?_;refine HA.d ?_;have hB:=J.drew;have L:=aa (show (p:Int)+v=(d:Int) by have:=A.o;omega);clear C B R O N x I D y hm;go_wp2_with fail;go_ret;exact ⟨bj L.o,hB⟩
theorem vx (n k:Nat) (w:R8) (h1:1<=k) (h2:k<=1048576) (h3:n<=1048576):Calls prog 123 #[RI n,RI k] w λe u=>∃v,e=.returned v/\u.ownsRow w.heap.size 69 2 v k (aS (fz n k))/\aq w u:=by
 have a1:¬((n:Int)<0):=ap;have a6:¬((k:Int)<1):=ap;obtain ⟨p,h⟩:∃p,(w.alloc (.cells #[RI n] 3)).alloc (.cells #[RI k] 3)=p:=⟨_,rfl⟩
 have hn:p.heap[w.heap.size]?=some (.cells #[RI n] 3 (0,0)):=by
  rw [<-h,QL _ _ _ (by simp)];exact Qy w _
 have hk:p.heap[w.heap.size+1]?=some (.cells #[RI k] 3 (0,0)):=by
  rw [<-h];have:=Qy (w.alloc (.cells #[RI n] 3)) (.cells #[RI k] 3);simpa using this
 have H:p.heap.size=w.heap.size+1+1:=by rw [<-h];simp
 have L:aq w p:=by rw [<-h];exact ((br w).alloc (Qx _) _).alloc (by simp) _
 have tn:=λu q=>bx1 (sb hn u q);have tk:=λu q=>bx1 (sb hk u q);have O:=λi u (q:aq p u) (hi:i<=k)=>IL i n k w.heap.size (w.heap.size+1) u (sb hn u q) (sb hk u q) h1 h2 h3 hi;have N:=λi (hi:i<=k)=>fY n k i ap hi;obtain ⟨U,D,a3,T,C⟩:=ah h O N H L;clear h hn hk O N H L;go_enter func123,ntmps123;have q0:=br p;go_wp2_with fail;rw [U.o]
 go_loopw [6,16] (λv x wr=>∃m:Nat,m<=k/\x=RI m/\wr.ownsRow p.heap.size 69 2 v m (aS ((List.range m).map λi=>(bdN n k i,bdN n k (i+1))))/\aq p wr) (λ_ x _=>k-(intOf x).toNat)
 .exact ⟨0,QB _,rfl,QI _ _ _ _,q0⟩
 case round=>
  obtain ⟨m,hm,rfl,J,q⟩:=hrel;by_cases a2:m<k
  .have a4:(m:Int)<k:=ap;obtain ⟨A,c,rfl,_⟩:=aD J;have Q:=aa J;clear J;go_wp2_with fail;refine (D.o m wr q ap).mono ?_;rintro e w1 ⟨rfl,R⟩;have V:=bt q R;have O1:=aa (az Q.o R);have a5:IntKind.i64.wrap ((m:Int)+1)=((m+1:Nat):Int):=by rw [QC _ ap];push_cast;rfl
   clear R q;go_wp2_with fail;have y:=D.o (m+1) w1 V ap;rw [show ((m+1:Nat):Int)=(m:Int)+1 from by omega] at y;refine y.mono ?_;rintro e w2 ⟨rfl,k2⟩;have q2:=bt V k2;have O2:=aa (az O1.o k2);have Y:=q2.size;clear y k2 V O1 Q;go_wp2_with (at_builtin;refine aX nd _ rfl (.tmp 19) (.tmp 28) rfl p.heap.size (.slice A m c) m _ rfl O2.o [RI (bdN n k m:Nat),RI (bdN n k (m+1):Nat)] rfl rfl (cH .i64 [_,_]) ap (by unfold maxLen;omega) Y ?_);intro g6 c6 w6 B I a0;have Z:=aa B;have q6:=q2.trans I;clear B I a0 q2;go_wp2_with fail;go_roundw
   .exact ⟨m+1,by omega,by go_num,by rw [vy,iQ];exact Z.o,q6⟩
   .simp [intOf];omega
  .obtain rfl:k=m:=ap;have Q:=aa (aF (base':=w.heap.size) J (by have:=T.o;omega));have hB:=C.o.trans (q.mono C.o.size);have HB:=aa hB;clear J hB;go_wp2_with fail;go_ret;exact ⟨_,rfl,Q.o,HB.o⟩
theorem cX (l:List Rg) (j:Nat) (h:j<l.length):aK l j=l[j]:=by simp [aK,List.getD,h]
theorem eA {l:List Rg} {j:Nat} (h:j<l.length):(aS l)[j*2]?=some (RI ((aK l j).1:Int))/\(aS l)[j*2+1]?=some (RI ((aK l j).2:Int)):=oZ (by rw [cX l j h];simp [h])
theorem uu:∀(l:List Rg) (j:Nat) (r:Rg),((aS l).set (j*2) (RI (r.1:Int))).set (j*2+1) (RI (r.2:Int))=aS (l.set j r)
 | [],_,_=>rfl
 | x::l,0,r=>rfl
 | x::l,j+1,r=>by
  have h:=uu l j r;have e:∀y (m:List Rg),aS (y::m)=RI (y.1:Int)::RI (y.2:Int)::aS m:=λy m=>by simp [aS]
  rw [e,QY,e,<-h,show (j+1)*2=j*2+1+1 by omega,show j*2+1+1+1=(j*2+1)+1+1 by omega];simp only [QY]
theorem Kb {w:R8} {base n g c:Nat} {l:List Rg} {e:R9} (h:w.ownsRow base e 2 (.slice (some (ar g 0)) n c) n (aS l)) (j:Nat) (r:Rg): ((w.setCell (ar g (j*2)) (RI (r.1:Int))).setCell (ar g (j*2+1)) (RI (r.2:Int))).ownsRow base e 2 (.slice (some (ar g 0)) n c) n (aS (l.set j r)):=by
 have:=((h.stored (j*2) (RI (r.1:Int))).1.stored (j*2+1) (RI (r.2:Int))).1
 rwa [uu] at this
theorem jd {w:R8} {base n g c:Nat} {l:List Rg} {e:R9} (h:w.ownsRow base e 2 (.slice (some (ar g 0)) n c) n (aS l)) {j:Nat} (i:j<n):
  w.cell? (ar g (j*2))=some (RI ((aK l j).1:Int))/\w.cell? (ar g (j*2+1))=some (RI ((aK l j).2:Int)):=by
 have hl:=h.1;rw [qg] at hl;have:=eA (l:=l) (j:=j) ap;exact ⟨by rw [h.cellAt _ ap];exact this.1,by rw [h.cellAt _ ap];exact this.2⟩
def qR (l:List Rg) (k:Nat):List Rg:=(List.range l.length).map λt=>if t<k\/l.length-1-t<k then aK l (l.length-1-t) else aK l t
theorem iA (l:List Rg) (k:Nat):(qR l k).length=l.length:=by simp [qR]
theorem pd {l:List Rg} {k t:Nat} (h:t<l.length):aK (qR l k) t=if t<k\/l.length-1-t<k then aK l (l.length-1-t) else aK l t:=by
 rw [cX _ _ (by rw [iA];exact h)];simp [qR]
theorem CU {a b:List Rg} (h:a.length=b.length) (hn:∀k,k<a.length->aK a k=aK b k):a=b:=List.ext_getElem h λk h1 i=>by
 have:=hn k h1;rwa [cX _ _ h1,cX _ _ i] at this
theorem Gi (l:List Rg):qR l 0=l:=CU (iA l 0) λk hk=>by
 rw [iA] at hk;rw [pd hk,if_neg ap]
theorem Ag {l:List Rg} {i j:Nat} {r:Rg} (h:i<l.length):aK (l.set j r) i=if j=i then r else aK l i:=by
 rw [cX _ _ (by simpa using h),List.getElem_set,cX _ _ h]
theorem Gj {l:List Rg} {k:Nat} (h:2*k+1<l.length):((qR l k).set k (aK (qR l k) (l.length-1-k))).set (l.length-1-k) (aK (qR l k) k)=qR l (k+1):=by
 refine CU (by simp [iA]) λt u=>?_;have i:t<l.length:=by simpa [iA] using u
 rw [Ag (by simpa [iA] using i),Ag (by rw [iA];exact i),pd i,pd ap,pd ap,pd i];by_cases h1:l.length-1-k=t
 .subst h1;rw [if_pos rfl,if_neg ap,if_pos ap,show l.length-1-(l.length-1-k)=k by omega]
 .rw [if_neg h1];by_cases o:k=t
  .subst o;rw [if_pos rfl,if_neg ap,if_pos ap]
  .rw [if_neg o];by_cases p:t<k\/l.length-1-t<k
   .rw [if_pos p,if_pos ap]
   .rw [if_neg p,if_neg ap]
theorem Kg {l:List Rg} {k:Nat} (h:l.length<=2*k+1):qR l k=l.reverse:=by
 refine CU (by simp [iA]) λt o=>?_;have i:t<l.length:=by simpa [iA] using o
 rw [pd i,cX l.reverse t (by simpa using i),List.getElem_reverse,<-cX l _ ap];by_cases h1:t<k\/l.length-1-t<k
 .rw [if_pos h1]
 .rw [if_neg h1,show l.length-1-t=t by omega]
theorem Ke (A:N_) (l:List Rg) (n c base:Nat) (w:R8) (ho:w.ownsRow base 69 2 (.slice A n c) n (aS l)) (hn:l.length=n) (hl:n<=1048576):Calls prog 130 #[.slice A n c] w λe v=>e=.returned (.tuple #[])/\v.ownsRow base 69 2 (.slice A n c) n (aS l.reverse)/\Keep (λj=>(Value.slice A n c).ownBlock=some j) w v:=by
 have h0:w.ownsRow base 69 2 (.slice A n c) n (aS (qR l 0)):=by rw [Gi];exact ho
 have x:=λk (h:2*k+1<n)=>Gj (l:=l) (k:=k) ap;have u:=λk (h:n<=2*k+1)=>Kg (l:=l) (k:=k) ap;rw [hn] at x;obtain ⟨H0,Q,H,Hn⟩:=ag h0 x u hn;clear ho h0 x u hn;go_enter func130,ntmps130;go_wp2_with fail
 go_loopw [2,3] (λi j wr=>∃k:Nat,2*k<=n+1/\i=RI k/\j=RI ((n:Int)-1-k)/\wr.ownsRow base 69 2 (.slice A n c) n (aS (qR l k))/\Keep (λj=>(Value.slice A n c).ownBlock=some j) w wr) (λi _ _=>n-(intOf i).toNat)
 .exact ⟨0,by omega,rfl,by go_num,H0.o,Keep.refl _ _⟩
 case round=>
  obtain ⟨k,hk,rfl,rfl,hr,J⟩:=hrel;by_cases O:2*k+1<n
  .obtain ⟨g,rfl⟩:∃g,A=some (ar g 0):=by
    obtain ⟨g,e,hv,_⟩:=hr.form ap;simp only [Rv] at hv;exact ⟨g,hv.1⟩
   have L:=jd hr (show k<n by omega);have C:=jd hr (show n-1-k<n by omega);have f1:=λj=>hr.frozenAt j;have D:(k:Int)<(n:Int)-1-k:=ap;have N:(n:Int)-1-k=((n-1-k:Nat):Int):=ap;have V:n-1-k<n:=ap;have a0:k<n:=ap;have T:n-1-k≠k:=ap;have B:¬((n-1-k)*2=k*2)/\¬((n-1-k)*2=k*2+1)/\¬((n-1-k)*2+1=k*2)/\¬((n-1-k)*2+1=k*2+1):=ap;obtain ⟨R,y⟩:∃r,aK (qR l k) k=r:=⟨_,rfl⟩;obtain ⟨Z,p⟩:∃r,aK (qR l k) (n-1-k)=r:=⟨_,rfl⟩;obtain ⟨j,I⟩:∃j,n-1-k=j:=⟨_,rfl⟩;have hs:=Q.o k O;rw [y,p] at hs;rw [y] at L;rw [p] at C;rw [I] at C N V T B hs;rw [N] at D |-;obtain ⟨U,Y,Hj,Hs⟩:=ag hr J N hs;clear hr J N I hs y p;go_wp2_with fail;refine XA.g 13 (λv:R8=>(v.cell? (ar g (k*2))=some (RI (R.1:Int))/\v.cell? (ar g (k*2+1))=some (RI (R.2:Int)))/\(v.cell? (ar g (j*2))=some (RI (Z.1:Int))/\v.cell? (ar g (j*2+1))=some (RI (Z.2:Int)))) ?_;refine XA.t0 ?_ [0,1,2,3,4,5,6,8,9,10] ⟨L,C⟩ ?_;refine XA.t ?_ [7,11] ⟨L,C⟩ ?_;refine XA.t0 ?_ [12] ⟨L,C⟩ ?_;refine XA.e ?_;simp only [Re,Rf];go_wp2_with fail;go_roundw
   .exact ⟨k+1,by omega,by go_num,by have:=Hj.o;go_num,by rw [<-Hs.o];exact Kb (Kb U.o k Z) j R,Keep.setCell (S:=λj=>(Value.slice (some (ar g 0)) n c).ownBlock=some j) (Keep.setCell (S:=λj=>(Value.slice (some (ar g 0)) n c).ownBlock=some j) (Keep.setCell (S:=λj=>(Value.slice (some (ar g 0)) n c).ownBlock=some j) (Keep.setCell (S:=λj=>(Value.slice (some (ar g 0)) n c).ownBlock=some j) Y.o.drew (ar g (k*2)) (.inr rfl) _) (ar g (k*2+1)) (.inr rfl) _) (ar g (j*2)) (.inr rfl) _) (ar g (j*2+1)) (.inr rfl) _⟩
   .simp [intOf];omega
  .have D:¬((k:Int)<(n:Int)-1-k):=ap;have p:=H.o k ap;rw [p] at hr;obtain ⟨U,Y⟩:=ae hr J;clear hr J p;go_wp2_with fail
   go_end0
   exact ⟨rfl,U.o,Y.o⟩
theorem BV (n s:Nat) (w:R8) (hn:n<=1048576) (hs:1<=s) (y:s<=1048576):Calls prog 94 #[RI n,RI s] w λe i=>∃v,e=.returned v/\i.ownsRow w.heap.size 69 2 v (qx n s).length (aS (qx n s))/\aq w i:=by
 have hb:=ng n s w hn hs y;have hl:=fE n s;rw [<-sy,<-fm] at hb;have h:=jq n s;rw [fm] at hb;rw [h];have p:=λ(A:N_) c base i (L:i.ownsRow base 69 2 (.slice A (di n s) c) (di n s) (aS (fv n s)))=>Ke A (fv n s) (di n s) c base i L (fm n s) ap;obtain ⟨O,B⟩:=ae hb p;clear hb p h hl;go_enter func94,ntmps94;go_wp2_with fail;refine O.o.mono ?_;rintro e I ⟨v,rfl,C,u⟩;obtain ⟨A,c,rfl,_⟩:=aD C;have x:=aa C;clear C;go_wp2_with fail;refine (B.o A c _ I x.o).mono ?_;rintro e Q ⟨rfl,H,D⟩;have hB:=u.trans (D.toBelow u.size (λj N=>(x.o.lt j N).1));have J:=aa H;clear H u D x;go_wp2_with fail;go_ret;exact ⟨_,rfl,J.o,hB⟩
theorem DB (n s:Nat) (w:R8) (hn:n<=1048576) (hs:1<=s) (h:s<=1048576):Calls prog 95 #[RI n,RI s] w λe i=>∃v,e=.returned v/\i.ownsRow w.heap.size 69 2 v (fv n s).length (aS (fv n s))/\aq w i:=by
 have hb:=ng n s w hn hs h;rw [<-sy,<-fm] at hb;have y:=aa hb;clear hb;go_enter func95,ntmps95;go_wp2_with fail;refine y.o.mono ?_;rintro e A ⟨v,rfl,p,u⟩;have x:=aa p;clear p;go_wp2_with fail;go_ret;exact ⟨_,rfl,x.o,u⟩
end Go.Proofs.YtindmkcnjlgomaaGreat
namespace Go.Proofs.YtindmkcnjlgomaaGreat
open Go.RowKit Go.Shelf
open Tryz
theorem kr {w i:R8} (h:aq w i):w.grownBy i none:=⟨h.os,h.tape,h.output,h.size,λk hk _=>h.block k hk⟩
theorem eQ {β:Type} (B b:Nat) (o:Obj) (i:o.isCells=true):OwnFrom B (λ(_:β) W=>W.heap[b]?=some o):=λ_ W p row hs hg hr=> (hg.block b (Qw hs) λe=>by
  obtain ⟨u,h,hc⟩:=(hr b e.symm).2;rw [hs] at h
  cases h
  rw [i] at hc
  cases hc).trans hs
theorem pM {F:Fence} {m:Nat} {P:Program} {t e:R9} {z:Value} {size p:Nat} (T:dN P t e z size p) (W:R8) {ops:T0} {rest:List Oper} {o:Oper} {a:T1} {Q:Exit->T1->R8->Prop} (L:o.guard=none) (s x:Operand) (ho:o.op=.call {callee:=.builtin .append,args:=#[s,x],argTypes:=#[t,t]}) (n₀ B:Nat) (v:Value) (n:Nat) (xs:R7) (hs:a.eval s=v) (hbx:Boxed W B t v) (hte:t≠e) (hown:W.ownsRow n₀ e size v n xs) (us:R7) (hx:a.eval x=.slice (some (ar W.heap.size 0)) 1 1) (hus:us.length=size) (h1:∀u∈us,u.oneCell'=true) (hb:(n+1)*p<=140737488355328) (h63:n+1<=maxLen) (hbase:n₀<=W.heap.size) (hB:n₀<=B) (h:∀g c y,Boxed y B t v->Boxed (y.setCell (ar B 0) (.slice (some (ar g 0)) (n+1) c)) B t (.slice (some (ar g 0)) (n+1) c)-> (y.setCell (ar B 0) (.slice (some (ar g 0)) (n+1) c)).ownsRow n₀ e size (.slice (some (ar g 0)) (n+1) c) (n+1) (xs++us)->
   KeepsOthers W (y.setCell (ar B 0) (.slice (some (ar g 0)) (n+1) c))->Below n₀ W (y.setCell (ar B 0) (.slice (some (ar g 0)) (n+1) c))->
   (∀b H C I,b≠B->C≠e->W.heap[b]?=some (.cells H C I)->(y.setCell (ar B 0) (.slice (some (ar g 0)) (n+1) c)).heap[b]?=some (.cells H C I))->
   wpListIn F m P ops Q rest (a.put o.dst (.slice (some (ar g 0)) (n+1) c)) y):wpListIn F m P ops Q (o::rest) a (W.alloc (.cells us.toArray e)):=by
 obtain ⟨i,hi,N,R,U⟩:=T.info
 refine wpListIn_append_own (W.alloc (.cells us.toArray e)) L s x t ho n₀ e i z size p T.und hi N R U T.zs T.pos v n xs hs (hown.alloc _) (ar W.heap.size 0) 1 1 us hx (by simpa using hus) ?_ h1 h63 hb
  (by simp;omega) ?_
 .intro j u hu;rw [Addr.add_lit,RB,Qz _ W.heap.size j us.toArray e (0,0) (Qy W _)];simpa using hu
 .intro v' y A hg _;obtain ⟨g,c,rfl⟩:=ownsRow_succ A;obtain ⟨Y,k2,Z,k4,k5⟩:=hbx.appended hte hown hbase hB A hg;refine h g c y Y k2 Z k4 k5 λb H C I V D J=>?_;have O:(W.alloc (.cells us.toArray e)).heap[b]?=some (.cells H C I):=(QL W _ b (Qw J)).trans J;have h1:y.heap[b]?=some (.cells H C I):=(hg.block b (Qw O) (ay O D (hown.alloc _))).trans O;exact (Below.heap_setCell y _ _ b (λe=>V e)).trans h1
theorem AF {W u:R8} {B base:Nat} {e:R9} {size n:Nat} {v:Value} {xs:R7} {row:Option Nat} (h:W.ownsRow base e size v n xs) (hg:W.grownBy u row) (hr:∀r,row=some r->B<=r/\∃o:Obj,W.heap[r]?=some o/\o.isCells=false):u.ownsRow base e size v n xs:=by
 refine h.kept hg ?_;rcases h.2 with ⟨rfl,_⟩ | ⟨g,cap,x,rfl,_,i,_⟩
 .exact .inl rfl
 .refine .inr λy=>?_;obtain ⟨o,p,hc⟩:=(hr g (by simpa [Value.ownBlock] using y.symm)).2;rw [i] at p;cases p;cases hc
theorem eT {W p:R8} {B b:Nat} {o:Obj} (u:o.isCells=true) {row:Option Nat} (h:W.heap[b]?=some o) (hg:W.grownBy p row) (hr:∀r,row=some r->B<=r/\∃o:Obj,W.heap[r]?=some o/\o.isCells=false):p.heap[b]?=some o:= (hg.block b (Qw h) λe=>by
  obtain ⟨v,i,hc⟩:=(hr b e.symm).2;rw [h] at i
  cases i
  rw [u] at hc
  cases hc).trans h
theorem lA {S:Nat->Prop} {W i:R8} (h:Keep S W i) (u:∀k o,S k->W.heap[k]?=some o->o.isCells=true):KeepsOthers W i:=
 ⟨h.size,λk o hk p=>(h.block k (Qw hk) λhs=>by rw [u k o hs hk] at p;cases p).trans hk⟩
theorem zD {F:Fence} {m:Nat} {P:Program} {t e:R9} {z:Value} {h:Nat} (T:dN P t e z 1 h) (w:R8) {ops:T0} {rest:List Oper} {o:Oper} {a:T1} {Q:Exit->T1->R8->Prop} (hg:o.guard=none) (l c:Operand) (p:o.op=Op.makeSlice t l c) (D:z.cells=#[z]) (n:Nat) (hl:a.eval l=RI (n:Int)) (hc:a.eval c=RI (n:Int)) (L:h*n<=281474976710656) (N:n<=maxLen) (J:∀x,x.ownsRow w.heap.size e 1 (.slice (some (ar w.heap.size 0)) n n) n (List.replicate n z)->Below (w.heap.size) w x->
   wpListIn F m P ops Q rest (a.put o.dst (.slice (some (ar w.heap.size 0)) n n)) x):wpListIn F m P ops Q (o::rest) a w:=by
 obtain ⟨i,O,B,C,y⟩:=T.info;refine wpListIn_plain hg λK H=>?_;obtain ⟨x,v,I,u⟩:=run_make_full (P:=P) w w.heap.size t e i z 1 T.und O B C .i64 .i64 n (by rw [y];exact L) N (Qx _);rw [D,Nat.mul_one,toList_madeCells_one] at I;unfold Oper.wpIn;refine ⟨by simp [Oper.about,p],?_⟩;rw [Oper.semAt_plain F _ _ (by rw [p];intro c A;cases A)];simp [execOp,p,hl,hc,v,Result.andThen];exact H _ _ (J x I ⟨u.os,u.tape,u.output,u.size,λk hk=>u.block k hk (by simp)⟩)
attribute [local go_sem] Oper.semAt_some
theorem nv (P:Program) (w:R8) (a:Addr) (i:Fn) (h ca:R6) (m:Mode):(store a (.func i h ca) m).run P w=stored P w a (.func i h ca) m:=run_store P w a _ m rfl
attribute [local go_sem] nv
structure kE (w:R8) (L S B:Nat) (A:N_) (rs:List Rg) (c d:Nat) (tf:R9):Prop where
 l:w.heap[L]?=some (.cells #[.slice A rs.length c] 159 (0,0))
 s:w.heap[S]?=some (.cells #[.func (.func 147) #[] #[(au B)]] tf (0,0))
 b:w.heap[B]?=some (.cells #[RI d] 3 (0,0))
 r:Rd w A (aS rs)
theorem kE.below {w i:R8} {L S B:Nat} {A:N_} {rs:List Rg} {c d:Nat} {o:R9} (h:kE w L S B A rs c d o) (hb:aq w i):kE i L S B A rs c d o:=
 ⟨sb h.l _ hb,sb h.s _ hb,sb h.b _ hb,h.r.below hb⟩
theorem Dx (lo h d B:Nat) (w:R8) (hB:w.heap[B]?=some (.cells #[RI d] 3 (0,0))) (h1:lo<=1048576) (C:h<=1048576) (D:d<=1048576):Calls prog 147 #[.agg #[RI lo,RI h],(au B)] w λe A=>e=.returned (.agg #[RI ((lo+d:Nat):Int),RI ((h+d:Nat):Int)])/\aq w A:=by
 have hb:=bx1 hB;have hl:=Qw hB;have o:((lo+d:Nat):Int)=(lo:Int)+d:=ap;have y:((h+d:Nat):Int)=(h:Int)+d:=ap;rw [o,y];clear o y hB;go_enter func147,ntmps147;go_wp2_with fail;have o:=Qy (w.alloc (.cells #[RI lo,RI h] 69)) (.cells #[RI ((lo:Int)+d),RI ((h:Int)+d)] 69);obtain ⟨u,i⟩:∃u,u=(w.alloc (.cells #[RI lo,RI h] 69)).alloc (.cells #[RI ((lo:Int)+d),RI ((h:Int)+d)] 69):=⟨_,rfl⟩;have p:aq w u:=by rw [i];exact ((QA _ w).alloc (Qx _) _).alloc (by simp) _
 rw [<-i,QP] at o;rw [<-i];have x:=bx2 o;exact QM (v:=.agg #[RI ((lo:Int)+d),RI ((h:Int)+d)]) (by simp [results,results147,go_sem,x]) rfl ⟨rfl,p⟩
def xg (r:Rg):R6:=#[.agg #[RI (r.1:Int),RI (r.2:Int)]]
theorem Fy {α:Type} {l:List α} {k:Nat} {x:α} (h:l[k]?=some x):l.take (k+1)=l.take k++[x]:=by
 rw [List.take_add_one,h];rfl
theorem se (A:N_) (rs:List Rg) (c d:Nat) (w:R8) (hr:Rd w A (aS rs)):Calls prog 122 #[.slice A rs.length c,RI d] w λe u=>∃L S B,e=.returned (.func (.func 148) #[] #[(au L),(au S)])/\kE u L S B A rs c d 258/\(w.heap.size<=L/\w.heap.size<=S/\w.heap.size<=B)/\aq w u:=by
 obtain ⟨n,hn⟩:∃n,n=rs.length:=⟨_,rfl⟩;rw [<-hn];obtain ⟨I,H⟩:=ae hn hr;clear hn hr;go_enter func122,ntmps122;go_wp2_with fail;have a1:=Qy w (.cells #[.slice A n c] 159);have p:aq w (w.alloc (.cells #[.slice A n c] 159)):=(QA _ w).alloc (Qx _) _;have s1:=QP w (.cells #[.slice A n c] 159);generalize w.alloc (.cells #[.slice A n c] 159)=W1 at *;have x:=Qy W1 (.cells #[RI d] 3);have y:aq W1 (W1.alloc (.cells #[RI d] 3)):=(QA _ W1).alloc (Qx _) _;have s2:=QP W1 (.cells #[RI d] 3);generalize W1.alloc (.cells #[RI d] 3)=W2 at *;have C:=Qy W2 (.cells #[.func (.func 147) #[] #[(au (w.heap.size+1))]] 258);have D:aq W2 (W2.alloc (.cells #[.func (.func 147) #[] #[(au (w.heap.size+1))]] 258)):=(QA _ W2).alloc (Qx _) _;generalize W2.alloc (.cells #[.func (.func 147) #[] #[(au (w.heap.size+1))]] 258)=W3 at *;have i:=y.trans (D.mono y.size);have h:=p.trans (i.mono p.size);rw [s2,s1] at C;rw [s1] at x
 exact QM (v:=.func (.func 148) #[] #[(au w.heap.size),(au (w.heap.size+1+1))]) (by simp [results,results122,go_sem]) rfl
  ⟨w.heap.size,w.heap.size+1+1,w.heap.size+1,rfl,⟨by rw [<-I.o];exact sb a1 _ i,C,sb x _ D,H.o.below h⟩,⟨Qx _,by omega,by omega⟩,h⟩
theorem xI (n l L S B:Nat) (A:N_) (rs:List Rg) (c d:Nat) (Kp:R8->R8->Prop) (U:∀W C,kE W L S B A rs c d 258->Kp W C->kE C L S B A rs c d 258) (y:rs.length<=1048576) (hd:d<=1048576) (a5:∀r∈rs,r.1<=1048576/\r.2<=1048576) (J Jx:List Rg->R8->Prop) (Bx:Nat) (hJ:AbidesFrom Bx J) (hY:∀p x W,J p W->x∈shR d rs->p.length<rs.length->YieldAt Fence.wide (n-1) prog l (xg x) W λe C=> (e=.returned (.bool true)/\J (p++[x]) C/\Kp W C)\/(e=.returned (.bool false)/\Jx (p++[x]) C)) (W:R8) (hA:kE W L S B A rs c d 258) (h0:J [] W):
  CallsIn Fence.wide n prog 148 #[.func (.yield l) #[] #[],(au L),(au S)] W λe C=>(∃v,e=.returned v)/\
   ((∃ys,ys=shR d rs/\J ys C)\/(∃p,True/\Jx p C)):=by
 have xL:=bx1 hA.l;obtain ⟨N,Q⟩:∃N,N=rs.length:=⟨_,rfl⟩;rw [<-Q] at hY y xL;obtain ⟨R,HA,HK⟩:=af Q hA U;clear Q hA U;refine callsIn_of_wp func148 rfl trivial ?_ rfl;simp only [ntmps148,List.size_toArray,List.length_cons,List.length_nil,Nat.reduceAdd,Nat.reduceSub,Array.replicate_succ,Array.replicate_zero,List.push_toArray,List.append_toArray,List.nil_append,List.cons_append]
 gi_wp2
 gi_loopw [8] (λi wr=>∃k:Nat,k<=N/\i=RI k/\J ((shR d rs).take k) wr/\kE wr L S B A rs c d 258) (λi _=>N-(intOf i).toNat)
 .exact ⟨0,QB _,rfl,h0,HA.o⟩
 case round=>
  obtain ⟨k,hk,rfl,u,hL⟩:=hrel;clear xL h0 HA W;by_cases a4:k<N
  .obtain ⟨r,hr⟩:∃r,rs[k]?=some r:=⟨_,Rj (by rw [<-R.o];exact a4)⟩;have T:=a5 r (List.mem_of_getElem? hr);have H:=oZ hr;obtain ⟨g,o,rfl,c0⟩:=hL.r _ _ H.1;obtain ⟨g',o',e',c1⟩:=hL.r _ _ H.2;obtain ⟨rfl,rfl⟩:g'=g/\o'=o:=by simpa using e'.symm
   rw [<-Rz] at c1;have xS:=bx1 hL.s;have lS:=aB xS.1;obtain ⟨O,Hr,HL⟩:=af u hr hL;clear u hr H e' hL;have y:((shR d rs).take k).length<N:=by rw [Rn,mL];omega
   have hx:(shR d rs)[k]?=some (r.1+d,r.2+d):=by simp [shR,Hr.o]
   have Hx:=aa hx;have qa:aq wr (wr.alloc (.cells #[RI (r.1:Int),RI (r.2:Int)] 69)):=(QA _ wr).alloc (Qx _) _;clear hx
   gi_wp2_with fail
   refine ⟨trivial,(λh=>by cases h),?_⟩;refine (callsIn_wide.2 (Dx r.1 r.2 d B _ (HL.o.below qa).b T.1 T.2 hd)).mono ?_;rintro e w3 ⟨rfl,a1⟩;have I:=qa.trans (a1.mono qa.size);have a0:=hJ _ _ _ none O.o (kr I) (λ_ h=>by cases h);obtain ⟨fn,tmps,a2,a8,hy,hR⟩:=hY _ (r.1+d,r.2+d) w3 a0 (List.mem_of_getElem? Hx.o) y;unfold xg at hy;dsimp only at hy;rw [Int.natCast_add,Int.natCast_add] at hy;have a3:=aa (HL.o.below I);clear a0 a1 I qa xS lS c0 c1
   gi_wp2
   refine ⟨(λh=>by cases h),?_⟩;refine hR.mono ?_;rintro e w5 (⟨rfl,V,Z⟩ | ⟨rfl,Y⟩)
   .obtain ⟨a7,a6⟩:=ae V Z;clear V Z
    gi_wp2
    go_roundw
    .exact ⟨k+1,by omega,by go_num,by rw [Fy Hx.o];exact a7.o,HK.o _ _ a3.o a6.o⟩
    .simp [intOf];omega
   .gi_wp2
    refine QM (results_none rfl _ _ _) rfl ?_;exact ⟨⟨_,rfl⟩,.inr ⟨_,trivial,Y⟩⟩
  .obtain rfl:k=N:=ap;have D:(shR d rs).take k=shR d rs:=List.take_of_length_le (by rw [mL,R.o];exact Qx _);rw [D] at u;have O:=aa u;clear u D
   gi_wp2
   go_end0
   exact ⟨⟨_,rfl⟩,.inl ⟨_,rfl,O.o⟩⟩
structure Kd (n₁ n₂:Nat) (W W':R8):Prop where
 size:W.heap.size<=W'.heap.size
 block:∀k,n₁<=k->k<n₂->W'.heap[k]?=W.heap[k]?
theorem Kd.trans {i o:Nat} {A B C:R8} (h:Kd i o A B) (k:Kd i o B C):Kd i o A C:=⟨QD h.size k.size,λj h1 p=>(k.block j h1 p).trans (h.block j h1 p)⟩
theorem PO {v u:Nat} {w:R8} (hn:u<=w.heap.size) (W:R8) (l:Nat) (o i:Obj) (hl:w.heap.size<=l) (h:W.heap[l]?=some o) (h1:o.isCells=false) (p:o.isWalk=false):Kd v u W (W.putObj l i):=
 ⟨(belowK_b hn W l o i hl h h1 p).size,λk _ hk=>(belowK_b hn W l o i hl h h1 p).block k hk⟩
theorem vf {p i:Nat} {W o:R8} (h:Below i W o):Kd p i W o:=⟨h.size,λk _ hk=>h.block k hk⟩
structure Cd (n₁ n₂ L S B:Nat) (A:N_):Prop where
 l:n₁<=L/\L<n₂
 s:n₁<=S/\S<n₂
 b:n₁<=B/\B<n₂
 a:∀x,A=some x->n₁<=x.block/\x.block<n₂
theorem kE.kd {p i:Nat} {W v:R8} {L S B:Nat} {A:N_} {rs:List Rg} {c d:Nat} {u:R9} (h:kE W L S B A rs c d u) (hb:Cd p i L S B A) (k:Kd p i W v):kE v L S B A rs c d u:=
 ⟨(k.block _ hb.l.1 hb.l.2).trans h.l,(k.block _ hb.s.1 hb.s.2).trans h.s,(k.block _ hb.b.1 hb.b.2).trans h.b,λj x y=>by
  obtain ⟨b,o,e,hc⟩:=h.r j x y;refine ⟨b,o,e,?_⟩;have:=hb.a _ e;rw [World.cell?] at hc |-;rw [k.block b this.1 this.2]
  exact hc⟩
theorem Bq (n v u L S B:Nat) (A:N_) (rs:List Rg) (c d:Nat) (w:R8) (hA:kE w L S B A rs c d 258) (hB:Cd v u L S B A) (i:rs.length<=1048576) (y:d<=1048576) (o:∀r∈rs,r.1<=1048576/\r.2<=1048576):
  SeqStopsK Fence.wide n prog 148 #[(au L),(au S)] xg (Kd v u) (λys=>ys=shR d rs) (λ_=>True) rs.length w:=λl J I W C D _ N H=>
 xI n l L S B A rs c d (Kd v u) (λ_ _ h k=>h.kd hB k) i y o J I _ D (λp x W h _=>N p x W h) W (hA.below C) H
theorem iT {w:R8} {base:Nat} {e:R9} {size n c:Nat} {A:N_} {xs:R7} (h:w.ownsRow base e size (.slice A n c) n xs):∀x,A=some x->base<=x.block/\x.block<w.heap.size:=λx o=>by
 rcases h.2 with ⟨i,_⟩ | ⟨g,cap,p,i,hb,hg,_⟩
 .simp only [Rv] at i;rw [o] at i;cases i.1
 .simp only [Rv] at i;rw [o] at i;cases i.1;exact ⟨hb,Qw hg⟩
attribute [local go_sem] Oper.semAt_some
theorem Af (l:List Rg) (x:Rg):aS (l++[x])=aS l++[RI (x.1:Int),RI (x.2:Int)]:=by simp [aS]
theorem ME (L S B:Nat) (A:N_) (rs:List Rg) (c d:Nat) (w:R8) (hA:kE w L S B A rs c d 258) (hB:Cd 0 w.heap.size L S B A) (N:rs.length<=1048576) (hd:d<=1048576) (V:∀r∈rs,r.1<=1048576/\r.2<=1048576):Calls prog 146 #[RJ,.func (.func 148) #[] #[(au L),(au S)]] w λe w'=>∃v,e=.returned v/\w'.ownsRow w.heap.size 69 2 v rs.length (aS (shR d rs))/\aq w w':=by
 have I:=λn=>Bq n 0 w.heap.size L S B A rs c d w hA hB N hd V;have U:=aa I;clear I;refine (callsIn_wide (n:=3)).1 ?_;refine callsIn_of_wp_marks func146 rfl trivial ?_ rfl;simp only [ntmps146,List.size_toArray,List.length_cons,List.length_nil,Nat.reduceAdd,Nat.reduceSub,Array.replicate_succ,Array.replicate_zero,List.push_toArray,List.append_toArray,List.nil_append,List.cons_append]
 gi_wp2_with fail
 have y:aq w (w.alloc (.cells #[RJ] 159)):=(QA _ w).alloc (Qx _) _
 refine' wpIn_rangeFunc_ownH (F:=Fence.wide) (n:=3) rfl ap (gf:=148) (lb:=#[(au L),(au S)]) rfl trivial (enters_of func148 (by kernel_rfl) rfl)
  (U.o _) Kd.trans (PO y.size) y (λ_=>rfl)
  (λ(p:List Rg) W=>(∃v,Boxed W w.heap.size 159 v/\W.ownsRow w.heap.size 69 2 v p.length (aS p)/\True)/\aq w W)
  (λ_ _ _=>False)
  (OwnFrom.and (Own.from (holdsRow_own w.heap.size w.heap.size 159 69 2 (λp:List Rg=>p.length) (λp=>aS p) (λ_ _=>True)) _) (ownFrom_below (Qx _) y.size))
  (λ_ _ _ _ _ hs _ _=>hs)
  ⟨⟨_,Boxed.new w 159 (RJ),QI _ _ _ _,trivial⟩,y⟩
  (λ(x:Rg) Y W=>∃b,Y={tmps:=#[RJ,.func (.func 148) #[] #[(au L),(au S)],(au w.heap.size),undef,RJ,(au b),.func (.func 148) #[] #[(au L),(au S)],.agg #[RI (x.1:Int),RI (x.2:Int)],undef,undef,undef,undef,undef],defers:=[]}/\W.heap[b]?=some (.cells #[RI (x.1:Int),RI (x.2:Int)] 69 (0,0)))
  (λx Y _ W W' row h hg hr=>by obtain ⟨b,e,hb⟩:=h;exact ⟨b,e,eQ _ b _ rfl () W W' row hb hg hr⟩)
  ?assign ?body ?done ?stop
 case assign=>
  rintro l p x W K ⟨⟨v,C,i,_⟩,u⟩ J;unfold xg;have R:aq W (W.alloc (.cells #[RI (x.1:Int),RI (x.2:Int)] 69)):=(QA _ W).alloc (Qx _) _
  gi_wp2
  refine J _ _ ((KeepsOthers.of_grownBy (row:=none) (kr R) (λ_ _ h=>by cases h)).from _) (vf (R.mono u.size)) ⟨⟨v,C.alloc _,i.alloc _,trivial⟩,u.trans (R.mono u.size)⟩ ⟨_,rfl,Qy _ _⟩
 case body=>
  rintro l p x Y W _ _ ⟨⟨v,C,i,_⟩,u⟩ ⟨b,rfl,hb⟩ H;have hc:=C.cell;have hW:=u.size;have a0:=aB hc;have xb:=bx2 hb;have lb:=Qw hb;have R:aq W (W.alloc (.cells #[RI (x.1:Int),RI (x.2:Int)] 69)):=(QA _ W).alloc (Qx _) _;obtain ⟨Hv,O,Z,Q,HW⟩:=ah C i u H hW;clear C i u H hW hb
  gi_wp2_with (gi_at_builtin;refine pM nd W rfl (.tmp 8) (.tmp 10) rfl w.heap.size w.heap.size v p.length _ rfl Hv.o (by decide) O.o [RI (x.1:Int),RI (x.2:Int)] rfl rfl (by simp [Value.oneCell']) (by have:=Q.o;omega) (by have:=Q.o;unfold maxLen;omega) HW.o (Qx _) ?_)
  intro g1 c1 w1 T k2 k3 k4 k5 k6;have a2:=T.cell;have a1:=T.frozen;obtain ⟨K2,K3,K4,K5⟩:=ag k2 k3 k4 k5;clear T k2 k3 k4 k5 k6 hc xb
  gi_wp2_with fail
  exact ⟨K4.o.from _,vf K5.o,⟨⟨_,K2.o,by rw [Rh,Af];exact K3.o,trivial⟩,Z.o.trans K5.o⟩⟩
 case done=>
  rintro D ys W hD rfl ⟨⟨v,C,i,_⟩,u⟩ J;have hc:=C.cell
  gi_wp2
  refine ⟨by simp,.inl ⟨_,_,rfl,run_takeDeferred J,?_⟩⟩;rw [mL] at i;refine ⟨v,by simp [results,results146,go_sem],v,rfl,ownsRow_putObj i _ J rfl,u.trans (belowK_b (w:=w) (Qx _) W D _ _ (by simp at hD;omega) J rfl rfl)⟩
 case stop=>
  rintro D c p W _ _ h _;exact h.elim
theorem BQ (L S B:Nat) (A:N_) (rs:List Rg) (c d:Nat) (w:R8) (hA:kE w L S B A rs c d 258) (hB:Cd 0 w.heap.size L S B A) (i:rs.length<=1048576) (u:d<=1048576) (p:∀r∈rs,r.1<=1048576/\r.2<=1048576):Calls prog 121 #[.func (.func 148) #[] #[(au L),(au S)]] w λe x=>∃v,e=.returned v/\x.ownsRow w.heap.size 69 2 v rs.length (aS (shR d rs))/\aq w x:=by
 have h:=ME L S B A rs c d w hA hB i u p;have H:=aa h;clear h hA hB i u p;go_enter func121,ntmps121;go_wp2_with fail;refine H.o.mono ?_;rintro e I ⟨v,rfl,y,C⟩;have D:=aa y;clear y;go_wp2_with fail;go_ret;exact ⟨_,rfl,D.o,C⟩
end Go.Proofs.YtindmkcnjlgomaaGreat
namespace Go.Proofs.YtindmkcnjlgomaaGreat
open Go.RowKit
open Tryz
theorem vz {n k:Nat} (h1:1<=k) (hn:n<=1048576):∀r∈fz n k,r.1<=1048576/\r.2<=1048576:=by
 intro r hr;simp only [fz,List.mem_map,List.mem_range] at hr;obtain ⟨i,h,rfl⟩:=hr;have a:=fY n k i h1 ap;have b:=fY n k (i+1) h1 ap;exact ⟨by simp only;omega,by simp only;omega⟩
theorem Fd {n s:Nat} (hn:n<=1048576):∀r∈fv n s,r.1<=1048576/\r.2<=1048576:=by
 intro r hr;simp only [fv,List.mem_map,List.mem_range] at hr;obtain ⟨i,h,rfl⟩:=hr;have:=iI h;exact ⟨by simp only;omega,by simp only;omega⟩
theorem JG (lo h k:Nat) (w:R8) (h1:1<=k) (h2:k<=1048576) (h3:lo<=1048576) (h4:h<=1048576):Calls prog 83 #[.agg #[RI lo,RI h],RI k] w λe y=>∃v,e=.returned v/\y.ownsRow w.heap.size 69 2 v k (aS (dz (lo,h) k))/\aq w y:=by
 obtain ⟨u,i⟩:∃u,w.alloc (.cells #[RI lo,RI h] 69)=u:=⟨_,rfl⟩;have h0:u.heap[w.heap.size]?=some (.cells #[RI lo,RI h] 69 (0,0)):=by rw [<-i];exact Qy w _
 have D:aq w u:=by rw [<-i];exact (br w).alloc (Qx _) _
 have t0:=λy q=>bx2 (sb h0 y q);obtain ⟨N,p⟩:=ae i D;clear i h0 D;have R:an (dz (lo,h) k=shR lo (fz (h-lo) k)):=aa rfl;go_enter func83,ntmps83;have Z:=br u;go_wp2_with fail;rw [N.o];refine HA.g (λy:R8=>aq u y) ?_;refine HA.t ?_ [0,2,4,5] Z.drew ?_;refine HA.c 1 (mT lo h _ h3 h4) ?_;rintro e w1 ⟨rfl,Y⟩;have Q:=bt Z.drew Y;refine ⟨_,rfl,Q,λ_=>?_⟩;refine HA.c 3 (vx (h-lo) k _ h1 h2 ap) ?_;rintro e w2 ⟨v2,rfl,I,k2⟩;obtain ⟨A,c,rfl,_⟩:=aD I;have U:=bt Q k2;have hl:=se A (fz (h-lo) k) c lo w2 (Rd.own I);rw [eH] at hl;refine ⟨_,rfl,U,λ_=>?_⟩;refine HA.c 6 hl ?_;rintro e w3 ⟨L,S,B,rfl,hA,V,O⟩;have C:Cd 0 w3.heap.size L S B A:=⟨⟨QB _,Qw hA.l⟩,⟨QB _,Qw hA.s⟩,⟨QB _,Qw hA.b⟩,λx hx=>⟨QB _,QE (iT I x hx).2 O.size⟩⟩;clear V;have H:=bt U O;refine ⟨_,rfl,H,λ_=>?_⟩;refine HA.c 7 (BQ L S B A _ c lo w3 hA C (by rw [eH];exact h2) h3 (vz h1 ap)) ?_;rintro e w4 ⟨v4,rfl,T,k4⟩;have J:=bt H k4;refine ⟨_,rfl,J,λ_=>?_⟩;refine HA.t ?_ [8] J ?_;refine HA.d ?_;have hB:=aa (p.o.trans (J.mono p.o.size));rw [eH,<-R.out] at T;have O4:=aa (aF (base':=w.heap.size) T (QD p.o.size H.size));clear T I hl hA C Y k2 O k4 Q U H J t0;go_wp2_with fail;go_ret;exact ⟨_,rfl,O4.o,hB.o⟩
theorem BS (lo h k:Nat) (w:R8) (h1:1<=k) (h2:k<=1048576) (h3:lo<=1048576) (h4:h<=1048576):Calls prog 84 #[.agg #[RI lo,RI h],RI k] w λe C=>∃v,e=.returned v/\C.ownsRow w.heap.size 69 2 v (chR (lo,h) k).length (aS (chR (lo,h) k))/\aq w C:=by
 obtain ⟨y,i⟩:∃y,w.alloc (.cells #[RI lo,RI h] 69)=y:=⟨_,rfl⟩;have h0:y.heap[w.heap.size]?=some (.cells #[RI lo,RI h] 69 (0,0)):=by rw [<-i];exact Qy w _
 have H:aq w y:=by rw [<-i];exact (br w).alloc (Qx _) _
 have t0:=λC q=>bx2 (sb h0 C q);obtain ⟨T,u⟩:=ae i H;clear i h0 H;have I:an (chR (lo,h) k=shR lo (fv (h-lo) k)):=aa rfl;go_enter func84,ntmps84;have q0:=br y;go_wp2_with fail;rw [T.o];refine HA.g (λC:R8=>aq y C) ?_;refine HA.t ?_ [0,2,4,5] q0.drew ?_;refine HA.c 1 (mT lo h _ h3 h4) ?_;rintro e w1 ⟨rfl,k1⟩;have V:=bt q0.drew k1;refine ⟨_,rfl,V,λ_=>?_⟩;have p:=ng (h-lo) k w1 ap h1 h2;have N:=fE (h-lo) k;rw [<-sy,<-fm] at p;rw [<-fm] at N;refine HA.c 3 p ?_;rintro e w2 ⟨v2,rfl,Q,k2⟩;obtain ⟨A,c,rfl,_⟩:=aD Q;have Z:=bt V k2;have hl:=se A (fv (h-lo) k) c lo w2 (Rd.own Q);refine ⟨_,rfl,Z,λ_=>?_⟩;refine HA.c 6 hl ?_;rintro e w3 ⟨L,S,B,rfl,hA,a0,U⟩;have D:Cd 0 w3.heap.size L S B A:=⟨⟨QB _,Qw hA.l⟩,⟨QB _,Qw hA.s⟩,⟨QB _,Qw hA.b⟩,λx hx=>⟨QB _,QE (iT Q x hx).2 U.size⟩⟩;clear a0;have O:=bt Z U;refine ⟨_,rfl,O,λ_=>?_⟩;refine HA.c 7 (BQ L S B A _ c lo w3 hA D ap h3 (Fd ap)) ?_;rintro e w4 ⟨v4,rfl,Y,k4⟩;have R:=bt O k4;refine ⟨_,rfl,R,λ_=>?_⟩;refine HA.t ?_ [8] R ?_;refine HA.d ?_;have hB:=aa (u.o.trans (R.mono u.o.size));have J:(chR (lo,h) k).length=(fv (h-lo) k).length:=by rw [I.out,mL]
 rw [<-I.out,<-J] at Y;have O4:=aa (aF (base':=w.heap.size) Y (QD u.o.size O.size));clear Y Q hl hA D p N J k1 k2 U k4 V Z O R t0;go_wp2_with fail;go_ret;exact ⟨_,rfl,O4.o,hB.o⟩
end Go.Proofs.YtindmkcnjlgomaaGreat
namespace Go.Proofs.YtindmkcnjlgomaaGreat
open Go.RowKit Go.Shelf
open Tryz
theorem yG {l n:Nat} {P:Program} {row:String} {args:R6} {w:R8} {R:Value->R8->Prop} (h:Rows P row args w R):RowsIn (Fence.wide.inRound l) n P row args w R:=
 λc i _=>let ⟨v,w',r,s⟩:=h c i;⟨v,w',r,(stepsIn_wide (P:=P)).2 s⟩
theorem yP {l n:Nat} {P:Program} {o:Oper} {a:T1} {w:R8} {K:T1->R8->Prop} {Q:Exit->T1->R8->Prop} (i:∀c,o.op≠.defer c) (h:o.wp P a w K Q):o.wpIn (Fence.wide.inRound l) n P a w K Q:=by
 unfold Oper.wp at h;unfold Oper.wpIn;refine ⟨λ_ _=>trivial,?_⟩;rw [Oper.semAt_plain _ _ _ i];generalize (execOp a.eval o).run P w=r at *
 cases r with
 | ok x w'=>
  cases x<;>simp only [Oper.upon,Oper.uponIn] at h |-<;>
   first
    | exact h
    | exact ⟨λp=>(by cases p),CallsIn.inRound l (callsIn_wide.2 h)⟩
    | exact ⟨λp=>(by cases p),yG h⟩
    | exact h.elim
 | halt x w'=>cases x<;>simp only [Oper.upon,Oper.uponIn] at h |-<;>exact h
theorem yn {l n:Nat} {P:Program} {ops:T0} {Q:Exit->T1->R8->Prop} (u:∀(i:Nat) (o:Oper),ops[i]?=some o->∀c,o.op≠.defer c) (v:¬LetsOut Q) {i:Nat} {K:T1->R8->Prop} {a:T1} {w:R8} (h:wpOp P ops Q i K a w):wpOpIn (Fence.wide.inRound l) n P ops Q i K a w:=by
 unfold wpOp at h;unfold wpOpIn
 split at h
 .rename_i p;simp only [p];exact h
 .rename_i o p
  simp only [p]
  split at h
  .rename_i hw
   rw [if_pos hw];rcases h with h | ⟨_,h⟩
   .exact yP (u i o p) h
   .exact absurd h v
  .rename_i hw
   rw [if_neg hw];exact ⟨λ_ _=>trivial,h⟩
theorem lI {l n:Nat} {P:Program} {y:Region.Mode} {ops:T0} {Q:Exit->T1->R8->Prop} (x:∀(i:Nat) (o:Oper),ops[i]?=some o->∀c,o.op≠.defer c) (v:¬LetsOut Q):∀(p:Nat) (u:Array Bool) (a:T1) (w:R8),
  wpAny P y ops Q p u a w->wpAnyIn (Fence.wide.inRound l) n P y ops Q p u a w
 | 0,_,_,_,h=>h
 | p+1,_,_,_,h=>⟨h.1,λi D=>wpOpIn_mono (λC B A=>lI x v p _ C B A) (yn x v (h.2 i D))⟩
def Qu:Op->Bool
 | .defer _=>true
 | _=>false
theorem EF {ops:T0} (h:ops.all (λo=> !Qu o.op)=true):∀(i:Nat) (o:Oper),ops[i]?=some o->∀c,o.op≠.defer c:=λi o p c e=>by
 have:=(Array.all_eq_true.1 h) i (Array.getElem?_eq_some_iff.1 p).1;rw [(Array.getElem?_eq_some_iff.1 p).2,e] at this
 cases this
theorem nG {l n:Nat} {P:Program} {ops:T0} {Q:Exit->T1->R8->Prop} (S:R8->Prop) {id:Nat} {a:T1} {w:R8} (hm:P.follows .mixedOrders=true) (i:ops.all (λo=> !Qu o.op)=true) (p:¬LetsOut Q) (h:wpAnyH P .any ops Q S ops.size (Array.replicate ops.size false) a w.drew):(Code.region id ops true).wpIn (Fence.wide.inRound l) n P Q a w:=
 wpIn_region_any hm (lI (EF i) p _ _ _ _ (wpAny_of_held _ _ _ _ h))
attribute [local go_sem] Oper.semAt_some
theorem rz (s:Rg) (c:Nat):(chR s c).length=di (s.2-s.1) c:=by rw [chR,mL,fm]
theorem yx {b:Rg} {k:Nat} (h1:1<=k) (h:b.1<=1048576) (hb:b.2<=1048576):∀r∈dz b k,r.1<=1048576/\r.2<=1048576:=by
 intro r hr;simp only [dz,shR,fz,List.map_map,List.mem_map,List.mem_range,Function.comp] at hr;obtain ⟨i,o,rfl⟩:=hr;have a:=fY (b.2-b.1) k i h1 ap;have c:=fY (b.2-b.1) k (i+1) h1 ap;exact ⟨by simp only;omega,by simp only;omega⟩
end Go.Proofs.YtindmkcnjlgomaaGreat
namespace Go.Proofs.YtindmkcnjlgomaaGreat
open Go.RowKit
open Tryz
theorem ny {P:Program} {t e:R9} {z:Value} {h:Nat} (T:dN P t e z 1 h) (w:R8) (A:z.cells=#[z]) (n:Nat) (C:h*n<=281474976710656) (D:n<=maxLen):
  ∃u,Sem.run P (Instr.makeSlice t (RI (n:Int)) (RI (n:Int))) w=.ok (.slice (some (ar w.heap.size 0)) n n) u/\u.ownsRow w.heap.size e 1 (.slice (some (ar w.heap.size 0)) n n) n (List.replicate n z)/\aq w u:=by
 obtain ⟨i,H,x,y,v⟩:=T.info;obtain ⟨u,p,B,o⟩:=run_make_full (P:=P) w w.heap.size t e i z 1 T.und H x y .i64 .i64 n (by rw [v];exact C) D (Qx _);rw [A,Nat.mul_one,toList_madeCells_one] at B;exact ⟨u,p,B,⟨o.os,o.tape,o.output,o.size,λk hk=>o.block k hk (by simp)⟩⟩
theorem vA:dN prog 64 67 (.agg #[RI 0,RI 0]) 2 16:=⟨underlying64,info_parts (by kernel_rfl),rfl,by decide⟩
def DW (n s k:Nat):List Rg:=(List.range k).map λj=>(j*s,min (j*s+s) n)
theorem IM (n s k:Nat):DW n s (k+1)=DW n s k++[(k*s,min (k*s+s) n)]:=by simp [DW,Rx]
theorem Mx (n s k:Nat):(DW n s k).length=k:=by simp [DW]
theorem Pm (n s:Nat):fv n s=DW n s (di n s):=rfl
theorem NV {n s k:Nat} (hs:1<=s) (h:di n s<=k):n<=k*s:=by
 rcases Nat.eq_zero_or_pos n with rfl | hn
 .omega
 .rw [tM n s hs] at h;have h1:=Nat.div_add_mod (n+s-1) s;have i:=Nat.mod_lt (n+s-1) (show 0<s by omega);have p:s*((n+s-1)/s)<=s*k:=Nat.mul_le_mul_left s h;have o:s*k=k*s:=Nat.mul_comm _ _;omega
theorem uC (n s:Nat) (w:R8) (hn:n<=1048576) (hs:1<=s) (a5:s<=1048576):Calls prog 22 #[RI n,RI s] w λe V=>∃v,e=.returned v/\V.ownsRow w.heap.size 67 2 v (fv n s).length (aS (fv n s))/\aq w V:=by
 have a4:¬((s:Int)<1):=ap;by_cases h0:n=0
 .subst h0;go_enter func22,ntmps22;go_wp2;go_ret;exact ⟨_,rfl,QI _ _ _ _,QA _ _⟩
 .have a2:¬((n:Int)<1):=ap;have hc:=fE n s;have hl:=λk (h:k<di n s)=>iI h;have hg:=λk (h:di n s<=k)=>NV hs h;rw [Pm,Mx];obtain ⟨m,hm⟩:∃m,di n s=m:=⟨_,rfl⟩;rw [hm] at hc hl hg |-;obtain ⟨Hl,Hg⟩:=ae hl hg;clear hm hl hg;go_enter func22,ntmps22;go_wp2_with fail
  go_loopw [5,6] (λv x wr=>∃k:Nat,k<=m/\x=RI (min (k*s) n:Nat)/\wr.ownsRow w.heap.size 67 2 v k (aS (DW n s k))/\aq w wr) (λ_ x _=>n-(intOf x).toNat)
  .exact ⟨0,QB _,by simp,QI _ _ _ _,QA _ _⟩
  case round=>
   obtain ⟨k,hk,rfl,L,hb⟩:=hrel;by_cases T:k<m
   .have U:=Hl.o k T;have u:=IM n s k;have D:(k+1)*s=k*s+s:=Ry k s;obtain ⟨y,Z⟩:∃y,k*s=y:=⟨_,rfl⟩;rw [Z] at U u D |-;rw [show min y n=y by omega];have a3:(y:Int)<n:=ap;obtain ⟨A,c,rfl,_⟩:=aD L;obtain ⟨z,R⟩:∃z,min (y+s) n=z:=⟨_,rfl⟩;rw [R] at u;obtain ⟨N,I,Q,O,Y⟩:=ah u D L hb R;have J:=hb.size;clear u D L hb Z;by_cases a0:(s:Int)<(n:Int)-y
    .obtain rfl:z=y+s:=ap;clear R;go_wp2_with (at_builtin;refine aX vA _ rfl (.tmp 26) (.tmp 30) rfl w.heap.size (.slice A k c) k _ rfl Q.o [RI (y:Int),RI ((y:Int)+s)] rfl rfl (cH .i64 [_,_]) ap (by unfold maxLen;omega) J ?_);intro g6 c6 w6 i p H;obtain ⟨C,B⟩:=ae i (O.o.trans p);clear i p H;go_wp2_with fail;go_roundw
     .exact ⟨k+1,by omega,by rw [I.o,Y.o];push_cast;rfl,by rw [N.o,iQ];exact C.o,B.o⟩
     .simp [intOf];omega
    .obtain rfl:z=n:=ap;clear R;go_wp2_with (at_builtin;refine aX vA _ rfl (.tmp 26) (.tmp 30) rfl w.heap.size (.slice A k c) k _ rfl Q.o [RI (y:Int),RI (z:Nat)] rfl rfl (cH .i64 [_,_]) ap (by unfold maxLen;omega) J ?_);intro g6 c6 w6 i p H;obtain ⟨C,B⟩:=ae i (O.o.trans p);clear i p H;go_wp2_with fail;go_roundw
     .exact ⟨k+1,by omega,by rw [I.o,Y.o],by rw [N.o,iQ];exact C.o,B.o⟩
     .simp [intOf];omega
   .have a1:=Hg.o k ap;obtain rfl:k=m:=ap;rw [show min (k*s) n=n by omega];have a6:¬((n:Int)<n):=ap;obtain ⟨Q,O⟩:=ae L hb;clear L hb;go_wp2_with fail;go_ret;exact ⟨_,rfl,Q.o,O.o⟩
theorem Ad (n s:Nat) (w:R8) (hn:n<=1048576) (hs:1<=s) (h:s<=1048576):Calls prog 91 #[RI n,RI s] w λe p=>∃v,e=.returned v/\p.ownsRow w.heap.size 67 2 v (fv n s).length (aS (fv n s))/\aq w p:=by
 have hb:=uC n s w hn hs h;have A:=aa hb;clear hb;go_enter func91,ntmps91;go_wp2_with fail;refine A.o.mono ?_;rintro e B ⟨v,rfl,u,i⟩;obtain ⟨y,x⟩:=ae u i;clear u i;go_wp2_with fail;go_ret;exact ⟨_,rfl,y.o,x.o⟩
def szs (k m:Nat):Q_:=(List.range k).map λi=>(szE k m i:Int)
theorem oQ (k m:Nat):(szs k m).length=k:=by simp [szs]
theorem Ea {k m i:Nat} (h:i<k):nth (szs k m) i=(szE k m i:Int):=by rw [dB _ _ (by rw [oQ];exact h)];simp [szs]
theorem Jf (k:Nat):List.replicate k (0:Int)=szs k 0:=by
 refine List.ext_getElem (by simp [oQ]) λi h1 h=>?_;simp [szs,Jh]
theorem Jg {k m:Nat} (hk:0<k):(szs k m).set (m%k) ((szE k m (m%k):Int)+1)=szs k (m+1):=by
 refine List.ext_getElem (by simp [oQ]) λi h1 u=>?_;have p:i<k:=by simpa [oQ] using h1
 rw [List.getElem_set];have o:=Ji (m:=m) p;by_cases h:m%k=i
 .subst h;rw [if_pos rfl];simp only [szs,List.getElem_map,List.getElem_range];rw [o,if_pos rfl];push_cast;rfl
 .rw [if_neg h];simp only [szs,List.getElem_map,List.getElem_range];rw [o,if_neg (λe=>h e.symm),Nat.add_zero]
theorem Jj (k m i:Nat):szE k m i<=m+1:=by
 unfold szE;have:=Nat.div_le_self m k
 split<;>omega
def evK (n k m:Nat):List Rg:=(List.range m).map λi=>(bdN n k i,bdN n k (i+1))
theorem LS (n k m:Nat):evK n k (m+1)=evK n k m++[(bdN n k m,bdN n k m+szE k n m)]:=by
 rw [<-rC];exact vy n k m
theorem xh (n k:Nat) (w:R8) (h1:1<=k) (h2:k<=1048576) (h3:n<=1048576):Calls prog 166 #[RI n,RI k] w λe V=>∃v,e=.returned v/\V.ownsRow w.heap.size 67 2 v k (aS (fz n k))/\aq w V:=by
 have av:¬((n:Int)<0):=ap;have aP:¬((k:Int)<1):=ap;have aG:¬(k=0):=ap;obtain ⟨W0,O,o0,Q⟩:=ny gq w rfl k ap (by unfold maxLen;omega);rw [fI,Jf] at o0;obtain ⟨a1,O0⟩:=ae Q o0;clear Q o0;go_enter func166,ntmps166;go_wp2_with fail;clear O
 go_loopw [6] (λy wr=>∃m:Nat,m<=n/\y=RI m/\wr.ownsRow w.heap.size 3 1 (.slice (some (ar w.heap.size 0)) k k) k (aA .i64 (szs k m))/\aq w wr) (λy _=>n-(intOf y).toNat)
 .exact ⟨0,QB _,rfl,O0.o,a1.o⟩
 case round=>
  obtain ⟨m,hm,rfl,J,hb⟩:=hrel;by_cases u:m<n
  .have I:(m:Int)<n:=ap;have a9:(m:Int).tmod (k:Int)=((m%k:Nat):Int):=rfl;have a3:(m:Int)%(k:Int)=((m%k:Nat):Int):=rfl;have C:m%k<k:=Nat.mod_lt _ h1;have h:=Jg (m:=m) h1;have hc:=J.cellAt (m%k) ap;rw [nK _ _ _ (by rw [oQ];exact C),Ea C] at hc;have x:=Jj k m (m%k);have hf:=λj=>J.frozenAt j;obtain ⟨r,hr⟩:∃r,m%k=r:=⟨_,rfl⟩;rw [hr] at a9 a3 C h hc x;have ad:(r:Int)<k:=ap;obtain ⟨s,hs⟩:∃s,szE k m r=s:=⟨_,rfl⟩;rw [hs] at h hc x;have a8:IntKind.i64.wrap ((m:Int)+1)=((m+1:Nat):Int):=by rw [QC _ ap];push_cast;rfl
   have D:=(J.stored r (RI ((s:Int)+1))).1;rw [AQ,h] at D;have U:=Keep.setCell (S:=λj=>j=w.heap.size) (Keep.refl _ wr) (ar w.heap.size r) (.inr rfl) (RI ((s:Int)+1));obtain ⟨a0,N⟩:=ae D (hb.trans (U.toBelow hb.size (λj hj=>ap)));clear J hb hr hs h D U;go_wp2_with fail;go_roundw
   .exact ⟨m+1,by omega,by go_num,a0.o,N.o⟩
   .simp [intOf];omega
  .have I:¬((m:Int)<n):=ap;obtain rfl:n=m:=ap;obtain ⟨Ho,N⟩:=ae J hb;clear J hb;go_wp2_with fail;obtain ⟨R,rfl⟩:∃R:R8,R=wr:=⟨_,rfl⟩
   go_loopw [7,8,9] (λv z y wr=>∃m:Nat,m<=k/\y=RI m/\z=RI (bdN n k m:Nat)/\wr.ownsRow R.heap.size 67 2 v m (aS (evK n k m))/\aq R wr) (λ_ _ y _=>k-(intOf y).toNat)
   .exact ⟨0,QB _,rfl,by simp [bdN],QI _ _ _ _,QA _ _⟩
   case round=>
    obtain ⟨m,hm,rfl,rfl,i,q⟩:=hrel;by_cases u:m<k
    .have I:(m:Int)<k:=ap;have a8:IntKind.i64.wrap ((m:Int)+1)=((m+1:Nat):Int):=by rw [QC _ ap];push_cast;rfl
     have hc:=Ho.o.cellAt m ap;rw [nK _ _ _ (by rw [oQ];exact u),Ea u] at hc;have x:=Jj k n m;have Z:=fY n k m h1 hm;have ao:=fY n k (m+1) h1 u;have h:=LS n k m;have p:=rC n k m;obtain ⟨s,hs⟩:∃s,szE k n m=s:=⟨_,rfl⟩;rw [hs] at hc x h p;have T:=aw q hc;obtain ⟨b,hb⟩:∃b,bdN n k m=b:=⟨_,rfl⟩;rw [hb] at Z h p |-;obtain ⟨A,c,rfl,_⟩:=aD i;obtain ⟨B,Y,ab,a6⟩:=ag i q h p;have a4:=q.size;have aM:=aB T;have d2:=λV (q':aq wr V)=>aw q' T;have Hc:=aa hc;clear i q h p hb hs hc;go_wp2_with (at_builtin;refine aX vA _ rfl (.tmp 36) (.tmp 45) rfl R.heap.size (.slice A m c) m _ rfl B.o [RI (b:Nat),RI ((b:Int)+s)] rfl rfl (cH .i64 [_,_]) ap (by unfold maxLen;omega) a4 ?_);intro g6 c6 w6 L H a7;obtain ⟨a5,a2⟩:=ae L (Y.o.trans H);have d6:=aw (Y.o.trans H) Hc.o;clear L H a7;go_wp2_with fail;go_roundw
     .exact ⟨m+1,by omega,by go_num,by rw [a6.o];push_cast;rfl,by rw [ab.o,iQ];exact a5.o,a2.o⟩
     .simp [intOf];omega
    .have I:¬((m:Int)<k):=ap;obtain rfl:k=m:=ap;obtain ⟨B,Y⟩:=ae (aF (base':=w.heap.size) i N.o.size) (N.o.trans (q.mono N.o.size));clear i q;go_wp2_with fail;go_ret;exact ⟨_,rfl,B.o,Y.o⟩
theorem JE {d:Nat} {l:List Rg} {m:Nat} (h:m<l.length):shR d (l.take (m+1))=shR d (l.take m)++[((aK l m).1+d,(aK l m).2+d)]:=by
 rw [List.take_succ_eq_append_getElem h,cX _ _ h,shR,List.map_append];rfl
theorem xa (A:N_) (l:List Rg) (n c d:Nat) (w:R8) (hA:Rd w A (aS l)) (hn:l.length=n) (h1:n<=1048576) (h2:d<=1048576) (h3:∀r∈l,r.1<=1048576/\r.2<=1048576):Calls prog 175 #[.slice A n c,RI d] w λe x=>∃v,e=.returned v/\x.ownsRow w.heap.size 67 2 v n (aS (shR d l))/\aq w x:=by
 obtain ⟨O,H3,Hn⟩:=af hA h3 hn;clear hA h3 hn;go_enter func175,ntmps175;go_wp2_with fail
 go_loopw [5,6] (λv y wr=>∃m:Nat,m<=n/\y=RI m/\wr.ownsRow w.heap.size 67 2 v m (aS (shR d (l.take m)))/\aq w wr) (λ_ y _=>n-(intOf y).toNat)
 .exact ⟨0,QB _,rfl,QI _ _ _ _,QA _ _⟩
 case round=>
  obtain ⟨m,hm,rfl,B,q⟩:=hrel;by_cases Z:m<n
  .have a4:(m:Int)<n:=ap;have a5:IntKind.i64.wrap ((m:Int)+1)=((m+1:Nat):Int):=by rw [QC _ ap];push_cast;rfl
   obtain ⟨Av,cv,rfl,_⟩:=aD B;obtain ⟨v,hv⟩:∃v,Value.slice Av m cv=v:=⟨_,rfl⟩;rw [hv] at B |-;have I:m<l.length:=by rw [Hn.o];exact Z
   have D:=eA I;obtain ⟨bb,bo,rfl,i⟩:=O.o _ _ D.1;obtain ⟨J,a2,e',h⟩:=O.o _ _ D.2;obtain ⟨rfl,rfl⟩:J=bb/\a2=bo:=by simpa using e'.symm
   rw [<-Rz] at h;have R:=H3.o (aK l m) (by rw [cX _ _ I];exact List.getElem_mem _);have p:=JE (d:=d) I;obtain ⟨C,H,Q⟩:∃C H,aK l m=(C,H):=⟨_,_,rfl⟩;rw [Q] at i h R p;dsimp only at i h R p;have L:=aB i;have nb:¬v.ownBlock=some J:=λe=>by have:=(B.lt _ e).1;simp only at L;omega
   have d0:=λx (q':Keep (λj=>v.ownBlock=some j) wr x)=>q'.cell (aw q i) nb;have d1:=λx (q':Keep (λj=>v.ownBlock=some j) wr x)=>q'.cell (aw q h) nb;have w1:IntKind.i64.wrap ((C:Int)+d)=(C:Int)+d:=QC _ ap;have w2:IntKind.i64.wrap ((H:Int)+d)=(H:Int)+d:=QC _ ap;have a3:=q.size;obtain ⟨Y,Hq,a0⟩:=af B q p;have U:Keep (λj=>v.ownBlock=some j) wr wr.drew:=(Keep.refl _ _).drew;clear B q p Q D e' i h nb L;go_wp2_with fail;refine HA.g (λx:R8=>Keep (λj=>v.ownBlock=some j) wr x) ?_;refine HA.t ?_ [0,1,2,3,4,5,6,7,8,9,10,11,12,13,14,15] U ?_;refine HA.v 16 (wr.drew.alloc (.cells #[RI ((C:Int)+d),RI ((H:Int)+d)] 67)) (.slice (some (ar wr.heap.size 0)) 1 1) (U.alloc _) ?_;refine HA.o 17 (λK' hK=>?_);have hO:=(Y.o.drew).alloc (.cells #[RI ((C:Int)+d),RI ((H:Int)+d)] 67);refine bW vA (.tmp 13) (.tmp 29) rfl rfl w.heap.size v m _ rfl hO (some (ar wr.heap.size 0)) 1 1 [RI ((C:Int)+d),RI ((H:Int)+d)] rfl (λk u hu=>⟨_,_,rfl,by rw [RB,Qz _ wr.heap.size k _ 67 (0,0) (Qy wr.drew _)];simpa using hu⟩) rfl (by simp [Value.oneCell']) ap (by unfold maxLen;omega) (by simp;omega) ?_;intro A5 c5 w5 N a1 T _;have V:Keep (λj=>v.ownBlock=some j) wr w5:=(U.alloc _).grown T (λk hk=>.inr hk);refine hK.out _ _ V λ_=>?_;refine HA.t ?_ [18] V ?_;refine HA.d ?_;obtain ⟨O5,Q5⟩:=ae N (Hq.o.trans (V.toBelow a3 (λj hj=>(Y.o.lt j hj).1)));clear N a1 T d0 d1 w1 w2 U V hK K' hO;go_wp2_with fail;go_roundw
   .exact ⟨m+1,by omega,by go_num,by rw [a0.o,iQ];simpa [aS] using O5.o,Q5.o⟩
   .simp [intOf];omega
  .have a4:¬((m:Int)<n):=ap;obtain rfl:n=m:=ap;rw [List.take_of_length_le (by rw [Hn.o];exact Qx _)] at B;obtain ⟨Y,Hb⟩:=ae B q;clear B q;go_wp2_with fail;go_ret;exact ⟨_,rfl,Y.o,Hb.o⟩
theorem Kf {l:List Rg} {m:Nat} (h:m<l.length):l.reverse.take (m+1)=l.reverse.take m++[aK l (l.length-1-m)]:=by
 rw [List.take_succ_eq_append_getElem (by simpa using h),List.getElem_reverse,<-cX l _ ap]
theorem C7 (n s:Nat) (w:R8) (hn:n<=1048576) (hs:1<=s) (a2:s<=1048576):Calls prog 127 #[RI n,RI s] w λe w'=>∃v,e=.returned v/\w'.ownsRow w.heap.size 67 2 v (qx n s).length (aS (qx n s))/\aq w w':=by
 have hb:=uC n s w hn hs a2;have p:qx n s=(fv n s).reverse:=rfl;have C:(qx n s).length=(fv n s).length:=by rw [p,List.length_reverse]
 rw [C];have u:=fE n s;rw [<-fm] at u;obtain ⟨l,hl⟩:∃l,fv n s=l:=⟨_,rfl⟩;rw [hl] at hb p u |-;obtain ⟨N,hN⟩:∃N,l.length=N:=⟨_,rfl⟩;rw [hN] at hb u |-;rw [p];obtain ⟨Hb,HN⟩:=ae hb hN;clear hb p C hl hN;go_enter func127,ntmps127;go_wp2_with fail;refine Hb.o.mono ?_;rintro e L ⟨v1,rfl,o1,k1⟩;obtain ⟨A,c,rfl,_⟩:=aD o1;obtain ⟨O1,V⟩:=ae o1 k1;clear o1 k1;go_wp2_with fail
 go_loopw [6,7] (λv y wr=>∃m:Nat,m<=N/\y=RI ((N:Int)-1-m)/\wr.ownsRow L.heap.size 67 2 v m (aS (l.reverse.take m))/\aq L wr) (λ_ y _=>(intOf y+1).toNat)
 .exact ⟨0,QB _,by go_num,QI _ _ _ _,QA _ _⟩
 case round=>
  obtain ⟨m,hm,rfl,x,q⟩:=hrel;by_cases O:m<N
  .obtain ⟨j,hj⟩:∃j,N-1-m=j:=⟨_,rfl⟩;have i:(N:Int)-1-m=(j:Int):=ap;have a6:(0:Int)<=(j:Int):=ap;have a3:j<N:=ap;have a4:(j:Int)<N:=ap;rw [i];have h:=Kf (l:=l) (m:=m) (by rw [HN.o];exact O);rw [HN.o,hj] at h
   obtain ⟨g,rfl⟩:∃g,A=some (ar g 0):=by
    obtain ⟨g,e,hv,_⟩:=O1.o.form ap;simp only [Rv] at hv;exact ⟨g,hv.1⟩
   have J:=jd O1.o a3;obtain ⟨Q,b2,I⟩:∃Q b2,aK l j=(Q,b2):=⟨_,_,rfl⟩;rw [I] at J h;have c0:=aw q J.1;have c1:=aw q J.2;dsimp only at c0 c1;obtain ⟨Av,cv,rfl,_⟩:=aD x;obtain ⟨Z,U,T,Hj,H⟩:=ah x q h hj i;have Y:=q.size;have a5:IntKind.i64.wrap ((j:Int)-1)=(j:Int)-1:=QC _ ap;clear x q h hj I J i;go_wp2_with (at_builtin;refine aX vA _ rfl (.tmp 18) (.tmp 23) rfl L.heap.size (.slice Av m cv) m _ rfl Z.o [RI (Q:Nat),RI (b2:Nat)] rfl rfl (cH .i64 [_,_]) ap (by unfold maxLen;omega) Y ?_);intro g6 c6 w6 B D a1;obtain ⟨a0,R⟩:=ae B (U.o.trans D);clear B D a1;go_wp2_with fail;go_roundw
   .exact ⟨m+1,by omega,by have:=H.o;go_num,by rw [T.o,iQ];exact a0.o,R.o⟩
   .have:=H.o;simp [intOf]
  .have i:¬((0:Int)<=(N:Int)-1-m):=ap;obtain rfl:N=m:=ap;rw [List.take_of_length_le (by rw [List.length_reverse,HN.o];exact Qx _)] at x;obtain ⟨Z,U⟩:=ae (aF (base':=w.heap.size) x V.o.size) (V.o.trans (q.mono V.o.size));clear x q;go_wp2_with fail;go_ret;exact ⟨_,rfl,Z.o,U.o⟩
theorem FY (lo h k:Nat) (w:R8) (h1:1<=k) (N:k<=1048576) (h3:lo<=h) (h4:h<=1048576):Calls prog 165 #[.agg #[RI lo,RI h],RI k] w λe x=>∃v,e=.returned v/\x.ownsRow w.heap.size 67 2 v k (aS (dz (lo,h) k))/\aq w x:=by
 obtain ⟨u,i⟩:∃u,w.alloc (.cells #[RI lo,RI h] 67)=u:=⟨_,rfl⟩;have O:u.heap[w.heap.size]?=some (.cells #[RI lo,RI h] 67 (0,0)):=by rw [<-i];exact Qy w _
 have y:aq w u:=by rw [<-i];exact (br w).alloc (Qx _) _
 have t0:=λx q=>bx2 (sb O x q);obtain ⟨D,p⟩:=ae i y;clear i O y;have J:an (dz (lo,h) k=shR lo (fz (h-lo) k)):=aa rfl;have T:(h:Int)-lo=((h-lo:Nat):Int):=ap;have V:IntKind.i64.wrap ((h-lo:Nat):Int)=((h-lo:Nat):Int):=QC _ ap;go_enter func165,ntmps165;have L:=br u;go_wp2_with fail;rw [D.o];refine HA.g (λx:R8=>aq u x) ?_;refine HA.t ?_ [0,1,2,3,4,5,7,8] L.drew ?_;refine HA.c 6 (xh (h-lo) k _ h1 N ap) ?_;rintro e Y ⟨v2,rfl,H,Q⟩;obtain ⟨A,c,rfl,_⟩:=aD H;have C:=bt L.drew Q;refine ⟨_,rfl,C,λ_=>?_⟩;refine HA.c 9 (xa A (fz (h-lo) k) k c lo Y (Rd.own H) (eH _ _) N ap (vz h1 ap)) ?_;rintro e Z ⟨v4,rfl,I,R⟩;have B:=bt C R;refine ⟨_,rfl,B,λ_=>?_⟩;refine HA.t ?_ [10] B ?_;refine HA.d ?_;have hB:=aa (p.o.trans (B.mono p.o.size));rw [<-J.out] at I;have U:=aa (aF (base':=w.heap.size) I (QD p.o.size C.size));clear I H Q R C B t0;go_wp2_with fail;go_ret;exact ⟨_,rfl,U.o,hB.o⟩
theorem Gs (lo h k:Nat) (w:R8) (h1:1<=k) (U:k<=1048576) (h3:lo<=h) (h4:h<=1048576):Calls prog 164 #[.agg #[RI lo,RI h],RI k] w λe x=>∃v,e=.returned v/\x.ownsRow w.heap.size 67 2 v (chR (lo,h) k).length (aS (chR (lo,h) k))/\aq w x:=by
 obtain ⟨u,i⟩:∃u,w.alloc (.cells #[RI lo,RI h] 67)=u:=⟨_,rfl⟩;have Q:u.heap[w.heap.size]?=some (.cells #[RI lo,RI h] 67 (0,0)):=by rw [<-i];exact Qy w _
 have y:aq w u:=by rw [<-i];exact (br w).alloc (Qx _) _
 have t0:=λx q=>bx2 (sb Q x q);obtain ⟨H,p⟩:=ae i y;clear i Q y;have B:an (chR (lo,h) k=shR lo (fv (h-lo) k)):=aa rfl;have V:(h:Int)-lo=((h-lo:Nat):Int):=ap;have Z:IntKind.i64.wrap ((h-lo:Nat):Int)=((h-lo:Nat):Int):=QC _ ap;have N:=fE (h-lo) k;rw [<-fm] at N;go_enter func164,ntmps164;have O:=br u;go_wp2_with fail;rw [H.o];refine HA.g (λx:R8=>aq u x) ?_;refine HA.t ?_ [0,1,2,3,4,5,7,8] O.drew ?_;refine HA.c 6 (uC (h-lo) k _ ap h1 U) ?_;rintro e w2 ⟨v2,rfl,I,R⟩;obtain ⟨A,c,rfl,_⟩:=aD I;have D:=bt O.drew R;refine ⟨_,rfl,D,λ_=>?_⟩;refine HA.c 9 (xa A (fv (h-lo) k) _ c lo w2 (Rd.own I) rfl ap ap (Fd ap)) ?_;rintro e w4 ⟨v4,rfl,J,T⟩;have C:=bt D T;refine ⟨_,rfl,C,λ_=>?_⟩;refine HA.t ?_ [10] C ?_;refine HA.d ?_;have hB:=aa (p.o.trans (C.mono p.o.size));have L:(chR (lo,h) k).length=(fv (h-lo) k).length:=by rw [B.out,mL]
 rw [<-B.out,<-L] at J;have Y:=aa (aF (base':=w.heap.size) J (QD p.o.size D.size));clear J I R T D C t0;go_wp2_with fail;go_ret;exact ⟨_,rfl,Y.o,hB.o⟩
theorem Fx (n:Int) (W:Nat) (h:1<=W):n%(W:Int)=if n.tmod W<0 then n.tmod W+W else n.tmod W:=by
 rw [Int.tmod_eq_emod];have h1:=Int.emod_nonneg n (show (W:Int)≠0 by omega);have o:=Int.emod_lt_of_pos n (show (0:Int)<W by omega);have i:((W:Int).natAbs:Int)=W:=by simp
 split<;>split<;>omega
theorem MX (n:Int) (W:Nat) (h:1<=W): -(W:Int)<n.tmod W/\n.tmod W<W:=by
 rw [Int.tmod_eq_emod];have h1:=Int.emod_nonneg n (show (W:Int)≠0 by omega);have p:=Int.emod_lt_of_pos n (show (0:Int)<W by omega);have i:((W:Int).natAbs:Int)=W:=by simp
 split
 .omega
 .rename_i o
  have:n%(W:Int)≠0:=λe=>o (.inr (Int.dvd_of_emod_eq_zero e));omega
theorem qB (st bk lo u W c:Nat) (n:Int) (w:R8) (h1:1<=W) (v:W<=1048576) (hn: -(W:Int)<=n) (p:n<=2*W):Calls prog 51 #[.agg #[RI (st:Nat),RI (bk:Nat),RI (lo:Nat),RI (u:Nat),RI (W:Nat),RI (c:Nat)],RI n] w λe i=>e=.returned (RI (n%(W:Int)))/\aq w i:=by
 have x:¬((W:Int)=0):=ap;have hm:=MX n W h1;have he:=Fx n W h1;obtain ⟨r,hr⟩:∃r,n.tmod (W:Int)=r:=⟨_,rfl⟩;rw [hr] at hm he;by_cases h:r<0
 .rw [if_pos h] at he;rw [he];have o:=aa he;clear he;go_enter func51,ntmps51;go_wp2_with fail;go_ret;exact ⟨rfl,(br w).alloc (Qx _) _⟩
 .rw [if_neg h] at he;rw [he];have o:=aa he;clear he;go_enter func51,ntmps51;go_wp2_with fail;go_ret;exact ⟨rfl,(br w).alloc (Qx _) _⟩
theorem sQ (st bk lo u W c x r:Nat) (w:R8) (h1:1<=W) (A:W<=1048576) (B:x<W) (hr:r<W):Calls prog 119 #[.agg #[RI (st:Nat),RI (bk:Nat),RI (lo:Nat),RI (u:Nat),RI (W:Nat),RI (c:Nat)],RI x,RI r] w λe h=>e=.returned (RI (((x:Int)-r)%(W:Int)))/\aq w h:=by
 have p:=λh=>qB st bk lo u W c ((x:Int)-r) h h1 A ap ap;have y:=aa p;clear p;go_enter func119,ntmps119;go_wp2_with fail;refine (y.o _).mono ?_;rintro e v ⟨rfl,i⟩;have hB:aq w v:=((br w).alloc (Qx _) _).trans (i.mono (by simp));clear i;go_wp2_with fail;go_ret;exact ⟨rfl,hB⟩
theorem vn (st bk lo u W c x r:Nat) (w:R8) (h1:1<=W) (A:W<=1048576) (B:x<W) (hr:r<W):Calls prog 120 #[.agg #[RI (st:Nat),RI (bk:Nat),RI (lo:Nat),RI (u:Nat),RI (W:Nat),RI (c:Nat)],RI x,RI r] w λe h=>e=.returned (RI (((x:Int)+1-r)%(W:Int)))/\aq w h:=by
 have p:=λh=>qB st bk lo u W c ((x:Int)+1-r) h h1 A ap ap;have y:=aa p;clear p;go_enter func120,ntmps120;go_wp2_with fail;refine (y.o _).mono ?_;rintro e v ⟨rfl,i⟩;have hB:aq w v:=((br w).alloc (Qx _) _).trans (i.mono (by simp));clear i;go_wp2_with fail;go_ret;exact ⟨rfl,hB⟩
theorem CB {W x ph r:Nat} (hr:r<W) (n:Int) (hn:n=(x:Int)+ph-r):n%(W:Int)=((cT W x ph r:Nat):Int):=by
 unfold cT;rw [Int.natCast_emod,show ((x+(2*W+ph-r):Nat):Int)=n+2*W by omega,Int.add_mul_emod_self_right]
theorem wV {W x ph r:Nat} (hr:r+1<=W) (n:Int) (hn:n=((x:Int)-1)%(W:Int)+ph-r):n%(W:Int)=((cE W x ph r:Nat):Int):=by
 unfold cE;rw [Int.natCast_emod,show ((x+(2*W+ph-r-1):Nat):Int)=((x:Int)-1+ph-r)+2*W by omega,Int.add_mul_emod_self_right,hn,Int.add_sub_assoc,Int.emod_add_emod,Int.add_sub_assoc]
theorem LE (w:R8) (f g:Fn):(Instr.index 218 (.agg #[.func f #[] #[],.func g #[] #[]]) (RI 0)).run prog w=.ok (.func f #[] #[]) w:=by
 simp [Instr.index,run_underlying underlying218,asIntOf,go_sem]
theorem NK (w:R8) (f g:Fn):(Instr.index 218 (.agg #[.func f #[] #[],.func g #[] #[]]) (RI 1)).run prog w=.ok (.func g #[] #[]) w:=by
 simp [Instr.index,run_underlying underlying218,asIntOf,go_sem]
attribute [local go_sem] LE NK
theorem JL (st bk lo y W c x ph r:Nat) (w:R8) (h1:1<=W) (A:W<=1048576) (B:x<W) (C:ph<2) (hr:r+1<W):Calls prog 82 #[.agg #[RI (st:Nat),RI (bk:Nat),RI (lo:Nat),RI (y:Nat),RI (W:Nat),RI (c:Nat)],RI x,RI ph,RI r,.bool true] w λe p=>e=.returned (.tuple #[RI (cT W x ph r:Nat),.bool true])/\aq w p:=by
 have g1:(x:Int)<W:=ap;have D:(r:Int)<(W:Int)-1:=ap;have hs:=CB (W:=W) (x:=x) (ph:=ph) (r:=r) ap _ rfl;obtain rfl | rfl:ph=0\/ph=1:=ap
 .have h:=λp=>sQ st bk lo y W c x r p h1 A B ap;rw [show ((x:Int)+(0:Nat)-r)=(x:Int)-r by omega] at hs;rw [hs] at h;have v:=aa h;clear h hs;go_enter func82,ntmps82;go_wp2_with fail;refine (v.o _).mono ?_;rintro e u ⟨rfl,i⟩;have hB:aq w u:=((br w).alloc (Qx _) _).trans (i.mono (by simp));clear i;go_wp2_with fail;go_ret2;exact ⟨rfl,hB⟩
 .have h:=λp=>vn st bk lo y W c x r p h1 A B ap;rw [show ((x:Int)+(1:Nat)-r)=(x:Int)+1-r by omega] at hs;rw [hs] at h;have v:=aa h;clear h hs;go_enter func82,ntmps82;go_wp2_with fail;refine (v.o _).mono ?_;rintro e u ⟨rfl,i⟩;have hB:aq w u:=((br w).alloc (Qx _) _).trans (i.mono (by simp));clear i;go_wp2_with fail;go_ret2;exact ⟨rfl,hB⟩
theorem JM (st bk lo I W c x ph r:Nat) (w:R8) (h1:1<=W) (T:W<=1048576) (hx:x<W) (hp:ph<2) (hr:r+1<W):Calls prog 82 #[.agg #[RI (st:Nat),RI (bk:Nat),RI (lo:Nat),RI (I:Nat),RI (W:Nat),RI (c:Nat)],RI x,RI ph,RI r,.bool false] w λe i=>e=.returned (.tuple #[RI (cE W x ph r:Nat),.bool true])/\aq w i:=by
 have g1:(x:Int)<W:=ap;have g2:(r:Int)<(W:Int)-1:=ap;obtain ⟨A,u⟩:∃A,w.alloc (.cells #[RI (st:Nat),RI (bk:Nat),RI (lo:Nat),RI (I:Nat),RI (W:Nat),RI (c:Nat)] 71)=A:=⟨_,rfl⟩;have V:A.heap[w.heap.size]?=some (.cells #[RI (st:Nat),RI (bk:Nat),RI (lo:Nat),RI (I:Nat),RI (W:Nat),RI (c:Nat)] 71 (0,0)):=by rw [<-u];exact Qy w _
 have Q:aq w A:=by rw [<-u];exact (br w).alloc (Qx _) _
 have t0:=λi q=>bx6 (sb V i q);have C:=λi=>qB st bk lo I W c ((x:Int)-1) i h1 T ap ap;have Z:IntKind.i64.wrap ((x:Int)-1)=(x:Int)-1:=QC _ ap;obtain ⟨y,U⟩:∃y:Nat,(y:Int)=((x:Int)-1)%(W:Int):=⟨(((x:Int)-1)%(W:Int)).toNat,Int.toNat_of_nonneg (Int.emod_nonneg _ ap)⟩;have L:y<W:=by have:=Int.emod_lt_of_pos ((x:Int)-1) (show (0:Int)<W by omega);omega
 rw [<-U] at C;obtain ⟨N,p,O⟩:=af u Q C;clear u V Q C;obtain rfl | rfl:ph=0\/ph=1:=ap
 .have hs:=wV (W:=W) (x:=x) (ph:=0) (r:=r) ap ((y:Int)-r) (by rw [U];omega);have h:=λi=>sQ st bk lo I W c y r i h1 T L ap;rw [hs] at h;have H:=aa h;clear h hs;go_enter func82,ntmps82;have B:=br A;go_wp2_with fail;rw [N.o];refine HA.g (λi:R8=>aq A i) ?_;refine HA.t ?_ [0,1,2,3,4,6] B.drew ?_;refine HA.c 5 (O.o _) ?_;rintro e Y ⟨rfl,J⟩;have D:=bt B.drew J;refine ⟨_,rfl,D,λ_=>?_⟩;refine HA.c 7 (H.o _) ?_;rintro e w2 ⟨rfl,R⟩;have v:=bt D R;refine ⟨_,rfl,v,λ_=>?_⟩;refine HA.t ?_ [8,9] v ?_;refine HA.d ?_;have hB:=p.o.trans (v.mono p.o.size);clear J R B D v t0;go_wp2_with fail;go_ret2;exact ⟨rfl,hB⟩
 .have hs:=wV (W:=W) (x:=x) (ph:=1) (r:=r) ap ((y:Int)+1-r) (by rw [U];omega);have h:=λi=>vn st bk lo I W c y r i h1 T L ap;rw [hs] at h;have H:=aa h;clear h hs;go_enter func82,ntmps82;have B:=br A;go_wp2_with fail;rw [N.o];refine HA.g (λi:R8=>aq A i) ?_;refine HA.t ?_ [0,1,2,3,4,6] B.drew ?_;refine HA.c 5 (O.o _) ?_;rintro e Y ⟨rfl,J⟩;have D:=bt B.drew J;refine ⟨_,rfl,D,λ_=>?_⟩;refine HA.c 7 (H.o _) ?_;rintro e w2 ⟨rfl,R⟩;have v:=bt D R;refine ⟨_,rfl,v,λ_=>?_⟩;refine HA.t ?_ [8,9] v ?_;refine HA.d ?_;have hB:=p.o.trans (v.mono p.o.size);clear J R B D v t0;go_wp2_with fail;go_ret2;exact ⟨rfl,hB⟩
end Go.Proofs.YtindmkcnjlgomaaGreat
