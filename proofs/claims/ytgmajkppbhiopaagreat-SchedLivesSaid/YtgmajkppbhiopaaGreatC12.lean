/- No condition. -/
import Derived.Test.YtgmajkppbhiopaaGreatC11
set_option linter.unusedSimpArgs false
set_option linter.unusedVariables false
set_option maxRecDepth 100000
set_option maxHeartbeats 4000000
namespace Go.Proofs.YtgmajkppbhiopaaGreat
open Go.RowKit
open Tryz
def iP (w:World) (A:Option Addr) (ms:List Msg):Prop:=
 ∃rows,Rd w A (List.flatten rows)/\rows.length=ms.length/\(∀r∈rows,r.length=6)/\∀j,j<ms.length->Cf w (eQ rows j) (aO ms j)
theorem qD {rows:List (List Value)} {k:Nat} (h:∀r∈rows,r.length=k):(List.flatten rows).length=rows.length*k:=by
 induction rows with
 | nil=>simp
 | cons r l ih=>rw [List.flatten_cons,ME,h r (by simp),ih (fun r hr=>h r (by simp [hr])),List.length_cons,Nat.add_mul];omega
def fw (V w:World) (A:Option Addr) (ms:List Msg):Prop:=
 ∃rows,Rd w A (List.flatten rows)/\rows.length=ms.length/\(∀r∈rows,r.length=6)/\∀j,j<ms.length->Cf V (eQ rows j) (aO ms j)
theorem fw.nil (V w:World) (A:Option Addr):fw V w A []:=⟨[],Rd.nil _ _,rfl,by simp,by simp⟩
theorem iP.in_ {w:World} {A:Option Addr} {ms:List Msg} (h:iP w A ms):fw w w A ms:=h
theorem fw.keep {V w i:World} {S:Nat->Prop} {A:Option Addr} {ms:List Msg} (h:fw V w A ms) (k:Keep S w i) (hA:∀a,A=some a->¬S a.block):fw V i A ms:=by
 obtain ⟨rows,h1,o,u,p⟩:=h
 exact ⟨rows,k.rd h1 hA,o,u,p⟩
theorem dO {p q:Prop} (h:p) (k:p->q):q:=k h
theorem nE (w:World) (e:TypeId) (size n base:Nat) (hn:w.heap.size=n) (hb:base<=n):(w.alloc (.cells #[] e)).ownsRow base e size (.slice (some (ar n 0)) 0 0) 0 []:=by
 subst hn
 exact World.ownsRow_made w #[] 0 hb (by unfold maxLen;omega) (by simp)
theorem pS (cap:Int) (A:Option Addr) (n c:Nat) (r pk:Int) (w:World) (hr:0<=r/\r<=n) (hn:n<=17592186043904):
  Calls prog 166 #[.agg #[M8 cap,.slice A n c,M8 r,M8 pk]] w fun e h=>e=.returned (M8 ((n:Int)-r))/\h=w.alloc (.cells #[M8 cap,.slice A n c,M8 r,M8 pk] 75):=by
 go_enter func166,ntmps166
 go_wp2
 go_ret
 exact ⟨rfl,rfl⟩
theorem qP (t0 t1 t2 o p:Int) (v:Value) (i:v.oneCell'=true):∀u∈[Value.int .i64 t0,M8 t1,M8 t2,M8 o,M8 p,v],u.oneCell'=true:=by
 intro u h
 simp at h
 rcases h with rfl | rfl | rfl | rfl | rfl | rfl<;>first | rfl | exact i
theorem Fe {w:World} {ms:List Msg} {rows:List (List Value)} (v:rows.length=ms.length) (p:∀j,j<ms.length->Cf w (eQ rows j) (aO ms j)):∀u∈List.flatten rows,u.oneCell'=true:=by
 intro u h
 obtain ⟨r,hr,h⟩:=List.mem_flatten.1 h
 obtain ⟨j,o,e⟩:=List.getElem_of_mem hr
 obtain ⟨x,c,i,_⟩:=p j ap
 rw [show eQ rows j=r by simp [eQ,o,e]] at i
 subst i
 exact qP _ _ _ _ _ _ rfl u h
theorem vq {h o:World} {k:Nat} {cap r pk:Int} {x:Value} {p:Option Addr} {n c3:Nat} {xs:List Value} (hk:k<h.heap.size) (y:h.heap[k]?=some (.cells #[M8 cap,x,M8 r,M8 pk] 75 (0,0)))
  (hB:aq h o) (u:o.ownsRow h.heap.size 79 6 (.slice p n c3) n xs) (v:Value):
  (o.setCell (ar k 1) v).ownsRow h.heap.size 79 6 (.slice p n c3) n xs/\(o.setCell (ar k 1) v).heap[k]?=some (.cells #[M8 cap,v,M8 r,M8 pk] 75 (0,0))/\Keep (fun i=>i=k) h (o.setCell (ar k 1) v):=by
 refine ⟨ownsRow_setCell_other u (fun e=>by have:=(u.lt _ e).1;simp at this;omega) v,?_,Keep.setCell (S:=fun i=>i=k) (Keep.below hB) (ar k 1) (.inr rfl) v⟩
 exact M6 o k 1 _ _ v ((hB.block k hk).trans y)
def Ce (V:World) (cap r:Nat) (pk:Nat) (ms:List Msg) (w:World) (e:Ending) (i:World):Prop:=
 ∃h o P,P=(pk:Int)/\e=.returned (.tuple #[.agg #[M8 cap,.slice h ms.length o,M8 r,M8 P],M8 0])/\(fw V i h ms/\ms.length<=o/\∀a,h=some a->w.heap.size<=a.block)/\aq w i
theorem wS {V W:World} {u B:Option Addr} {ms:List Msg} {rows:List (List Value)} {t0 t1 t2 i o:Int} {zs:List Int} {d:Nat} (p:rows.length=ms.length) (y:∀r∈rows,r.length=6)
  (x:∀j,j<ms.length->Cf V (eQ rows j) (aO ms j)) (hB:Rd V B (aB .i64 zs)) (hr:Rd W u (List.flatten rows++[M8 t0,M8 t1,M8 t2,M8 i,M8 o,.slice B zs.length d])):
  fw V W u (ms++[⟨⟨t0,t1,t2,i,o⟩,zs⟩]):=by
 refine ⟨rows++[[M8 t0,M8 t1,M8 t2,M8 i,M8 o,.slice B zs.length d]],?_,by simp [p],?_,?_⟩
 ·rw [MO,List.flatten_cons,List.flatten_nil,List.append_nil];exact hr
 ·intro r hr
  rcases MS.1 hr with hr | hr
  ·exact y r hr
  ·rw [List.mem_singleton.1 hr];rfl
 ·intro j v
  rcases Mq j ms.length with h | h
  ·rw [lX _ _ _ ap,mh _ _ _ h]
   exact x j h
  ·obtain rfl:j=ms.length:=by simp at v;omega
   rw [mj,<-p,lY]
   exact ⟨B,d,rfl,hB⟩
theorem Ja (V:World) (cap:Nat) (A:Option Addr) (ms:List Msg) (c r pk:Nat) (t:Tg) (B:Option Addr) (zs:List Int) (d:Nat) (w:World) (hr:r<=ms.length) (hn:ms.length<=100000000000) (be:ms.length<r+cap) (hA:fw V w A ms) (hB:Rd V B (aB .i64 zs)):
  Calls prog 135 #[.agg #[M8 cap,.slice A ms.length c,M8 r,M8 pk],.agg #[M8 t.a,M8 t.b,M8 t.c,M8 t.d,M8 t.e,.slice B zs.length d]] w (Ce V cap r (max pk (ms.length+1-r)) (ms++[⟨t,zs⟩]) w):=by
 obtain ⟨t0,t1,t2,t3,t4⟩:=t
 obtain ⟨rows,h1,h2,h3,h4⟩:=hA
 have aG:=qD h3
 rw [h2] at aG
 have ab:=Fe h2 h4
 have a3:=fun W=>pS cap A ms.length c r pk W ap ap
 obtain ⟨bi,aP,a4,H2,H3,H4⟩:=ai a3 aG ab h2 h3 h4;clear a3 aG ab h2 h3 h4
 go_enter func135,ntmps135
 go_wp2_with fail
 go_region_held3 (fun w'=>w'.cell? ⟨w.heap.size,0,none⟩=some (M8 (cap:Int))/\w'.cell? ⟨w.heap.size,1,none⟩=some (.slice A ms.length c)/\w'.cell? ⟨w.heap.size,2,none⟩=some (M8 (r:Int))/\w'.cell? ⟨w.heap.size,3,none⟩=some (M8 (pk:Int))) (simp [go_sem,World.cell?_alloc_past, *])
  ((go_at_call 166;refine (bi.o _).mono ?_;rintro e w' ⟨rfl,rfl⟩))
 go_wp2_with fail
 generalize hw1:World.drew _=w1
 have hf:(w1.heap[w.heap.size]?=some (.cells #[M8 (cap:Int),.slice A ms.length c,M8 (r:Int),M8 (pk:Int)] 75 (0,0)))/\(w1.heap[w.heap.size+1]?=some (.cells #[M8 t0,M8 t1,M8 t2,M8 t3,M8 t4,.slice B zs.length d] 79 (0,0)))/\
   (w1.heap[w.heap.size+1+1]?=some (.cells #[M8 0,M9,M8 0,M8 0] 75 (0,0)))/\w.heap.size+4=w1.heap.size/\aq w w1:=by
  subst hw1
  refine ⟨?_,?_,?_,by simp,?_⟩
  ·show ((((w.heap.push _).push _).push _).push _)[_]?=_
   simp only [Array.getElem?_push,Array.size_push]
   rw [if_neg ap,if_neg ap,if_neg ap,if_pos trivial]
  ·show ((((w.heap.push _).push _).push _).push _)[_]?=_
   simp only [Array.getElem?_push,Array.size_push]
   rw [if_neg ap,if_neg ap,if_pos trivial]
  ·show ((((w.heap.push _).push _).push _).push _)[_]?=_
   simp only [Array.getElem?_push,Array.size_push]
   rw [if_neg ap,if_pos trivial]
  ·exact am
 obtain ⟨a1,U,b4,aR,b5⟩:=hf
 have b0:w1.cell? ⟨w.heap.size,0,none⟩=some (M8 (cap:Int)):=Md w1 _ 0 _ _ _ a1
 have b1:w1.cell? ⟨w.heap.size,1,none⟩=some (.slice A ms.length c):=Md w1 _ 1 _ _ _ a1
 have b2:w1.cell? ⟨w.heap.size,2,none⟩=some (M8 (r:Int)):=Md w1 _ 2 _ _ _ a1
 have b3:w1.cell? ⟨w.heap.size,3,none⟩=some (M8 (pk:Int)):=Md w1 _ 3 _ _ _ a1
 have bf:=fun j=>Mk w1 _ j _ _ a1
 have m0:w1.cell? ⟨(w.heap.size+1),0,none⟩=some (M8 t0):=Md w1 _ 0 _ _ _ U
 have m1:w1.cell? ⟨(w.heap.size+1),1,none⟩=some (M8 t1):=Md w1 _ 1 _ _ _ U
 have m2:w1.cell? ⟨(w.heap.size+1),2,none⟩=some (M8 t2):=Md w1 _ 2 _ _ _ U
 have m3:w1.cell? ⟨(w.heap.size+1),3,none⟩=some (M8 t3):=Md w1 _ 3 _ _ _ U
 have m4:w1.cell? ⟨(w.heap.size+1),4,none⟩=some (M8 t4):=Md w1 _ 4 _ _ _ U
 have m5:w1.cell? ⟨(w.heap.size+1),5,none⟩=some (.slice B zs.length d):=Md w1 _ 5 _ _ _ U
 have J:w.heap.size<w1.heap.size:=ap
 have x:w.heap.size+1<w1.heap.size:=ap
 have a8:w.heap.size+1+1<w1.heap.size:=ap
 have a9:=h1.below b5
 obtain ⟨bw,bz,bo,bG,bh⟩:=ah hw1 aR a1 U b4;clear hw1 aR a1 U b4 h1
 go_cut [] (fun wx=>∃A' c',wx.ownsRow w1.heap.size 79 6 (.slice A' (ms.length+1) c') (ms.length+1) (List.flatten rows++[M8 t0,M8 t1,M8 t2,M8 t3,M8 t4,.slice B zs.length d])/\
   wx.heap[w.heap.size]?=some (.cells #[M8 (cap:Int),.slice A' (ms.length+1) c',M8 (r:Int),M8 (pk:Int)] 75 (0,0))/\Keep (fun k=>k=w.heap.size) w1 wx)
 case first=>
  go_region_law (first | (refine iC lE rfl (.tmp 12) (.tmp 14) rfl w1.heap.size (.slice (some ⟨w1.heap.size,0,none⟩) 0 0) 0 [] rfl ?_ A ms.length c (List.flatten rows) rfl ?_ ?_ ?_ ?_ ?_ ?_ ?_;(focus ((repeat' (first | (with_reducible refine World.ownsRow.drew ?_) | (refine nE _ _ _ _ _ ?_ ?_;(focus (try simp));omega) | (with_reducible refine World.ownsRow.alloc ?_ _)));done));(focus ((repeat' (first | (with_reducible exact a9) | (with_reducible refine Rd.drew ?_) | (with_reducible refine Rd.alloc ?_ _)));done));exact aP.o;exact a4.o;omega;(unfold maxLen;omega);(simp;try omega);intro A2 c2 Z i D u T;simp only [MW,List.nil_append] at i;refine dO (p:=aq w1 Z) ?_ ?_;(focus (refine Below.trans ?_ D;exact am;done));intro h;have a8:=h.size;have n0:=(h.cell (p:=⟨(w.heap.size+1),0,none⟩) x).trans m0;have n1:=(h.cell (p:=⟨(w.heap.size+1),1,none⟩) x).trans m1;have n2:=(h.cell (p:=⟨(w.heap.size+1),2,none⟩) x).trans m2;have n3:=(h.cell (p:=⟨(w.heap.size+1),3,none⟩) x).trans m3;have n4:=(h.cell (p:=⟨(w.heap.size+1),4,none⟩) x).trans m4;have n5:=(h.cell (p:=⟨(w.heap.size+1),5,none⟩) x).trans m5;refine dO (p:=Rd Z (some ⟨(w1.heap.size+1),0,none⟩) [M8 t0,M8 t1,M8 t2,M8 t3,M8 t4,.slice B zs.length d]) ?_ ?_;(focus (refine Rd.grown (row:=some w1.heap.size) ?_ u ?_;(focus ((repeat' (first | (with_reducible refine Rd.drew ?_) | (refine dD _ _ _ _ ?_;simp;done) | (with_reducible refine Rd.alloc ?_ _)));done));(intro a ha;cases ha;simp)));intro L;refine dO (p:=w.heap.size<Z.heap.size/\w.heap.size+1<Z.heap.size) (Mj ?_ ?_) ?_;omega;omega;intro N;have ad:=N.1;have ao:=N.2;have p1:=(h.cell (p:=⟨w.heap.size,1,none⟩) J).trans b1;have b8:=(h.frozen (p:=⟨w.heap.size,1,none⟩) J).trans (bf 1);obtain ⟨a5,O,a2⟩:=af h i L;clear h i L D u T N) | (refine iC lE rfl (.tmp 12) (.tmp 14) rfl w1.heap.size (.slice (some ⟨(w1.heap.size+1),0,none⟩) 0 0) 0 [] rfl ?_ A ms.length c (List.flatten rows) rfl ?_ ?_ ?_ ?_ ?_ ?_ ?_;(focus ((repeat' (first | (with_reducible refine World.ownsRow.drew ?_) | (refine nE _ _ _ _ _ ?_ ?_;(focus (try simp));omega) | (with_reducible refine World.ownsRow.alloc ?_ _)));done));(focus ((repeat' (first | (with_reducible exact a9) | (with_reducible refine Rd.drew ?_) | (with_reducible refine Rd.alloc ?_ _)));done));exact aP.o;exact a4.o;omega;(unfold maxLen;omega);(simp;try omega);intro A2 c2 Z i D u T;simp only [MW,List.nil_append] at i;refine dO (p:=aq w1 Z) ?_ ?_;(focus (refine Below.trans ?_ D;exact am;done));intro h;have a8:=h.size;have n0:=(h.cell (p:=⟨(w.heap.size+1),0,none⟩) x).trans m0;have n1:=(h.cell (p:=⟨(w.heap.size+1),1,none⟩) x).trans m1;have n2:=(h.cell (p:=⟨(w.heap.size+1),2,none⟩) x).trans m2;have n3:=(h.cell (p:=⟨(w.heap.size+1),3,none⟩) x).trans m3;have n4:=(h.cell (p:=⟨(w.heap.size+1),4,none⟩) x).trans m4;have n5:=(h.cell (p:=⟨(w.heap.size+1),5,none⟩) x).trans m5;refine dO (p:=Rd Z (some ⟨w1.heap.size,0,none⟩) [M8 t0,M8 t1,M8 t2,M8 t3,M8 t4,.slice B zs.length d]) ?_ ?_;(focus (refine Rd.grown (row:=some (w1.heap.size+1)) ?_ u ?_;(focus ((repeat' (first | (with_reducible refine Rd.drew ?_) | (refine dD _ _ _ _ ?_;simp;done) | (with_reducible refine Rd.alloc ?_ _)));done));(intro a ha;cases ha;simp)));intro L;refine dO (p:=w.heap.size<Z.heap.size/\w.heap.size+1<Z.heap.size) (Mj ?_ ?_) ?_;omega;omega;intro N;have ad:=N.1;have ao:=N.2;have p1:=(h.cell (p:=⟨w.heap.size,1,none⟩) J).trans b1;have b8:=(h.frozen (p:=⟨w.heap.size,1,none⟩) J).trans (bf 1);obtain ⟨a5,O,a2⟩:=af h i L;clear h i L D u T N) | (refine iC lE rfl (.tmp 12) (.tmp 14) rfl w1.heap.size (.slice (some ⟨w1.heap.size,0,none⟩) 0 0) 0 [] rfl ?_ A ms.length c (List.flatten rows) rfl ?_ ?_ ?_ ?_ ?_ ?_ ?_;(focus ((repeat' (first | (with_reducible refine World.ownsRow.drew ?_) | (refine nE _ _ _ _ _ ?_ ?_;(focus (try simp));omega) | (with_reducible refine World.ownsRow.alloc ?_ _)));done));(focus ((repeat' (first | (with_reducible exact a9) | (with_reducible refine Rd.drew ?_) | (with_reducible refine Rd.alloc ?_ _)));done));exact aP.o;exact a4.o;omega;(unfold maxLen;omega);(simp;try omega);intro A2 c2 Z i D u T;simp only [MW,List.nil_append] at i;refine dO (p:=aq w1 Z) ?_ ?_;(focus (refine Below.trans ?_ D;exact am;done));intro h;have a8:=h.size;have n0:=(h.cell (p:=⟨(w.heap.size+1),0,none⟩) x).trans m0;have n1:=(h.cell (p:=⟨(w.heap.size+1),1,none⟩) x).trans m1;have n2:=(h.cell (p:=⟨(w.heap.size+1),2,none⟩) x).trans m2;have n3:=(h.cell (p:=⟨(w.heap.size+1),3,none⟩) x).trans m3;have n4:=(h.cell (p:=⟨(w.heap.size+1),4,none⟩) x).trans m4;have n5:=(h.cell (p:=⟨(w.heap.size+1),5,none⟩) x).trans m5;have L:Rd Z (some ⟨Z.heap.size,0,none⟩) []:=Rd.nil _ _;refine dO (p:=w.heap.size<Z.heap.size/\w.heap.size+1<Z.heap.size) (Mj ?_ ?_) ?_;omega;omega;intro N;have ad:=N.1;have ao:=N.2;have p1:=(h.cell (p:=⟨w.heap.size,1,none⟩) J).trans b1;have b8:=(h.frozen (p:=⟨w.heap.size,1,none⟩) J).trans (bf 1);obtain ⟨a5,O,a2⟩:=af h i L;clear h i L D u T N) | (refine iC lE rfl (.tmp 15) (.tmp 17) rfl w1.heap.size (.slice A2 ms.length c2) ms.length (List.flatten rows) rfl ?_ (some ⟨Z.heap.size,0,none⟩) 1 1 [M8 t0,M8 t1,M8 t2,M8 t3,M8 t4,.slice B zs.length d] rfl ?_ rfl (qP _ _ _ _ _ _ rfl) ?_ ?_ ?_ ?_;(focus ((repeat' (first | (with_reducible exact O.o) | (with_reducible refine World.ownsRow.drew ?_) | (with_reducible refine World.ownsRow.alloc ?_ _)));done));(focus ((repeat' (first | (with_reducible refine Rd.drew ?_) | exact dD _ _ _ _ rfl));done));omega;(unfold maxLen;omega);(first | omega | (focus (simp;omega)) | simp);intro A3 c3 w3 y C I Y;refine dO (p:=aq w1 w3) ?_ ?_;(focus (refine a5.o.trans (Below.trans ?_ C);exact am;done));intro H;have q1:=(H.cell (p:=⟨w.heap.size,1,none⟩) J).trans b1;have bb:=(H.frozen (p:=⟨w.heap.size,1,none⟩) J).trans (bf 1);obtain ⟨aM,a0⟩:=ae H y;clear H y C I Y) | (refine iC lE rfl (.tmp 15) (.tmp 17) rfl w1.heap.size (.slice A2 ms.length c2) ms.length (List.flatten rows) rfl ?_ (some ⟨(w1.heap.size+1),0,none⟩) 1 1 [M8 t0,M8 t1,M8 t2,M8 t3,M8 t4,.slice B zs.length d] rfl ?_ rfl (qP _ _ _ _ _ _ rfl) ?_ ?_ ?_ ?_;(focus ((repeat' (first | (with_reducible exact O.o) | (with_reducible refine World.ownsRow.drew ?_) | (with_reducible refine World.ownsRow.alloc ?_ _)));done));(focus ((repeat' (first | (with_reducible exact a2.o) | (with_reducible refine Rd.drew ?_)));done));omega;(unfold maxLen;omega);(first | omega | (focus (simp;omega)) | simp);intro A3 c3 w3 y C I Y;refine dO (p:=aq w1 w3) ?_ ?_;(focus (refine a5.o.trans (Below.trans ?_ C);exact am;done));intro H;have q1:=(H.cell (p:=⟨w.heap.size,1,none⟩) J).trans b1;have bb:=(H.frozen (p:=⟨w.heap.size,1,none⟩) J).trans (bf 1);obtain ⟨aM,a0⟩:=ae H y;clear H y C I Y) | (refine iC lE rfl (.tmp 15) (.tmp 17) rfl w1.heap.size (.slice A2 ms.length c2) ms.length (List.flatten rows) rfl ?_ (some ⟨w1.heap.size,0,none⟩) 1 1 [M8 t0,M8 t1,M8 t2,M8 t3,M8 t4,.slice B zs.length d] rfl ?_ rfl (qP _ _ _ _ _ _ rfl) ?_ ?_ ?_ ?_;(focus ((repeat' (first | (with_reducible exact O.o) | (with_reducible refine World.ownsRow.drew ?_) | (with_reducible refine World.ownsRow.alloc ?_ _)));done));(focus ((repeat' (first | (with_reducible exact a2.o) | (with_reducible refine Rd.drew ?_)));done));omega;(unfold maxLen;omega);(first | omega | (focus (simp;omega)) | simp);intro A3 c3 w3 y C I Y;refine dO (p:=aq w1 w3) ?_ ?_;(focus (refine a5.o.trans (Below.trans ?_ C);exact am;done));intro H;have q1:=(H.cell (p:=⟨w.heap.size,1,none⟩) J).trans b1;have bb:=(H.frozen (p:=⟨w.heap.size,1,none⟩) J).trans (bf 1);obtain ⟨aM,a0⟩:=ae H y;clear H y C I Y))
  all_goals go_wp2_with fail
  all_goals go_meet
  all_goals
   have hm:=vq J bo.o aM.o a0.o (.slice A3 (ms.length+1) c3)
   first | exact ⟨A3,c3,hm.1,hm.2.1,hm.2.2⟩ | exact ⟨A3,c3,hm.1,hm.2.1,Keep.drew hm.2.2⟩
 case rest=>
  obtain ⟨A',c',av,R,hK⟩:=hcut
  have bs:=hK.size
  have e0:wc.cell? ⟨w.heap.size,0,none⟩=some (M8 (cap:Int)):=Md wc _ 0 _ _ _ R
  have e1:wc.cell? ⟨w.heap.size,1,none⟩=some (.slice A' (ms.length+1) c'):=Md wc _ 1 _ _ _ R
  have e2:wc.cell? ⟨w.heap.size,2,none⟩=some (M8 (r:Int)):=Md wc _ 2 _ _ _ R
  have e3:wc.cell? ⟨w.heap.size,3,none⟩=some (M8 (pk:Int)):=Md wc _ 3 _ _ _ R
  have ef:=fun j=>Mk wc _ j _ _ R
  have Q:=(hK.block (w.heap.size+1+1) a8 ap).trans bh.o
  have g0:wc.cell? ⟨(w.heap.size+1+1),0,none⟩=some (M8 0):=Md wc _ 0 _ _ _ Q
  have g1:wc.cell? ⟨(w.heap.size+1+1),1,none⟩=some (M9):=Md wc _ 1 _ _ _ Q
  have g2:wc.cell? ⟨(w.heap.size+1+1),2,none⟩=some (M8 0):=Md wc _ 2 _ _ _ Q
  have g3:wc.cell? ⟨(w.heap.size+1+1),3,none⟩=some (M8 0):=Md wc _ 3 _ _ _ Q
  have gf:=fun j=>Mk wc _ j _ _ Q
  have bv:w.heap.size<wc.heap.size:=ap
  have b7:w.heap.size+1+1<wc.heap.size:=ap
  have b6:=fun W=>pS cap A' (ms.length+1) c' r pk W ap ap
  obtain ⟨bd,HK,a7⟩:=af b6 hK av;clear b6 hK av Q R b0 b1 b2 b3 bf m0 m1 m2 m3 m4 m5 a9
  go_wp2_with fail
  go_region_with ((go_at_call 166;refine (bd.o _).mono ?_;rintro e w' ⟨rfl,rfl⟩))
  all_goals go_wp2_with fail
  all_goals
   have bA:Keep (fun k=>k<w1.heap.size) wc wc:=Keep.refl _ _
   have bI:aq w wc:=b5.trans (HK.o.toBelow ap (fun k hk=>ap))
   have bn:=Rd.own a7.o
   have b9:ms.length+1<=c':=by
    obtain ⟨A9,c9,e9,bl⟩:=aC a7.o
    injection e9 with _ _ e9;rw [e9];exact bl
   have a6:∀a:Addr,A'=some a->¬a.block<w1.heap.size:=fun a ha=>by
    have:=(a7.o.lt a.block (by rw [ha];rfl)).1;omega
   first
   | (have hP:(pk:Int)=((max pk (ms.length+1-r):Nat):Int):=ap;refine Mp (v:=.tuple #[.agg #[M8 cap,.slice A' (ms.length+1) c',M8 r,M8 (pk:Int)],M8 0]) (by simp [results,results135,go_sem,g0,g1,g2,g3,b7]) rfl ⟨A',c',(pk:Int),hP,by rw [ME,MN],⟨?_,by rw [ME,MN];exact b9,fun a ha=>by have:=a6 a ha;omega⟩,?_⟩)
   | (have hP:(ms.length:Int)+1-(r:Int)=((max pk (ms.length+1-r):Nat):Int):=ap;refine Mp (v:=.tuple #[.agg #[M8 cap,.slice A' (ms.length+1) c',M8 r,M8 ((ms.length:Int)+1-(r:Int))],M8 0]) (by simp [results,results135,go_sem,g0,g1,g2,g3,b7]) rfl ⟨A',c',(ms.length:Int)+1-(r:Int),hP,by rw [ME,MN],⟨?_,by rw [ME,MN];exact b9,fun a ha=>by have:=a6 a ha;omega⟩,?_⟩)
  all_goals first
   | (refine wS (B:=B) (d:=d) H2.o H3.o H4.o hB (Keep.rd (S:=fun k=>k<w1.heap.size) (w:=wc) ?_ bn a6);(focus (repeat' (first | (with_reducible exact Keep.refl _ _) | (with_reducible assumption) | (with_reducible refine Keep.setCell ?_ _ ?_ _) | (with_reducible refine Keep.alloc ?_ _) | (with_reducible refine Keep.drewN ?_ _) | (with_reducible refine Keep.drew ?_) | (dsimp only;omega)))))
   | exact am
theorem bP:cW prog 75 4:=⟨⟨_,underlying75,rfl⟩,by kernel_rfl⟩
theorem yW:cW prog 24 12:=⟨⟨_,underlying24,rfl⟩,by kernel_rfl⟩
theorem j3:cW prog 103 2:=⟨⟨_,underlying103,rfl⟩,by kernel_rfl⟩
theorem fO:cW prog 187 2:=⟨⟨_,underlying187,rfl⟩,by kernel_rfl⟩
theorem wW (w:World) (X Y Z p i o:Array Value) (t u:TypeId):∃W0,(((((w.alloc (.cells X t)).alloc (.cells Y u)).alloc (.cells Z u)).alloc (.cells p t)).alloc (.cells i u)).alloc (.cells o u)=W0/\
  W0.heap[w.heap.size]?=some (.cells X t (0,0))/\W0.heap[w.heap.size+1]?=some (.cells Y u (0,0))/\W0.heap[w.heap.size+1+1]?=some (.cells Z u (0,0))/\W0.heap[w.heap.size+1+1+1]?=some (.cells p t (0,0))/\W0.heap[w.heap.size+1+1+1+1]?=some (.cells i u (0,0))/\
  W0.heap[w.heap.size+1+1+1+1+1]?=some (.cells o u (0,0))/\aq w W0:=by
 refine ⟨_,rfl,?_⟩
 have h:=eJ [.cells X t,.cells Y u,.cells Z u,.cells p t,.cells i u,.cells o u] w
 exact ⟨bZ [.cells X t,.cells Y u,.cells Z u,.cells p t,.cells i u,.cells o u] w 0 rfl,bZ [.cells X t,.cells Y u,.cells Z u,.cells p t,.cells i u,.cells o u] w 1 rfl,bZ [.cells X t,.cells Y u,.cells Z u,.cells p t,.cells i u,.cells o u] w 2 rfl,
  bZ [.cells X t,.cells Y u,.cells Z u,.cells p t,.cells i u,.cells o u] w 3 rfl,bZ [.cells X t,.cells Y u,.cells Z u,.cells p t,.cells i u,.cells o u] w 4 rfl,bZ [.cells X t,.cells Y u,.cells Z u,.cells p t,.cells i u,.cells o u] w 5 rfl,h⟩
def RL (w:World) (v:Array Value) (s:LSt):Prop:=∃B c,v=#[M8 (s.cap:Nat),.slice B s.msgs.length c,M8 (s.recv:Nat),M8 (s.peak:Nat)]/\iP w B s.msgs/\s.msgs.length<=c
section
variable {u v:World}
theorem bH {A:Option Addr} {l:List Int} {c:Nat} (h:cJ u A l c) (i:Ext u v):cJ v A l c:=⟨h.hc,h.hl,aW h.hr i,h.hw⟩
theorem fp {A:Option Addr} {c:Nat} {D T R:Option Addr} {ct:Nat} {i:Inp} (h:gh u A c D T ct R i) (o:Ext u v):gh v A c D T ct R i:=
 ⟨⟨h.c.hc,h.c.hm,h.c.hl,aW h.c.hr o⟩,er cN h.d o,h.dl,bH h.t o,h.tl,aW h.r o,h.rl,h.ru,h.ra,h.rm⟩
theorem ks {vs:Array Value} {i:Inp} {x:Nat} {m:Mst} (h:fZ u vs i x m) (hb:Ext u v):fZ v vs i x m:=by
 obtain ⟨A,c,D,cd,T,ct,R,cr,PA,pc,MA,mc,GA,gc,SA,sc,IA,ic,H,h1,p,I,y,C,o,B⟩:=h
 exact ⟨A,c,D,cd,T,ct,R,cr,PA,pc,MA,mc,GA,gc,SA,sc,IA,ic,H,fp h1 hb,bH p hb,bH I hb,bH y hb,er cN C hb,aW o hb,B⟩
theorem cV {A:Option Addr} {ms:List Msg} (h:iP u A ms) (hb:Ext u v):iP v A ms:=by
 obtain ⟨rows,h1,o,y,p⟩:=h
 exact ⟨rows,aW h1 hb,o,y,fun j i=>by obtain ⟨B,x,e,hr⟩:=p j i;exact ⟨B,x,e,aW hr hb⟩⟩
theorem rV {V:World} {A:Option Addr} {ms:List Msg} (h:fw V u A ms) (hb:Ext u v):fw V v A ms:=by
 obtain ⟨rows,h1,i,p,o⟩:=h
 exact ⟨rows,aW h1 hb,i,p,o⟩
theorem lB {x:Array Value} {s:LSt} (h:RL u x s) (hb:Ext u v):RL v x s:=by
 obtain ⟨B,c,h1,i,o⟩:=h
 exact ⟨B,c,h1,cV i hb,o⟩
end
theorem DO (S:Nat->Prop) (w:World):Keep S w (aF S w):=⟨rfl,rfl,rfl,Nat.le_of_eq (mV S w).symm,fun _ _ hs=>gC hs⟩
theorem iD {S:Nat->Prop} {w:World} {base:Nat} {e:TypeId} {n c:Nat} {A:Option Addr} {xs:List Value} (h:w.ownsRow base e 1 (.slice A n c) n xs) (p:∀k,S k->k<base):Rd (aF S w) A xs:=by
 refine kZ (Rd.own h) fun y i hs=>?_
 rcases h.2 with ⟨o,_⟩ | ⟨g,_,_,o,hb,_⟩
 ·injection o with e1;rw [e1] at i;cases i
 ·injection o with e1;rw [e1] at i;cases i;have u:g<base:=p _ hs;omega
theorem fg {P:Program} {f:Func} {x y z q:Tmp} {Q o i:TypeId} (h:f.results=#[.cell x Q,.cell y o,.cell z i,.tmp q]) {tmps:Array Value} {w:World} {b A b3:Nat} {xs ys zs:Array Value} {t t2 t3:TypeId} {fr H B:Nat×Nat} (hx:tmps.getD x undef=(au b)) (hy:tmps.getD y undef=(au A)) (hz:tmps.getD z undef=(au b3))
  (hb:w.heap[b]?=some (.cells xs t fr)) (R:w.heap[A]?=some (.cells ys t2 H)) (V:w.heap[b3]?=some (.cells zs t3 B)) (hr:cW P Q xs.size) (D:cW P o ys.size) (T:cW P i zs.size):(results f tmps).run P w=.ok (.tuple #[.agg xs,.agg ys,.agg zs,tmps.getD q undef]) w:=by
 obtain ⟨⟨d,h1,h2⟩,h3⟩:=hr
 obtain ⟨⟨d',L,I⟩,O⟩:=D
 obtain ⟨⟨J,p,u⟩,v⟩:=T
 have Z:=run_loadVar_mid (P:=P) w b 0 Q xs.toList d (eE hb 0 (by rw [MD,MP])) h1 h2 (by simpa using h3)
 have Y:=run_loadVar_mid (P:=P) w A 0 o ys.toList d' (eE R 0 (by rw [MD,MP])) L I (by simpa using O)
 have e3:=run_loadVar_mid (P:=P) w b3 0 i zs.toList J (eE V 0 (by rw [MD,MP])) p u (by simpa using v)
 rw [Array.toArray_toList] at Z Y e3
 have C:tmps[x]?.getD undef=(au b):=by simpa using hx
 have N:tmps[y]?.getD undef=(au A):=by simpa using hy
 have U:tmps[z]?.getD undef=(au b3):=by simpa using hz
 simp [results,h,C,N,U,asAddr,Z,Y,e3]
def no (S:Nat->Prop) (i:Inp) (x:Nat) (m:Mst) (s t:LSt) (C:Int) (w:World) (e:Ending) (h:World):Prop:=∃vs u v,e=.returned (.tuple #[.agg vs,.agg u,.agg v,M8 C])/\vs.size=22/\(vs.toList.all (·.oneCell')=true)/\fZ (aF S h) vs i x m/\RL (aF S h) u s/\RL (aF S h) v t/\aq w h
structure RdF (S:Nat->Prop) (w W0:World) (i:Inp) (x:Nat) (m:Mst) (s t:LSt) (y:Itm) (A:Option Addr) (c:Nat) (D:Option Addr) (cd:Nat) (T:Option Addr) (ct:Nat) (R:Option Addr) (cr:Nat) (PA:Option Addr) (pc:Nat) (MA:Option Addr) (mc:Nat) (GA:Option Addr) (gc:Nat) (SA:Option Addr) (sc bI oI ic:Nat) (B1:Option Addr) (c1:Nat) (B2:Option Addr) (c2 dn il:Nat):Prop where
 eW:(((((w.alloc (.cells #[.slice A i.cfg.sizes.length c,M8 i.cfg.shift,M8 i.cfg.rate,M8 i.cfg.mom,M8 i.cfg.workers,M8 i.cfg.batch,M8 i.cfg.micros,M8 i.cfg.steps,M8 i.cfg.bucket,M8 i.cfg.chunk,M8 i.cfg.window,M8 i.cfg.cap,.slice D i.data.length cd,.slice T i.start.length ct,.slice R i.draws.length cr,M8 (x:Nat),.slice PA i.start.length pc,.slice MA i.start.length mc,.slice GA i.start.length gc,.slice SA m.rc.length sc,.slice (some (ar bI oI)) il ic,M8 (dn:Nat)] 106)).alloc (.cells #[M8 (s.cap:Nat),.slice B1 s.msgs.length c1,M8 (s.recv:Nat),M8 (s.peak:Nat)] 75)).alloc (.cells #[M8 (t.cap:Nat),.slice B2 t.msgs.length c2,M8 (t.recv:Nat),M8 (t.peak:Nat)] 75)).alloc (.cells Nb 106)).alloc (.cells #[M8 0,M9,M8 0,M8 0] 75)).alloc (.cells #[M8 0,M9,M8 0,M8 0] 75)=W0
 bx:∀w',aq W0 w'->w'.heap[w.heap.size]?=some (.cells #[.slice A i.cfg.sizes.length c,M8 i.cfg.shift,M8 i.cfg.rate,M8 i.cfg.mom,M8 i.cfg.workers,M8 i.cfg.batch,M8 i.cfg.micros,M8 i.cfg.steps,M8 i.cfg.bucket,M8 i.cfg.chunk,M8 i.cfg.window,M8 i.cfg.cap,.slice D i.data.length cd,.slice T i.start.length ct,.slice R i.draws.length cr,M8 (x:Nat),.slice PA i.start.length pc,.slice MA i.start.length mc,.slice GA i.start.length gc,.slice SA m.rc.length sc,.slice (some (ar bI oI)) il ic,M8 (dn:Nat)] 106 (0,0))/\w'.heap[w.heap.size+1]?=some (.cells #[M8 (s.cap:Nat),.slice B1 s.msgs.length c1,M8 (s.recv:Nat),M8 (s.peak:Nat)] 75 (0,0))/\w'.heap[w.heap.size+1+1]?=some (.cells #[M8 (t.cap:Nat),.slice B2 t.msgs.length c2,M8 (t.recv:Nat),M8 (t.peak:Nat)] 75 (0,0))/\w'.heap[w.heap.size+1+1+1]?=some (.cells Nb 106 (0,0))/\w'.heap[w.heap.size+1+1+1+1]?=some (.cells #[M8 0,M9,M8 0,M8 0] 75 (0,0))/\w'.heap[w.heap.size+1+1+1+1+1]?=some (.cells #[M8 0,M9,M8 0,M8 0] 75 (0,0))
 K:aq w W0
 I0:gh (aF S w) A c D T ct R i
 P0:cJ (aF S w) PA m.P pc
 M0:cJ (aF S w) MA m.M mc
 G0:cJ (aF S w) GA m.G gc
 R0:dA rEx 2 (aF S w) SA m.rc
 It0:Rd (aF S w) (some (ar bI oI)) (cu (db i x))
 Pl:m.P.length=i.start.length
 Ml:m.M.length=i.start.length
 Gl:m.G.length=i.start.length
 s0:iP (aF S w) B1 s.msgs
 t0:iP (aF S w) B2 t.msgs
 s2:s.msgs.length<=c1
 t2:t.msgs.length<=c2
 il':(db i x).length=il
 dn':bD i x m=dn
 s':cz i
 rw':W0.rangeAt bI (oI+dn*12) (aZ y)
 S':∀k,S k->k<w.heap.size
 wd:IntKind.i64.wrap ((dn:Int)+1)=((dn:Int)+1)
 loc:(∀w',aq W0 w'->w'.cell? (ar w.heap.size 20)=some (.slice (some (ar bI oI)) il ic))/\(∀w',aq W0 w'->w'.cell? (ar w.heap.size 21)=some (M8 (dn:Nat)))/\(∀w',aq W0 w'->w.heap.size<w'.heap.size)/\(dn:Int)<il/\¬(il:Int)<=dn/\¬(dn:Int)<0/\¬il<=dn
section
variable {S:Nat->Prop} {w W0:World} {i:Inp} {x:Nat} {m:Mst} {s t:LSt} {y:Itm} {A:Option Addr} {c:Nat} {D:Option Addr} {cd:Nat} {T:Option Addr} {ct:Nat} {R:Option Addr} {cr:Nat} {PA:Option Addr} {pc:Nat} {MA:Option Addr} {mc:Nat} {GA:Option Addr} {gc:Nat} {SA:Option Addr} {sc bI oI ic:Nat} {B1:Option Addr} {c1:Nat} {B2:Option Addr} {c2 dn il:Nat}
variable (h:RdF S w W0 i x m s t y A c D cd T ct R cr PA pc MA mc GA gc SA sc bI oI ic B1 c1 B2 c2 dn il)
include h
theorem RdF.hI:gh w A c D T ct R i:=fp h.I0 (et S w)
theorem RdF.hP:cJ w PA m.P pc:=bH h.P0 (et S w)
theorem RdF.hM:cJ w MA m.M mc:=bH h.M0 (et S w)
theorem RdF.hG:cJ w GA m.G gc:=bH h.G0 (et S w)
end
theorem jR {S:Nat->Prop} {w:World} {vs u v:Array Value} {i:Inp} {x:Nat} {m:Mst} {s t:LSt} {y:Itm} (hS:∀k,S k->k<w.heap.size) (h:fZ (aF S w) vs i x m) (hu:RL (aF S w) u s) (hv:RL (aF S w) v t) (hs:cz i) (hy:(db i x)[bD i x m]?=some y):
  ∃A c D cd T ct R cr PA pc MA mc GA gc SA sc bI oI ic B1 c1 B2 c2 dn il W0,vs=#[.slice A i.cfg.sizes.length c,M8 i.cfg.shift,M8 i.cfg.rate,M8 i.cfg.mom,M8 i.cfg.workers,M8 i.cfg.batch,M8 i.cfg.micros,M8 i.cfg.steps,M8 i.cfg.bucket,M8 i.cfg.chunk,M8 i.cfg.window,M8 i.cfg.cap,.slice D i.data.length cd,.slice T i.start.length ct,.slice R i.draws.length cr,M8 (x:Nat),.slice PA i.start.length pc,.slice MA i.start.length mc,.slice GA i.start.length gc,.slice SA m.rc.length sc,.slice (some (ar bI oI)) il ic,M8 (dn:Nat)]/\u=#[M8 (s.cap:Nat),.slice B1 s.msgs.length c1,M8 (s.recv:Nat),M8 (s.peak:Nat)]/\v=#[M8 (t.cap:Nat),.slice B2 t.msgs.length c2,M8 (t.recv:Nat),M8 (t.peak:Nat)]/\RdF S w W0 i x m s t y A c D cd T ct R cr PA pc MA mc GA gc SA sc bI oI ic B1 c1 B2 c2 dn il:=by
 obtain ⟨A,c,D,cd,T,ct,R,cr,PA,pc,MA,mc,GA,gc,SA,sc,IA,ic,rfl,Y,U,a0,O,Z,p,V,a3,L⟩:=h
 obtain ⟨B1,c1,rfl,N,a1⟩:=hu
 obtain ⟨B2,c2,rfl,a5,a2⟩:=hv
 have a4:(db i x).length<=48000000:=vW hs x (Mb _)
 obtain ⟨bI,oI,rfl,B⟩:=Gs (aW p (et S w)) hy
 have I:=(MF.1 hy).1
 obtain ⟨dn,C⟩:∃dn,bD i x m=dn:=⟨_,rfl⟩
 obtain ⟨il,H⟩:∃il,(db i x).length=il:=⟨_,rfl⟩
 rw [C] at B I
 rw [H] at a4 I
 obtain ⟨W0,Q,J,g1,g2,g3,g4,g5,k0⟩:=wW w #[.slice A i.cfg.sizes.length c,M8 i.cfg.shift,M8 i.cfg.rate,M8 i.cfg.mom,M8 i.cfg.workers,M8 i.cfg.batch,M8 i.cfg.micros,M8 i.cfg.steps,M8 i.cfg.bucket,M8 i.cfg.chunk,M8 i.cfg.window,M8 i.cfg.cap,.slice D i.data.length cd,.slice T i.start.length ct,.slice R i.draws.length cr,M8 (x:Nat),.slice PA i.start.length pc,.slice MA i.start.length mc,.slice GA i.start.length gc,.slice SA m.rc.length sc,.slice (some (ar bI oI)) il ic,M8 (dn:Nat)] #[M8 (s.cap:Nat),.slice B1 s.msgs.length c1,M8 (s.recv:Nat),M8 (s.peak:Nat)] #[M8 (t.cap:Nat),.slice B2 t.msgs.length c2,M8 (t.recv:Nat),M8 (t.peak:Nat)] Nb #[M8 0,M9,M8 0,M8 0] #[M8 0,M9,M8 0,M8 0] 106 75
 exact ⟨A,c,D,cd,T,ct,R,cr,PA,pc,MA,mc,GA,gc,SA,sc,bI,oI,ic,B1,c1,B2,c2,dn,il,W0,by rw [C,H],rfl,rfl,Q,fun o q=>⟨sb J o q,sb g1 o q,sb g2 o q,sb g3 o q,sb g4 o q,sb g5 o q⟩,k0,Y,U,a0,O,Z,p,V,a3,L,N,a5,a1,a2,H,C,hs,fun k u hu=>aw k0 (B k u hu),hS,by rw [Mg _ ap],
  fun o q=>Md o w.heap.size 20 _ _ _ (sb J o q),fun o q=>Md o w.heap.size 21 _ _ _ (sb J o q),sl J,by omega,by omega,by omega,by omega⟩
theorem uv {V h:World} {X:Nat} {B A i y o:Obj} (k:Keep (fun k=>k=X) V h) (h1:V.heap[X+1]?=some B) (p:V.heap[X+1+1]?=some A) (x:V.heap[X+1+1+1]?=some i) (u:V.heap[X+1+1+1+1]?=some y) (v:V.heap[X+1+1+1+1+1]?=some o):
  h.heap[X+1]?=some B/\h.heap[X+1+1]?=some A/\h.heap[X+1+1+1]?=some i/\h.heap[X+1+1+1+1]?=some y/\h.heap[X+1+1+1+1+1]?=some o:=
 ⟨(k.block _ (Ma h1) ap).trans h1,(k.block _ (Ma p) ap).trans p,(k.block _ (Ma x) ap).trans x,(k.block _ (Ma u) ap).trans u,(k.block _ (Ma v) ap).trans v⟩
abbrev KB3 (X:Nat) (V w:World):Prop:=Keep (fun k=>k=X+1+1+1\/k=X+1+1+1+1\/k=X+1+1+1+1+1) V w
section
variable {P:Program} {ops:Array Oper} {Q:Exit->Act->World->Prop} {X:Nat} {V:World}
theorem HA.ld3 {L:List Nat} {a:Act} {w:World} {vs u v:Array Value} {t1 t2 T:TypeId} {i o p:Oper} {D R H:TypeId} {A O N:Operand} (I:V.heap[X]?=some (.cells vs t1 (0,0))) (B:V.heap[X+1]?=some (.cells u t2 (0,0))) (J:V.heap[X+1+1]?=some (.cells v T (0,0))) (Y:cW P D vs.size) (U:cW P R u.size) (Z:cW P H v.size) (y:KB3 X V w)
  (k:HA P ops Q (KB3 X V) (2::1::0::L) (((a.put i.dst (.agg vs)).put o.dst (.agg u)).put p.dst (.agg v)) w)
  (x:ops[0]?=some i:=by (simp only [My,Mz,MB];rfl)) (ho1:ops[1]?=some o:=by (simp only [My,Mz,MB];rfl)) (ho2:ops[2]?=some p:=by (simp only [My,Mz,MB];rfl))
  (hp0:i.op=.load D A:=by rfl) (hp1:o.op=.load R O:=by rfl) (hp2:p.op=.load H N:=by rfl) (hx0:a.eval A=(au X):=by rfl) (hx1:(a.put i.dst (.agg vs)).eval O=(au (X+1)):=by rfl) (hx2:((a.put i.dst (.agg vs)).put o.dst (.agg u)).eval N=(au (X+1+1)):=by rfl)
  (g0:Region.wanted i (yielded ops a.tmps)=true:=by rfl) (g1:Region.wanted o (yielded ops (a.put i.dst (.agg vs)).tmps)=true:=by rfl) (g2:Region.wanted p (yielded ops ((a.put i.dst (.agg vs)).put o.dst (.agg u)).tmps)=true:=by rfl)
  (hs:Region.noSelect ops=true:=by decide +kernel) (hQ:∀c a w d v,Q (.panic c) (Act.put a d v) w->Q (.panic c) a w:=by (intro _ _ _ d _ h;cases d<;>exact h)) (c0:kJ ops L [0]=true:=by decide +kernel) (c1:kJ ops (0::L) [1]=true:=by decide +kernel) (c2:kJ ops (1::0::L) [2]=true:=by decide +kernel):HA P ops Q (KB3 X V) L a w:=
 HA.ld 0 vs (fun C q=>(q.block _ (Ma I) ap).trans I) Y y (HA.ld 1 u (fun C q=>(q.block _ (Ma B) ap).trans B) U y (HA.ld 2 v (fun C q=>(q.block _ (Ma J) ap).trans J) Z y k ho2 hp2 hx2 (by rw [MD,MP]) g2 hs hQ c2) ho1 hp1 hx1 (by rw [MD,MP]) g1 hs hQ c1) x hp0 hx0 (by rw [MD,MP]) g0 hs hQ c0
theorem HA.st3 {L:List Nat} {a:Act} {w:World} {vs u v z1 T z3:Array Value} {t1 t2 I:TypeId} {h o y:Oper} {R y2 Z:TypeId} {H x1 x2 v0 v1 v2:Operand} {n1 n2 O:Nat} (i j l:Nat) (b3:V.heap[X+1+1+1]?=some (.cells z1 t1 (0,0))) (b4:V.heap[X+1+1+1+1]?=some (.cells T t2 (0,0))) (b5:V.heap[X+1+1+1+1+1]?=some (.cells z3 I (0,0))) (r0:cW P R n1) (r1:cW P y2 n2) (r2:cW P Z O) (hw:aq V w)
  (k:∀p,p.heap[X+1+1+1]?=some (.cells vs t1 (0,0))->p.heap[X+1+1+1+1]?=some (.cells u t2 (0,0))->p.heap[X+1+1+1+1+1]?=some (.cells v I (0,0))->KB3 X V p->HA P ops Q (KB3 X V) (l::j::i::L) (((a.put h.dst undef).put o.dst undef).put y.dst undef) p)
  (A:ops[i]?=some h:=by (simp only [My,Mz,MB];rfl)) (ho1:ops[j]?=some o:=by (simp only [My,Mz,MB];rfl)) (ho2:ops[l]?=some y:=by (simp only [My,Mz,MB];rfl))
  (hp0:h.op=.store R H v0:=by rfl) (hp1:o.op=.store y2 x1 v1:=by rfl) (hp2:y.op=.store Z x2 v2:=by rfl) (hx0:a.eval H=(au (X+1+1+1)):=by rfl) (hx1:(a.put h.dst undef).eval x1=(au (X+1+1+1+1)):=by rfl) (hx2:((a.put h.dst undef).put o.dst undef).eval x2=(au (X+1+1+1+1+1)):=by rfl)
  (hv0:a.eval v0=.agg vs:=by rfl) (hv1:(a.put h.dst undef).eval v1=.agg u:=by rfl) (hv2:((a.put h.dst undef).put o.dst undef).eval v2=.agg v:=by rfl)
  (e0:vs.size=n1:=by rfl) (e1:u.size=n2:=by rfl) (e2:v.size=O:=by rfl) (f0:z1.size=vs.size:=by rfl) (f1:T.size=u.size:=by rfl) (f2:z3.size=v.size:=by rfl) (l0:vs.toList.all (·.oneCell')=true:=by rfl) (l1:u.toList.all (·.oneCell')=true:=by rfl) (l2:v.toList.all (·.oneCell')=true:=by rfl)
  (d0:cY ops L=[i]:=by decide +kernel) (d1:cY ops (i::L)=[j]:=by decide +kernel) (d2:cY ops (j::i::L)=[l]:=by decide +kernel)
  (g0:Region.wanted h (yielded ops a.tmps)=true:=by rfl) (g1:Region.wanted o (yielded ops (a.put h.dst undef).tmps)=true:=by rfl) (g2:Region.wanted y (yielded ops ((a.put h.dst undef).put o.dst undef).tmps)=true:=by rfl):HA P ops Q (KB3 X V) L a w:=by
 have q:KB3 X V w:=Keep.below hw
 refine HA.st i (sb b3 w hw) r0 (fun w6 Y D=>?_) A hp0 hx0 hv0 e0 f0 l0 d0 g0
 have U:KB3 X V w6:=q.trans (D.mono fun k _ e=>.inl e)
 refine ⟨U,HA.st j ((D.block _ (Ma (sb b4 w hw)) ap).trans (sb b4 w hw)) r1 (fun w7 N C=>?_) ho1 hp1 hx1 hv1 e1 f1 l1 d1 g1⟩
 have J:KB3 X V w7:=U.trans (C.mono fun k _ e=>.inr (.inl e))
 have x:=(D.block _ (Ma (sb b5 w hw)) ap).trans (sb b5 w hw)
 refine ⟨J,HA.st l ((C.block _ (Ma x) ap).trans x) r2 (fun w8 e8 B=>?_) ho2 hp2 hx2 hv2 e2 f2 l2 d2 g2⟩
 have q8:KB3 X V w8:=J.trans (B.mono fun k _ e=>.inr (.inr e))
 have c3:=(C.block _ (Ma Y) ap).trans Y
 exact ⟨q8,k w8 ((B.block _ (Ma c3) ap).trans c3) ((B.block _ (Ma N) ap).trans N) e8 q8⟩
end
theorem jQ {w V o i:World} (p:Keep (fun k=>k=w.heap.size) V o) (v:KB3 w.heap.size o i) (h:aq w V):Keep (fun k=>w.heap.size<=k/\k<w.heap.size+6) V i/\aq w i:=
 have k:Keep (fun k=>w.heap.size<=k/\k<w.heap.size+6) V i:=(p.mono fun k _ e=>ap).trans (v.mono fun k _ e=>by rcases e with e | e | e<;>omega)
 ⟨k,h.trans (k.toBelow h.size (fun j u=>u.1))⟩
theorem zw {w:World} {vs:Array Value} {i:Inp} {x:Nat} {m:Mst} {s t:LSt} {u v:Array Value} {S:Nat->Prop} (hS:∀k,S k->k<w.heap.size) (h:fZ (aF S w) vs i x m) (hu:RL (aF S w) u s) (hv:RL (aF S w) v t) (hs:cz i) {y:Itm} (hy:(db i x)[bD i x m]?=some y) (k1 k2:Int) (b0 b1:Bool) (i0 i1 i2 i3 i4 i5 i6:Int) (a3:aZ y=[M8 2,M8 k1,M8 k2,.bool b0,.bool b1,M8 i0,M8 i1,M8 i2,M8 i3,M8 i4,M8 i5,M8 i6])
  (m1:Mst) (h1:m1.P=m.P/\m1.M=m.M/\m1.G=m.G/\m1.rc=m.rc) (L:bD i x m1=bD i x m+1):
  Calls prog 89 #[.agg vs,.agg u,.agg v] w (fun e w'=>no S i x m1 (s) (t) 0 w e w'):=by
 obtain ⟨A,c,D,cd,T,ct,R,cr,PA,pc,MA,mc,GA,gc,SA,sc,bI,oI,ic,B1,c1,B2,c2,dn,il,W0,rfl,rfl,rfl,H⟩:=jR hS h hu hv hs hy
 have J:=H.rw'
 rw [a3] at J
 rw [H.dn'] at L
 obtain ⟨ao,H1,a7⟩:=af J h1 L
 obtain ⟨b9,b8,tl,aR,a8,b7,ab⟩:=H.loc
 have q0:=br W0
 clear h hu hv hs hy a3 hS h1 L J
 go_enter func89,ntmps89
 go_upto_region 1 with (fail)
 rw [H.eW]
 go_upto_region 4 with (first | (refine jH ao.o iS rfl rfl rfl ?_) | (refine aI (Mc _ _) iS rfl rfl rfl rfl rfl rfl rfl ?_;intro W3 e3 k3;obtain ⟨E3,K3⟩:=ae e3 (aK k3);clear e3 k3))
 clear b9 b8 tl q0 aR a8 b7 ab
 go_upto_region 5 with (first | (refine aT #[M8 i5,M8 i6] (b:=W0.heap.size) E3.o fO rfl rfl rfl rfl ?_) | (refine aI (Mc _ _) fO rfl rfl rfl rfl rfl rfl rfl ?_;intro W4 e4 k4;obtain ⟨E4,K4⟩:=ae e4 (aK k4);clear e4 k4))
 have y0:W4.cell? (ar W0.heap.size 0)=some (M8 2):=Md W4 _ 0 _ _ _ (sb E3.o _ K4.o)
 have a4:=aa (bt K3.o K4.o)
 go_upto_region 28 with (fail)
 obtain ⟨p,I,Q,C,N,U⟩:=H.bx _ a4.o
 have O:=H.K.trans (a4.o.mono H.K.size)
 obtain ⟨V,hV⟩:∃V,W4=V:=⟨_,rfl⟩
 rw [hV] at p I Q C N U O ⊢
 clear hV y0
 have aG:=Md V w.heap.size 21 _ _ _ p
 have a6:=Mk V w.heap.size 21 _ _ p
 have lM:=Ma p
 have aM:=H.wd
 have e9:=ss (i:=21) (v:=M8 ((dn:Int)+1)) p rfl
 have k9:Keep (fun k=>k=w.heap.size) V (V.setCell (ar w.heap.size 21) (M8 ((dn:Int)+1))):=Keep.setCell (S:=fun k=>k=w.heap.size) (Keep.refl _ _) _ (.inr rfl) _
 obtain ⟨E9,K9,ad,av,b6,aP,a9,bb⟩:=ak e9 k9 I Q C N U O;clear e9 k9 I Q C N U O p
 go_upto_region 29 with (fail)
 obtain ⟨Y,a0⟩:∃Y,V.setCell (ar w.heap.size 21) (M8 ((dn:Int)+1))=Y:=⟨_,rfl⟩
 rw [a0] at E9 K9 ⊢
 clear a0 aG a6 lM aM
 obtain ⟨b1,b2,b3,b4,b5⟩:=uv K9.o ad.o av.o b6.o aP.o a9.o
 have hq:aq Y Y.drew:=(br Y).drew
 refine HA.g (KB3 w.heap.size Y) ?_
 refine HA.ld3 (vs:=#[.slice A i.cfg.sizes.length c,M8 i.cfg.shift,M8 i.cfg.rate,M8 i.cfg.mom,M8 i.cfg.workers,M8 i.cfg.batch,M8 i.cfg.micros,M8 i.cfg.steps,M8 i.cfg.bucket,M8 i.cfg.chunk,M8 i.cfg.window,M8 i.cfg.cap,.slice D i.data.length cd,.slice T i.start.length ct,.slice R i.draws.length cr,M8 (x:Nat),.slice PA i.start.length pc,.slice MA i.start.length mc,.slice GA i.start.length gc,.slice SA m.rc.length sc,.slice (some (ar bI oI)) il ic,M8 (dn+1)]) E9.o b1 b2 dM bP bP (Keep.below hq) ?_
 refine HA.st3 3 4 5 b3 b4 b5 dM bP bP hq (fun w8 r3 r4 e8 q8=>?_)
 refine HA.t ?_ [6] q8 ?_
 refine HA.d ?_
 obtain ⟨R3,R4,R5⟩:=af r3 r4 e8
 have F:=jQ K9.o q8 bb.o
 obtain ⟨bd,QW⟩:=ae F.1 F.2;clear b1 b2 b3 b4 b5 e8 q8 r3 r4 hq F
 go_wp2_with fail
 refine Mp (fg rfl rfl rfl rfl R3.o R4.o R5.o dM bP bP) rfl ?_
 have B:Ext (aF S w) (aF S w8):=bE (Keep.below QW.o) (fun _ _ h=>h)
 obtain ⟨Z,a2,a5,a1⟩:=H1.o
 exact ⟨_,_,_,rfl,rfl,rfl,⟨A,c,D,cd,T,ct,R,cr,PA,pc,MA,mc,GA,gc,SA,sc,some (ar bI oI),ic,by rw [H.il',a7.o,a1];push_cast;rfl,fp H.I0 B,by rw [Z];exact bH H.P0 B,by rw [a2];exact bH H.M0 B,by rw [a5];exact bH H.G0 B,by rw [a1];exact er cN H.R0 B,aW H.It0 B,by rw [Z];exact H.Pl,by rw [a2];exact H.Ml,by rw [a5];exact H.Gl⟩,⟨B1,c1,rfl,cV H.s0 B,H.s2⟩,⟨B2,c2,rfl,cV H.t0 B,H.t2⟩,QW.o⟩
theorem Bc:cW prog 128 4:=⟨⟨_,underlying128,rfl⟩,by kernel_rfl⟩
theorem rz (A:Option Addr) (l:List Int) (c k i:Nat) (w:World) (hA:Rd w A (aB .i64 l)) (hc:l.length<=c) (hl:l.length<=1048576) (hn:0<l.length) (hk:1<=k) (O:k<=1048576) (N:i<k):
  Calls prog 163 #[.slice A l.length c,M8 i,M8 k] w (yz (cT l k i) (cT l k i).length w):=by
 have u:=tV l.length k w hk O hl
 obtain ⟨b,o,rfl,_⟩:=hA.num hn
 have x:=ju l hk N
 have L:cT l k i=(l.drop (bdN l.length k i)).take (bdN l.length k (i+1)-bdN l.length k i):=rfl
 have h1:=pB l.length k (Nat.le_succ i)
 have Y:=fM l.length k (i+1) hk N
 have hg:=dV (l:=fJ l.length k) (j:=i) (by rw [fA];exact N)
 have hr:aL (fJ l.length k) i=(bdN l.length k i,bdN l.length k (i+1)):=by
  rw [cP _ _ (by rw [fA];exact N)];simp [fJ]
 rw [hr] at hg
 rw [x]
 obtain ⟨P,hP⟩:∃P,cT l k i=P:=⟨_,rfl⟩
 obtain ⟨lo,H⟩:∃lo,bdN l.length k i=lo:=⟨_,rfl⟩
 obtain ⟨h,y⟩:∃h,bdN l.length k (i+1)=h:=⟨_,rfl⟩
 simp only [Nat.succ_eq_add_one] at h1
 rw [hP] at L ⊢
 rw [H,y] at L h1 hg ⊢
 rw [y] at Y
 obtain ⟨V,hV⟩:∃V,aN (fJ l.length k)=V:=⟨_,rfl⟩
 rw [hV] at u hg
 obtain ⟨n,D⟩:∃n,l.length=n:=⟨_,rfl⟩
 rw [D] at u hc hl hn Y ⊢
 have a4:(i:Int)<k:=ap
 have a3:¬(i:Int)<0:=ap
 obtain ⟨R,Q,Z,HP⟩:=ag u hA hg L;clear u hA hg L hr x hP H y D hV
 go_enter func163,ntmps163
 go_wp2_with fail
 refine R.o.mono ?_
 rintro e C ⟨v,rfl,ov,U⟩
 obtain ⟨g,cv,rfl,_⟩:=ov.form ap
 have c0:=ov.cellAt (i*2) ap
 have c1:=ov.cellAt (i*2+1) ap
 rw [Z.o.1] at c0
 rw [Z.o.2] at c1
 have lg:=(ov.lt g rfl).2
 have t0:∀p,aq C p->p.cell? (ar g (i*2))=some (M8 (lo:Nat)):=fun p q=>aw q c0
 have t1:∀p,aq C p->p.cell? (ar g (i*2+1))=some (M8 (h:Nat)):=fun p q=>aw q c1
 have J:=aa U
 have B:=(br C).drew
 have a5:(lo:Int)<=h:=ap
 have a6:(h:Int)<=c:=ap
 have a0:lo<=h:=ap
 have a1:h<=c:=ap
 have a2:¬(k:Int)<=i:=ap
 clear ov U c0 c1
 go_upto_region 4 with (fail)
 by_cases T:c=lo
 ·subst T
  obtain rfl:h=c:=ap
  refine HA.g (fun p:World=>aq C p) ?_
  refine HA.t ?_ [0,1,2,3,4,5,6,7,8,9,10,11,12] B ?_
  refine HA.d ?_
  have I:=aa (J.o.trans (B.mono J.o.size));clear B t0 t1
  go_wp2_with fail
  go_ret
  refine ⟨some (ar b o),0,by rw [Nat.sub_self];rfl,by omega,?_,I.o⟩
  rw [HP.o,Nat.sub_self,List.take_zero]
  exact Rd.nil _ _
 ·refine HA.g (fun p:World=>aq C p) ?_
  refine HA.t ?_ [0,1,2,3,4,5,6,7,8,9,10,11,12] B ?_
  refine HA.d ?_
  have I:=aa (J.o.trans (B.mono J.o.size));clear B t0 t1
  go_wp2_with fail
  go_ret
  refine ⟨_,_,rfl,by omega,?_,I.o⟩
  have:=((Q.o.below I.o).drop lo).take (h-lo)
  rwa [di,dd,<-HP.o] at this
theorem yZ (n b steps t W x E c:Nat) (A:Option Addr) (l:List Int) (w:World) (hA:dA zB 1 w A (iU l n E)) (Y:E=epN n b steps) (hb:1<=b) (C:b<=n) (hn:n<=1048576) (J:steps<=1048576) (ht:t<steps) (hW:1<=W) (a0:W<=b) (hx:x<W):
  Calls prog 164 #[.agg #[M8 n,M8 b,M8 steps,.slice A E c],M8 t,M8 x,M8 W] w (yz (cT (dx l n b t) W x) (cT (dx l n b t) W x).length w):=by
 have i:=iq l (t:=t) (Nat.div_pos C hb)
 have p:=fun v (q:aq w v)=>zy n b steps t E c A l v (hA.below tF q) hb C hn J ht Y
 obtain ⟨B,hB⟩:∃B,dx l n b t=B:=⟨_,rfl⟩
 rw [hB] at i p ⊢
 have h:=fun A c v (hA:Rd v A (aB .i64 B)) (hc:B.length<=c)=>rz A B c W x v hA hc ap ap hW ap hx
 obtain ⟨Q,T⟩:∃Q,cT B W x=Q:=⟨_,rfl⟩
 rw [T] at h ⊢
 rw [i] at h
 obtain ⟨H,u⟩:∃H,Q.length=H:=⟨_,rfl⟩
 rw [u] at h ⊢
 have U:=Mc w (.cells #[M8 n,M8 b,M8 steps,.slice A E c] 128)
 have L:=(br w).alloc (Mb _) (.cells #[M8 n,M8 b,M8 steps,.slice A E c] 128)
 obtain ⟨N,I,G0,V⟩:=ag (p _ L) h U L;clear p h U L hA u T hB i Y
 go_enter func164,ntmps164
 go_wp2_with (refine aT #[M8 n,M8 b,M8 steps,.slice A E c] (b:=w.heap.size) G0.o Bc rfl rfl rfl rfl ?_)
 refine N.o.mono ?_
 rintro e w1 ⟨A1,c1,rfl,D,R,O⟩
 obtain ⟨H1,K1⟩:=ae (I.o A1 c1 w1 R D) (V.o.trans (O.mono V.o.size));clear D R O
 go_wp2_with fail
 refine H1.o.mono ?_
 rintro e w2 ⟨A2,c2,rfl,y,Z,k2⟩
 have HF:=aa (⟨A2,c2,rfl,y,Z,bt K1.o k2⟩:yz Q H w (.returned (.slice A2 H c2)) w2);clear y Z k2
 go_wp2_with fail
 go_ret
 exact HF.o
theorem zj (n b steps t W x mi a E c:Nat) (A:Option Addr) (l:List Int) (w:World) (hA:dA zB 1 w A (iU l n E)) (hE:E=epN n b steps) (hb:1<=b) (I:b<=n) (hn:n<=1048576) (R:steps<=1048576) (ht:t<steps) (T:1<=W) (a0:W<=b) (hx:x<W) (hm:1<=mi) (V:mi<=1048576) (ha:a<mi):
  Calls prog 133 #[.agg #[M8 n,M8 b,M8 steps,.slice A E c],M8 t,M8 x,M8 W,M8 a,M8 mi] w (yz (ik (dx l n b t) W x mi a) (ik (dx l n b t) W x mi a).length w):=by
 have a1:1<=n/b:=Nat.div_pos I hb
 have u:=iq l (t:=t) a1
 have i:=fun v (q:aq w v)=>yZ n b steps t W x E c A l v (hA.below tF q) hE hb I hn R ht T a0 hx
 obtain ⟨B,hB⟩:∃B,dx l n b t=B:=⟨_,rfl⟩
 rw [hB] at u i ⊢
 have hP:=ju B T hx
 have N:bdN B.length W x+1<=bdN B.length W (x+1):=by
  rw [pA]
  have:1<=B.length/W:=Nat.div_pos ap ap
  unfold szE
  omega
 obtain ⟨Q,O⟩:∃Q,cT B W x=Q:=⟨_,rfl⟩
 have C:ik B W x mi a=cT Q mi a:=by unfold ik;rw [O]
 rw [O] at hP i
 have y:Q.length<=1048576:=by have:=fM B.length W (x+1) T hx;omega
 have h:=fun A c v (hA:Rd v A (aB .i64 Q)) (hc:Q.length<=c)=>rz A Q c mi a v hA hc y ap hm V ha
 rw [C]
 obtain ⟨M,hM⟩:∃M,cT Q mi a=M:=⟨_,rfl⟩
 rw [hM] at h ⊢
 obtain ⟨qn,p⟩:∃qn,Q.length=qn:=⟨_,rfl⟩
 rw [p] at i h
 obtain ⟨L,H⟩:∃L,M.length=L:=⟨_,rfl⟩
 rw [H] at h ⊢
 have g0:=Mc w (.cells #[M8 n,M8 b,M8 steps,.slice A E c] 128)
 have U:=(br w).alloc (Mb _) (.cells #[M8 n,M8 b,M8 steps,.slice A E c] 128)
 obtain ⟨Z,Y,G0,B0⟩:=ag (i _ U) h g0 U;clear h i g0 U hA hE H p hM C O hB y N hP u
 go_enter func133,ntmps133
 go_wp2_with (refine aT #[M8 n,M8 b,M8 steps,.slice A E c] (b:=w.heap.size) G0.o Bc rfl rfl rfl rfl ?_)
 refine Z.o.mono ?_
 rintro e w1 ⟨A1,c1,rfl,J,r1,k1⟩
 obtain ⟨H1,K1⟩:=ae (Y.o A1 c1 w1 r1 J) (B0.o.trans (k1.mono B0.o.size));clear J r1 k1
 go_wp2_with fail
 refine H1.o.mono ?_
 rintro e w2 ⟨A2,c2,rfl,D,r2,k2⟩
 have HF:=aa (⟨A2,c2,rfl,D,r2,bt K1.o k2⟩:yz M L w (.returned (.slice A2 L c2)) w2);clear D r2 k2
 go_wp2_with fail
 go_ret
 exact HF.o
theorem wZ (A B:Option Addr) (G v:List Int) (n m cg cv lo:Nat) (add:Bool) (w:World) (hA:Rd w A (aB .i64 G)) (hB:Rd w B (aB .i64 v)) (hn:G.length=n) (hm:v.length=m) (hb:n<=1048576) (a6:lo+m<=n):
  Calls prog 134 #[.slice A n cg,M8 (lo:Nat),.slice B m cv,.bool add] w fun e C=>∃A' Z,e=.returned (.slice A' n Z)/\C.ownsRow w.heap.size 2 1 (.slice A' n Z) n (aB .i64 (j6 G lo v add))/\aq w C:=by
 have u:=nz A G cg w hA ap
 rw [hn] at u
 unfold j6
 rw [hm]
 obtain ⟨N,HB,Hn,Hm⟩:=ag u hB hn hm;clear u hA hB hn hm
 go_enter func134,ntmps134
 go_wp2_with fail
 refine N.o.mono ?_
 rintro e w1 ⟨A1,c1,rfl,o1,J⟩
 obtain ⟨T,Y,K1⟩:=af (HB.o.below J) o1 J;clear o1 J
 go_wp2_with fail
 go_loopw [10] (fun z wr=>∃k:Nat,k<=m/\z=M8 k/\wr.ownsRow w.heap.size 2 1 (.slice A1 n c1) n (aB .i64 (tv G lo v add k))/\Keep (fun j=>(Value.slice A1 n c1).ownBlock=some j) w1 wr) (fun z _=>m-(intOf z).toNat)
 case atStart=>exact ⟨0,Mf _,rfl,by rw [uM];exact Y.o,Keep.refl _ _⟩
 case round=>
  obtain ⟨k,hk,rfl,o,y⟩:=hrel
  by_cases x:k<m
  ·obtain ⟨g,d,hv,hg,a7⟩:=o.form ap
   simp only [MR] at hv
   obtain ⟨rfl,O,rfl⟩:=hv
   clear O
   have i:lo+k<G.length:=by rw [Hn.o];omega
   have Q:=cF o (show lo+k<n by omega)
   rw [pt _ _ _ _ i,if_neg ap] at Q
   have f1:=o.frozenAt (lo+k)
   have H:=T.o
   obtain ⟨R,o2,rfl,p0⟩:=H.num (show k<v.length by rw [Hm.o];exact x)
   have U:R≠g:=fun e=>by
    have h1:w.heap.size<=g:=(Y.o.lt g rfl).1
    obtain ⟨b3,o3,e3,p3⟩:=HB.o.num (show k<v.length by rw [Hm.o];exact x)
    have h3:b3<w.heap.size:=aA p3
    cases e3
    omega
   have p2:wr.cell? (ar R (o2+k))=some (M8 (nth v k)):=y.cell p0 (by simp [Value.ownBlock];exact fun e=>U e.symm)
   have p:=yt G lo v add i
   have L:(k:Int)<m:=ap
   obtain ⟨j,V⟩:∃j,lo+k=j:=⟨_,rfl⟩
   rw [V] at Q f1 p i
   have a1:(lo:Int)+k=(j:Int):=ap
   have a2:j<n:=ap
   have a0:(j:Int)<n:=ap
   have a5:¬(j:Int)<0:=ap
   have a4:IntKind.i64.wrap (j:Int)=j:=Mg _ ap
   have a3:IntKind.i64.wrap ((k:Int)+1)=((k+1:Nat):Int):=by rw [Mg _ ap];push_cast;rfl
   obtain ⟨I,D,h⟩:=af y o p;clear y o p i p0 H
   cases add with
   | true=>
    rw [if_pos rfl] at h
    go_upto_region 6 with (fail)
    refine XA.g 16 (fun C:World=>C.cell? (ar g j)=some (M8 (nth G j))/\C.cell? (ar R (o2+k))=some (M8 (nth v k))) ?_
    refine XA.t ?_ [0,1,2,3,4,5,6,7,8,9,10,11,12,13,14,15] ⟨Q,p2⟩ ?_
    refine XA.e ?_
    simp only [MC,MD]
    go_wp2_with fail
    go_roundw
    case rel=>
     refine ⟨k+1,by omega,by go_num,?_,?_⟩
     ·rw [<-h.o];exact dQ (bT D.o 1) j _
     ·exact Keep.setCell (I.o.drewN 1) (ar g j) (.inr rfl) _
    case measure=>simp [intOf];omega
   | false=>
    rw [if_neg (by decide)] at h
    go_wp2_with fail
    go_roundw
    case rel=>
     refine ⟨k+1,by omega,by go_num,?_,?_⟩
     ·rw [<-h.o];exact dQ D.o j _
     ·exact Keep.setCell I.o (ar g j) (.inr rfl) _
    case measure=>simp [intOf];omega
  ·obtain rfl:k=m:=ap
   have L:¬(k:Int)<k:=ap
   obtain ⟨HO,I⟩:=ae o (K1.o.trans (y.toBelow K1.o.size (fun j V=>(Y.o.lt j V).1)));clear o y
   go_wp2_with fail
   go_ret
   exact ⟨_,_,rfl,HO.o,I.o⟩
theorem AH {a b c:List Int} (h:b.length=a.length):ff (ff a b) c=ff a (ff b c):=by
 have e:(ff a b).length=a.length:=iH _ _
 unfold ff at e ⊢
 rw [e]
 refine eF fun k hk=>?_
 rw [bS _ hk,bS _ ap]
 unfold wrap64;omega
theorem AG {a:List Int} (h:W64 a) (n:Nat):ff a (List.replicate n 0)=a:=by
 refine (fq rfl fun k hk=>?_).symm
 have e:nth (List.replicate n (0:Int)) k=0:=by
  simp only [nth,List.getD_eq_getElem?_getD,List.getElem?_replicate]
  split<;>rfl
 have:=h k hk
 rw [e,Int.add_zero]
 unfold wrap64;omega
theorem Jq {i:Inp} (hg:lK i) (x st a:Nat):(oV i x st a).length<=1048576:=by
 have o:=iq i.draws (n:=i.data.length) (b:=i.cfg.batch.toNat) (t:=st) (Nat.div_pos (by have:=hg.b.1;omega) (by have:=hg.c.ba;have:=hg.c.w;omega))
 have h1:∀(l:List Int) (k j:Nat),(cT l k j).length<=l.length:=fun l k j=>by simp only [cT,MJ,MM];omega
 have h:=h1 (cT (dx i.draws i.data.length i.cfg.batch.toNat st) i.cfg.workers.toNat x) i.cfg.micros.toNat a
 have p:=h1 (dx i.draws i.data.length i.cfg.batch.toNat st) i.cfg.workers.toNat x
 have:=hg.c.ba
 unfold oV ik
 omega
theorem Af {i:Inp} {P G:List Int} (o:W64 G) (hl:G.length=cnt i) (l:List Ex):eq i P G l=ff G (dY i P l):=by
 have h:∀(l:List Ex) (A:List Int),A.length=G.length->eq i P (ff G A) l=ff G (l.foldl (fun a x=>ff a (gW i.cfg.sizes P i.cfg.shift x.1 x.2)) A):=by
  intro l
  induction l with
  | nil=>intro A _;rfl
  | cons x l ih=>
   intro A hA
   show eq i P (ff (ff G A) _) l=_
   rw [AH hA,List.foldl_cons]
   exact ih _ (by rw [iH];exact hA)
 have:=h l (List.replicate (cnt i) 0) (by rw [ML,hl])
 rw [AG o] at this
 exact this
theorem Dn {ra h q:Int} {ps ms g:List Int} {lo n k:Nat} (hk:k<n) (i:lo+n<=ps.length) (hm:lo+n<=ms.length):nth (rT ra h q ((ps.drop lo).take n) ((ms.drop lo).take n) g) k=lL ra q (nth ps (lo+k)) (eO h q (nth ms (lo+k)) (nth g k)):=by
 unfold rT
 rw [bS _ (by simp only [MJ,MM];omega),eT hk,eT hk,eU,eU]
theorem uo {h q:Int} {ms g:List Int} {lo n k:Nat} (hk:k<n) (hm:lo+n<=ms.length):nth (rU h q ((ms.drop lo).take n) g) k=eO h q (nth ms (lo+k)) (nth g k):=by
 unfold rU
 rw [bS _ (by simp only [MJ,MM];omega),eT hk,eU]
theorem Fx {w:World} {vs:Array Value} {i:Inp} {x:Nat} {m:Mst} {s t:LSt} {u v:Array Value} {S:Nat->Prop} (hS:∀k,S k->k<w.heap.size) (h:fZ (aF S w) vs i x m) (hu:RL (aF S w) u s) (hv:RL (aF S w) v t) (hs:cz i) {y:Itm} (hy:(db i x)[bD i x m]?=some y) (k1 k2:Int) (b0 b1:Bool) (i0 i1 i2 i3 i4 i5 i6:Int) (bo:aZ y=[M8 1,M8 k1,M8 k2,.bool b0,.bool b1,M8 i0,M8 i1,M8 i2,M8 i3,M8 i4,M8 i5,M8 i6]) (st a:Nat) (bv:k1=(st:Nat)) (b8:k2=(a:Nat)) (d0:st<i.cfg.steps.toNat) (ha:a<i.cfg.micros.toNat) (ds:x<i.cfg.workers.toNat)
  (m1:Mst) (h1:m1.P=m.P/\m1.M=m.M/\m1.G=eq i m.P m.G (dI i.data (oV i x st a))/\m1.rc=m.rc) (aG:bD i x m1=bD i x m+1):
  Calls prog 89 #[.agg vs,.agg u,.agg v] w (fun e p=>no S i x m1 (s) (t) 0 w e p):=by
 obtain ⟨dc,e1⟩:=ae bv b8;clear bv b8
 obtain ⟨A,c,D,cd,T,ct,R,cr,PA,pc,MA,mc,GA,gc,SA,sc,bI,oI,ic,B1,c1,B2,c2,dn,il,L,rfl,rfl,rfl,H⟩:=jR hS h hu hv hs hy
 have ad:=H.rw'
 rw [bo] at ad
 rw [H.dn'] at aG
 obtain ⟨cM,H1,cb⟩:=af ad h1 aG
 obtain ⟨dG,dv,tl,d5,cj,dp,cs⟩:=H.loc
 have q0:=br L
 clear h hu hv hs hy bo hS h1 aG ad
 go_enter func89,ntmps89
 go_upto_region 1 with (fail)
 rw [H.eW]
 go_upto_region 4 with (first | (refine jH cM.o iS rfl rfl rfl ?_) | (refine aI (Mc _ _) iS rfl rfl rfl rfl rfl rfl rfl ?_;intro W3 e3 k3;obtain ⟨E3,K3⟩:=ae e3 (aK k3);clear e3 k3))
 clear dG dv tl q0 d5 cj dp cs
 go_upto_region 5 with (first | (refine aT #[M8 i5,M8 i6] (b:=L.heap.size) E3.o fO rfl rfl rfl rfl ?_) | (refine aI (Mc _ _) fO rfl rfl rfl rfl rfl rfl rfl ?_;intro W4 e4 k4;obtain ⟨E4,K4⟩:=ae e4 (aK k4);clear e4 k4))
 have y0:W4.cell? (ar L.heap.size 0)=some (M8 1):=Md W4 _ 0 _ _ _ (sb E3.o _ K4.o)
 have bs:=aa (bt K3.o K4.o);have bf:=aa (H.bx _ bs.o).1;have dr:=aa (sb E3.o _ K4.o)
 go_upto_region 8 with (first | (refine aT #[.slice A i.cfg.sizes.length c,M8 i.cfg.shift,M8 i.cfg.rate,M8 i.cfg.mom,M8 i.cfg.workers,M8 i.cfg.batch,M8 i.cfg.micros,M8 i.cfg.steps,M8 i.cfg.bucket,M8 i.cfg.chunk,M8 i.cfg.window,M8 i.cfg.cap] (b:=w.heap.size) bf.o yW rfl rfl rfl rfl ?_) | (refine aI (Mc _ _) yW rfl rfl rfl rfl rfl rfl rfl ?_;intro O e5 k5;obtain ⟨E5,K5⟩:=ae e5 (aK k5);clear e5 k5))
 have a9:=aa (bt bs.o K5.o)
 have a2:=H.K.trans (a9.o.mono H.K.size)
 have q5:=(br O).drew
 have kM:=fun p (q:aq O p)=>sb (sb bf.o _ K5.o) p q
 have kX:=fun p (q:aq O p)=>sb (sb dr.o _ K5.o) p q
 have cy:∀p,aq O p->p.cell? (ar w.heap.size 15)=some (M8 (x:Nat)):=fun p q=>Md p _ 15 _ _ _ (kM p q)
 have x1:∀p,aq O p->p.cell? (ar L.heap.size 1)=some (M8 (st:Nat)):=fun p q=>by rw [<-dc.o];exact Md p _ 1 _ _ _ (kX p q)
 have x2:∀p,aq O p->p.cell? (ar L.heap.size 2)=some (M8 (a:Nat)):=fun p q=>by rw [<-e1.o];exact Md p _ 2 _ _ _ (kX p q)
 have c4:∀p,aq O p->p.cell? (ar W4.heap.size 4)=some (M8 i.cfg.workers):=fun p q=>Md p _ 4 _ _ _ (sb E5.o p q)
 have c6:∀p,aq O p->p.cell? (ar W4.heap.size 6)=some (M8 i.cfg.micros):=fun p q=>Md p _ 6 _ _ _ (sb E5.o p q)
 have hg:=H.s'.g
 have ej:1<=i.cfg.batch:=by have:=hg.c.w;have:=hg.c.ba;omega
 have eW:((i.cfg.workers.toNat:Nat):Int)=i.cfg.workers:=by have:=hg.c.w;omega
 have eM:((i.cfg.micros.toNat:Nat):Int)=i.cfg.micros:=by have:=hg.c.mi;omega
 have eB:((i.cfg.batch.toNat:Nat):Int)=i.cfg.batch:=ap
 have eS:((i.cfg.steps.toNat:Nat):Int)=i.cfg.steps:=by have:=hg.c.st;omega
 have U:=fun p (q:aq O p)=>H.hI.below (a2.trans (q.mono a2.size))
 have bn:=fun p (q:aq O p)=>wE A c D cd T ct R cr i p hg (U p q).r (U p q).rl (U p q).ru
 have Z:=fun p A' c' (hA:dA zB 1 p A' (iU i.draws i.data.length (epI i)))=>zj i.data.length i.cfg.batch.toNat i.cfg.steps.toNat st i.cfg.workers.toNat x i.cfg.micros.toNat a (epI i) c' A' i.draws p hA rfl ap (by have:=hg.b;omega) hg.b.2 (by have:=hg.c.st;omega) d0 (by have:=hg.c.w;omega) (by have:=hg.c.ba;omega) ds (by have:=hg.c.mi;omega) (by have:=hg.c.mi;omega) ha
 rw [eW,eM,eB,eS] at Z
 have C:=xH hg x st a
 have a5:ik (dx i.draws i.data.length i.cfg.batch.toNat st) i.cfg.workers.toNat x i.cfg.micros.toNat a=oV i x st a:=rfl
 rw [a5] at Z
 have Q:=Jq hg x st a
 obtain ⟨B,I⟩:∃B,oV i x st a=B:=⟨_,rfl⟩
 rw [I] at Z C Q
 obtain ⟨e2,cw,av,bh,dw,aR,KM,N⟩:=ak bn Z C I U Q kM a2;clear bn Z C I a5 U Q kM kX eW eM eB eS a2 y0
 refine HA.g (fun p:World=>aq O p) ?_
 refine HA.t ?_ [0,3,4,5,6,7,8,9,10,11,12] q5 ?_
 refine HA.ld 1 (aQ A c D cd T ct R cr i) (fun p q=>KM.o p q) ie q5 ?_
 refine HA.c 2 (e2.o _ q5) ?_
 rintro e w6 ⟨A6,cn,rfl,⟨ei,o6⟩,k6⟩
 have q6:=q5.trans (k6.mono q5.size)
 refine ⟨_,rfl,q6,fun _=>?_⟩
 refine HA.c 13 (cw.o w6 A6 cn (o6.rd hg.b.2)) ?_
 rintro e w7 ⟨A7,c7,rfl, -,r7,k7⟩
 have q7:=q6.trans (k7.mono q6.size)
 refine ⟨_,rfl,q7,fun _=>?_⟩
 refine HA.t ?_ [14] q7 ?_
 refine HA.d ?_
 have q8:aq O w7.drew:=q7.drew
 have a1:=dw.o w7 q7
 have a4:=N.o.trans (q7.mono N.o.size)
 have ao:=H.hP.below a4
 have bN:=wK A c D cd T ct R cr i PA A7 m.P B i.start.length pc c7 w7 a1.c.hr (by have:=a1.c;exact this.hc) a1.d hg ao.hr H.Pl hg.s.symm ao.hw r7 (by have:=aR.o;omega)
 have a3:=KM.o w7 q7
 have d8:=Md w7 w.heap.size 16 _ _ _ a3
 have eb:=Ma a3
 obtain ⟨cv,bM,Q7⟩:=af bN a3 q7;clear q5 q6 q7 q8 k6 k7 o6 r7 cy x1 x2 c4 c6 bN a3 a1 ao a4
 go_wp2_with (refine aT (aQ A c D cd T ct R cr i) (b:=w.heap.size) bM.o ie rfl rfl rfl rfl ?_)
 refine cv.o.mono ?_
 rintro e w8 ⟨k8,⟨-,v8,rfl,o8⟩ | ⟨cA, -⟩⟩
 rotate_left
 ·exact absurd av.o cA
 obtain ⟨A8,c8,rfl, -⟩:=aC o8
 have a0:=sb bM.o _ k8
 have cx:=Md w8 w.heap.size 18 _ _ _ a0
 have bl:=Mk w8 w.heap.size 18 _ _ a0
 have d7:=Ma a0
 have q8:=Q7.o.trans (k8.mono Q7.o.size)
 have a7:=N.o.trans (q8.mono N.o.size)
 have ab:(dY i m.P (dI i.data B)).length=i.start.length:=by rw [iF,hg.s]
 rw [<-hg.s] at o8 ⊢
 have aM:=wZ GA A8 m.G (dY i m.P (dI i.data B)) i.start.length i.start.length gc c8 0 true w8 (H.hG.below a7).hr (Rd.own o8) H.Gl ab (by have:=H.s'.n;omega) ap
 rw [show ((0:Nat):Int)=0 from rfl] at aM
 obtain ⟨dk,da,Q8,e7⟩:=ag aM a0 q8 ab;clear aM a0 o8 k8 q8 a7 d8 eb ab
 go_wp2_with fail
 refine dk.o.mono ?_
 rintro e w9 ⟨A9,c9,rfl,o9,k9⟩
 have Y:=sb da.o _ k9
 have cf:=Md w9 w.heap.size 18 _ _ _ Y
 have bl:=Mk w9 w.heap.size 18 _ _ Y
 have e6:=Ma Y
 have aP:=Q8.o.trans (k9.mono Q8.o.size)
 have a6:=N.o.trans (aP.mono N.o.size)
 have bO:=a6
 have eG:j6 m.G 0 (dY i m.P (dI i.data B)) true=eq i m.P m.G (dI i.data B):=by rw [If (by rw [e7.o,H.Gl]),Af H.hG.hw (by rw [H.Gl,hg.s])]
 rw [eG] at o9
 obtain ⟨O9,d6,bb,ea,ec⟩:=ah o9 Y bO aP eG;clear o9 Y bO a6 cx d7 k9 aP eG
 go_upto_region 28 with (fail)
 have J:=ss (i:=18) (v:=.slice A9 i.start.length c9) d6.o rfl
 have kk:Keep (fun k=>k=w.heap.size) w9 (w9.setCell (ar w.heap.size 18) (.slice A9 i.start.length c9)):=Keep.setCell (S:=fun k=>k=w.heap.size) (Keep.refl _ _) _ (.inr rfl) _
 obtain ⟨V,hV⟩:∃V,w9.setCell (ar w.heap.size 18) (.slice A9 i.start.length c9)=V:=⟨_,rfl⟩
 rw [hV] at J kk ⊢
 have a8:=bt a9.o ea.o
 have hb:=fun {b:Nat} {o:Obj} (h:L.heap[b]?=some o) (hne:b≠w.heap.size)=>(kk.block b (Ma (sb h _ a8)) hne).trans (sb h _ a8)
 have bd:=hb (H.bx _ (br L)).2.1 ap
 have bG:=hb (H.bx _ (br L)).2.2.1 ap
 have b9:=hb (H.bx _ (br L)).2.2.2.1 ap
 have bz:=hb (H.bx _ (br L)).2.2.2.2.1 ap
 have bV:=hb (H.bx _ (br L)).2.2.2.2.2 ap
 have bA:=bb.o.trans (kk.toBelow bb.o.size (fun j hj=>by rw [hj];exact Mb _))
 have cc:=aa kk
 have ee:w.heap.size+6<=L.heap.size:=by have:=Ma (H.bx _ (br L)).2.2.2.2.2;omega
 have HO:=aa (aE O9.o (show w.heap.size+6<=w8.heap.size by have:=a9.o.size;have:=Q8.o.size;omega));clear hV cf bl e6 kk hb a8
 have d2:=Md V w.heap.size 21 _ _ _ J
 have bX:=Mk V w.heap.size 21 _ _ J
 have lM:=Ma J
 have d3:=H.wd
 have e9:=ss (i:=21) (v:=M8 ((dn:Int)+1)) J rfl
 have k9:Keep (fun k=>k=w.heap.size) V (V.setCell (ar w.heap.size 21) (M8 ((dn:Int)+1))):=Keep.setCell (S:=fun k=>k=w.heap.size) (Keep.refl _ _) _ (.inr rfl) _
 obtain ⟨E9,K9,cL,d1,d9,d4,cl,dT⟩:=ak e9 k9 bd bG b9 bz bV bA;clear e9 k9 bd bG b9 bz bV bA J
 go_upto_region 29 with (fail)
 obtain ⟨V9,b7⟩:∃V9,V.setCell (ar w.heap.size 21) (M8 ((dn:Int)+1))=V9:=⟨_,rfl⟩
 rw [b7] at E9 K9 ⊢
 clear b7 d2 bX lM d3
 obtain ⟨b1,b2,b3,b4,b5⟩:=uv K9.o cL.o d1.o d9.o d4.o cl.o
 have hq:aq V9 V9.drew:=(br V9).drew
 refine HA.g (KB3 w.heap.size V9) ?_
 refine HA.ld3 (vs:=#[.slice A i.cfg.sizes.length c,M8 i.cfg.shift,M8 i.cfg.rate,M8 i.cfg.mom,M8 i.cfg.workers,M8 i.cfg.batch,M8 i.cfg.micros,M8 i.cfg.steps,M8 i.cfg.bucket,M8 i.cfg.chunk,M8 i.cfg.window,M8 i.cfg.cap,.slice D i.data.length cd,.slice T i.start.length ct,.slice R i.draws.length cr,M8 (x:Nat),.slice PA i.start.length pc,.slice MA i.start.length mc,.slice A9 i.start.length c9,.slice SA m.rc.length sc,.slice (some (ar bI oI)) il ic,M8 (dn+1)]) E9.o b1 b2 dM bP bP (Keep.below hq) ?_
 refine HA.st3 3 4 5 b3 b4 b5 dM bP bP hq (fun w8 r3 r4 e8 q8=>?_)
 refine HA.t ?_ [6] q8 ?_
 refine HA.d ?_
 obtain ⟨R3,R4,R5⟩:=af r3 r4 e8
 have F:=jQ K9.o q8 dT.o
 obtain ⟨co,QW⟩:=ae F.1 F.2;clear b1 b2 b3 b4 b5 e8 q8 r3 r4 hq F
 go_wp2_with fail
 refine Mp (fg rfl rfl rfl rfl R3.o R4.o R5.o dM bP bP) rfl ?_
 have oF:=co.o.own (cc.o.own HO.o (fun j hj e=>by have:=(HO.o.lt j hj).1;omega)) (fun j hj e=>by have:=(HO.o.lt j hj).1;omega)
 have ci:=aC oF
 have e0:cJ (aF S w8) A9 (eq i m.P m.G (dI i.data B)) c9:=by
  obtain ⟨A',c',e',ef⟩:=ci
  simp only [MR] at e'
  have hl:=lA (i:=i) (P:=m.P) (n:=i.start.length) (dI i.data B) m.G H.Gl
  have:=H.s'.n
  exact ⟨by omega,by omega,iD oF (fun k hk=>by have:=H.S' k hk;omega),sC _ _ _ H.hG.hw _⟩
 have hX:Ext (aF S w) (aF S w8):=bE (Keep.below QW.o) (fun _ _ h=>h)
 obtain ⟨b6,bi,bw,be⟩:=H1.o
 exact ⟨_,_,_,rfl,rfl,rfl,⟨A,c,D,cd,T,ct,R,cr,PA,pc,MA,mc,A9,c9,SA,sc,some (ar bI oI),ic,by rw [H.il',cb.o,be];push_cast;rfl,fp H.I0 hX,by rw [b6];exact bH H.P0 hX,by rw [bi];exact bH H.M0 hX,by rw [bw];exact bh.o▸e0,by rw [be];exact er cN H.R0 hX,aW H.It0 hX,by rw [b6];exact H.Pl,by rw [bi];exact H.Ml,by rw [bw];exact (lA (i:=i) (P:=m.P) (n:=i.start.length) _ m.G H.Gl)⟩,⟨B1,c1,rfl,cV H.s0 hX,H.s2⟩,⟨B2,c2,rfl,cV H.t0 hX,H.t2⟩,QW.o⟩
theorem iP.at_ {w:World} {A:Option Addr} {ms:List Msg} (h:iP w A ms) (j:Nat) (B:j<ms.length):
  ∃b o i p,A=some (ar b o)/\ql w b (o+j*6) (aO ms j).tag (.slice i (aO ms j).vals.length p)/\Rd w i (aB .i64 (aO ms j).vals):=by
 obtain ⟨rows,h1,I,H,C⟩:=h
 obtain ⟨i,p,e,hr⟩:=C j B
 have y:∀t,t<6->(List.flatten rows)[j*6+t]?=((aO ms j).tag.cells++[Value.slice i (aO ms j).vals.length p])[t]?:=fun t v=>by
  rw [mt H j t ap v,e]
 obtain ⟨b,o,rfl,c0⟩:=h1 (j*6+0) _ (y 0 ap)
 have hc:∀t u,t<6->((aO ms j).tag.cells++[Value.slice i (aO ms j).vals.length p])[t]?=some u->w.cell? (ar b (o+j*6+t))=some u:=fun t u v D=>by
  obtain ⟨J,L,x,c⟩:=h1 (j*6+t) u ((y t v).trans D)
  injection x with x;injection x with e1 e2 _
  subst e1;subst e2
  rw [MV];exact c
 exact ⟨b,o,i,p,rfl,⟨hc 0 _ ap rfl,hc 1 _ ap rfl,hc 2 _ ap rfl,hc 3 _ ap rfl,hc 4 _ ap rfl,hc 5 _ ap rfl⟩,hr⟩
theorem fw.at_ {V w:World} {A:Option Addr} {ms:List Msg} (h:fw V w A ms) (j:Nat) (B:j<ms.length):
  ∃b o i p,A=some (ar b o)/\ql w b (o+j*6) (aO ms j).tag (.slice i (aO ms j).vals.length p)/\Rd V i (aB .i64 (aO ms j).vals):=by
 obtain ⟨rows,h1,I,H,C⟩:=h
 obtain ⟨i,p,e,hr⟩:=C j B
 have y:∀t,t<6->(List.flatten rows)[j*6+t]?=((aO ms j).tag.cells++[Value.slice i (aO ms j).vals.length p])[t]?:=fun t v=>by
  rw [mt H j t ap v,e]
 obtain ⟨b,o,rfl,c0⟩:=h1 (j*6+0) _ (y 0 ap)
 have hc:∀t u,t<6->((aO ms j).tag.cells++[Value.slice i (aO ms j).vals.length p])[t]?=some u->w.cell? (ar b (o+j*6+t))=some u:=fun t u v D=>by
  obtain ⟨J,L,x,c⟩:=h1 (j*6+t) u ((y t v).trans D)
  injection x with x;injection x with e1 e2 _
  subst e1;subst e2
  rw [MV];exact c
 exact ⟨b,o,i,p,rfl,⟨hc 0 _ ap rfl,hc 1 _ ap rfl,hc 2 _ ap rfl,hc 3 _ ap rfl,hc 4 _ ap rfl,hc 5 _ ap rfl⟩,hr⟩
theorem vr (cap:Nat) (A:Option Addr) (n c r:Nat) (pk:Int) (x:Array Value) (w:World) (hr:r<=n) (hn:n<=100000000000) (u:r+cap<=n):
  Calls prog 135 #[.agg #[M8 cap,.slice A n c,M8 r,M8 pk],.agg x] w fun e i=>e=.returned (.tuple #[.agg #[M8 cap,.slice A n c,M8 r,M8 pk],M8 11])/\aq w i:=by
 have h:=fun W=>pS cap A n c r pk W ap ap
 have p:=aa h;clear h
 go_enter func135,ntmps135
 go_wp2_with fail
 go_region_held3 (fun i=>i.cell? ⟨w.heap.size,0,none⟩=some (M8 (cap:Int))/\i.cell? ⟨w.heap.size,1,none⟩=some (.slice A n c)/\i.cell? ⟨w.heap.size,2,none⟩=some (M8 (r:Int))/\i.cell? ⟨w.heap.size,3,none⟩=some (M8 pk)) (simp [go_sem,World.cell?_alloc_past, *])
  ((go_at_call 166;refine (p.o _).mono ?_;rintro e i ⟨rfl,rfl⟩))
 go_wp2_with fail
 refine Mp (v:=.tuple #[.agg #[M8 cap,.slice A n c,M8 r,M8 pk],M8 11]) (by simp [results,results135,go_sem,World.cell?_alloc_past]) rfl ⟨rfl,?_⟩
 exact am
theorem tj (cap:Int) (A:Option Addr) (n c:Nat) (pk:Int) (t:Tg) (w:World) (hn:n<=100000000000):
  Calls prog 136 #[.agg #[M8 cap,.slice A n c,M8 n,M8 pk],.agg #[M8 t.a,M8 t.b,M8 t.c,M8 t.d,M8 t.e]] w fun e p=>
   e=.returned (.tuple #[.agg #[M8 cap,.slice A n c,M8 n,M8 pk],.agg Nh,M8 12])/\aq w p:=by
 have h:=fun W=>pS cap A n c n pk W ap ap
 rw [Int.sub_self] at h
 have i:=aa h;clear h
 go_enter func136,ntmps136
 go_wp2_with fail
 refine (i.o _).mono ?_
 rintro e u ⟨rfl,rfl⟩
 go_wp2_with fail
 refine Mp (v:=.tuple #[.agg #[M8 cap,.slice A n c,M8 n,M8 pk],.agg Nh,M8 12]) (by simp [results,results136,go_sem,World.cell?_alloc_past]) rfl ⟨rfl,?_⟩
 exact am
theorem wT (cap:Int) (A:Option Addr) (ms:List Msg) (c r:Nat) (pk:Int) (t:Tg) (w:World) (h:iP w A ms) (u:r<ms.length) (hn:ms.length<=100000000000) (p:(aO ms r).tag≠t):
  Calls prog 136 #[.agg #[M8 cap,.slice A ms.length c,M8 r,M8 pk],.agg #[M8 t.a,M8 t.b,M8 t.c,M8 t.d,M8 t.e]] w fun e N=>
   e=.returned (.tuple #[.agg #[M8 cap,.slice A ms.length c,M8 r,M8 pk],.agg Nh,M8 10])/\aq w N:=by
 obtain ⟨t0,t1,t2,t3,t4⟩:=t
 obtain ⟨b,o,B,d,hA,Y,hB⟩:=h.at_ r u
 have i:=fun W=>pS cap A ms.length c r pk W ap ap
 obtain ⟨D,x⟩:∃D:Int,(ms.length:Int)-r=D:=⟨_,rfl⟩
 rw [x] at i
 have R:(D==0)=false:=by simp;omega
 generalize aO ms r=m at *
 obtain ⟨⟨u0,u1,u2,u3,u4⟩,zs⟩:=m
 obtain ⟨H,Q,O,I,L,J⟩:=Y
 dsimp only at H Q O I L J hB p ⊢
 have hb:b<w.heap.size:=aA H
 have V:b<w.heap.size+1:=ap
 have T:b<w.heap.size+1+1:=ap
 have Z:b<w.heap.size+1+1+1:=ap
 have U:b<w.heap.size+1+1+1+1:=ap
 subst hA
 obtain ⟨C,HD⟩:=ae i x;clear i x h;have y:=aa p;clear p
 go_enter func136,ntmps136
 go_wp2_with fail
 refine (C.o _).mono ?_
 rintro e w1 ⟨rfl,rfl⟩
 go_wp2_with fail
 ·exact absurd (by simp only [*]) y.o
 all_goals
  refine Mp (v:=.tuple #[.agg #[M8 cap,.slice (some (ar b o)) ms.length c,M8 r,M8 pk],.agg Nh,M8 10]) (by simp [results,results136,go_sem,World.cell?_alloc_past]) rfl ⟨rfl,?_⟩
  exact am
theorem zt (V:World) (cap:Int) (A:Option Addr) (ms:List Msg) (c r:Nat) (pk:Int) (t:Tg) (w:World) (h:fw V w A ms) (p:r<ms.length) (hn:ms.length<=100000000000) (u:(aO ms r).tag=t):
  Calls prog 136 #[.agg #[M8 cap,.slice A ms.length c,M8 r,M8 pk],.agg #[M8 t.a,M8 t.b,M8 t.c,M8 t.d,M8 t.e]] w fun e N=>
   ∃C Q,e=.returned (.tuple #[.agg #[M8 cap,.slice A ms.length c,M8 ((r+1:Nat):Int),M8 pk],.agg #[M8 t.a,M8 t.b,M8 t.c,M8 t.d,M8 t.e,.slice C (aO ms r).vals.length Q],M8 0])/\Rd V C (aB .i64 (aO ms r).vals)/\aq w N:=by
 subst u
 obtain ⟨b,o,B,d,hA,x1,hB⟩:=h.at_ r p
 have i:=fun W=>pS cap A ms.length c r pk W ap ap
 obtain ⟨D,x⟩:∃D:Int,(ms.length:Int)-r=D:=⟨_,rfl⟩
 rw [x] at i
 have a0:(D==0)=false:=by simp;omega
 generalize aO ms r=m at *
 obtain ⟨⟨T,Y,R,Z,U⟩,zs⟩:=m
 obtain ⟨H,p1,O,I,L,J⟩:=x1
 dsimp only at H p1 O I L J hB ⊢
 have hb:b<w.heap.size:=aA H
 have a3:b<w.heap.size+1:=ap
 have a1:b<w.heap.size+1+1:=ap
 have a4:b<w.heap.size+1+1+1:=ap
 have a2:b<w.heap.size+1+1+1+1:=ap
 subst hA
 obtain ⟨y,HD⟩:=ae i x;clear i x h
 go_enter func136,ntmps136
 go_wp2_with fail
 refine (y.o _).mono ?_
 rintro e w1 ⟨rfl,rfl⟩
 go_wp2_with fail
 go_region
 all_goals go_wp2_with fail
 all_goals
  refine Mp (v:=.tuple #[.agg #[M8 cap,.slice (some (ar b o)) ms.length c,M8 ((r:Int)+1),M8 pk],.agg #[M8 T,M8 Y,M8 R,M8 Z,M8 U,.slice B zs.length d],M8 0]) (by simp [results,results136,go_sem,World.cell?_alloc_past]) rfl ⟨B,d,by rw [Int.natCast_add];rfl,hB,?_⟩
  exact am
theorem Fu {w:World} {vs:Array Value} {i:Inp} {x:Nat} {m:Mst} {s t:LSt} {u v:Array Value} {S:Nat->Prop} (hS:∀k,S k->k<w.heap.size) (h:fZ (aF S w) vs i x m) (hu:RL (aF S w) u s) (hv:RL (aF S w) v t) (hs:cz i) {y:Itm} (O:(db i x)[bD i x m]?=some y) (k1 k2:Int) (b0 b1:Bool) (i0 i1 i2 i3 i4 i5 i6:Int) (bn:aZ y=[M8 3,M8 k1,M8 k2,.bool b0,.bool b1,M8 i0,M8 i1,M8 i2,M8 i3,M8 i4,M8 i5,M8 i6]) (lo Q:Nat) (be:i5=(lo:Nat)) (bb:i6=(Q:Nat)) (d7:lo<Q) (da:Q<=i.start.length) (aP:t.recv<=t.msgs.length) (a2:t.msgs.length<=100000000000) (a3:t.msgs.length<t.recv+t.cap)
  (m1:Mst) (h1:m1.P=m.P/\m1.M=m.M/\m1.G=m.G/\m1.rc=m.rc) (aM:bD i x m1=bD i x m+1):
  Calls prog 89 #[.agg vs,.agg u,.agg v] w (fun e p=>no S i x m1 (s) (t.send ⟨⟨i0,i1,i2,i3,i4⟩,(m.G.drop lo).take (Q-lo)⟩) 0 w e p):=by
 obtain ⟨c7,bV⟩:=ae be bb;clear be bb
 obtain ⟨A,c,D,cd,T,ct,R,cr,PA,pc,MA,mc,GA,gc,SA,sc,bI,oI,ic,B1,c1,B2,c2,dn,il,W0,rfl,rfl,rfl,H⟩:=jR hS h hu hv hs O
 have av:=H.rw'
 rw [bn] at av
 rw [H.dn'] at aM
 obtain ⟨cj,H1,bO⟩:=af av h1 aM
 obtain ⟨d1,d0,tl,cv,c6,cM,cf⟩:=H.loc
 have q0:=br W0
 clear h hu hv hs O bn hS h1 aM av
 go_enter func89,ntmps89
 go_upto_region 1 with (fail)
 rw [H.eW]
 go_upto_region 4 with (first | (refine jH cj.o iS rfl rfl rfl ?_) | (refine aI (Mc _ _) iS rfl rfl rfl rfl rfl rfl rfl ?_;intro W3 e3 k3;obtain ⟨E3,K3⟩:=ae e3 (aK k3);clear e3 k3))
 clear d1 d0 tl q0 cv c6 cM cf
 go_upto_region 5 with (first | (refine aT #[M8 i5,M8 i6] (b:=W0.heap.size) E3.o fO rfl rfl rfl rfl ?_) | (refine aI (Mc _ _) fO rfl rfl rfl rfl rfl rfl rfl ?_;intro B e4 k4;obtain ⟨E4,K4⟩:=ae e4 (aK k4);clear e4 k4))
 have y0:B.cell? (ar W0.heap.size 0)=some (M8 3):=Md B _ 0 _ _ _ (sb E3.o _ K4.o)
 have a6:=aa (bt K3.o K4.o)
 go_upto_region 12 with (fail)
 have cw:=aa (H.bx _ a6.o).1;have bi:=aa (H.bx _ a6.o).2.2.1;have cL:=aa (sb E3.o _ K4.o)
 have a7:=H.K.trans (a6.o.mono H.K.size)
 have d6:Q<=gc:=by have:=H.hG.hc;have:=H.Gl;omega
 obtain ⟨gb,go,rfl, -⟩:=H.hG.hr.num (show 0<m.G.length by have:=H.Gl;omega)
 have U:=(br B).drew
 have aG:∀p,aq B p->p.cell? (ar w.heap.size 18)=some (.slice (some (ar gb go)) i.start.length gc):=fun p q=>Md p _ 18 _ _ _ (sb cw.o p q)
 have x0:∀p,aq B p->p.cell? (ar W3.heap.size 0)=some (M8 (lo:Nat)):=fun p q=>by rw [<-c7.o];exact Md p _ 0 _ _ _ (sb E4.o p q)
 have x1:∀p,aq B p->p.cell? (ar W3.heap.size 1)=some (M8 (Q:Nat)):=fun p q=>by rw [<-bV.o];exact Md p _ 1 _ _ _ (sb E4.o p q)
 have dp:(lo:Int)<=Q:=ap
 have dk:(Q:Int)<=gc:=ap
 have d3:lo<=Q:=ap
 have d4:¬gc=lo:=ap
 have ad:((m.G.drop lo).take (Q-lo)).length=Q-lo:=by have:=H.Gl;rw [MJ,MM];omega
 have b7:Rd (aF S w) (some (ar gb (go+lo))) (aB .i64 ((m.G.drop lo).take (Q-lo))):=by
  have:=(H.G0.hr.drop lo).take (Q-lo)
  rwa [di,dd] at this
 have a8:=fun p (q:aq B p)=>Ja (aF S w) t.cap B2 t.msgs c2 t.recv t.peak ⟨i0,i1,i2,i3,i4⟩ (some (ar gb (go+lo))) ((m.G.drop lo).take (Q-lo)) (gc-lo) p aP a2 a3 (rV H.t0.in_ (gF (Keep.below (a7.trans (q.mono a7.size))))) b7
 rw [ad] at a8
 unfold Ce at a8
 obtain ⟨bG,cx⟩:=ae a8 a7;clear a8 b7 ad a7 y0 aP a2 a3
 go_cut [16,17] (fun v cc wx=>∃J I c5,v=(au J)/\cc=M8 0/\wx.heap[J]?=some (.cells #[M8 (t.cap:Nat),.slice I (t.msgs.length+1) c5,M8 (t.recv:Nat),M8 ((max t.peak (t.msgs.length+1-t.recv):Nat):Int)] 75 (0,0))/\fw (aF S w) wx I (t.msgs++[⟨⟨i0,i1,i2,i3,i4⟩,(m.G.drop lo).take (Q-lo)⟩])/\t.msgs.length+1<=c5/\(∀y,I=some y->B.heap.size<=y.block)/\aq B wx)
 case first=>
  refine HA.g (fun p:World=>aq B p) ?_
  refine HA.ld 0 #[M8 (t.cap:Nat),.slice B2 t.msgs.length c2,M8 (t.recv:Nat),M8 (t.peak:Nat)] (fun p q=>sb bi.o p q) bP U ?_
  refine HA.t ?_ [1,2,4,5,6,7,8,9,10] U ?_
  refine HA.ld 3 #[M8 i0,M8 i1,M8 i2,M8 i3,M8 i4] (fun p q=>sb cL.o p q) jp U ?_
  refine HA.t ?_ [11] U ?_
  refine HA.two 12 16 ?_ ?_
  ·refine HAS.c (bG.o _ U) ?_
   rintro e w5 ⟨I,c5,P5,a1,rfl,⟨L,N,C⟩,k5⟩
   have Y:=U.trans (k5.mono U.size)
   refine ⟨_,rfl,Y,fun _=>?_⟩
   refine HA.t ?_ [13,14,15] Y ?_
   refine HA.v 16 (w5.alloc (.cells #[M8 0,M9,M8 0,M8 0] 75)) ((au w5.heap.size)) (Y.alloc Y.size _) ?_
   refine HA.st 17 (Mc w5 _) bP (fun w6 e6 k6=>?_)
   have Z:=Y.trans ((aK k6).mono Y.size)
   refine ⟨Z,?_⟩
   refine HA.t ?_ [18] Z ?_
   refine HA.d ?_
   have a5:w6.heap[w5.heap.size]?=some (.cells #[M8 (t.cap:Nat),.slice I (t.msgs.length+1) c5,M8 (t.recv:Nat),M8 ((max t.peak (t.msgs.length+1-t.recv):Nat):Int)] 75 (0,0)):=(by first | exact e6 | (rw [a1] at e6;simpa using e6))
   have HF:=aa (Mj a5 (Mj (show fw (aF S w) w6 I _ from by obtain ⟨rows,z1,z2,z3,z4⟩:=L;exact ⟨rows,z1.below (aK k6),z2,z3,z4⟩) (Mj (show t.msgs.length+1<=c5 by simpa using N) (Mj (show ∀y,I=some y->B.heap.size<=y.block from fun y O=>by have:=C y O;rwa [MQ] at this) Z))));clear e6 a5 k6 Z Y U k5 L C N a1 aG x0 x1
   go_wp2_with fail
   go_meet
   exact ⟨_,I,c5,rfl,rfl,HF.o⟩
  ·refine HAS.v (B.drew.alloc (.cells #[M8 0,M9,M8 0,M8 0] 75)) ((au B.drew.heap.size)) (U.alloc U.size _) ?_
   have gA:=Mc B.drew (.cells #[M8 0,M9,M8 0,M8 0] 75)
   have a4:=U.alloc U.size (.cells #[M8 0,M9,M8 0,M8 0] 75)
   have sA:(B.drew.alloc (.cells #[M8 0,M9,M8 0,M8 0] 75)).heap.size=B.drew.heap.size+1:=Mr _ _
   obtain ⟨wa,bA⟩:∃wa,B.drew.alloc (.cells #[M8 0,M9,M8 0,M8 0] 75)=wa:=⟨_,rfl⟩
   rw [bA] at gA a4 sA ⊢
   clear bA
   refine HA.c 12 (bG.o _ a4) ?_
   rintro e w5 ⟨I,c5,P5,a1,rfl,⟨L,N,C⟩,k5⟩
   have Y:=a4.trans (k5.mono a4.size)
   refine ⟨_,rfl,Y,fun _=>?_⟩
   refine HA.t ?_ [13,14,15] Y ?_
   have bf:=sb gA _ k5
   refine HA.st 17 bf bP (fun w6 e6 k6=>?_)
   have Z:=Y.trans (k6.toBelow Y.size (fun j hj=>by have e':j=B.drew.heap.size:=hj;rw [MQ] at e';omega))
   refine ⟨Z,?_⟩
   refine HA.t ?_ [18] Z ?_
   refine HA.d ?_
   have a5:w6.heap[B.drew.heap.size]?=some (.cells #[M8 (t.cap:Nat),.slice I (t.msgs.length+1) c5,M8 (t.recv:Nat),M8 ((max t.peak (t.msgs.length+1-t.recv):Nat):Int)] 75 (0,0)):=(by first | exact e6 | (rw [a1] at e6;simpa using e6))
   have HF:=aa (Mj a5 (Mj (L.keep k6 (fun y O hk=>by have:=C y O;have e':y.block=B.drew.heap.size:=hk;omega)) (Mj (show t.msgs.length+1<=c5 by simpa using N) (Mj (show ∀y,I=some y->B.heap.size<=y.block from fun y O=>by have:=C y O;rw [sA,MQ] at this;omega) Z))));clear e6 a5 k6 Z Y U a4 k5 L C N a1 aG x0 x1 gA bf
   go_wp2_with fail
   go_meet
   exact ⟨_,I,c5,rfl,rfl,HF.o⟩
 case rest=>
 obtain ⟨J,I,c5,rfl,rfl,e6,L,N,C,Z⟩:=hcut
 obtain ⟨w6,rfl⟩:∃w6,w6=wc:=⟨_,rfl⟩
 obtain ⟨E6,Q6,bX,cb,cy⟩:=ah e6 Z L C N;clear e6 Z U L C N aG x0 x1
 have bs:=sb bi.o _ Q6.o
 go_upto_region 28 with (first | (refine aT #[M8 (t.cap:Nat),.slice I (t.msgs.length+1) c5,M8 (t.recv:Nat),M8 ((max t.peak (t.msgs.length+1-t.recv):Nat):Int)] (b:=J) E6.o bP rfl rfl rfl rfl ?_) | (refine aI bs bP rfl rfl rfl rfl rfl rfl rfl ?_;intro V eV kV;obtain ⟨EV,KV⟩:=ae eV kV;clear eV kV))
 have ab:=bt a6.o Q6.o
 have hb:=fun {b:Nat} {o:Obj} (h:W0.heap[b]?=some o) (hne:b≠w.heap.size+1+1)=>(KV.o.block b (Ma (sb h _ ab)) hne).trans (sb h _ ab)
 have a0:=hb (H.bx _ (br W0)).1 ap
 have b9:=hb (H.bx _ (br W0)).2.1 ap
 have bz:=EV.o
 have b8:=hb (H.bx _ (br W0)).2.2.2.1 ap
 have bv:=hb (H.bx _ (br W0)).2.2.2.2.1 ap
 have bM:=hb (H.bx _ (br W0)).2.2.2.2.2 ap
 have a9:=H.K.trans (ab.mono H.K.size)
 have bw:=a9.trans (KV.o.toBelow a9.size (fun j hj=>ap))
 have d8:=aa a9;clear hb ab bs a9
 have cn:=Md V w.heap.size 21 _ _ _ a0
 have bN:=Mk V w.heap.size 21 _ _ a0
 have lM:=Ma a0
 have co:=H.wd
 have e9:=ss (i:=21) (v:=M8 ((dn:Int)+1)) a0 rfl
 have k9:Keep (fun k=>k=w.heap.size) V (V.setCell (ar w.heap.size 21) (M8 ((dn:Int)+1))):=Keep.setCell (S:=fun k=>k=w.heap.size) (Keep.refl _ _) _ (.inr rfl) _
 obtain ⟨E9,K9,ci,cl,cA,cs,c8,d2⟩:=ak e9 k9 b9 bz b8 bv bM bw;clear e9 k9 b9 bz b8 bv bM bw a0
 go_upto_region 29 with (fail)
 obtain ⟨V9,b6⟩:∃V9,V.setCell (ar w.heap.size 21) (M8 ((dn:Int)+1))=V9:=⟨_,rfl⟩
 rw [b6] at E9 K9 ⊢
 clear b6 cn bN lM co
 obtain ⟨b1,b2,b3,b4,b5⟩:=uv K9.o ci.o cl.o cA.o cs.o c8.o
 have hq:aq V9 V9.drew:=(br V9).drew
 refine HA.g (KB3 w.heap.size V9) ?_
 refine HA.ld3 (vs:=#[.slice A i.cfg.sizes.length c,M8 i.cfg.shift,M8 i.cfg.rate,M8 i.cfg.mom,M8 i.cfg.workers,M8 i.cfg.batch,M8 i.cfg.micros,M8 i.cfg.steps,M8 i.cfg.bucket,M8 i.cfg.chunk,M8 i.cfg.window,M8 i.cfg.cap,.slice D i.data.length cd,.slice T i.start.length ct,.slice R i.draws.length cr,M8 (x:Nat),.slice PA i.start.length pc,.slice MA i.start.length mc,.slice (some (ar gb go)) i.start.length gc,.slice SA m.rc.length sc,.slice (some (ar bI oI)) il ic,M8 (dn+1)]) E9.o b1 b2 dM bP bP (Keep.below hq) ?_
 refine HA.st3 3 4 5 b3 b4 b5 dM bP bP hq (fun w8 r3 r4 e8 q8=>?_)
 refine HA.t ?_ [6] q8 ?_
 refine HA.d ?_
 obtain ⟨R3,R4,R5⟩:=af r3 r4 e8
 have F:=jQ K9.o q8 d2.o
 obtain ⟨c9,QW⟩:=ae F.1 F.2;clear b1 b2 b3 b4 b5 e8 q8 r3 r4 hq F
 go_wp2_with fail
 refine Mp (fg rfl rfl rfl rfl R3.o R4.o R5.o dM bP bP) rfl ?_
 have hX:Ext (aF S w) (aF S w8):=bE (Keep.below QW.o) (fun _ _ h=>h)
 have d9:=Q6.o.size
 have dc:=cx.o.size
 have d5:=KV.o.size
 have bl:iP (aF S w8) I (t.msgs++[⟨⟨i0,i1,i2,i3,i4⟩,(m.G.drop lo).take (Q-lo)⟩]):=by
  obtain ⟨rows,z1,z2,z3,z4⟩:=bX.o
  have ao:∀y,I=some y->w.heap.size+6<=y.block:=fun y O=>by have:=cb.o y O;have:=Ma (H.bx _ (br W0)).2.2.2.2.2;have:=a6.o.size;omega
  have zV:Rd w8 I (List.flatten rows):=c9.o.rd (KV.o.rd z1 (fun y O e=>by have:=ao y O;omega)) (fun y O e=>by have:=ao y O;omega)
  exact ⟨rows,kZ zV (fun y O hs=>by have:=ao y O;have:=H.S' _ hs;omega),z2,z3,fun j hj=>by obtain ⟨A',c',e',r'⟩:=z4 j hj;exact ⟨A',c',e',aW r' hX⟩⟩
 have hX:Ext (aF S w) (aF S w8):=bE (Keep.below QW.o) (fun _ _ h=>h)
 obtain ⟨aR,bh,bo,bd⟩:=H1.o
 exact ⟨_,_,_,rfl,rfl,rfl,⟨A,c,D,cd,T,ct,R,cr,PA,pc,MA,mc,some (ar gb go),gc,SA,sc,some (ar bI oI),ic,by rw [H.il',bO.o,bd];push_cast;rfl,fp H.I0 hX,by rw [aR];exact bH H.P0 hX,by rw [bh];exact bH H.M0 hX,by rw [bo];exact bH H.G0 hX,by rw [bd];exact er cN H.R0 hX,aW H.It0 hX,by rw [aR];exact H.Pl,by rw [bh];exact H.Ml,by rw [bo];exact H.Gl⟩,⟨B1,c1,rfl,cV H.s0 hX,H.s2⟩,⟨I,c5,by simp [LSt.send],bl,(by have:=cy.o;simpa [LSt.send] using this)⟩,QW.o⟩
theorem Fw {w:World} {vs:Array Value} {i:Inp} {x:Nat} {m:Mst} {s t:LSt} {u v:Array Value} {S:Nat->Prop} (hS:∀k,S k->k<w.heap.size) (h:fZ (aF S w) vs i x m) (hu:RL (aF S w) u s) (hv:RL (aF S w) v t) (hs:cz i) {y:Itm} (hy:(db i x)[bD i x m]?=some y) (k1 k2:Int) (b0 b1:Bool) (i0 i1 i2 i3 i4 i5 i6:Int) (b8:aZ y=[M8 3,M8 k1,M8 k2,.bool b0,.bool b1,M8 i0,M8 i1,M8 i2,M8 i3,M8 i4,M8 i5,M8 i6]) (lo Q:Nat) (b6:i5=(lo:Nat)) (aP:i6=(Q:Nat)) (c6:lo<Q) (c7:Q<=i.start.length) (ad:t.recv<=t.msgs.length) (N:t.msgs.length<=100000000000) (O:t.recv+t.cap<=t.msgs.length)
  (m1:Mst) (h1:m1.P=m.P/\m1.M=m.M/\m1.G=m.G/\m1.rc=m.rc) (a5:bD i x m1=bD i x m):
  Calls prog 89 #[.agg vs,.agg u,.agg v] w (fun e p=>no S i x m1 (s) (t) 11 w e p):=by
 obtain ⟨bi,bf⟩:=ae b6 aP;clear b6 aP
 obtain ⟨A,c,D,cd,T,ct,R,cr,PA,pc,MA,mc,GA,gc,SA,sc,bI,oI,ic,B1,c1,B2,c2,dn,il,W0,rfl,rfl,rfl,H⟩:=jR hS h hu hv hs hy
 have a3:=H.rw'
 rw [b8] at a3
 rw [H.dn'] at a5
 obtain ⟨bn,H1,be⟩:=af a3 h1 a5
 obtain ⟨bG,bA,tl,bo,bh,bw,bl⟩:=H.loc
 have q0:=br W0
 clear h hu hv hs hy b8 hS h1 a5 a3
 go_enter func89,ntmps89
 go_upto_region 1 with (fail)
 rw [H.eW]
 go_upto_region 4 with (first | (refine jH bn.o iS rfl rfl rfl ?_) | (refine aI (Mc _ _) iS rfl rfl rfl rfl rfl rfl rfl ?_;intro W3 e3 k3;obtain ⟨E3,K3⟩:=ae e3 (aK k3);clear e3 k3))
 clear bG bA tl q0 bo bh bw bl
 go_upto_region 5 with (first | (refine aT #[M8 i5,M8 i6] (b:=W0.heap.size) E3.o fO rfl rfl rfl rfl ?_) | (refine aI (Mc _ _) fO rfl rfl rfl rfl rfl rfl rfl ?_;intro B e4 k4;obtain ⟨E4,K4⟩:=ae e4 (aK k4);clear e4 k4))
 have y0:B.cell? (ar W0.heap.size 0)=some (M8 3):=Md B _ 0 _ _ _ (sb E3.o _ K4.o)
 have Y:=aa (bt K3.o K4.o)
 go_upto_region 12 with (fail)
 have bs:=aa (H.bx _ Y.o).1;have bv:=aa (H.bx _ Y.o).2.2.1;have bz:=aa (sb E3.o _ K4.o)
 have aG:=H.K.trans (Y.o.mono H.K.size)
 have bV:Q<=gc:=by have:=H.hG.hc;have:=H.Gl;omega
 obtain ⟨gb,go,rfl, -⟩:=H.hG.hr.num (show 0<m.G.length by have:=H.Gl;omega)
 have I:=(br B).drew
 have a4:∀p,aq B p->p.cell? (ar w.heap.size 18)=some (.slice (some (ar gb go)) i.start.length gc):=fun p q=>Md p _ 18 _ _ _ (sb bs.o p q)
 have x0:∀p,aq B p->p.cell? (ar W3.heap.size 0)=some (M8 (lo:Nat)):=fun p q=>by rw [<-bi.o];exact Md p _ 0 _ _ _ (sb E4.o p q)
 have x1:∀p,aq B p->p.cell? (ar W3.heap.size 1)=some (M8 (Q:Nat)):=fun p q=>by rw [<-bf.o];exact Md p _ 1 _ _ _ (sb E4.o p q)
 have c9:(lo:Int)<=Q:=ap
 have cb:(Q:Int)<=gc:=ap
 have bN:lo<=Q:=ap
 have bO:¬gc=lo:=ap
 have ao:((m.G.drop lo).take (Q-lo)).length=Q-lo:=by have:=H.Gl;rw [MJ,MM];omega
 have aM:=fun p=>vr t.cap B2 t.msgs.length c2 t.recv t.peak #[M8 i0,M8 i1,M8 i2,M8 i3,M8 i4,.slice (some (ar gb (go+lo))) (Q-lo) (gc-lo)] p ad N O
 obtain ⟨bd,c8⟩:=ae aM aG;clear aM ao aG y0 ad N O
 go_cut [16,17] (fun v cc wx=>∃J,v=(au J)/\cc=M8 11/\aq B wx)
 case first=>
  refine HA.g (fun p:World=>aq B p) ?_
  refine HA.ld 0 #[M8 (t.cap:Nat),.slice B2 t.msgs.length c2,M8 (t.recv:Nat),M8 (t.peak:Nat)] (fun p q=>sb bv.o p q) bP I ?_
  refine HA.t ?_ [1,2,4,5,6,7,8,9,10] I ?_
  refine HA.ld 3 #[M8 i0,M8 i1,M8 i2,M8 i3,M8 i4] (fun p q=>sb bz.o p q) jp I ?_
  refine HA.t ?_ [11] I ?_
  refine HA.two 12 16 ?_ ?_
  ·refine HAS.c (bd.o _) ?_
   rintro e w5 ⟨rfl,k5⟩
   have C:=I.trans (k5.mono I.size)
   refine ⟨_,rfl,C,fun _=>?_⟩
   refine HA.t ?_ [13,14,15] C ?_
   refine HA.v 16 (w5.alloc (.cells #[M8 0,M9,M8 0,M8 0] 75)) ((au w5.heap.size)) (C.alloc C.size _) ?_
   refine HA.st 17 (Mc w5 _) bP (fun w6 e6 k6=>?_)
   have L:=C.trans ((aK k6).mono C.size)
   refine ⟨L,?_⟩
   refine HA.t ?_ [18] L ?_
   refine HA.d ?_
   have HF:=aa L;clear e6 k6 L C I k5 a4 x0 x1
   go_wp2_with fail
   go_meet
   exact ⟨_,rfl,rfl,HF.o⟩
  ·refine HAS.v (B.drew.alloc (.cells #[M8 0,M9,M8 0,M8 0] 75)) ((au B.drew.heap.size)) (I.alloc I.size _) ?_
   have gA:=Mc B.drew (.cells #[M8 0,M9,M8 0,M8 0] 75)
   have U:=I.alloc I.size (.cells #[M8 0,M9,M8 0,M8 0] 75)
   obtain ⟨wa,bb⟩:∃wa,B.drew.alloc (.cells #[M8 0,M9,M8 0,M8 0] 75)=wa:=⟨_,rfl⟩
   rw [bb] at gA U ⊢
   clear bb
   refine HA.c 12 (bd.o _) ?_
   rintro e w5 ⟨rfl,k5⟩
   have C:=U.trans (k5.mono U.size)
   refine ⟨_,rfl,C,fun _=>?_⟩
   refine HA.t ?_ [13,14,15] C ?_
   refine HA.st 17 (sb gA _ k5) bP (fun w6 e6 k6=>?_)
   have L:=C.trans (k6.toBelow C.size (fun j hj=>by have e':j=B.drew.heap.size:=hj;rw [MQ] at e';omega))
   refine ⟨L,?_⟩
   refine HA.t ?_ [18] L ?_
   refine HA.d ?_
   have HF:=aa L;clear e6 k6 L C I U k5 a4 x0 x1 gA
   go_wp2_with fail
   go_meet
   exact ⟨_,rfl,rfl,HF.o⟩
 case rest=>
 obtain ⟨J,rfl,rfl,L⟩:=hcut
 obtain ⟨w6,rfl⟩:∃w6,w6=wc:=⟨_,rfl⟩
 have Q6:=aa L;clear L I a4 x0 x1
 go_upto_region 14 with (fail)
 have a6:=bt Y.o Q6.o
 obtain ⟨a0,a2,a9,a1,a7,ab⟩:=H.bx _ a6
 have a8:=H.K.trans (a6.mono H.K.size)
 obtain ⟨V,hV⟩:∃V,w6=V:=⟨_,rfl⟩
 rw [hV] at a0 a2 a9 a1 a7 ab a8 ⊢
 clear hV a6
 obtain ⟨E9,bM,K9⟩:=af a0 a8 (Keep.refl (fun k=>k=w.heap.size) V);clear a0 a8
 have b1:=a2
 have b2:=a9
 have b3:=a1
 have b4:=a7
 have b5:=ab
 clear a2 a9 a1 a7 ab
 have hq:aq V V.drew:=(br V).drew
 refine HA.g (KB3 w.heap.size V) ?_
 refine HA.ld3 (vs:=#[.slice A i.cfg.sizes.length c,M8 i.cfg.shift,M8 i.cfg.rate,M8 i.cfg.mom,M8 i.cfg.workers,M8 i.cfg.batch,M8 i.cfg.micros,M8 i.cfg.steps,M8 i.cfg.bucket,M8 i.cfg.chunk,M8 i.cfg.window,M8 i.cfg.cap,.slice D i.data.length cd,.slice T i.start.length ct,.slice R i.draws.length cr,M8 (x:Nat),.slice PA i.start.length pc,.slice MA i.start.length mc,.slice (some (ar gb go)) i.start.length gc,.slice SA m.rc.length sc,.slice (some (ar bI oI)) il ic,M8 (dn:Nat)]) E9.o b1 b2 dM bP bP (Keep.below hq) ?_
 refine HA.t ?_ [3] (Keep.below hq) ?_
 refine HA.st3 4 5 6 b3 b4 b5 dM bP bP hq (fun w8 r3 r4 e8 q8=>?_)
 refine HA.t ?_ [7] q8 ?_
 refine HA.d ?_
 obtain ⟨R3,R4,R5⟩:=af r3 r4 e8
 have F:=jQ K9.o q8 bM.o
 obtain ⟨bX,QW⟩:=ae F.1 F.2;clear b1 b2 b3 b4 b5 e8 q8 r3 r4 hq F
 go_wp2_with fail
 refine Mp (fg rfl rfl rfl rfl R3.o R4.o R5.o dM bP bP) rfl ?_
 have Z:Ext (aF S w) (aF S w8):=bE (Keep.below QW.o) (fun _ _ h=>h)
 obtain ⟨av,b7,b9,aR⟩:=H1.o
 exact ⟨_,_,_,rfl,rfl,rfl,⟨A,c,D,cd,T,ct,R,cr,PA,pc,MA,mc,some (ar gb go),gc,SA,sc,some (ar bI oI),ic,by rw [H.il',be.o,aR],fp H.I0 Z,by rw [av];exact bH H.P0 Z,by rw [b7];exact bH H.M0 Z,by rw [b9];exact bH H.G0 Z,by rw [aR];exact er cN H.R0 Z,aW H.It0 Z,by rw [av];exact H.Pl,by rw [b7];exact H.Ml,by rw [b9];exact H.Gl⟩,⟨B1,c1,rfl,cV H.s0 Z,H.s2⟩,⟨B2,c2,rfl,cV H.t0 Z,H.t2⟩,QW.o⟩
theorem Fv {w:World} {vs:Array Value} {i:Inp} {x:Nat} {m:Mst} {s t:LSt} {u v:Array Value} {S:Nat->Prop} (hS:∀k,S k->k<w.heap.size) (h:fZ (aF S w) vs i x m) (hu:RL (aF S w) u s) (hv:RL (aF S w) v t) (hs:cz i) {y:Itm} (hy:(db i x)[bD i x m]?=some y) (k1 k2:Int) (b0 b1:Bool) (i0 i1 i2 i3 i4 i5 i6:Int) (bz:aZ y=[M8 4,M8 k1,M8 k2,.bool b0,.bool b1,M8 i0,M8 i1,M8 i2,M8 i3,M8 i4,M8 i5,M8 i6]) (lo hi:Nat) (bn:i5=(lo:Nat)) (e2:lo<=hi) (ea:hi<=i.start.length) (L:s.msgs.length<=100000000000) (a5:s.recv<s.msgs.length) (bl:(aO s.msgs s.recv).tag=⟨i0,i1,i2,i3,i4⟩) (J:(aO s.msgs s.recv).vals.length=hi-lo) (a2:W64 (aO s.msgs s.recv).vals)
  (m1:Mst) (h1:m1.P=m.P/\m1.M=m.M/\m1.G=j6 m.G lo (aO s.msgs s.recv).vals b1/\m1.rc=m.rc) (ad:bD i x m1=bD i x m+1):
  Calls prog 89 #[.agg vs,.agg u,.agg v] w (fun e w'=>no S i x m1 ({s with recv:=s.recv+1}) (t) 0 w e w'):=by
 obtain ⟨co,bs⟩:=ae bn a2;clear bn a2
 obtain ⟨A,c,D,cd,T,ct,R,cr,PA,pc,MA,mc,GA,gc,SA,sc,bI,oI,ic,B1,c1,B2,c2,dn,il,O,rfl,rfl,rfl,H⟩:=jR hS h hu hv hs hy
 have a7:=H.rw'
 rw [bz] at a7
 rw [H.dn'] at ad
 obtain ⟨cA,H1,cb⟩:=af a7 h1 ad
 obtain ⟨dv,ds,tl,d3,cl,dr,cw⟩:=H.loc
 have q0:=br O
 clear h hu hv hs hy bz hS h1 ad a7
 go_enter func89,ntmps89
 go_upto_region 1 with (fail)
 rw [H.eW]
 go_upto_region 4 with (first | (refine jH cA.o iS rfl rfl rfl ?_) | (refine aI (Mc _ _) iS rfl rfl rfl rfl rfl rfl rfl ?_;intro W3 e3 k3;obtain ⟨E3,K3⟩:=ae e3 (aK k3);clear e3 k3))
 clear dv ds tl q0 d3 cl dr cw
 go_upto_region 5 with (first | (refine aT #[M8 i5,M8 i6] (b:=O.heap.size) E3.o fO rfl rfl rfl rfl ?_) | (refine aI (Mc _ _) fO rfl rfl rfl rfl rfl rfl rfl ?_;intro W4 e4 k4;obtain ⟨E4,K4⟩:=ae e4 (aK k4);clear e4 k4))
 have y0:W4.cell? (ar O.heap.size 0)=some (M8 4):=Md W4 _ 0 _ _ _ (sb E3.o _ K4.o)
 have B:=aa (bt K3.o K4.o)
 go_upto_region 17 with (fail)
 have d5:=aa (H.bx _ B.o).1;have bX:=aa (H.bx _ B.o).2.1;have bv:=aa (sb E3.o _ K4.o)
 have a6:=H.K.trans (B.o.mono H.K.size)
 have a8:=zt (aF S w) s.cap B1 s.msgs c1 s.recv s.peak ⟨i0,i1,i2,i3,i4⟩ W4 (rV H.s0.in_ (gF (Keep.below a6))) a5 L bl
 rw [J] at a8
 obtain ⟨cn,a9,bN,ec⟩:=ag a8 a6 J a5;clear a8 a6 J bl L a5 y0
 go_wp2_with (first | (refine aT #[M8 (s.cap:Nat),.slice B1 s.msgs.length c1,M8 (s.recv:Nat),M8 (s.peak:Nat)] (b:=w.heap.size+1) bX.o bP rfl rfl rfl rfl ?_) | (refine aT #[M8 i0,M8 i1,M8 i2,M8 i3,M8 i4] (b:=O.heap.size) bv.o jp rfl rfl rfl rfl ?_))
 refine cn.o.mono ?_
 rintro e w5 ⟨A5,c5,rfl,r5,k5⟩
 obtain ⟨K5,d0⟩:=ae k5 r5;clear k5 r5
 obtain ⟨Wa,Wb,b8,bh,ga,gb,bG, -⟩:=fP w5 #[M8 0,M9,M8 0,M8 0] Nh 75 79
 obtain ⟨b6,aR,Ga,Gb,ab⟩:=ah b8 bh ga gb bG;clear b8 bh ga gb bG
 go_upto_region 18 with (first | (refine aI (b:=w5.heap.size) (xs:=#[M8 0,M9,M8 0,M8 0]) (by rw [b6.o,aR.o];exact Ga.o) bP rfl rfl rfl rfl rfl rfl rfl ?_;intro w6 e6 k6;rw [b6.o,aR.o] at k6;obtain ⟨E6,K6⟩:=ae e6 k6;clear e6 k6) | (refine aI (b:=w5.heap.size+1) (xs:=Nh) ((K6.o.block _ (Ma Gb.o) ap).trans Gb.o) vl rfl rfl rfl rfl rfl rfl rfl ?_;intro w7 e7 k7;obtain ⟨E7,K7⟩:=ae e7 k7;clear e7 k7))
 have aM:aq w5 w7:=ab.o.trans ((K6.o.toBelow ab.o.size (fun j U=>Nat.le_of_eq (Eq.symm U))).trans (K7.o.toBelow (Mh ab.o.size K6.o.size) (fun j U=>Mh (Nat.le_succ _) (Nat.le_of_eq (Eq.symm U)))))
 have bf:=(K7.o.block _ (Ma E6.o) ap).trans E6.o
 have ao:aq W4 w7:=bt K5.o aM
 have be:=sb bX.o _ ao
 obtain ⟨d4,p⟩:=ae bf ao;clear aM bf ao
 go_upto_region 21 with (first | (refine aT #[M8 (s.cap:Nat),.slice B1 s.msgs.length c1,M8 ((s.recv+1:Nat):Int),M8 (s.peak:Nat)] (b:=w5.heap.size) d4.o bP rfl rfl rfl rfl ?_) | (refine aI be bP rfl rfl rfl rfl rfl rfl rfl ?_;intro I e8 k8;obtain ⟨E8,K8⟩:=ae e8 k8;clear e8 k8))
 have Y:=fun {b:Nat} {o:Obj} (h:W4.heap[b]?=some o) (hne:b≠w.heap.size+1)=>(K8.o.block b (Ma (sb h _ p.o)) hne).trans (sb h _ p.o)
 have l4:=a9.o.size
 have eb:=Ma (H.bx _ (br O)).2.2.2.2.2
 have e1:=K3.o.size
 have Q:=Y d5.o ap
 have aG:=Y bv.o ap
 have a4:=Y E4.o ap
 have av:=(K8.o.block _ (Ma E7.o) (by have:=K5.o.size;have:=B.o.size;omega)).trans E7.o
 have d6:=Md I w.heap.size 18 _ _ _ Q
 have x4:=Md I O.heap.size 4 _ _ _ aG
 have c7:=Md I W3.heap.size 0 _ _ _ a4
 have a0:I.cell? (ar W3.heap.size 0)=some (M8 (lo:Nat)):=by rw [<-co.o];exact c7
 have y5:=Md I (w5.heap.size+1) 5 _ _ _ av
 have dk:=Mk I w.heap.size 18 _ _ Q
 have d8:=Ma Q
 have da:=Ma aG
 have e0:=Ma a4
 have cy:=Ma av
 have a1:aq w I:=(a9.o.trans (p.o.mono a9.o.size)).trans (K8.o.toBelow (by have:=p.o.size;omega) (fun j U=>ap))
 have bw:=wZ GA A5 m.G (aO s.msgs s.recv).vals i.start.length (hi-lo) gc c5 lo b1 I (bH H.G0 (gF (Keep.below a1))).hr (aW d0.o (gF (Keep.below a1))) H.Gl bN.o (by have:=H.s'.n;omega) ap
 obtain ⟨dp,b9,dc⟩:=af bw a1 Q;clear Y aG a4 av c7 bw a1 Q be
 go_wp2_with fail
 refine dp.o.mono ?_
 rintro e w9 ⟨A9,c9,rfl,o9,k9⟩
 have N:=sb dc.o _ k9
 have ci:=Md w9 w.heap.size 18 _ _ _ N
 have cj:=Mk w9 w.heap.size 18 _ _ N
 have dT:=Ma N
 obtain ⟨O9,d7,Z⟩:=af o9 N k9;clear o9 N k9 d6 x4 a0 y5 dk d8 da e0 cy
 go_upto_region 28 with (fail)
 have C:=ss (i:=18) (v:=.slice A9 i.start.length c9) d7.o rfl
 have kk:Keep (fun k=>k=w.heap.size) w9 (w9.setCell (ar w.heap.size 18) (.slice A9 i.start.length c9)):=Keep.setCell (S:=fun k=>k=w.heap.size) (Keep.refl _ _) _ (.inr rfl) _
 obtain ⟨V,hV⟩:∃V,w9.setCell (ar w.heap.size 18) (.slice A9 i.start.length c9)=V:=⟨_,rfl⟩
 rw [hV] at C kk ⊢
 have hb:=fun {b:Nat} {o:Obj} (h:O.heap[b]?=some o) (h1:b≠w.heap.size) (h2:b≠w.heap.size+1)=>by
  have h8:=(K8.o.block b (Ma (sb (sb h _ B.o) _ p.o)) h2).trans (sb (sb h _ B.o) _ p.o)
  have h9:=sb h8 _ Z.o
  exact (kk.block b (Ma h9) h1).trans h9
 have bd:=(kk.block _ (Ma (sb E8.o _ Z.o)) ap).trans (sb E8.o _ Z.o)
 have bV:=hb (H.bx _ (br O)).2.2.1 ap ap
 have bb:=hb (H.bx _ (br O)).2.2.2.1 ap ap
 have bM:=hb (H.bx _ (br O)).2.2.2.2.1 ap ap
 have c6:=hb (H.bx _ (br O)).2.2.2.2.2 ap ap
 have a3:=b9.o.trans (Z.o.mono b9.o.size)
 have bO:=a3.trans (kk.toBelow a3.size (fun j U=>by rw [U];exact Mb _))
 obtain ⟨cc,HO⟩:=ae kk (aE O9.o (show w.heap.size+6<=I.heap.size by have:=p.o.size;have:=K8.o.size;have:=B.o.size;omega));clear hV ci cj dT kk hb a3
 have cM:=Md V w.heap.size 21 _ _ _ C
 have c8:=Mk V w.heap.size 21 _ _ C
 have lM:=Ma C
 have d1:=H.wd
 have e9:=ss (i:=21) (v:=M8 ((dn:Int)+1)) C rfl
 have k9:Keep (fun k=>k=w.heap.size) V (V.setCell (ar w.heap.size 21) (M8 ((dn:Int)+1))):=Keep.setCell (S:=fun k=>k=w.heap.size) (Keep.refl _ _) _ (.inr rfl) _
 obtain ⟨E9,K9,cx,cL,d9,d2,cs,dw⟩:=ak e9 k9 bd bV bb bM c6 bO;clear e9 k9 bd bV bb bM c6 bO C
 go_upto_region 29 with (fail)
 obtain ⟨V9,b7⟩:∃V9,V.setCell (ar w.heap.size 21) (M8 ((dn:Int)+1))=V9:=⟨_,rfl⟩
 rw [b7] at E9 K9 ⊢
 clear b7 cM c8 lM d1
 obtain ⟨b1,b2,b3,b4,b5⟩:=uv K9.o cx.o cL.o d9.o d2.o cs.o
 have hq:aq V9 V9.drew:=(br V9).drew
 refine HA.g (KB3 w.heap.size V9) ?_
 refine HA.ld3 (vs:=#[.slice A i.cfg.sizes.length c,M8 i.cfg.shift,M8 i.cfg.rate,M8 i.cfg.mom,M8 i.cfg.workers,M8 i.cfg.batch,M8 i.cfg.micros,M8 i.cfg.steps,M8 i.cfg.bucket,M8 i.cfg.chunk,M8 i.cfg.window,M8 i.cfg.cap,.slice D i.data.length cd,.slice T i.start.length ct,.slice R i.draws.length cr,M8 (x:Nat),.slice PA i.start.length pc,.slice MA i.start.length mc,.slice A9 i.start.length c9,.slice SA m.rc.length sc,.slice (some (ar bI oI)) il ic,M8 (dn+1)]) E9.o b1 b2 dM bP bP (Keep.below hq) ?_
 refine HA.st3 3 4 5 b3 b4 b5 dM bP bP hq (fun I r3 r4 e8 q8=>?_)
 refine HA.t ?_ [6] q8 ?_
 refine HA.d ?_
 obtain ⟨R3,R4,R5⟩:=af r3 r4 e8
 have F:=jQ K9.o q8 dw.o
 obtain ⟨cv,QW⟩:=ae F.1 F.2;clear b1 b2 b3 b4 b5 e8 q8 r3 r4 hq F
 go_wp2_with fail
 refine Mp (fg rfl rfl rfl rfl R3.o R4.o R5.o dM bP bP) rfl ?_
 have oF:=cv.o.own (cc.o.own HO.o (fun j U e=>by have:=(HO.o.lt j U).1;omega)) (fun j U e=>by have:=(HO.o.lt j U).1;omega)
 have cf:=aC oF
 have dG:cJ (aF S I) A9 (j6 m.G lo (aO s.msgs s.recv).vals b1) c9:=by
  obtain ⟨A',c',e',e5⟩:=cf
  simp only [MR] at e'
  have hl:=pw m.G lo (aO s.msgs s.recv).vals b1
  have:=H.Gl
  have:=H.s'.n
  exact ⟨by omega,by omega,iD oF (fun k hk=>by have:=H.S' k hk;omega),sS H.hG.hw bs.o⟩
 have hX:Ext (aF S w) (aF S I):=bE (Keep.below QW.o) (fun _ _ h=>h)
 obtain ⟨aP,bo,bA,bi⟩:=H1.o
 exact ⟨_,_,_,rfl,rfl,rfl,⟨A,c,D,cd,T,ct,R,cr,PA,pc,MA,mc,A9,c9,SA,sc,some (ar bI oI),ic,by rw [H.il',cb.o,bi];push_cast;rfl,fp H.I0 hX,by rw [aP];exact bH H.P0 hX,by rw [bo];exact bH H.M0 hX,by rw [bA];exact dG,by rw [bi];exact er cN H.R0 hX,aW H.It0 hX,by rw [aP];exact H.Pl,by rw [bo];exact H.Ml,by rw [bA];exact ((pw _ _ _ _).trans H.Gl)⟩,⟨B1,c1,rfl,cV H.s0 hX,H.s2⟩,⟨B2,c2,rfl,cV H.t0 hX,H.t2⟩,QW.o⟩
theorem rI {w:World} {vs:Array Value} {i:Inp} {x:Nat} {m:Mst} {s t:LSt} {u v:Array Value} {S:Nat->Prop} (hS:∀k,S k->k<w.heap.size) (h:fZ (aF S w) vs i x m) (hu:RL (aF S w) u s) (hv:RL (aF S w) v t) (hs:cz i) {y:Itm} (hy:(db i x)[bD i x m]?=some y) (k1 k2:Int) (b0 b1:Bool) (i0 i1 i2 i3 i4 i5 i6:Int) (aG:aZ y=[M8 4,M8 k1,M8 k2,.bool b0,.bool b1,M8 i0,M8 i1,M8 i2,M8 i3,M8 i4,M8 i5,M8 i6]) (C:Int) (hC:C≠0) (p:∀(L:Option Addr) (c1:Nat) (w':World),iP w' L s.msgs->Calls prog 136 #[.agg #[M8 (s.cap:Nat),.slice L s.msgs.length c1,M8 (s.recv:Nat),M8 (s.peak:Nat)],.agg #[M8 i0,M8 i1,M8 i2,M8 i3,M8 i4]] w' fun e be=>e=.returned (.tuple #[.agg #[M8 (s.cap:Nat),.slice L s.msgs.length c1,M8 (s.recv:Nat),M8 (s.peak:Nat)],.agg Nh,M8 C])/\aq w' be)
  (m1:Mst) (h1:m1.P=m.P/\m1.M=m.M/\m1.G=m.G/\m1.rc=m.rc) (Z:bD i x m1=bD i x m):
  Calls prog 89 #[.agg vs,.agg u,.agg v] w (fun e w'=>no S i x m1 (s) (t) C w e w'):=by
 obtain ⟨A,c,D,cd,T,ct,R,cr,PA,pc,MA,mc,GA,gc,SA,sc,bI,oI,ic,L,c1,B2,c2,dn,il,W0,rfl,rfl,rfl,H⟩:=jR hS h hu hv hs hy
 have U:=H.rw'
 rw [aG] at U
 rw [H.dn'] at Z
 obtain ⟨b9,H1,aR⟩:=af U h1 Z
 obtain ⟨bl,bi,tl,bb,b6,bf,b8⟩:=H.loc
 have q0:=br W0
 clear h hu hv hs hy aG hS h1 Z U
 go_enter func89,ntmps89
 go_upto_region 1 with (fail)
 rw [H.eW]
 go_upto_region 4 with (first | (refine jH b9.o iS rfl rfl rfl ?_) | (refine aI (Mc _ _) iS rfl rfl rfl rfl rfl rfl rfl ?_;intro W3 e3 k3;obtain ⟨E3,K3⟩:=ae e3 (aK k3);clear e3 k3))
 clear bl bi tl q0 bb b6 bf b8
 go_upto_region 5 with (first | (refine aT #[M8 i5,M8 i6] (b:=W0.heap.size) E3.o fO rfl rfl rfl rfl ?_) | (refine aI (Mc _ _) fO rfl rfl rfl rfl rfl rfl rfl ?_;intro W4 e4 k4;obtain ⟨E4,K4⟩:=ae e4 (aK k4);clear e4 k4))
 have y0:W4.cell? (ar W0.heap.size 0)=some (M8 4):=Md W4 _ 0 _ _ _ (sb E3.o _ K4.o)
 have B:=aa (bt K3.o K4.o)
 go_upto_region 17 with (fail)
 have bv:=aa (H.bx _ B.o).1;have bo:=aa (H.bx _ B.o).2.1;have bh:=aa (sb E3.o _ K4.o)
 have Q:=H.K.trans (B.o.mono H.K.size)
 have ao:=p L c1 W4 (cV H.s0 (gF (Keep.below Q)))
 obtain ⟨b7,bw,HC⟩:=af ao Q hC
 have bd:(C != 0)=true:=by rw [bne_iff_ne];exact hC
 clear ao Q p hC y0
 go_wp2_with (first | (refine aT #[M8 (s.cap:Nat),.slice L s.msgs.length c1,M8 (s.recv:Nat),M8 (s.peak:Nat)] (b:=w.heap.size+1) bo.o bP rfl rfl rfl rfl ?_) | (refine aT #[M8 i0,M8 i1,M8 i2,M8 i3,M8 i4] (b:=W0.heap.size) bh.o jp rfl rfl rfl rfl ?_))
 refine b7.o.mono ?_
 rintro e w5 ⟨rfl,k5⟩
 have K5:=aa k5;clear k5
 obtain ⟨Wa,Wb,a9,ab,ga,gb,aP, -⟩:=fP w5 #[M8 0,M9,M8 0,M8 0] Nh 75 79
 obtain ⟨a8,a7,Ga,Gb,Y⟩:=ah a9 ab ga gb aP;clear a9 ab ga gb aP
 go_upto_region 19 with (first | (refine aI (b:=w5.heap.size) (xs:=#[M8 0,M9,M8 0,M8 0]) (by rw [a8.o,a7.o];exact Ga.o) bP rfl rfl rfl rfl rfl rfl rfl ?_;intro w6 e6 k6;rw [a8.o,a7.o] at k6;obtain ⟨E6,K6⟩:=ae e6 k6;clear e6 k6) | (refine aI (b:=w5.heap.size+1) (xs:=Nh) ((K6.o.block _ (Ma Gb.o) ap).trans Gb.o) vl rfl rfl rfl rfl rfl rfl rfl ?_;intro w7 e7 k7;obtain ⟨E7,K7⟩:=ae e7 k7;clear e7 k7))
 have a5:aq w5 w7:=Y.o.trans ((K6.o.toBelow Y.o.size (fun j hj=>Nat.le_of_eq (Eq.symm hj))).trans (K7.o.toBelow (Mh Y.o.size K6.o.size) (fun j hj=>Mh (Nat.le_succ _) (Nat.le_of_eq (Eq.symm hj)))))
 have a0:=bt B.o (bt K5.o a5)
 obtain ⟨J,O,a3,N,a1,a4⟩:=H.bx _ a0
 have a2:=H.K.trans (a0.mono H.K.size)
 obtain ⟨V,hV⟩:∃V,w7=V:=⟨_,rfl⟩
 rw [hV] at J O a3 N a1 a4 a2 ⊢
 clear hV a0 a5 bd
 obtain ⟨E9,bn,K9⟩:=af J a2 (Keep.refl (fun k=>k=w.heap.size) V);clear J a2
 have b1:=O
 have b2:=a3
 have b3:=N
 have b4:=a1
 have b5:=a4
 clear O a3 N a1 a4
 have hq:aq V V.drew:=(br V).drew
 refine HA.g (KB3 w.heap.size V) ?_
 refine HA.ld3 (vs:=#[.slice A i.cfg.sizes.length c,M8 i.cfg.shift,M8 i.cfg.rate,M8 i.cfg.mom,M8 i.cfg.workers,M8 i.cfg.batch,M8 i.cfg.micros,M8 i.cfg.steps,M8 i.cfg.bucket,M8 i.cfg.chunk,M8 i.cfg.window,M8 i.cfg.cap,.slice D i.data.length cd,.slice T i.start.length ct,.slice R i.draws.length cr,M8 (x:Nat),.slice PA i.start.length pc,.slice MA i.start.length mc,.slice GA i.start.length gc,.slice SA m.rc.length sc,.slice (some (ar bI oI)) il ic,M8 (dn:Nat)]) E9.o b1 b2 dM bP bP (Keep.below hq) ?_
 refine HA.t ?_ [3] (Keep.below hq) ?_
 refine HA.st3 4 5 6 b3 b4 b5 dM bP bP hq (fun w8 r3 r4 e8 q8=>?_)
 refine HA.t ?_ [7] q8 ?_
 refine HA.d ?_
 obtain ⟨R3,R4,R5⟩:=af r3 r4 e8
 have F:=jQ K9.o q8 bn.o
 obtain ⟨bs,QW⟩:=ae F.1 F.2;clear b1 b2 b3 b4 b5 e8 q8 r3 r4 hq F
 go_wp2_with fail
 refine Mp (fg rfl rfl rfl rfl R3.o R4.o R5.o dM bP bP) rfl ?_
 have I:Ext (aF S w) (aF S w8):=bE (Keep.below QW.o) (fun _ _ h=>h)
 obtain ⟨a6,av,aM,ad⟩:=H1.o
 exact ⟨_,_,_,rfl,rfl,rfl,⟨A,c,D,cd,T,ct,R,cr,PA,pc,MA,mc,GA,gc,SA,sc,some (ar bI oI),ic,by rw [H.il',aR.o,ad],fp H.I0 I,by rw [a6];exact bH H.P0 I,by rw [av];exact bH H.M0 I,by rw [aM];exact bH H.G0 I,by rw [ad];exact er cN H.R0 I,aW H.It0 I,by rw [a6];exact H.Pl,by rw [av];exact H.Ml,by rw [aM];exact H.Gl⟩,⟨L,c1,rfl,cV H.s0 I,H.s2⟩,⟨B2,c2,rfl,cV H.t0 I,H.t2⟩,QW.o⟩
end Go.Proofs.YtgmajkppbhiopaaGreat
