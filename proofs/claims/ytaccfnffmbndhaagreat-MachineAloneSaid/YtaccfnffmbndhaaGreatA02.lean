/- Data that came in, opened part by part: what each type's cells read as. A world whose blocks below a number are empty: what is read there lies above. A region that draws its order: what is held need only be held till one certain operation has come (the store that ends it). No condition. -/
import Derived.Test.YtaccfnffmbndhaaGreatA01
import Derived.ProofKit
import Derived.OpenShut
import Derived.Deep.Slices
import Derived.StillTail
import Derived.OrdersHeld
import Derived.Deep.RegionHeld
set_option linter.unusedSimpArgs false
set_option linter.unusedVariables false
namespace Go.Proofs.YtaccfnffmbndhaaGreat
open Go.RowKit Go.ChangeShapes Go.WideShapes Go.ChangeAt
abbrev Reader (α:Type):=World → List Value → α → Prop
def Stays {α:Type} (R:Reader α):Prop:=∀ {w w':World} {cs:List Value} {a:α},Below w.heap.size w w' → R w cs a → R w' cs a
def rowOf (l:List (List Value)) (j:Nat):List Value:=l.getD j []
theorem rowOf_get {l:List (List Value)} {j:Nat} (h:j < l.length):rowOf l j = l[j]:=by simp [rowOf,h]
theorem flat_get {rows:List (List Value)} {k:Nat} (h:∀ r ∈ rows,r.length = k) (i t:Nat) (hi:i < rows.length) (ht:t < k):(List.flatten rows)[i * k + t]? = (rowOf rows i)[t]?:=by
  induction rows generalizing i with
  | nil => simp at hi
  | cons r l ih =>
    have hr:r.length = k:=h r (by simp)
    cases i with
    | zero =>
      rw [List.flatten_cons,Nat.zero_mul,Nat.zero_add,List.getElem?_append_left (by omega)]
      simp [rowOf]
    | succ i =>
      rw [List.flatten_cons,List.getElem?_append_right (by rw [hr,Nat.add_mul];omega),hr,show (i + 1) * k + t - k = i * k + t by rw [Nat.add_mul];omega,ih (fun r hr => h r (by simp [hr])) i (by simpa using hi)]
      simp [rowOf]
theorem flat_len {rows:List (List Value)} {k:Nat} (h:∀ r ∈ rows,r.length = k):(List.flatten rows).length = rows.length * k:=by
  induction rows with
  | nil => simp
  | cons r l ih => rw [List.flatten_cons,List.length_append,h r (by simp),ih (fun r hr => h r (by simp [hr])),List.length_cons,Nat.add_mul];omega
def SlRd {α:Type} (R:Reader α) (size:Nat) (w:World) (A:Option Addr) (l:List α):Prop:=
  ∃ rows,Rd w A (List.flatten rows) ∧ rows.length = l.length ∧ (∀ r ∈ rows,r.length = size) ∧ ∀ j x,l[j]? = some x → R w (rowOf rows j) x
def rSl {α:Type} (R:Reader α) (size:Nat):Reader (List α):=fun w cs l => ∃ A c,cs = [.slice A l.length c] ∧ l.length ≤ c ∧ c ≤ 9223372036854775807 ∧ l.length ≤ 17592186043904 ∧ SlRd R size w A l
def rInt (k:IntKind):Reader Int:=fun _ cs n => cs = [.int k n] ∧ (Lit.int k n).wf = true
def rNums (q:IntKind):Reader (List Int):=fun w cs zs => ∃ A c,cs = [.slice A zs.length c] ∧ zs.length ≤ c ∧ c ≤ 9223372036854775807 ∧ zs.length ≤ 17592186043904 ∧ Rd w A (nums q zs) ∧ ∀ z ∈ zs,(Lit.int q z).wf = true
section
variable {α:Type} {R:Reader α} {size:Nat} {w w':World} {A:Option Addr} {l:List α}
theorem SlRd.below (hR:Stays R) (h:SlRd R size w A l) (hb:Below w.heap.size w w'):SlRd R size w' A l:=by
  obtain ⟨rows,h1,h2,h3,h4⟩:=h
  exact ⟨rows,h1.below hb,h2,h3,fun j x hx => hR hb (h4 j x hx)⟩
theorem SlRd.nil (R:Reader α) (size:Nat) (w:World) (A:Option Addr):SlRd R size w A []:=⟨[],Rd.nil _ _,rfl,by simp,by simp⟩
theorem SlRd.get (h:SlRd R size w A l) (hs:0 < size) {j:Nat} {x:α} (hx:l[j]? = some x) :
    ∃ b o cs,A = some ⟨b,o,none⟩ ∧ b < w.heap.size ∧ cs.length = size ∧ R w cs x ∧ w.cell? ⟨b,o + j * size,none⟩ = cs[0]? ∧ ∀ t,t < size → w.cell? ⟨b,o + j * size + t,none⟩ = cs[t]?:=by
  obtain ⟨rows,h1,h2,h3,h4⟩:=h
  have hj:j < rows.length:=by rw [h2];exact (List.getElem?_eq_some_iff.1 hx).1
  have hrl:(rowOf rows j).length = size:=h3 _ (by rw [rowOf_get hj];exact List.getElem_mem hj)
  have hx0:∀ t,t < size → ∃ u,(rowOf rows j)[t]? = some u:=fun t ht => ⟨_,List.getElem?_eq_getElem (by omega)⟩
  obtain ⟨u0,hu0⟩:=hx0 0 hs
  obtain ⟨b,o,rfl,c0⟩:=h1 (j * size + 0) u0 ((flat_get h3 j 0 hj hs).trans hu0)
  have hc:∀ t,t < size → w.cell? ⟨b,o + j * size + t,none⟩ = (rowOf rows j)[t]?:=fun t ht => by
    obtain ⟨u,hu⟩:=hx0 t ht
    obtain ⟨b',o',e',c⟩:=h1 (j * size + t) u ((flat_get h3 j t hj ht).trans hu)
    injection e' with e';injection e' with e1 e2 _
    subst e1;subst e2
    rw [Nat.add_assoc,c,hu]
  refine ⟨b,o,rowOf rows j,rfl,lt_of_cell c0,hrl,h4 j x hx,?_,hc⟩
  have:=hc 0 hs
  rwa [Nat.add_zero] at this
end
def Light {H:Type} (P:Program) (t:TypeId) (d:DataW H):Prop:=∀ n ∈ d.weights P t,n ≤ 140737488351232
theorem light_all {H:Type} {P:Program} {e:TypeId}:∀ {l:List (DataW H)},(∀ n ∈ DataW.weightsAll P e l,n ≤ 140737488351232) → ∀ (i:Nat) (d:DataW H),l[i]? = some d → Light P e d:=by
  intro l
  induction l with
  | nil => intro _ i d h;simp at h
  | cons x r ih =>
    intro h i d hi
    unfold DataW.weightsAll at h
    cases i with
    | zero =>
      simp at hi;subst hi
      exact fun n hn => h n (List.mem_append.2 (.inl hn))
    | succ i => exact ih (fun n hn => h n (List.mem_append.2 (.inr hn))) i d (by simpa using hi)
theorem light_each {H:Type} {P:Program}:∀ {ts:List TypeId} {l:List (DataW H)},(∀ n ∈ DataW.weightsEach P ts l,n ≤ 140737488351232) → ∀ (i:Nat) (t:TypeId) (d:DataW H),ts[i]? = some t → l[i]? = some d → Light P t d:=by
  intro ts
  induction ts with
  | nil => intro l _ i t d h;simp at h
  | cons t0 ts ih =>
    intro l h i t d ht hd
    cases l with
    | nil => simp at hd
    | cons x r =>
      unfold DataW.weightsEach at h
      cases i with
      | zero =>
        simp at ht hd;subst ht;subst hd
        exact fun n hn => h n (List.mem_append.2 (.inl hn))
      | succ i => exact ih (fun n hn => h n (List.mem_append.2 (.inr hn))) i t d (by simpa using ht) (by simpa using hd)
theorem light_of_all {H:Type} {P:Program} {ts:List TypeId} {l:List (DataW H)} (h:(DataW.weightsEach P ts l).all (· ≤ reachBytes) = true) {i:Nat} {t:TypeId} {d:DataW H} (ht:ts[i]? = some t) (hd:l[i]? = some d):Light P t d:=
  light_each (fun n hn => by have h2:n ≤ reachBytes:=of_decide_eq_true (List.all_eq_true.1 h n hn);exact h2) i t d ht hd
def Opens (P:Program) (t:TypeId) (size:Nat) {α:Type} (R:Reader α):Prop:=
  P.cellsOf t = size ∧ ∀ {H:Type} {enc:TypeId × Value → H} {W:World} {fuel:Nat} {cs:List Value} {x:DataW H × List MemPlace},DataW.trod enc P W 0 (fun _ => true) true fuel t cs = some x → Light P t x.1 → cs.length = size ∧ ∃ a,R W cs a
theorem opens_int {P:Program} {t:TypeId} {k:IntKind} (ht:P.underlying t = some (.int k)) (hc:P.cellsOf t = 1):Opens P t 1 (rInt k):=⟨hc,fun h _ => by
  obtain ⟨n,rfl,_,hw⟩:=DataW.trod_int ht h
  exact ⟨rfl,n,rfl,hw⟩⟩
theorem rd_adds {w:World} {a:Addr} {xs:List Value} (h:∀ i u,xs[i]? = some u → w.cell? (a.add i) = some u):Rd w (some a) xs:=fun k u hu => by
  have h0:∃ u0,xs[0]? = some u0:=by
    have:=(List.getElem?_eq_some_iff.1 hu).1
    exact ⟨xs[0],List.getElem?_eq_getElem (by omega)⟩
  obtain ⟨u0,hu0⟩:=h0
  have h00:=h 0 u0 hu0
  have e:a.add 0 = a:=by simp [Addr.add]
  rw [e] at h00
  have ha:a = ⟨a.block,a.off,none⟩:=by
    obtain ⟨b,o,s⟩:=a
    unfold World.cell? at h00
    split at h00
    · cases s with
      | none => rfl
      | some x => simp at h00
    · cases h00
  refine ⟨a.block,a.off,by rw [← ha],?_⟩
  have hk:=h k u hu
  rw [ha,Addr.add_lit] at hk
  exact hk
theorem opens_nums {P:Program} {t e:TypeId} {q:IntKind} (ht:P.underlying t = some (.slice e)) (he:P.underlying e = some (.int q)) (hc:P.cellsOf e = 1) (hct:P.cellsOf t = 1) (hb:P.bytesOf e = 8):Opens P t 1 (rNums q):=⟨hct,fun {H enc W fuel cs y} h hlt => by
  have hlen:∀ a l c,cs = [.slice a l c] → l ≤ 17592186043904:=fun a l c hcs => by
    rcases Go.Deep.open_slice ht h with ⟨h0,_⟩ | ⟨a',len,cap,m,n,D,Pl,h0,_,hl,_,hmm,hx,_⟩
    · rw [hcs] at h0;injection h0 with h0;injection h0 with _ h0;omega
    · rw [hcs] at h0;injection h0 with h0;injection h0 with _ h0;subst h0
      have hw:=hlt ((l + (m - l)) * 8) (by rw [hx];simp [DataW.weights,ht,hb])
      omega
  rcases open_ints ht he hc h with ⟨rfl,_⟩ | ⟨x,l,c,zs,rfl,_,hl,hm,hz,_,hcell,hwz⟩
  · exact ⟨rfl,[],none,0,rfl,Nat.le_refl _,by omega,by simp,Rd.nil _ _,by simp⟩
  · have hll:=hlen _ _ _ rfl
    refine ⟨rfl,zs.take l,some x,c,?_,by simp;omega,by unfold maxLen at hm;exact hm,by simp;omega,?_,fun z hz => hwz z (List.mem_of_mem_take hz)⟩
    · rw [List.length_take];simp at hz;rw [Nat.min_eq_left (by omega)]
    · refine rd_adds fun i u hu => ?_
      rw [← nums_take,List.getElem?_take] at hu
      split at hu
      · rename_i hi
        have hi':i < zs.length:=by simp at hz;omega
        rw [nums_get q zs i hi'] at hu
        rw [hcell i hi',← hu,nth_eq zs i hi']
        simp [List.getD,hi']
      · cases hu⟩
theorem opens_slice {P:Program} {t e:TypeId} {size:Nat} {α:Type} {R:Reader α} (ht:P.underlying t = some (.slice e)) (hR:Opens P e size R) (hct:P.cellsOf t = 1) (hb:8 ≤ P.bytesOf e):Opens P t 1 (rSl R size):=⟨hct,fun {H enc W fuel cs x} h hlt => by
  rcases Go.Deep.open_slice ht h with ⟨rfl,_⟩ | ⟨a,len,cap,m,n,D,Pl,rfl,_,hl,hm,hmm,hx,hi⟩
  · exact ⟨rfl,[],none,0,rfl,Nat.le_refl _,by omega,by simp,SlRd.nil _ _ _ _⟩
  · simp at hmm
    subst hmm
    obtain ⟨hsz,hop⟩:=hR
    rw [hsz] at hi
    have hlen:len ≤ 17592186043904:=by
      have hw:=hlt ((len + (m - len)) * P.bytesOf e) (by rw [hx];simp [DataW.weights,ht])
      have:=Nat.mul_le_mul_left (len + (m - len)) hb
      omega
    have hel:∀ i,i < len → Light P e (D i):=fun i hil => by
      refine light_all (l:=(List.range len).map D) (fun n hn => hlt n ?_) i (D i) (by simp [hil])
      rw [hx];simp only [DataW.weights,ht]
      exact List.mem_cons_of_mem _ (List.mem_append.2 (.inl hn))
    classical
    have hall:∀ i,i < len → ∃ cs' x,W.cells? 0 (a.add (i * size)) size = some cs' ∧ cs'.length = size ∧ R W cs' x:=fun i hlt => by
      obtain ⟨cs',h1,h2⟩:=hi i (by omega)
      obtain ⟨h3,x,h4⟩:=hop h2 (hel i hlt)
      exact ⟨cs',x,h1,h3,h4⟩
    let rw1:Nat → List Value:=fun i => if hlt:i < len then Classical.choose (hall i hlt) else []
    have hrw:∀ i (hlt:i < len),∃ x,W.cells? 0 (a.add (i * size)) size = some (rw1 i) ∧ (rw1 i).length = size ∧ R W (rw1 i) x:=fun i hlt => by
      have:=Classical.choose_spec (hall i hlt)
      simp only [rw1,dif_pos hlt]
      exact this
    let el:(i:Nat) → i < len → α:=fun i hlt => Classical.choose (hrw i hlt)
    let l:List α:=List.ofFn (n:=len) fun i => el i.1 i.2
    have hll:l.length = len:=by simp [l]
    refine ⟨rfl,l,some a,m,by rw [hll],by rw [hll];exact hl,by unfold maxLen at hm;exact hm,by rw [hll];exact hlen,(List.range len).map rw1,?_,by simp [l],?_,?_⟩
    · have h3:∀ r ∈ (List.range len).map rw1,r.length = size:=by
        intro r hr
        obtain ⟨i,hi',rfl⟩:=List.mem_map.1 hr
        obtain ⟨x,_,h,_⟩:=hrw i (List.mem_range.1 hi')
        exact h
      refine rd_adds fun i u hu => ?_
      have hlt:=(List.getElem?_eq_some_iff.1 hu).1
      rw [flat_len h3,List.length_map,List.length_range] at hlt
      have hspos:0 < size:=by
        rcases Nat.eq_zero_or_pos size with h | h
        · rw [h] at hlt;omega
        · exact h
      have hdm:i = i / size * size + i % size:=by rw [Nat.mul_comm];exact (Nat.div_add_mod i size).symm
      have hq:i / size < len:=Nat.div_lt_of_lt_mul (by rw [Nat.mul_comm];exact hlt)
      have hr:=Nat.mod_lt i hspos
      obtain ⟨x,hx1,hx2,_⟩:=hrw _ hq
      obtain ⟨_,_,hx3⟩:=World.cells?_some hx1
      rw [hdm,flat_get h3 _ _ (by simpa using hq) hr] at hu
      have e:rowOf ((List.range len).map rw1) (i / size) = rw1 (i / size):=by simp [rowOf,hq]
      rw [e,← hx3 _ hr] at hu
      rw [hdm]
      rw [Go.Deep.add_add] at hu
      exact hu
    · intro r hr
      obtain ⟨i,hi',rfl⟩:=List.mem_map.1 hr
      obtain ⟨x,_,h,_⟩:=hrw i (List.mem_range.1 hi')
      exact h
    · intro j x hx
      have hj:j < len:=by rw [← hll];exact (List.getElem?_eq_some_iff.1 hx).1
      have e:rowOf ((List.range len).map rw1) j = rw1 j:=by simp [rowOf,hj]
      rw [e]
      have hx':x = el j hj:=by
        have:=List.getElem?_eq_some_iff.1 hx
        obtain ⟨h1,h2⟩:=this
        rw [← h2]
        simp [l]
      rw [hx']
      exact (Classical.choose_spec (hrw j hj)).2.2⟩
theorem field_opens {P:Program} {t ts:TypeId} {fs:Array Field} {size:Nat} {α:Type} {R:Reader α} (hR:Opens P t size R) (hts:P.underlying ts = some (.struct fs)) {H:Type} {enc:TypeId × Value → H} {W:World} {n off:Nat} {cs:List Value} {x:DataW H × List MemPlace} {xs:List (DataW H × List MemPlace)} (hx:x = (.agg (xs.map (·.1)),xs.flatMap (·.2))) (hl:Light P ts x.1) {i:Nat}
    (h:DataW.trod enc P W 0 (fun _ => true) true n t ((cs.drop off).take (P.cellsOf t)) = xs[i]?) (hi:i < xs.length) (hft:(fs.toList.map (·.type))[i]? = some t):∃ a,R W ((cs.drop off).take size) a:=by
  obtain ⟨hc,hop⟩:=hR
  rw [hc,List.getElem?_eq_getElem hi] at h
  refine (hop h ?_).2
  subst hx
  simp only [Light,DataW.weights,hts] at hl
  exact light_each hl i t _ hft (by simp [List.getElem?_eq_getElem hi])
theorem opens_param {P:Program} {t:TypeId} {size:Nat} {α:Type} {R:Reader α} (hR:Opens P t size R) {H:Type} {enc:TypeId × Value → H} {W:World} {v:Value} {d:DataW H} {p:List MemPlace} (h:DataW.Trod enc P W 0 (fun _ => true) true t v d p) (hl:Light P t d):∃ a,R W v.cells.toList a ∧ v.cells.toList.length = size:=by
  obtain ⟨fuel,hf⟩:=h
  obtain ⟨h1,a,h2⟩:=hR.2 hf hl
  exact ⟨a,h2,h1⟩
end Go.Proofs.YtaccfnffmbndhaaGreat
namespace Go.Proofs.YtaccfnffmbndhaaGreat
open Go.RowKit
def topW (B:Nat) (w:World):World:={ w with heap:=w.heap.mapIdx fun k o => if k < B then .cells #[] 0 (0,0) else o }
theorem top_size (B:Nat) (w:World):(topW B w).heap.size = w.heap.size:=by simp [topW]
theorem top_blk {B k:Nat} {w:World} (h:B ≤ k):(topW B w).heap[k]? = w.heap[k]?:=by
  simp only [topW,Array.getElem?_mapIdx]
  have h':¬ k < B:=by omega
  simp [h']
theorem top_low {B k:Nat} {w:World} (h:k < B) (hk:k < w.heap.size):(topW B w).heap[k]? = some (.cells #[] 0 (0,0)):=by
  simp only [topW,Array.getElem?_mapIdx]
  simp [h,hk]
theorem top_keep (B:Nat) (w:World):Keep (fun j => j < B) w (topW B w):=⟨rfl,rfl,rfl,by rw [top_size];exact Nat.le_refl _,fun k _ hn => top_blk (by omega)⟩
theorem own_top {w:World} {B base:Nat} {e:TypeId} {size:Nat} {v:Value} {n:Nat} {xs:List Value} (h:w.ownsRow base e size v n xs) (hB:B ≤ base):(topW B w).ownsRow base e size v n xs:=
  (top_keep B w).own h fun k hk hl => by have:=(h.lt k hk).1;omega
theorem top_below {B:Nat} {w w':World} (h:Below w.heap.size w w'):Below (topW B w).heap.size (topW B w) (topW B w'):=
  ⟨h.os,h.tape,h.output,by rw [top_size,top_size];exact h.size,fun k hk => by
    rw [top_size] at hk
    rcases Nat.lt_or_ge k B with hb | hb
    · rw [top_low hb (Nat.lt_of_lt_of_le hk h.size),top_low hb hk]
    · rw [top_blk hb,top_blk hb,h.block k hk]⟩
def Agr (B:Nat) (u v:World):Prop:=∀ k,B ≤ k → k < u.heap.size → v.heap[k]? = u.heap[k]?
theorem Agr.refl (B:Nat) (u:World):Agr B u u:=fun _ _ _ => rfl
theorem top_cell {B:Nat} {u v:World} {a:Addr} {x:Value} (h:(topW B u).cell? a = some x) (hv:Agr B u v):v.cell? a = some x:=by
  have hl:=lt_of_cell h
  rw [top_size] at hl
  rcases Nat.lt_or_ge a.block B with hb | hb
  · have h0:=top_low (w:=u) hb hl
    rw [World.cell?] at h
    simp only [h0] at h
    simp at h
  · exact (World.cell?_of_block (w:=topW B u) ((hv _ hb hl).trans (top_blk hb).symm)).trans h
theorem top_heap {B:Nat} {u v:World} {b:Nat} {x:Value} {xs:List Value} {t:TypeId} {fr:Nat × Nat} (h:(topW B u).heap[b]? = some (.cells (x :: xs).toArray t fr)) (hv:Agr B u v):v.heap[b]? = some (.cells (x :: xs).toArray t fr):=by
  have hl:=lt_of_block h
  rw [top_size] at hl
  rcases Nat.lt_or_ge b B with hb | hb
  · rw [top_low hb hl] at h
    simp at h
  · rw [hv b hb hl,← top_blk hb];exact h
theorem top_rd {B:Nat} {u v:World} {A:Option Addr} {xs:List Value} (h:Rd (topW B u) A xs) (hv:Agr B u v):Rd v A xs:=fun k x hx => by
  obtain ⟨b,o,e,hc⟩:=h k x hx
  exact ⟨b,o,e,top_cell hc hv⟩
theorem agr_top {B B1:Nat} {u:World} (h:B ≤ B1):Agr B1 u (topW B u):=fun k hk _ => top_blk (by omega)
end Go.Proofs.YtaccfnffmbndhaaGreat
namespace Go.Proofs.YtaccfnffmbndhaaGreat
open Go.RowKit
section
variable {P:Program} {ops:Array Oper} {Q:Exit → Act → World → Prop} {md:Region.Mode} {S:World → Prop} {n:Nat}
def wpAnyX (P:Program) (md:Region.Mode) (ops:Array Oper) (Q:Exit → Act → World → Prop) (S:World → Prop) (n:Nat):Nat → Array Bool → Act → World → Prop
  | 0,listed,a,w => Region.ready md ops listed = [] ∧ Q .normal a w
  | fuel + 1,listed,a,w =>
    (Region.ready md ops listed = [] → Q .normal a w) ∧
    ∀ i ∈ Region.ready md ops listed,wpOp P ops Q i (fun a' w' => ((listed.setIfInBounds i true).getD n true = false → S w') ∧ wpAnyX P md ops Q S n fuel (listed.setIfInBounds i true) a' w') a w
theorem wpAny_of_X:∀ (fuel:Nat) (listed:Array Bool) (a:Act) (w:World),wpAnyX P md ops Q S n fuel listed a w → wpAny P md ops Q fuel listed a w
  | 0,_,_,_,h => h
  | fuel + 1,_,_,_,h => ⟨h.1,fun i hi => wpOp_mono (fun a' w' h' => wpAny_of_X fuel _ a' w' h'.2) (h.2 i hi)⟩
theorem ready_ne {listed:Array Bool} {i j:Nat} (hB:Region.waitsFor md ops n i = true) (hi:i ∈ Region.ready md ops listed) (hj:j ∈ Region.ready md ops listed):j ≠ n:=fun hjn => by
  subst hjn
  obtain ⟨_,oj,hoj,hall⟩:=mem_ready.1 hj
  obtain ⟨o',ho',e,he,hb,hon⟩:=Region.waitsFor_spec hB
  have:o' = oj:=Option.some.inj (ho'.symm.trans hoj)
  subst this
  have h2:=hall e he hb
  rw [hon,getD_both (mem_ready.1 hi).1] at h2
  cases h2
theorem wpAnyX_first {i:Nat} {oi:Oper} {v:Value} (hB:Region.waitsFor md ops n i = true) (hni:i ≠ n) (hi:ops[i]? = some oi) (hsel:∀ (j:Nat) (o:Oper) cs b,ops[j]? = some o → o.op ≠ .select cs b)
    (hQ:∀ c a w,Q (.panic c) (a.put oi.dst v) w → Q (.panic c) a w) :
    ∀ (fuel:Nat) (listed:Array Bool) (a:Act) (w:World),
      (∀ j oj,ops[j]? = some oj → j ≠ i → listed.getD j true = false → (∀ e ∈ oj.after,Region.binds md e = true → e.on ≠ i) → oi.apart ops oj = true) →
      i ∈ Region.ready md ops listed → YieldsIf P ops S oi v a → listed.getD n true = false → S w →
      wpAnyX P md ops Q S n fuel (listed.setIfInBounds i true) (a.put oi.dst v) w → wpAnyX P md ops Q S n (fuel + 1) listed a w:=by
  intro fuel
  induction fuel with
  | zero =>
    intro listed a w _ hr hy hn hS H
    refine ⟨fun h => (by rw [h] at hr;cases hr),fun j hj => ?_⟩
    by_cases hji:j = i
    · subst hji;exact hy.wpOp hi hS ⟨fun _ => hS,H⟩
    · have:=ready_mono hj hji
      rw [H.1] at this
      cases this
  | succ fuel ih =>
    intro listed a w hfree hr hy hn hS H
    refine ⟨fun h => (by rw [h] at hr;cases hr),fun j hj => ?_⟩
    by_cases hji:j = i
    · subst hji;exact hy.wpOp hi hS ⟨fun _ => hS,H⟩
    · have h1:=H.2 j (ready_mono hj hji)
      have hjn:=ready_ne hB hr hj
      have getD_n:(listed.setIfInBounds j true).getD n true = false → ((listed.setIfInBounds i true).setIfInBounds j true).getD n true = false:=fun h => by
        rw [Array.setIfInBounds_comm _ _ (Ne.symm hji),getD_set_ne true hni];exact h
      obtain ⟨hjun,oj,hoj,hall⟩:=mem_ready.1 hj
      have hnot:∀ e ∈ oj.after,Region.binds md e = true → e.on ≠ i:=fun e he hb heq => by
        have h1:=hall e he hb
        rw [heq,getD_both (mem_ready.1 hr).1] at h1
        cases h1
      have h2:=wpOp_putIf hoj (hfree j oj hoj hji hjun hnot) (fun cs b => hsel i oi cs b hi) (fun cs b => hsel j oj cs b hoj) hQ hy h1
      have hfree':∀ k ok,ops[k]? = some ok → k ≠ i → (listed.setIfInBounds j true).getD k true = false →
          (∀ e ∈ ok.after,Region.binds md e = true → e.on ≠ i) → oi.apart ops ok = true:=fun k ok hk hki hun hno => by
        refine hfree k ok hk hki ?_ hno
        by_cases hjk:j = k
        · subst hjk;exact hjun
        · rw [getD_set_ne true hjk] at hun;exact hun
      refine wpOp_mono (fun a' w' h3 => ⟨(fun h => h3.2.1 (getD_n h)),ih (listed.setIfInBounds j true) a' w' hfree' (ready_mono hr (Ne.symm hji)) h3.1 (by rw [getD_set_ne true hjn];exact hn) (h3.2.1 (getD_n (by rw [getD_set_ne true hjn];exact hn))) ?_⟩) h2
      rw [Array.setIfInBounds_comm _ _ hji]
      exact h3.2.2
theorem wpAnyX_first0 {i:Nat} {oi:Oper} {v:Value} (hni:i ≠ n) (hi:ops[i]? = some oi) (hsel:∀ (j:Nat) (o:Oper) cs b,ops[j]? = some o → o.op ≠ .select cs b)
    (hQ:∀ c a w,Q (.panic c) (a.put oi.dst v) w → Q (.panic c) a w) :
    ∀ (fuel:Nat) (listed:Array Bool) (a:Act) (w:World),
      (∀ j oj,ops[j]? = some oj → j ≠ i → listed.getD j true = false → (∀ e ∈ oj.after,Region.binds md e = true → e.on ≠ i) → oi.apart ops oj = true) →
      i ∈ Region.ready md ops listed → YieldsIf P ops (fun _ => True) oi v a → (listed.getD n true = false → S w) →
      wpAnyX P md ops Q S n fuel (listed.setIfInBounds i true) (a.put oi.dst v) w → wpAnyX P md ops Q S n (fuel + 1) listed a w:=by
  intro fuel
  induction fuel with
  | zero =>
    intro listed a w _ hr hy hS H
    refine ⟨fun h => (by rw [h] at hr;cases hr),fun j hj => ?_⟩
    by_cases hji:j = i
    · subst hji;exact hy.wpOp hi trivial ⟨fun h => hS (by
        by_cases hin:j = n
        · subst hin;exact (mem_ready.1 hr).1
        · rwa [getD_set_ne true hin] at h),H⟩
    · have:=ready_mono hj hji
      rw [H.1] at this
      cases this
  | succ fuel ih =>
    intro listed a w hfree hr hy hS H
    refine ⟨fun h => (by rw [h] at hr;cases hr),fun j hj => ?_⟩
    by_cases hji:j = i
    · subst hji;exact hy.wpOp hi trivial ⟨fun h => hS (by
        by_cases hin:j = n
        · subst hin;exact (mem_ready.1 hr).1
        · rwa [getD_set_ne true hin] at h),H⟩
    · have h1:=H.2 j (ready_mono hj hji)
      have getD_n:(listed.setIfInBounds j true).getD n true = false → ((listed.setIfInBounds i true).setIfInBounds j true).getD n true = false:=fun h => by
        rw [Array.setIfInBounds_comm _ _ (Ne.symm hji),getD_set_ne true hni];exact h
      obtain ⟨hjun,oj,hoj,hall⟩:=mem_ready.1 hj
      have hnot:∀ e ∈ oj.after,Region.binds md e = true → e.on ≠ i:=fun e he hb heq => by
        have h1:=hall e he hb
        rw [heq,getD_both (mem_ready.1 hr).1] at h1
        cases h1
      have h2:=wpOp_putIf hoj (hfree j oj hoj hji hjun hnot) (fun cs b => hsel i oi cs b hi) (fun cs b => hsel j oj cs b hoj) hQ hy h1
      have hfree':∀ k ok,ops[k]? = some ok → k ≠ i → (listed.setIfInBounds j true).getD k true = false →
          (∀ e ∈ ok.after,Region.binds md e = true → e.on ≠ i) → oi.apart ops ok = true:=fun k ok hk hki hun hno => by
        refine hfree k ok hk hki ?_ hno
        by_cases hjk:j = k
        · subst hjk;exact hjun
        · rw [getD_set_ne true hjk] at hun;exact hun
      refine wpOp_mono (fun a' w' h3 => ⟨(fun h => h3.2.1 (getD_n h)),ih (listed.setIfInBounds j true) a' w' hfree' (ready_mono hr (Ne.symm hji)) h3.1 (fun h => h3.2.1 (getD_n h)) ?_⟩) h2
      rw [Array.setIfInBounds_comm _ _ hji]
      exact h3.2.2
theorem wpAnyX_take {i:Nat} {oi:Oper} {v:Value} {fuel:Nat} {listed:Array Bool} {a:Act} {w:World} (hi:ops[i]? = some oi) (hB:Region.waitsFor md ops n i = true) (hni:i ≠ n) (hn:listed.getD n true = false)
    (hs:Region.noSelect ops = true) (hf:Region.free md ops listed i = true) (hr:(Region.ready md ops listed).contains i = true)
    (hQ:∀ c a w,Q (.panic c) (a.put oi.dst v) w → Q (.panic c) a w) (hy:YieldsIf P ops S oi v a) (hS:S w)
    (h:wpAnyX P md ops Q S n fuel (listed.setIfInBounds i true) (a.put oi.dst v) w):wpAnyX P md ops Q S n (fuel + 1) listed a w:=
  wpAnyX_first hB hni hi (Region.noSelect_spec hs) hQ fuel listed a w (Region.free_spec hi hf) (by simpa using hr) hy hn hS h
theorem wpAnyX_take0 {i:Nat} {oi:Oper} {v:Value} {fuel:Nat} {listed:Array Bool} {a:Act} {w:World} (hi:ops[i]? = some oi) (hni:i ≠ n)
    (hs:Region.noSelect ops = true) (hf:Region.free md ops listed i = true) (hr:(Region.ready md ops listed).contains i = true)
    (hQ:∀ c a w,Q (.panic c) (a.put oi.dst v) w → Q (.panic c) a w) (hy:YieldsIf P ops (fun _ => True) oi v a) (hS:S w)
    (h:wpAnyX P md ops Q S n fuel (listed.setIfInBounds i true) (a.put oi.dst v) w):wpAnyX P md ops Q S n (fuel + 1) listed a w:=
  wpAnyX_first0 hni hi (Region.noSelect_spec hs) hQ fuel listed a w (Region.free_spec hi hf) (by simpa using hr) hy (fun _ => hS) h
def AllReadyX (P:Program) (md:Region.Mode) (ops:Array Oper) (Q:Exit → Act → World → Prop) (S:World → Prop) (n:Nat) (fuel:Nat) (listed:Array Bool) (a:Act) (w:World) (rs:List Nat):Prop:=
  ∀ i ∈ rs,wpOp P ops Q i (fun a' w' => ((listed.setIfInBounds i true).getD n true = false → S w') ∧ wpAnyX P md ops Q S n fuel (listed.setIfInBounds i true) a' w') a w
theorem AllReadyX.nil {fuel:Nat} {listed:Array Bool} {a:Act} {w:World}:AllReadyX P md ops Q S n fuel listed a w []:=fun _ h => by cases h
theorem AllReadyX.cons {fuel:Nat} {listed:Array Bool} {a:Act} {w:World} {i:Nat} {o:Oper} {rs:List Nat} (ho:ops[i]? = some o)
    (h:∀ K':Act → World → Prop,Shut (∀ a w,S w → (S w → wpAnyX P md ops Q S n fuel (listed.setIfInBounds i true) a w) → K' a w) → if Region.wanted o (yielded ops a.tmps) = true then Oper.wp P o a w K' Q else K' (a.put o.dst undef) w)
    (hs:AllReadyX P md ops Q S n fuel listed a w rs):AllReadyX P md ops Q S n fuel listed a w (i :: rs):=fun j hj => by
  rcases List.mem_cons.1 hj with rfl | hj
  · exact wpOp_step ho (fun K' hK => h K' (fun a w hS hW => hK a w ⟨fun _ => hS,hW hS⟩))
  · exact hs j hj
theorem wpAnyX_ready {rs:List Nat} {fuel:Nat} {listed:Array Bool} {a:Act} {w:World} (hr:Region.ready md ops listed = rs) (hne:rs ≠ [])
    (h:AllReadyX P md ops Q S n fuel listed a w rs):wpAnyX P md ops Q S n (fuel + 1) listed a w:=⟨fun h0 => absurd (hr ▸ h0) hne,hr ▸ h⟩
theorem wpAnyX_seq:∀ (l:List Oper) (k:Nat) (listed:Array Bool) (a:Act) (w:World),(k ≠ n → listed.getD n true = true) → (∀ j,l[j]? = ops[k + j]?) →
    Region.seqB md ops l.length k listed = true → wpList P ops Q l a w → wpAnyX P md ops Q S n l.length listed a w
  | [],_,_,_,_,_,_,hB,h => ⟨by simpa [Region.seqB] using hB,h⟩
  | o :: l,k,listed,a,w,hk,hl,hB,h => by
    have h0:ops[k]? = some o:=by simpa using (hl 0).symm
    simp only [List.length_cons,Region.seqB,Bool.and_eq_true,decide_eq_true_eq] at hB
    have hset:(listed.setIfInBounds k true).getD n true = true:=by
      by_cases hkn:k = n
      · subst hkn
        rcases Nat.lt_or_ge k listed.size with h' | h'
        · simp [h']
        · simp [Nat.not_lt.2 h']
      · rw [getD_set_ne true hkn];exact hk hkn
    refine ⟨fun h1 => (by rw [hB.1] at h1;cases h1),fun i hi => ?_⟩
    rw [hB.1] at hi
    have hik:i = k:=by simpa using hi
    subst hik
    have hw:wpOp P ops Q i (wpList P ops Q l) a w:=by unfold wpOp;simp only [h0];exact h
    exact wpOp_mono (fun a' w' h' => ⟨fun h => (by rw [hset] at h;cases h),wpAnyX_seq l (i + 1) _ a' w' (fun _ => hset) (fun j => by have:=hl (j + 1);simpa [Nat.add_assoc,Nat.add_comm 1 j] using this) hB.2 h'⟩) hw
theorem wpAnyX_tail {l:List Oper} {fuel:Nat} {listed:Array Bool} {a:Act} {w:World} (hf:fuel = (l.drop n).length) (hB:Region.seqB md l.toArray (l.drop n).length n listed = true) (h:wpList P l.toArray Q (l.drop n) a w) :
    wpAnyX P md l.toArray Q S n fuel listed a w:=by
  subst hf
  exact wpAnyX_seq (l.drop n) n listed a w (fun h => absurd rfl h) (fun j => by simp [List.getElem?_drop]) hB h
theorem step_appX {t e:TypeId} {z:Value} {size bytes:Nat} (T:ElemT P t e z size bytes) {w:World} {o:Oper} {tm:Array Value} {a:Act} {K:Act → World → Prop} {E:Prop}
    (s x:Operand) (hgd:o.guard = none) (ho:o.op = .call { callee:=.builtin .append,args:=#[s,x],argTypes:=#[t,t] })
    (base:Nat) (v:Value) (n:Nat) (xs:List Value) (hs:a.eval s = v) (hown:w.ownsRow base e size v n xs)
    (A:Option Addr) (m c:Nat) (us:List Value) (hx:a.eval x = .slice A m c) (hr:Rd w A us) (hus:us.length = m * size) (h1:∀ u ∈ us,u.oneCell' = true)
    (hb:(n + m) * bytes ≤ 140737488355328) (h63:n + m ≤ maxLen) (hbase:base ≤ w.heap.size)
    (h:∀ A' c' w',w'.ownsRow base e size (.slice A' (n + m) c') (n + m) (xs ++ us) → Below base w w' → w.grownBy w' v.ownBlock → ((Value.slice A' (n + m) c').ownBlock = v.ownBlock ∨ (Value.slice A' (n + m) c').ownBlock = some w.heap.size) → K (a.put o.dst (.slice A' (n + m) c')) w') :
    if Region.wanted o (yielded ops tm) = true then Oper.wp P o a w K Q else E:=by
  rw [if_pos (by simp [Region.wanted,hgd])]
  have:=step_app (ops:=ops) (K:=K) (Q:=Q) (E:=E) T hgd s x ho base v n xs hs hown A m c us hx hr hus h1 hb h63 hbase h
  rwa [if_pos (by simp [Region.wanted,hgd])] at this
theorem wp_region_X (n:Nat) (S:World → Prop) {id:Nat} {a:Act} {w:World} (hm:P.follows .mixedOrders = true)
    (h:wpAnyX P .any ops Q S n ops.size (Array.replicate ops.size false) a w.drew):(Code.region id ops true).wp P Q a w:=
  wp_region_any hm (wpAny_of_X _ _ _ _ h)
end
end Go.Proofs.YtaccfnffmbndhaaGreat
