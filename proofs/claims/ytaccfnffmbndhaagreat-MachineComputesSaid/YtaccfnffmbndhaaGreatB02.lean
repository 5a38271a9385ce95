/- Data that came in, opened part by part: what each type's cells read as. A world whose blocks below a number are empty: what is read there lies above. Worlds of which some blocks are hidden: what is read there stays when the hidden blocks change. The product of two fixed-point numbers, in plain arithmetic: no program. Vectors of fixed-point numbers, in plain lists. Blocks and epochs, in plain numbers. No condition. -/
import Derived.Test.YtaccfnffmbndhaaGreatB01
import Derived.ProofKit
import Derived.OpenShut
import Derived.Deep.Slices
import Derived.RowKit
set_option linter.unusedSimpArgs false
set_option linter.unusedVariables false
namespace Go.Proofs.YtaccfnffmbndhaaGreat
open Go.RowKit Go.ChangeShapes Go.WideShapes Go.ChangeAt
abbrev Reader (α:Type):=World → List Value → α → Prop
def Stays {α:Type} (R:Reader α):Prop:=∀ {w w':World} {cs:List Value} {a:α},Below w.heap.size w w' → R w cs a → R w' cs a
def rowOf (l:List (List Value)) (j:Nat):List Value:=l.getD j []
theorem rowOf_get {l:List (List Value)} {j:Nat} (h:j < l.length):rowOf l j = l[j]:=by simp [rowOf,h]
theorem flat_get {rows:List (List Value)} {k:Nat} (h:∀ r ∈ rows,r.length = k) (i t:Nat) (hi:i < rows.length) (ht:t < k):(List.flatten rows)[i * k + t]? = (rowOf rows i)[t]?:=by
  induction rows generalizing i with
  | nil => simp at hi
  | cons r l ih =>
    have hr:r.length = k:=h r (by simp)
    cases i with
    | zero =>
      rw [List.flatten_cons,Nat.zero_mul,Nat.zero_add,List.getElem?_append_left (by omega)]
      simp [rowOf]
    | succ i =>
      rw [List.flatten_cons,List.getElem?_append_right (by rw [hr,Nat.add_mul];omega),hr,show (i + 1) * k + t - k = i * k + t by rw [Nat.add_mul];omega,ih (fun r hr => h r (by simp [hr])) i (by simpa using hi)]
      simp [rowOf]
theorem flat_len {rows:List (List Value)} {k:Nat} (h:∀ r ∈ rows,r.length = k):(List.flatten rows).length = rows.length * k:=by
  induction rows with
  | nil => simp
  | cons r l ih => rw [List.flatten_cons,List.length_append,h r (by simp),ih (fun r hr => h r (by simp [hr])),List.length_cons,Nat.add_mul];omega
def SlRd {α:Type} (R:Reader α) (size:Nat) (w:World) (A:Option Addr) (l:List α):Prop:=
  ∃ rows,Rd w A (List.flatten rows) ∧ rows.length = l.length ∧ (∀ r ∈ rows,r.length = size) ∧ ∀ j x,l[j]? = some x → R w (rowOf rows j) x
def rSl {α:Type} (R:Reader α) (size:Nat):Reader (List α):=fun w cs l => ∃ A c,cs = [.slice A l.length c] ∧ l.length ≤ c ∧ c ≤ 9223372036854775807 ∧ l.length ≤ 17592186043904 ∧ SlRd R size w A l
def rInt (k:IntKind):Reader Int:=fun _ cs n => cs = [.int k n] ∧ (Lit.int k n).wf = true
def rNums (q:IntKind):Reader (List Int):=fun w cs zs => ∃ A c,cs = [.slice A zs.length c] ∧ zs.length ≤ c ∧ c ≤ 9223372036854775807 ∧ zs.length ≤ 17592186043904 ∧ Rd w A (nums q zs) ∧ ∀ z ∈ zs,(Lit.int q z).wf = true
section
variable {α:Type} {R:Reader α} {size:Nat} {w w':World} {A:Option Addr} {l:List α}
theorem SlRd.below (hR:Stays R) (h:SlRd R size w A l) (hb:Below w.heap.size w w'):SlRd R size w' A l:=by
  obtain ⟨rows,h1,h2,h3,h4⟩:=h
  exact ⟨rows,h1.below hb,h2,h3,fun j x hx => hR hb (h4 j x hx)⟩
theorem SlRd.nil (R:Reader α) (size:Nat) (w:World) (A:Option Addr):SlRd R size w A []:=⟨[],Rd.nil _ _,rfl,by simp,by simp⟩
theorem SlRd.get (h:SlRd R size w A l) (hs:0 < size) {j:Nat} {x:α} (hx:l[j]? = some x) :
    ∃ b o cs,A = some ⟨b,o,none⟩ ∧ b < w.heap.size ∧ cs.length = size ∧ R w cs x ∧ w.cell? ⟨b,o + j * size,none⟩ = cs[0]? ∧ ∀ t,t < size → w.cell? ⟨b,o + j * size + t,none⟩ = cs[t]?:=by
  obtain ⟨rows,h1,h2,h3,h4⟩:=h
  have hj:j < rows.length:=by rw [h2];exact (List.getElem?_eq_some_iff.1 hx).1
  have hrl:(rowOf rows j).length = size:=h3 _ (by rw [rowOf_get hj];exact List.getElem_mem hj)
  have hx0:∀ t,t < size → ∃ u,(rowOf rows j)[t]? = some u:=fun t ht => ⟨_,List.getElem?_eq_getElem (by omega)⟩
  obtain ⟨u0,hu0⟩:=hx0 0 hs
  obtain ⟨b,o,rfl,c0⟩:=h1 (j * size + 0) u0 ((flat_get h3 j 0 hj hs).trans hu0)
  have hc:∀ t,t < size → w.cell? ⟨b,o + j * size + t,none⟩ = (rowOf rows j)[t]?:=fun t ht => by
    obtain ⟨u,hu⟩:=hx0 t ht
    obtain ⟨b',o',e',c⟩:=h1 (j * size + t) u ((flat_get h3 j t hj ht).trans hu)
    injection e' with e';injection e' with e1 e2 _
    subst e1;subst e2
    rw [Nat.add_assoc,c,hu]
  refine ⟨b,o,rowOf rows j,rfl,lt_of_cell c0,hrl,h4 j x hx,?_,hc⟩
  have:=hc 0 hs
  rwa [Nat.add_zero] at this
end
def Light {H:Type} (P:Program) (t:TypeId) (d:DataW H):Prop:=∀ n ∈ d.weights P t,n ≤ 140737488351232
theorem light_all {H:Type} {P:Program} {e:TypeId}:∀ {l:List (DataW H)},(∀ n ∈ DataW.weightsAll P e l,n ≤ 140737488351232) → ∀ (i:Nat) (d:DataW H),l[i]? = some d → Light P e d:=by
  intro l
  induction l with
  | nil => intro _ i d h;simp at h
  | cons x r ih =>
    intro h i d hi
    unfold DataW.weightsAll at h
    cases i with
    | zero =>
      simp at hi;subst hi
      exact fun n hn => h n (List.mem_append.2 (.inl hn))
    | succ i => exact ih (fun n hn => h n (List.mem_append.2 (.inr hn))) i d (by simpa using hi)
theorem light_each {H:Type} {P:Program}:∀ {ts:List TypeId} {l:List (DataW H)},(∀ n ∈ DataW.weightsEach P ts l,n ≤ 140737488351232) → ∀ (i:Nat) (t:TypeId) (d:DataW H),ts[i]? = some t → l[i]? = some d → Light P t d:=by
  intro ts
  induction ts with
  | nil => intro l _ i t d h;simp at h
  | cons t0 ts ih =>
    intro l h i t d ht hd
    cases l with
    | nil => simp at hd
    | cons x r =>
      unfold DataW.weightsEach at h
      cases i with
      | zero =>
        simp at ht hd;subst ht;subst hd
        exact fun n hn => h n (List.mem_append.2 (.inl hn))
      | succ i => exact ih (fun n hn => h n (List.mem_append.2 (.inr hn))) i t d (by simpa using ht) (by simpa using hd)
theorem light_of_all {H:Type} {P:Program} {ts:List TypeId} {l:List (DataW H)} (h:(DataW.weightsEach P ts l).all (· ≤ reachBytes) = true) {i:Nat} {t:TypeId} {d:DataW H} (ht:ts[i]? = some t) (hd:l[i]? = some d):Light P t d:=
  light_each (fun n hn => by have h2:n ≤ reachBytes:=of_decide_eq_true (List.all_eq_true.1 h n hn);exact h2) i t d ht hd
def Opens (P:Program) (t:TypeId) (size:Nat) {α:Type} (R:Reader α):Prop:=
  P.cellsOf t = size ∧ ∀ {H:Type} {enc:TypeId × Value → H} {W:World} {fuel:Nat} {cs:List Value} {x:DataW H × List MemPlace},DataW.trod enc P W 0 (fun _ => true) true fuel t cs = some x → Light P t x.1 → cs.length = size ∧ ∃ a,R W cs a
theorem opens_int {P:Program} {t:TypeId} {k:IntKind} (ht:P.underlying t = some (.int k)) (hc:P.cellsOf t = 1):Opens P t 1 (rInt k):=⟨hc,fun h _ => by
  obtain ⟨n,rfl,_,hw⟩:=DataW.trod_int ht h
  exact ⟨rfl,n,rfl,hw⟩⟩
theorem rd_adds {w:World} {a:Addr} {xs:List Value} (h:∀ i u,xs[i]? = some u → w.cell? (a.add i) = some u):Rd w (some a) xs:=fun k u hu => by
  have h0:∃ u0,xs[0]? = some u0:=by
    have:=(List.getElem?_eq_some_iff.1 hu).1
    exact ⟨xs[0],List.getElem?_eq_getElem (by omega)⟩
  obtain ⟨u0,hu0⟩:=h0
  have h00:=h 0 u0 hu0
  have e:a.add 0 = a:=by simp [Addr.add]
  rw [e] at h00
  have ha:a = ⟨a.block,a.off,none⟩:=by
    obtain ⟨b,o,s⟩:=a
    unfold World.cell? at h00
    split at h00
    · cases s with
      | none => rfl
      | some x => simp at h00
    · cases h00
  refine ⟨a.block,a.off,by rw [← ha],?_⟩
  have hk:=h k u hu
  rw [ha,Addr.add_lit] at hk
  exact hk
theorem opens_nums {P:Program} {t e:TypeId} {q:IntKind} (ht:P.underlying t = some (.slice e)) (he:P.underlying e = some (.int q)) (hc:P.cellsOf e = 1) (hct:P.cellsOf t = 1) (hb:P.bytesOf e = 8):Opens P t 1 (rNums q):=⟨hct,fun {H enc W fuel cs y} h hlt => by
  have hlen:∀ a l c,cs = [.slice a l c] → l ≤ 17592186043904:=fun a l c hcs => by
    rcases Go.Deep.open_slice ht h with ⟨h0,_⟩ | ⟨a',len,cap,m,n,D,Pl,h0,_,hl,_,hmm,hx,_⟩
    · rw [hcs] at h0;injection h0 with h0;injection h0 with _ h0;omega
    · rw [hcs] at h0;injection h0 with h0;injection h0 with _ h0;subst h0
      have hw:=hlt ((l + (m - l)) * 8) (by rw [hx];simp [DataW.weights,ht,hb])
      omega
  rcases open_ints ht he hc h with ⟨rfl,_⟩ | ⟨x,l,c,zs,rfl,_,hl,hm,hz,_,hcell,hwz⟩
  · exact ⟨rfl,[],none,0,rfl,Nat.le_refl _,by omega,by simp,Rd.nil _ _,by simp⟩
  · have hll:=hlen _ _ _ rfl
    refine ⟨rfl,zs.take l,some x,c,?_,by simp;omega,by unfold maxLen at hm;exact hm,by simp;omega,?_,fun z hz => hwz z (List.mem_of_mem_take hz)⟩
    · rw [List.length_take];simp at hz;rw [Nat.min_eq_left (by omega)]
    · refine rd_adds fun i u hu => ?_
      rw [← nums_take,List.getElem?_take] at hu
      split at hu
      · rename_i hi
        have hi':i < zs.length:=by simp at hz;omega
        rw [nums_get q zs i hi'] at hu
        rw [hcell i hi',← hu,nth_eq zs i hi']
        simp [List.getD,hi']
      · cases hu⟩
theorem opens_slice {P:Program} {t e:TypeId} {size:Nat} {α:Type} {R:Reader α} (ht:P.underlying t = some (.slice e)) (hR:Opens P e size R) (hct:P.cellsOf t = 1) (hb:8 ≤ P.bytesOf e):Opens P t 1 (rSl R size):=⟨hct,fun {H enc W fuel cs x} h hlt => by
  rcases Go.Deep.open_slice ht h with ⟨rfl,_⟩ | ⟨a,len,cap,m,n,D,Pl,rfl,_,hl,hm,hmm,hx,hi⟩
  · exact ⟨rfl,[],none,0,rfl,Nat.le_refl _,by omega,by simp,SlRd.nil _ _ _ _⟩
  · simp at hmm
    subst hmm
    obtain ⟨hsz,hop⟩:=hR
    rw [hsz] at hi
    have hlen:len ≤ 17592186043904:=by
      have hw:=hlt ((len + (m - len)) * P.bytesOf e) (by rw [hx];simp [DataW.weights,ht])
      have:=Nat.mul_le_mul_left (len + (m - len)) hb
      omega
    have hel:∀ i,i < len → Light P e (D i):=fun i hil => by
      refine light_all (l:=(List.range len).map D) (fun n hn => hlt n ?_) i (D i) (by simp [hil])
      rw [hx];simp only [DataW.weights,ht]
      exact List.mem_cons_of_mem _ (List.mem_append.2 (.inl hn))
    classical
    have hall:∀ i,i < len → ∃ cs' x,W.cells? 0 (a.add (i * size)) size = some cs' ∧ cs'.length = size ∧ R W cs' x:=fun i hlt => by
      obtain ⟨cs',h1,h2⟩:=hi i (by omega)
      obtain ⟨h3,x,h4⟩:=hop h2 (hel i hlt)
      exact ⟨cs',x,h1,h3,h4⟩
    let rw1:Nat → List Value:=fun i => if hlt:i < len then Classical.choose (hall i hlt) else []
    have hrw:∀ i (hlt:i < len),∃ x,W.cells? 0 (a.add (i * size)) size = some (rw1 i) ∧ (rw1 i).length = size ∧ R W (rw1 i) x:=fun i hlt => by
      have:=Classical.choose_spec (hall i hlt)
      simp only [rw1,dif_pos hlt]
      exact this
    let el:(i:Nat) → i < len → α:=fun i hlt => Classical.choose (hrw i hlt)
    let l:List α:=List.ofFn (n:=len) fun i => el i.1 i.2
    have hll:l.length = len:=by simp [l]
    refine ⟨rfl,l,some a,m,by rw [hll],by rw [hll];exact hl,by unfold maxLen at hm;exact hm,by rw [hll];exact hlen,(List.range len).map rw1,?_,by simp [l],?_,?_⟩
    · have h3:∀ r ∈ (List.range len).map rw1,r.length = size:=by
        intro r hr
        obtain ⟨i,hi',rfl⟩:=List.mem_map.1 hr
        obtain ⟨x,_,h,_⟩:=hrw i (List.mem_range.1 hi')
        exact h
      refine rd_adds fun i u hu => ?_
      have hlt:=(List.getElem?_eq_some_iff.1 hu).1
      rw [flat_len h3,List.length_map,List.length_range] at hlt
      have hspos:0 < size:=by
        rcases Nat.eq_zero_or_pos size with h | h
        · rw [h] at hlt;omega
        · exact h
      have hdm:i = i / size * size + i % size:=by rw [Nat.mul_comm];exact (Nat.div_add_mod i size).symm
      have hq:i / size < len:=Nat.div_lt_of_lt_mul (by rw [Nat.mul_comm];exact hlt)
      have hr:=Nat.mod_lt i hspos
      obtain ⟨x,hx1,hx2,_⟩:=hrw _ hq
      obtain ⟨_,_,hx3⟩:=World.cells?_some hx1
      rw [hdm,flat_get h3 _ _ (by simpa using hq) hr] at hu
      have e:rowOf ((List.range len).map rw1) (i / size) = rw1 (i / size):=by simp [rowOf,hq]
      rw [e,← hx3 _ hr] at hu
      rw [hdm]
      rw [Go.Deep.add_add] at hu
      exact hu
    · intro r hr
      obtain ⟨i,hi',rfl⟩:=List.mem_map.1 hr
      obtain ⟨x,_,h,_⟩:=hrw i (List.mem_range.1 hi')
      exact h
    · intro j x hx
      have hj:j < len:=by rw [← hll];exact (List.getElem?_eq_some_iff.1 hx).1
      have e:rowOf ((List.range len).map rw1) j = rw1 j:=by simp [rowOf,hj]
      rw [e]
      have hx':x = el j hj:=by
        have:=List.getElem?_eq_some_iff.1 hx
        obtain ⟨h1,h2⟩:=this
        rw [← h2]
        simp [l]
      rw [hx']
      exact (Classical.choose_spec (hrw j hj)).2.2⟩
theorem field_opens {P:Program} {t ts:TypeId} {fs:Array Field} {size:Nat} {α:Type} {R:Reader α} (hR:Opens P t size R) (hts:P.underlying ts = some (.struct fs)) {H:Type} {enc:TypeId × Value → H} {W:World} {n off:Nat} {cs:List Value} {x:DataW H × List MemPlace} {xs:List (DataW H × List MemPlace)} (hx:x = (.agg (xs.map (·.1)),xs.flatMap (·.2))) (hl:Light P ts x.1) {i:Nat}
    (h:DataW.trod enc P W 0 (fun _ => true) true n t ((cs.drop off).take (P.cellsOf t)) = xs[i]?) (hi:i < xs.length) (hft:(fs.toList.map (·.type))[i]? = some t):∃ a,R W ((cs.drop off).take size) a:=by
  obtain ⟨hc,hop⟩:=hR
  rw [hc,List.getElem?_eq_getElem hi] at h
  refine (hop h ?_).2
  subst hx
  simp only [Light,DataW.weights,hts] at hl
  exact light_each hl i t _ hft (by simp [List.getElem?_eq_getElem hi])
theorem opens_param {P:Program} {t:TypeId} {size:Nat} {α:Type} {R:Reader α} (hR:Opens P t size R) {H:Type} {enc:TypeId × Value → H} {W:World} {v:Value} {d:DataW H} {p:List MemPlace} (h:DataW.Trod enc P W 0 (fun _ => true) true t v d p) (hl:Light P t d):∃ a,R W v.cells.toList a ∧ v.cells.toList.length = size:=by
  obtain ⟨fuel,hf⟩:=h
  obtain ⟨h1,a,h2⟩:=hR.2 hf hl
  exact ⟨a,h2,h1⟩
end Go.Proofs.YtaccfnffmbndhaaGreat
namespace Go.Proofs.YtaccfnffmbndhaaGreat
open Go.RowKit
def topW (B:Nat) (w:World):World:={ w with heap:=w.heap.mapIdx fun k o => if k < B then .cells #[] 0 (0,0) else o }
theorem top_size (B:Nat) (w:World):(topW B w).heap.size = w.heap.size:=by simp [topW]
theorem top_blk {B k:Nat} {w:World} (h:B ≤ k):(topW B w).heap[k]? = w.heap[k]?:=by
  simp only [topW,Array.getElem?_mapIdx]
  have h':¬ k < B:=by omega
  simp [h']
theorem top_low {B k:Nat} {w:World} (h:k < B) (hk:k < w.heap.size):(topW B w).heap[k]? = some (.cells #[] 0 (0,0)):=by
  simp only [topW,Array.getElem?_mapIdx]
  simp [h,hk]
theorem top_keep (B:Nat) (w:World):Keep (fun j => j < B) w (topW B w):=⟨rfl,rfl,rfl,by rw [top_size];exact Nat.le_refl _,fun k _ hn => top_blk (by omega)⟩
theorem own_top {w:World} {B base:Nat} {e:TypeId} {size:Nat} {v:Value} {n:Nat} {xs:List Value} (h:w.ownsRow base e size v n xs) (hB:B ≤ base):(topW B w).ownsRow base e size v n xs:=
  (top_keep B w).own h fun k hk hl => by have:=(h.lt k hk).1;omega
theorem top_below {B:Nat} {w w':World} (h:Below w.heap.size w w'):Below (topW B w).heap.size (topW B w) (topW B w'):=
  ⟨h.os,h.tape,h.output,by rw [top_size,top_size];exact h.size,fun k hk => by
    rw [top_size] at hk
    rcases Nat.lt_or_ge k B with hb | hb
    · rw [top_low hb (Nat.lt_of_lt_of_le hk h.size),top_low hb hk]
    · rw [top_blk hb,top_blk hb,h.block k hk]⟩
def Agr (B:Nat) (u v:World):Prop:=∀ k,B ≤ k → k < u.heap.size → v.heap[k]? = u.heap[k]?
theorem Agr.refl (B:Nat) (u:World):Agr B u u:=fun _ _ _ => rfl
theorem top_cell {B:Nat} {u v:World} {a:Addr} {x:Value} (h:(topW B u).cell? a = some x) (hv:Agr B u v):v.cell? a = some x:=by
  have hl:=lt_of_cell h
  rw [top_size] at hl
  rcases Nat.lt_or_ge a.block B with hb | hb
  · have h0:=top_low (w:=u) hb hl
    rw [World.cell?] at h
    simp only [h0] at h
    simp at h
  · exact (World.cell?_of_block (w:=topW B u) ((hv _ hb hl).trans (top_blk hb).symm)).trans h
theorem top_heap {B:Nat} {u v:World} {b:Nat} {x:Value} {xs:List Value} {t:TypeId} {fr:Nat × Nat} (h:(topW B u).heap[b]? = some (.cells (x :: xs).toArray t fr)) (hv:Agr B u v):v.heap[b]? = some (.cells (x :: xs).toArray t fr):=by
  have hl:=lt_of_block h
  rw [top_size] at hl
  rcases Nat.lt_or_ge b B with hb | hb
  · rw [top_low hb hl] at h
    simp at h
  · rw [hv b hb hl,← top_blk hb];exact h
theorem top_rd {B:Nat} {u v:World} {A:Option Addr} {xs:List Value} (h:Rd (topW B u) A xs) (hv:Agr B u v):Rd v A xs:=fun k x hx => by
  obtain ⟨b,o,e,hc⟩:=h k x hx
  exact ⟨b,o,e,top_cell hc hv⟩
theorem agr_top {B B1:Nat} {u:World} (h:B ≤ B1):Agr B1 u (topW B u):=fun k hk _ => top_blk (by omega)
end Go.Proofs.YtaccfnffmbndhaaGreat
namespace Go.Proofs.YtaccfnffmbndhaaGreat
open Go.RowKit
def Ext (u v:World):Prop:=∀ k,k < u.heap.size → u.heap[k]? = some (.cells #[] 0 (0,0)) ∨ v.heap[k]? = u.heap[k]?
theorem ext_cell {u v:World} {a:Addr} {x:Value} (h:u.cell? a = some x) (hv:Ext u v):v.cell? a = some x:=by
  rcases hv _ (lt_of_cell h) with h0 | h0
  · rw [World.cell?] at h
    simp only [h0] at h
    simp at h
  · exact (World.cell?_of_block (w:=u) h0).trans h
theorem ext_heap {u v:World} {b:Nat} {x:Value} {xs:List Value} {t:TypeId} {fr:Nat × Nat} (h:u.heap[b]? = some (.cells (x :: xs).toArray t fr)) (hv:Ext u v):v.heap[b]? = some (.cells (x :: xs).toArray t fr):=by
  rcases hv _ (lt_of_block h) with h0 | h0
  · rw [h0] at h;simp at h
  · rw [h0];exact h
theorem ext_rd {u v:World} {A:Option Addr} {xs:List Value} (h:Rd u A xs) (hv:Ext u v):Rd v A xs:=fun k x hx => by
  obtain ⟨b,o,e,hc⟩:=h k x hx
  exact ⟨b,o,e,ext_cell hc hv⟩
def Exts {α:Type} (R:Reader α):Prop:=∀ {u v:World} {cs:List Value} {x:α},R u cs x → Ext u v → R v cs x
theorem ext_sl {α:Type} {R:Reader α} {size:Nat} {u v:World} {A:Option Addr} {l:List α} (hR:Exts R) (h:SlRd R size u A l) (hv:Ext u v):SlRd R size v A l:=by
  obtain ⟨rows,h1,h2,h3,h4⟩:=h
  exact ⟨rows,ext_rd h1 hv,h2,h3,fun j x hx => hR (h4 j x hx) hv⟩
noncomputable def hideW (S:Nat → Prop) (w:World):World:=by
  classical exact { w with heap:=w.heap.mapIdx fun k o => if S k then .cells #[] 0 (0,0) else o }
theorem hide_size (S:Nat → Prop) (w:World):(hideW S w).heap.size = w.heap.size:=by simp [hideW]
theorem hide_blk {S:Nat → Prop} {w:World} {k:Nat} (h:¬ S k):(hideW S w).heap[k]? = w.heap[k]?:=by
  simp only [hideW,Array.getElem?_mapIdx]
  simp [h]
theorem hide_in {S:Nat → Prop} {w:World} {k:Nat} (h:S k) (hk:k < w.heap.size):(hideW S w).heap[k]? = some (.cells #[] 0 (0,0)):=by
  simp only [hideW,Array.getElem?_mapIdx]
  simp [h,hk]
theorem ext_hide (S:Nat → Prop) (w:World):Ext (hideW S w) w:=fun k hk => by
  rw [hide_size] at hk
  by_cases h:S k
  · exact .inl (hide_in h hk)
  · exact .inr (hide_blk h).symm
theorem ext_step {S S':Nat → Prop} {w w':World} (hk:Keep S w w') (hs:∀ k,k < w.heap.size → S' k → S k):Ext (hideW S w) (hideW S' w'):=fun k hl => by
  rw [hide_size] at hl
  by_cases h:S k
  · exact .inl (hide_in h hl)
  · exact .inr (by rw [hide_blk h,hide_blk (fun e => h (hs k hl e)),hk.block k hl h])
theorem ext_topA {B:Nat} {S:Nat → Prop} {u w:World} (hb:∀ k,B ≤ k → k < u.heap.size → w.heap[k]? = u.heap[k]?) (hs:∀ k,B ≤ k → k < u.heap.size → ¬ S k):Ext (topW B u) (hideW S w):=fun k hl => by
  rw [top_size] at hl
  rcases Nat.lt_or_ge k B with h | h
  · exact .inl (top_low h hl)
  · exact .inr (by rw [hide_blk (hs k h hl),hb k h hl,top_blk h])
theorem rd_hide {S:Nat → Prop} {w:World} {A:Option Addr} {xs:List Value} (h:Rd w A xs) (hA:∀ y,A = some y → ¬ S y.block):Rd (hideW S w) A xs:=fun k x hx => by
  obtain ⟨b,o,e,hc⟩:=h k x hx
  have hl:=lt_of_cell hc
  exact ⟨b,o,e,(World.cell?_of_block (w:=w) (a:=⟨b,o + k,none⟩) (hide_blk (show ¬ S b from hA _ e))).trans hc⟩
end Go.Proofs.YtaccfnffmbndhaaGreat
namespace Go.Proofs.YtaccfnffmbndhaaGreat
open Go.RowKit
def mulQ (a b q:Int):Int:=if q < 0 ∨ 62 < q then 0 else wrap64 (a * b / 2 ^ q.toNat)
def uw (x:Int):Int:=x % 18446744073709551616
theorem uw_bd (x:Int):0 ≤ uw x ∧ uw x < 18446744073709551616:=by unfold uw;omega
theorem wrap64_bd (x:Int):-9223372036854775808 ≤ wrap64 x ∧ wrap64 x ≤ 9223372036854775807:=by unfold wrap64;omega
theorem wrap64_uw (x:Int):wrap64 (uw x) = wrap64 x:=by unfold wrap64 uw;omega
theorem wrap64_eq {x y:Int} (h:∃ k:Int,x = y + k * 18446744073709551616):wrap64 x = wrap64 y:=by
  obtain ⟨k,rfl⟩:=h
  unfold wrap64;omega
theorem wrap64_id {x:Int} (h1:-9223372036854775808 ≤ x) (h2:x ≤ 9223372036854775807):wrap64 x = x:=by unfold wrap64;omega
def prodHi (a b:Int):Int:=a * b / 18446744073709551616
def prodLo (a b:Int):Int:=uw (a * b)
theorem prod_eq (a b:Int):prodHi a b * 18446744073709551616 + prodLo a b = a * b:=by unfold prodHi prodLo uw;omega
theorem mul_bd {a b:Int} (ha:-9223372036854775808 ≤ a ∧ a ≤ 9223372036854775807) (hb:-9223372036854775808 ≤ b ∧ b ≤ 9223372036854775807):-85070591730234615865843651857942052864 ≤ a * b ∧ a * b ≤ 85070591730234615865843651857942052864:=by
  have h1:a.natAbs ≤ 9223372036854775808:=by omega
  have h2:b.natAbs ≤ 9223372036854775808:=by omega
  have h3:=Nat.mul_le_mul h1 h2
  rw [← Int.natAbs_mul] at h3
  omega
theorem prodHi_bd {a b:Int} (ha:-9223372036854775808 ≤ a ∧ a ≤ 9223372036854775807) (hb:-9223372036854775808 ≤ b ∧ b ≤ 9223372036854775807):-9223372036854775808 ≤ prodHi a b ∧ prodHi a b ≤ 9223372036854775807:=by
  have:=mul_bd ha hb
  unfold prodHi;omega
theorem shift_eq (a b:Int) (q:Nat) (hq:q ≤ 62):prodHi a b * 2 ^ (64 - q) + prodLo a b / 2 ^ q = a * b / 2 ^ q:=by
  have e:(18446744073709551616:Int) = 2 ^ (64 - q) * 2 ^ q:=by rw [← Int.pow_add,show 64 - q + q = 64 by omega];rfl
  have hp:(2:Int) ^ q ≠ 0:=by have:=Int.pow_pos (n:=2) (m:=q) (by decide);omega
  have h:=prod_eq a b
  rw [← h,e,← Int.mul_assoc,Int.add_comm (prodHi a b * 2 ^ (64 - q) * 2 ^ q),Int.add_mul_ediv_right _ _ hp,Int.add_comm]
theorem wrap64_sub (x y:Int):wrap64 (wrap64 x - y) = wrap64 (x - y):=by unfold wrap64;omega
theorem wrap64_add (x y:Int):wrap64 (wrap64 x + y) = wrap64 (x + y):=by unfold wrap64;omega
theorem words_mul (a b:Int) (ha:-9223372036854775808 ≤ a ∧ a ≤ 9223372036854775807) (hb:-9223372036854775808 ≤ b ∧ b ≤ 9223372036854775807) :
    uw a * uw b = a * b + ((if a < 0 then b else 0) + (if b < 0 then a else 0) + (if a < 0 ∧ b < 0 then 18446744073709551616 else 0)) * 18446744073709551616:=by
  by_cases h1:a < 0
  · have e1:uw a = a + 18446744073709551616:=by unfold uw;omega
    by_cases h2:b < 0
    · have e2:uw b = b + 18446744073709551616:=by unfold uw;omega
      rw [e1,e2,if_pos h1,if_pos h2,if_pos ⟨h1,h2⟩,Int.add_mul,Int.mul_add]
      omega
    · have e2:uw b = b:=by unfold uw;omega
      rw [e1,e2,if_pos h1,if_neg h2,if_neg (fun h => h2 h.2),Int.add_mul]
      omega
  · have e1:uw a = a:=by unfold uw;omega
    by_cases h2:b < 0
    · have e2:uw b = b + 18446744073709551616:=by unfold uw;omega
      rw [e1,e2,if_neg h1,if_pos h2,if_neg (fun h => h1 h.1),Int.mul_add]
      omega
    · have e2:uw b = b:=by unfold uw;omega
      rw [e1,e2,if_neg h1,if_neg h2,if_neg (fun h => h1 h.1)]
      omega
theorem words_hi (a b:Int) (ha:-9223372036854775808 ≤ a ∧ a ≤ 9223372036854775807) (hb:-9223372036854775808 ≤ b ∧ b ≤ 9223372036854775807) :
    wrap64 (uw a * uw b / 18446744073709551616 - (if a < 0 then b else 0) - (if b < 0 then a else 0)) = prodHi a b:=by
  rw [words_mul a b ha hb,Int.add_mul_ediv_right _ _ (by decide)]
  have h:=prodHi_bd ha hb
  rw [← wrap64_id h.1 h.2]
  refine wrap64_eq ⟨if a < 0 ∧ b < 0 then 1 else 0,?_⟩
  unfold prodHi
  by_cases h1:a < 0
  · by_cases h2:b < 0
    · simp only [h1,h2,if_true,and_self];omega
    · simp only [h1,h2,if_true,if_false,and_false];omega
  · by_cases h2:b < 0
    · simp only [h1,h2,if_true,if_false,false_and];omega
    · simp only [h1,h2,if_false,false_and];omega
theorem words_lo (a b:Int) (ha:-9223372036854775808 ≤ a ∧ a ≤ 9223372036854775807) (hb:-9223372036854775808 ≤ b ∧ b ≤ 9223372036854775807):uw (uw a * uw b) = prodLo a b:=by
  rw [words_mul a b ha hb]
  unfold prodLo uw
  rw [Int.add_mul_emod_self_right]
theorem uw_nat (a:Int):∃ X:Nat,uw a = X ∧ X < 18446744073709551616:=⟨(uw a).toNat,by have:=uw_bd a;omega,by have:=uw_bd a;omega⟩
end Go.Proofs.YtaccfnffmbndhaaGreat
namespace Go.Proofs.YtaccfnffmbndhaaGreat
open Go.RowKit
def W64 (l:List Int):Prop:=∀ k,k < l.length → -9223372036854775808 ≤ nth l k ∧ nth l k ≤ 9223372036854775807
theorem nth_mem {l:List Int} {k:Nat} (h:k < l.length):nth l k ∈ l:=by rw [nth_eq l k h];exact List.getElem_mem h
theorem nth_set (l:List Int) (k:Nat) (v:Int) (j:Nat):nth (l.set k v) j = if j = k ∧ k < l.length then v else nth l j:=by
  unfold nth
  simp only [List.getD_eq_getElem?_getD,List.getElem?_set]
  by_cases h:k = j
  · subst h
    by_cases h2:k < l.length
    · simp [h2]
    · simp [h2,List.getElem?_eq_none (show l.length ≤ k by omega)]
  · simp [h,Ne.symm h]
theorem ext_nth {a b:List Int} (hl:a.length = b.length) (h:∀ k,k < a.length → nth a k = nth b k):a = b:=by
  refine List.ext_getElem hl fun k h1 h2 => ?_
  rw [← nth_eq a k h1,← nth_eq b k h2]
  exact h k h1
def upTo (n:Nat) (f:Nat → Int):List Int:=(List.range n).map f
theorem upTo_len (n:Nat) (f:Nat → Int):(upTo n f).length = n:=by simp [upTo]
theorem upTo_nth {n k:Nat} (f:Nat → Int) (h:k < n):nth (upTo n f) k = f k:=by rw [nth_eq _ _ (by rw [upTo_len];exact h)];simp [upTo]
theorem upTo_succ (n:Nat) (f:Nat → Int):upTo (n + 1) f = upTo n f ++ [f n]:=by simp [upTo,List.range_succ]
theorem upTo_W64 {n:Nat} {f:Nat → Int} (h:∀ k,k < n → -9223372036854775808 ≤ f k ∧ f k ≤ 9223372036854775807):W64 (upTo n f):=fun k hk => by
  rw [upTo_len] at hk
  rw [upTo_nth f hk];exact h k hk
theorem upTo_congr {n:Nat} {f g:Nat → Int} (h:∀ k,k < n → f k = g k):upTo n f = upTo n g:=by
  unfold upTo;exact List.map_congr_left fun k hk => h k (List.mem_range.1 hk)
theorem eq_upTo {l:List Int} {n:Nat} {f:Nat → Int} (hl:l.length = n) (h:∀ k,k < n → nth l k = f k):l = upTo n f:=
  ext_nth (by rw [upTo_len,hl]) fun k hk => by rw [upTo_nth f (by omega)];exact h k (by omega)
def mixed (l:List Int) (k:Nat) (f:Nat → Int):List Int:=upTo l.length fun j => if j < k then f j else nth l j
theorem mixed_len (l:List Int) (k:Nat) (f:Nat → Int):(mixed l k f).length = l.length:=upTo_len _ _
theorem mixed_zero (l:List Int) (f:Nat → Int):mixed l 0 f = l:=(eq_upTo rfl fun k _ => by rw [if_neg (by omega)]).symm
theorem mixed_nth {l:List Int} {k:Nat} (f:Nat → Int) {j:Nat} (hj:j < l.length):nth (mixed l k f) j = if j < k then f j else nth l j:=upTo_nth _ hj
theorem mixed_set {l:List Int} {k:Nat} (f:Nat → Int) (hk:k < l.length):(mixed l k f).set k (f k) = mixed l (k + 1) f:=by
  refine ext_nth (by simp [mixed_len]) fun j hj => ?_
  rw [List.length_set,mixed_len] at hj
  rw [nth_set,mixed_nth f hj,mixed_nth f hj,mixed_len]
  by_cases h1:j = k
  · subst h1;simp [hk]
  · by_cases h2:j < k
    · simp [h1,h2,show j < k + 1 by omega]
    · simp [h1,h2,show ¬ j < k + 1 by omega]
theorem mixed_all (l:List Int) (f:Nat → Int):mixed l l.length f = upTo l.length f:=by
  unfold mixed;exact upTo_congr fun k hk => by rw [if_pos hk]
def dotN (xs ys:List Int) (q:Int):Nat → Int
  | 0 => 0
  | k + 1 => wrap64 (dotN xs ys q k + mulQ (nth xs k) (nth ys k) q)
def dotL (xs ys:List Int) (q:Int):Int:=dotN xs ys q xs.length
def scaleL (xs:List Int) (a q:Int):List Int:=upTo xs.length fun k => mulQ (nth xs k) a q
def addL (xs ys:List Int):List Int:=upTo xs.length fun k => wrap64 (nth xs k + nth ys k)
end Go.Proofs.YtaccfnffmbndhaaGreat
namespace Go.Proofs.YtaccfnffmbndhaaGreat
open Go.RowKit
def cntQ (n size:Nat):Nat:=if n = 0 then 0 else (n - 1) / size + 1
theorem ediv_pred (n s:Nat) (hn:1 ≤ n):((n:Int) - 1) / (s:Int) = (((n - 1) / s:Nat):Int):=by
  rw [show ((n:Int) - 1) = ((n - 1:Nat):Int) by omega,← Int.natCast_ediv]
theorem cntQ_le (n size:Nat):cntQ n size ≤ n:=by
  unfold cntQ
  split
  · omega
  · have:=Nat.div_le_self (n - 1) size
    omega
theorem cntQ_lt {n size k:Nat} (h:k < cntQ n size):k * size < n:=by
  unfold cntQ at h
  split at h
  · omega
  · have h1:k ≤ (n - 1) / size:=by omega
    have h2:=Nat.mul_le_mul_right size h1
    have h3:=Nat.div_mul_le_self (n - 1) size
    omega
def blkVals (n size k:Nat):List Value:=(List.range k).flatMap fun j => [.int .i64 ((j * size:Nat):Int),.int .i64 ((min (j * size + size) n:Nat):Int)]
theorem blkVals_succ (n size k:Nat):blkVals n size (k + 1) = blkVals n size k ++ [.int .i64 ((k * size:Nat):Int),.int .i64 ((min (k * size + size) n:Nat):Int)]:=by simp [blkVals,List.range_succ,List.flatMap_append]
theorem blkVals_len (n size k:Nat):(blkVals n size k).length = k * 2:=by
  induction k with
  | zero => simp [blkVals]
  | succ k ih => rw [blkVals_succ,List.length_append,ih];simp;omega
theorem blkVals_at (n size:Nat) {j k:Nat} (h:j < k):(blkVals n size k)[j * 2]? = some (.int .i64 ((j * size:Nat):Int)) ∧ (blkVals n size k)[j * 2 + 1]? = some (.int .i64 ((min (j * size + size) n:Nat):Int)):=by
  induction k with
  | zero => omega
  | succ k ih =>
    rw [blkVals_succ]
    rcases Nat.lt_or_ge j k with hj | hj
    · obtain ⟨h1,h2⟩:=ih hj
      have hl:=blkVals_len n size k
      rw [List.getElem?_append_left (by omega),List.getElem?_append_left (by omega)]
      exact ⟨h1,h2⟩
    · obtain rfl:j = k:=by omega
      have hl:=blkVals_len n size j
      rw [List.getElem?_append_right (by omega),List.getElem?_append_right (by omega),hl]
      simp
theorem cntQ_whole (n batch:Nat) (hb:1 ≤ batch) (hn:batch ≤ n):cntQ (n - n % batch) batch = n / batch:=by
  have h1:=Nat.div_add_mod n batch
  have h2:=Nat.div_pos hn hb
  have h3:n - n % batch = batch * (n / batch):=by omega
  have h4:1 ≤ batch * (n / batch):=Nat.mul_pos hb h2
  unfold cntQ
  rw [if_neg (by omega),h3]
  have h5:batch * (n / batch) - 1 = batch * (n / batch - 1) + (batch - 1):=by
    have:batch * (n / batch) = batch * (n / batch - 1) + batch:=by rw [← Nat.mul_succ];congr 1;omega
    omega
  rw [h5,Nat.mul_add_div hb,show (batch - 1) / batch = 0 from Nat.div_eq_of_lt (by omega)]
  omega
theorem whole_min (n batch j:Nat) (hb:1 ≤ batch) (hj:j < n / batch):min (j * batch + batch) (n - n % batch) = j * batch + batch:=by
  have h1:=Nat.div_add_mod n batch
  have h2:(j + 1) * batch ≤ (n / batch) * batch:=Nat.mul_le_mul_right _ hj
  rw [Nat.succ_mul] at h2
  have h3:(n / batch) * batch = batch * (n / batch):=Nat.mul_comm _ _
  omega
theorem whole_le (n batch j:Nat) (hj:j < n / batch):j * batch + batch ≤ n:=by
  have h1:=Nat.div_mul_le_self n batch
  have h2:(j + 1) * batch ≤ (n / batch) * batch:=Nat.mul_le_mul_right _ hj
  rw [Nat.succ_mul] at h2
  omega
theorem cntQ_eq (n size:Nat) (hs:1 ≤ size):cntQ n size = (n + size - 1) / size:=by
  unfold cntQ
  split
  · subst_vars;rw [Nat.zero_add,Nat.div_eq_of_lt (by omega)]
  · rw [show n + size - 1 = (n - 1) + size by omega,Nat.add_div_right _ hs]
end Go.Proofs.YtaccfnffmbndhaaGreat
