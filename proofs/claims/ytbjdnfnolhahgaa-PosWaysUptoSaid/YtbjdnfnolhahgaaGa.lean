/- Several texts of this session, end to end. -/
import Derived.Orders
import Derived.Below
import Derived.KernelRfl
import Derived.Laws.AppendOwn
import Derived.RangeFuncNested
import Derived.RangeFuncBound
import Derived.RangeFuncCalls
import Derived.RangeFuncLeaves
import Derived.RangeFuncBox
import Derived.Shelf.Abstract
import Derived.Shelf.RegionOpen
import Derived.WalkKit
import Derived.OwnWalkIn
import Derived.TacticsInMore
import Derived.LoopNIn
import Derived.LoopIn
import Derived.Test.YtbjdnfnolhahgaaProg
import Derived.Test.YtbjdnfnolhahgaaWWords
import Derived.Test.YtbjdnfnolhahgaaWFoot
import Derived.Laws.Bits64
import Derived.Laws.BitsAllLaws
/-! A region that draws its order, whose operations each give something that no later one turns: one walk for each operation, no branching over orders. -/
namespace Go.Proofs.Ytbjdnfnolhahgaa.F
open Go.RowKit
/-- What an operation waits for. -/
def needs (o : Oper) : List Nat := (o.after.toList.filter (Region.binds .any)).map (fun e => e.on)
/-- The results' slots. -/
def dstsOf (ops : Array Oper) : List (Option Tmp) := ops.toList.map (fun o => o.dst)
/-- The values of some operations, laid into their slots. -/
def putAll (σ : Nat → Value) : Nat → List (Option Tmp) → Act → Act
  | _, [], a => a
  | i, d :: r, a => putAll σ (i + 1) r (a.put d (σ i))
def upd (σ : Nat → Value) (i : Nat) (v : Value) : Nat → Value := fun j => if j = i then v else σ j
def apartB : List (Option Tmp) → Bool
  | [] => true
  | none :: r => apartB r
  | some d :: r => !(r.contains (some d)) && apartB r
theorem put_put (a : Act) (d : Option Tmp) (u v : Value) : (a.put d u).put d v = a.put d v := by
  cases d with
  | none => rfl
  | some d => simp [Act.put]
theorem put_self (a : Act) (d : Tmp) : a.put (some d) (a.tmps.getD d undef) = a := by
  cases a with
  | mk t ds =>
    simp only [Act.put, Act.mk.injEq, and_true]
    apply Array.ext
    · simp
    · intro i h1 h2
      rw [Array.getElem_setIfInBounds]
      split
      · rename_i e
        subst e
        simp [Array.getD, h2]
      · rfl
theorem putAll_congr {σ τ : Nat → Value} : ∀ (ds : List (Option Tmp)) (i : Nat) (a : Act), (∀ j, i ≤ j → σ j = τ j) → putAll σ i ds a = putAll τ i ds a
  | [], _, _, _ => rfl
  | d :: r, i, a, h => by
    simp only [putAll]
    rw [h i (Nat.le_refl _)]
    exact putAll_congr r (i + 1) _ (fun j hj => h j (by omega))
theorem putAll_out {σ : Nat → Value} (d : Tmp) (v : Value) : ∀ (ds : List (Option Tmp)) (i : Nat) (a : Act), ds.contains (some d) = false → (putAll σ i ds a).put (some d) v = putAll σ i ds (a.put (some d) v)
  | [], _, _, _ => rfl
  | e :: r, i, a, h => by
    simp only [List.contains_cons, Bool.or_eq_false_iff, beq_eq_false_iff_ne] at h
    simp only [putAll]
    rw [putAll_out d v r (i + 1) _ h.2, Act.put_comm a (x := e) (y := some d) (σ i) v (fun x hx hy => h.1 (by rw [hx, hy]))]
theorem putAll_put : ∀ (ds : List (Option Tmp)) (σ : Nat → Value) (i k : Nat) (a : Act) (d : Option Tmp) (v : Value), apartB ds = true → ds[k]? = some d → (putAll σ i ds a).put d v = putAll (upd σ (i + k) v) i ds a
  | [], _, _, _, _, _, _, _, h => by simp at h
  | e :: r, σ, i, 0, a, d, v, hap, h => by
    simp only [List.getElem?_cons_zero, Option.some.injEq] at h
    subst h
    simp only [putAll, Nat.add_zero]
    have hu : upd σ i v i = v := by simp [upd]
    rw [hu]
    have hc : ∀ b : Act, putAll σ (i + 1) r b = putAll (upd σ i v) (i + 1) r b := fun b => putAll_congr r (i + 1) b (fun j hj => by simp [upd]; omega)
    cases e with
    | none => exact hc a
    | some e =>
      simp only [apartB, Bool.and_eq_true, Bool.not_eq_true'] at hap
      rw [putAll_out e v r (i + 1) _ hap.1, put_put]
      exact hc _
  | e :: r, σ, i, k + 1, a, d, v, hap, h => by
    simp only [List.getElem?_cons_succ] at h
    have hap' : apartB r = true := by
      cases e with
      | none => exact hap
      | some e => simp only [apartB, Bool.and_eq_true] at hap; exact hap.2
    simp only [putAll]
    rw [putAll_put r σ (i + 1) k _ d v hap' h]
    have hu : upd σ (i + (k + 1)) v i = σ i := by simp [upd]
    rw [hu]
    congr 1
    congr 1
    omega
theorem putAll_self : ∀ (ds : List (Option Tmp)) (σ : Nat → Value) (i : Nat) (a : Act), (∀ k d, ds[k]? = some (some d) → σ (i + k) = a.tmps.getD d undef) → putAll σ i ds a = a
  | [], _, _, _, _ => rfl
  | e :: r, σ, i, a, h => by
    have h0 : a.put e (σ i) = a := by
      cases e with
      | none => rfl
      | some e => rw [show σ i = a.tmps.getD e undef from h 0 e rfl]; exact put_self a e
    simp only [putAll]
    rw [h0]
    exact putAll_self r σ (i + 1) a (fun k d hd => by have := h (k + 1) d hd; rwa [show i + 1 + k = i + (k + 1) from by omega])
/-- Nothing has turned but blocks of cells of type t. -/
structure Still (t : TypeId) (W W' : World) : Prop where
  os : W'.os = W.os
  tape : W'.tape = W.tape
  output : W'.output = W.output
  size : W.heap.size ≤ W'.heap.size
  block : ∀ k, k < W.heap.size → (∀ cs fr, W.heap[k]? ≠ some (.cells cs t fr)) → W'.heap[k]? = W.heap[k]?
/-- What is said of a value, and which nothing turns. -/
structure Fact (t : TypeId) where
  p : Value → World → Prop
  s1 : ∀ v W W', p v W → Below W.heap.size W W' → p v W'
  s2 : ∀ v W W', p v W → Still t W W' → p v W'
def FactAt {t : TypeId} (Fs : List (Fact t)) (j : Nat) (v : Value) (W : World) : Prop := match Fs[j]? with
  | some f => f.p v W
  | none => True
theorem FactAt.s1 {t : TypeId} {Fs : List (Fact t)} {j : Nat} {v : Value} {W W' : World} (h : FactAt Fs j v W) (hB : Below W.heap.size W W') : FactAt Fs j v W' := by
  unfold FactAt at *
  split
  · rename_i f hf; rw [hf] at h; exact f.s1 _ _ _ h hB
  · trivial
theorem FactAt.s2 {t : TypeId} {Fs : List (Fact t)} {j : Nat} {v : Value} {W W' : World} (h : FactAt Fs j v W) (hB : Still t W W') : FactAt Fs j v W' := by
  unfold FactAt at *
  split
  · rename_i f hf; rw [hf] at h; exact f.s2 _ _ _ h hB
  · trivial
section
variable {t : TypeId} (P : Program) (ops : Array Oper) (Q : Exit → Act → World → Prop) (Fs : List (Fact t)) (I St : World → Prop) (s : Nat) (mk : (Nat → Value) → Act)
/-- One operation's own walk. -/
def StepAt (i : Nat) (o : Oper) : Prop := ∀ (σ : Nat → Value) (W : World), I W → (∀ j, (needs o).contains j = true → FactAt Fs j (σ j) W) →
  (Region.wanted o (yielded ops (mk σ).tmps) = true ∧ ∀ K : Act → World → Prop, (∀ v W', FactAt Fs i v W' → Below W.heap.size W W' → K ((mk σ).put o.dst v) W') → o.wp P (mk σ) W K Q) ∨
  (Region.wanted o (yielded ops (mk σ).tmps) = false ∧ FactAt Fs i undef W)
/-- The store's. -/
def StoreAt (i : Nat) (o : Oper) : Prop := ∀ (σ : Nat → Value) (W : World), I W → (∀ j, (needs o).contains j = true → FactAt Fs j (σ j) W) →
  Region.wanted o (yielded ops (mk σ).tmps) = true ∧ ∀ K : Act → World → Prop, (∀ v W', FactAt Fs i v W' → Still t W W' → I W' → St W' → K ((mk σ).put o.dst v) W') → o.wp P (mk σ) W K Q
def Steps : Nat → List Oper → Prop
  | _, [] => True
  | i, o :: r => (if i = s then StoreAt P ops Q Fs I St mk i o else StepAt P ops Q Fs I mk i o) ∧ Steps (i + 1) r
variable {P ops Q Fs I St s mk}
theorem Steps.cons {i : Nat} {o : Oper} {r : List Oper} (hi : (i == s) = false) (h : StepAt P ops Q Fs I mk i o) (hr : Steps P ops Q Fs I St s mk (i + 1) r) : Steps P ops Q Fs I St s mk i (o :: r) := by
  refine ⟨?_, hr⟩
  rw [if_neg (by simpa using hi)]
  exact h
theorem Steps.store {i : Nat} {o : Oper} {r : List Oper} (hi : (i == s) = true) (h : StoreAt P ops Q Fs I St mk i o) (hr : Steps P ops Q Fs I St s mk (i + 1) r) : Steps P ops Q Fs I St s mk i (o :: r) := by
  refine ⟨?_, hr⟩
  rw [if_pos (by simpa using hi)]
  exact h
theorem Steps.nil {i : Nat} : Steps P ops Q Fs I St s mk i [] := trivial
theorem Steps.at : ∀ {l : List Oper} {i : Nat}, Steps P ops Q Fs I St s mk i l → ∀ (k : Nat) (o : Oper), l[k]? = some o → (i + k = s → StoreAt P ops Q Fs I St mk (i + k) o) ∧ (i + k ≠ s → StepAt P ops Q Fs I mk (i + k) o)
  | [], _, _, k, o, h => by simp at h
  | o' :: r, i, hs, 0, o, h => by
    simp only [List.getElem?_cons_zero, Option.some.injEq] at h
    subst h
    have h1 := hs.1
    simp only [Nat.add_zero]
    refine ⟨fun e => ?_, fun e => ?_⟩
    · rwa [if_pos e] at h1
    · rwa [if_neg e] at h1
  | o' :: r, i, hs, k + 1, o, h => by
    have := Steps.at (l := r) hs.2 k o h
    rwa [show i + 1 + k = i + (k + 1) from by omega] at this
end
/-- Every edge leads back. -/
def backB (ops : Array Oper) : Bool := (List.range ops.size).all fun i => match ops[i]? with
  | some o => o.after.all fun e => !Region.binds .any e || decide (e.on < i)
  | none => true
theorem back_ready {ops : Array Oper} (hb : backB ops = true) {listed : Array Bool} (hr : Region.ready .any ops listed = []) : ∀ i, i < ops.size → listed.getD i true = true := by
  intro i
  induction i using Nat.strongRecOn with
  | ind i ih =>
    intro hi
    by_cases h : listed.getD i true = true
    · exact h
    · exfalso
      have hb' : ∀ j, j < ops.size → _ := List.all_eq_true.1 hb |> fun h j hj => h j (List.mem_range.2 hj)
      have hbi := hb' i hi
      have hoi : ops[i]? = some ops[i] := Array.getElem?_eq_getElem hi
      simp only [hoi] at hbi
      have hmem : i ∈ Region.ready .any ops listed := by
        unfold Region.ready
        rw [List.mem_filter]
        refine ⟨List.mem_range.2 hi, ?_⟩
        simp only [hoi, Option.map_some, Option.getD_some, Bool.and_eq_true, Bool.not_eq_true']
        refine ⟨by simpa using h, ?_⟩
        rw [Array.all_eq_true_iff_forall_mem] at hbi ⊢
        intro e he
        have := hbi e he
        simp only [Bool.or_eq_true, Bool.not_eq_true', decide_eq_true_eq] at this ⊢
        rcases this with h1 | h1
        · exact .inl h1
        · refine .inr ?_
          have h2 := ih e.on h1 (by omega)
          rcases Nat.lt_or_ge e.on listed.size with h' | h'
          · simpa [Array.getD, h'] using h2
          · exfalso
            have h3 : listed.getD i true = true := by
              have : ¬ i < listed.size := by omega
              simp [Array.getD, this]
            exact h h3
      rw [hr] at hmem
      cases hmem
def openCount (n : Nat) (listed : Array Bool) : Nat := ((List.range n).filter fun i => !listed.getD i true).length
theorem openCount_set (n : Nat) (listed : Array Bool) (i : Nat) (hi : i < n) (hl : i < listed.size) (h : listed.getD i true = false) : openCount n (listed.setIfInBounds i true) + 1 = openCount n listed := by
  unfold openCount
  have key : ∀ l : List Nat, l.Nodup → (i ∈ l → (l.filter fun j => !(listed.setIfInBounds i true).getD j true).length + 1 = (l.filter fun j => !listed.getD j true).length) ∧
      (i ∉ l → (l.filter fun j => !(listed.setIfInBounds i true).getD j true).length = (l.filter fun j => !listed.getD j true).length) := by
    intro l
    induction l with
    | nil => intro _; exact ⟨fun h => (by cases h), fun _ => rfl⟩
    | cons x xs ih =>
      intro hn
      obtain ⟨hx, hn'⟩ := List.nodup_cons.1 hn
      obtain ⟨ih1, ih2⟩ := ih hn'
      have hne : ∀ j, j ≠ i → (listed.setIfInBounds i true).getD j true = listed.getD j true := fun j hj => by
        simp only [Array.getD_eq_getD_getElem?, Array.getElem?_setIfInBounds]
        rw [if_neg (fun e => hj e.symm)]
      have heq : (listed.setIfInBounds i true).getD i true = true := by simp [Array.getD, hl]
      by_cases hxi : x = i
      · subst hxi
        refine ⟨fun _ => ?_, fun hni => absurd (List.mem_cons_self) hni⟩
        rw [List.filter_cons, List.filter_cons, heq, h]
        simp only [Bool.not_true, Bool.not_false, Bool.false_eq_true, if_false, if_true, List.length_cons]
        rw [ih2 hx]
      · rw [List.filter_cons, List.filter_cons, hne x hxi]
        refine ⟨fun hm => ?_, fun hm => ?_⟩
        · have hm' : i ∈ xs := by
            rcases List.mem_cons.1 hm with e | e
            · exact absurd e.symm hxi
            · exact e
          have := ih1 hm'
          cases listed.getD x true
          · rw [Bool.not_false, if_pos rfl, if_pos rfl, List.length_cons, List.length_cons]; omega
          · rw [Bool.not_true, if_neg Bool.false_ne_true, if_neg Bool.false_ne_true]; exact this
        · have hm' : i ∉ xs := fun e => hm (List.mem_cons_of_mem _ e)
          have := ih2 hm'
          cases listed.getD x true
          · rw [Bool.not_false, if_pos rfl, if_pos rfl, List.length_cons, List.length_cons]; omega
          · rw [Bool.not_true, if_neg Bool.false_ne_true, if_neg Bool.false_ne_true]; exact this
  exact (key (List.range n) List.nodup_range).1 (List.mem_range.2 hi)
section
variable {t : TypeId} {P : Program} {ops : Array Oper} {Q : Exit → Act → World → Prop} {Fs : List (Fact t)} {I St : World → Prop} {s : Nat} {a0 : Act}
theorem wpAny_still (hap : apartB (dstsOf ops) = true) (hback : backB ops = true) (hI1 : ∀ W W', I W → Below W.heap.size W W' → I W') (hS1 : ∀ W W', St W → Below W.heap.size W W' → St W')
    (steps : Steps P ops Q Fs I St s (fun σ => putAll σ 0 (dstsOf ops) a0) 0 ops.toList)
    (done : ∀ σ W, I W → (s < ops.size → St W) → (∀ j, j < ops.size → FactAt Fs j (σ j) W) → Q .normal (putAll σ 0 (dstsOf ops) a0) W) :
    ∀ (fuel : Nat) (listed : Array Bool) (σ : Nat → Value) (W : World), listed.size = ops.size → openCount ops.size listed ≤ fuel → I W → (listed.getD s false = true → St W) → (∀ j, listed.getD j false = true → FactAt Fs j (σ j) W) →
      wpAny P .any ops Q fuel listed (putAll σ 0 (dstsOf ops) a0) W := by
  intro fuel
  have hfin : ∀ (listed : Array Bool) (σ : Nat → Value) (W : World), listed.size = ops.size → I W → (listed.getD s false = true → St W) → (∀ j, listed.getD j false = true → FactAt Fs j (σ j) W) →
      (∀ i, i < ops.size → listed.getD i true = true) → Q .normal (putAll σ 0 (dstsOf ops) a0) W := fun listed σ W hsz hI hSt hF hall => by
    have hd : ∀ j, j < ops.size → listed.getD j false = true := fun j hj => by
      have := hall j hj
      have hj' : j < listed.size := by omega
      simpa [Array.getD, hj'] using this
    exact done σ W hI (fun hs => hSt (hd s hs)) (fun j hj => hF j (hd j hj))
  induction fuel with
  | zero =>
    intro listed σ W hsz hcnt hI hSt hF
    have hall : ∀ i, i < ops.size → listed.getD i true = true := fun i hi => by
      have h0 : (List.range ops.size).filter (fun i => !listed.getD i true) = [] := List.eq_nil_of_length_eq_zero (by unfold openCount at hcnt; omega)
      have := List.filter_eq_nil_iff.1 h0 i (List.mem_range.2 hi)
      simpa using this
    refine ⟨?_, hfin listed σ W hsz hI hSt hF hall⟩
    unfold Region.ready
    refine List.filter_eq_nil_iff.2 (fun i hi => ?_)
    rw [hall i (List.mem_range.1 hi)]
    simp
  | succ fuel ih =>
    intro listed σ W hsz hcnt hI hSt hF
    refine ⟨fun hr => hfin listed σ W hsz hI hSt hF (back_ready hback hr), fun i hi => ?_⟩
    obtain ⟨hun, o, ho, hall⟩ := mem_ready.1 hi
    have hlt : i < ops.size := (Array.getElem?_eq_some_iff.1 ho).1
    have hneeds : ∀ j, (needs o).contains j = true → FactAt Fs j (σ j) W := fun j hj => by
      rw [List.contains_iff_mem] at hj
      obtain ⟨e, he, rfl⟩ := List.mem_map.1 hj
      obtain ⟨he1, he2⟩ := List.mem_filter.1 he
      exact hF _ (hall e (by simpa using he1) he2)
    have hol : ops.toList[i]? = some o := by simpa using ho
    have hdst : (dstsOf ops)[i]? = some o.dst := by simp [dstsOf, ho]
    have hun' : listed.getD i true = false := by
      have hi' : i < listed.size := by omega
      simpa [Array.getD, hi'] using hun
    have hset : ∀ v, (putAll σ 0 (dstsOf ops) a0).put o.dst v = putAll (upd σ i v) 0 (dstsOf ops) a0 := fun v => by
      have := putAll_put (dstsOf ops) σ 0 i a0 o.dst v hap hdst
      simpa using this
    have hcnt' : openCount ops.size (listed.setIfInBounds i true) ≤ fuel := by
      have := openCount_set ops.size listed i hlt (by omega) hun'
      omega
    have hgd : ∀ j, (listed.setIfInBounds i true).getD j false = true → j = i ∨ listed.getD j false = true := fun j hj => by
      by_cases e : j = i
      · exact .inl e
      · refine .inr ?_
        simp only [Array.getD_eq_getD_getElem?, Array.getElem?_setIfInBounds] at hj
        rw [if_neg (fun h => e h.symm)] at hj
        simpa [Array.getD_eq_getD_getElem?] using hj
    have hni : ∀ j, listed.getD j false = true → j ≠ i := fun j hj e => by
      subst e
      have hi' : j < listed.size := by omega
      simp [Array.getD, hi'] at hj hun'
      rw [hj] at hun'
      cases hun'
    have hst := (Steps.at steps i o hol)
    simp only [Nat.zero_add] at hst
    unfold wpOp
    simp only [ho]
    have close : ∀ v W', FactAt Fs i v W' → (i = s → St W') → I W' → (listed.getD s false = true → St W') → (∀ j, listed.getD j false = true → FactAt Fs j (σ j) W') →
        wpAny P .any ops Q fuel (listed.setIfInBounds i true) ((putAll σ 0 (dstsOf ops) a0).put o.dst v) W' := fun v W' hv hvs hI' hSt' hF' => by
      rw [hset v]
      refine ih (listed.setIfInBounds i true) (upd σ i v) W' (by simpa using hsz) hcnt' hI' (fun h => ?_) (fun j hj => ?_)
      · rcases hgd s h with e | e
        · exact hvs e.symm
        · exact hSt' e
      · rcases hgd j hj with e | e
        · subst e; simpa [upd] using hv
        · have := hF' j e
          simpa [upd, hni j e] using this
    by_cases his : i = s
    · obtain ⟨hw, hK⟩ := hst.1 his σ W hI hneeds
      rw [if_pos hw]
      refine .inl (hK _ (fun v W' hv hB hI' hS => close v W' hv (fun _ => hS) hI' (fun _ => hS) (fun j hj => (hF j hj).s2 hB)))
    · rcases hst.2 his σ W hI hneeds with ⟨hw, hK⟩ | ⟨hw, hv⟩
      · rw [if_pos hw]
        refine .inl (hK _ (fun v W' hv hB => close v W' hv (fun e => absurd e his) (hI1 _ _ hI hB) (fun h => hS1 _ _ (hSt h) hB) (fun j hj => (hF j hj).s1 hB)))
      · rw [if_neg (by rw [hw]; decide)]
        exact close undef W hv (fun e => absurd e his) hI hSt hF
end
theorem rep_false (n j : Nat) : (Array.replicate n false).getD j false = false := by
  rw [Array.getD_eq_getD_getElem?, Array.getElem?_replicate]
  split <;> rfl
/-- **The law.** -/
theorem wp_region_still {t : TypeId} {P : Program} {id : Nat} {ops : Array Oper} {Q : Exit → Act → World → Prop} {a : Act} {w : World} (hm : P.follows .mixedOrders = true) (Fs : List (Fact t)) (I St : World → Prop) (s : Nat)
    (hap : apartB (dstsOf ops) = true) (hback : backB ops = true) (hI0 : I w.drew) (hI1 : ∀ W W', I W → Below W.heap.size W W' → I W') (hS1 : ∀ W W', St W → Below W.heap.size W W' → St W')
    (steps : ∀ mk : (Nat → Value) → Act, (∀ σ, mk σ = putAll σ 0 (dstsOf ops) a) → Steps P ops Q Fs I St s mk 0 ops.toList)
    (done : ∀ mk : (Nat → Value) → Act, (∀ σ, mk σ = putAll σ 0 (dstsOf ops) a) → ∀ σ W, I W → (s < ops.size → St W) → (∀ j, j < ops.size → FactAt Fs j (σ j) W) → Q .normal (mk σ) W) :
    (Code.region id ops true).wp P Q a w := by
  refine wp_region_any hm ?_
  obtain ⟨σ0, hσ⟩ : ∃ σ0 : Nat → Value, putAll σ0 0 (dstsOf ops) a = a := ⟨fun i => match (dstsOf ops)[i]? with
    | some (some d) => a.tmps.getD d undef
    | _ => undef, putAll_self _ _ _ _ (fun k d hd => by simp [hd])⟩
  have h := wpAny_still (a0 := a) hap hback hI1 hS1 (steps _ (fun _ => rfl)) (fun σ W hI hS hF => done _ (fun _ => rfl) σ W hI hS hF) ops.size (Array.replicate ops.size false) σ0 { w with drawn := w.drawn + 1 } (by simp)
    (by unfold openCount; exact Nat.le_trans (List.length_filter_le _ _) (by simp)) hI0
    (fun h => by rw [rep_false] at h; cases h)
    (fun j h => by rw [rep_false] at h; cases h)
  rw [hσ] at h
  exact h
end Go.Proofs.Ytbjdnfnolhahgaa.F

/-! Sets of positions: what their values hold; plain lemmas. -/
namespace Go.Proofs.Ytbjdnfnolhahgaa.F
open Go.RowKit
/-- The numbers from 0 to less than n of which p holds, rising. -/
def filt (n : Int) (p : Int → Bool) : List Int := ((List.range n.toNat).map (fun i : Nat => (i : Int))).filter p
theorem mem_filt {n : Int} {p : Int → Bool} {x : Int} : x ∈ filt n p ↔ 0 ≤ x ∧ x < n ∧ p x = true := by
  unfold filt
  rw [List.mem_filter, List.mem_map]
  constructor
  · rintro ⟨⟨i, hi, rfl⟩, hp⟩
    rw [List.mem_range] at hi
    exact ⟨by omega, by omega, hp⟩
  · rintro ⟨h0, h1, hp⟩
    exact ⟨⟨x.toNat, List.mem_range.2 (by omega), by omega⟩, hp⟩
/-- Numbers rise, and lie from 0 to less than n. -/
def Rising (n : Int) (zs : List Int) : Prop := zs.Pairwise (· < ·) ∧ ∀ x ∈ zs, 0 ≤ x ∧ x < n
theorem pairwise_range : ∀ (m : Nat), ((List.range m).map (fun i : Nat => (i : Int))).Pairwise (· < ·) := fun m => by
  rw [List.pairwise_map]
  exact List.pairwise_lt_range.imp (fun h => by omega)
theorem rising_filt (n : Int) (p : Int → Bool) : Rising n (filt n p) :=
  ⟨(pairwise_range n.toNat).filter p, fun x hx => by obtain ⟨a, b, _⟩ := mem_filt.1 hx; exact ⟨a, b⟩⟩
/-- Rising lists of the same numbers are one. -/
theorem rising_eq : ∀ {xs ys : List Int}, xs.Pairwise (· < ·) → ys.Pairwise (· < ·) → (∀ x, x ∈ xs ↔ x ∈ ys) → xs = ys
  | [], [], _, _, _ => rfl
  | [], y :: ys, _, _, h => by have := (h y).2 List.mem_cons_self; cases this
  | x :: xs, [], _, _, h => by have := (h x).1 List.mem_cons_self; cases this
  | x :: xs, y :: ys, hx, hy, h => by
    obtain ⟨hx1, hx2⟩ := List.pairwise_cons.1 hx
    obtain ⟨hy1, hy2⟩ := List.pairwise_cons.1 hy
    have e : x = y := by
      rcases List.mem_cons.1 ((h x).1 List.mem_cons_self) with e | e
      · exact e
      · rcases List.mem_cons.1 ((h y).2 List.mem_cons_self) with e' | e'
        · exact e'.symm
        · have h1 := hy1 x e
          have h2 := hx1 y e'
          omega
    subst e
    congr 1
    refine rising_eq hx2 hy2 (fun z => ?_)
    constructor
    · intro hz
      rcases List.mem_cons.1 ((h z).1 (List.mem_cons_of_mem _ hz)) with e | e
      · have := hx1 z hz; omega
      · exact e
    · intro hz
      rcases List.mem_cons.1 ((h z).2 (List.mem_cons_of_mem _ hz)) with e | e
      · have := hy1 z hz; omega
      · exact e
theorem filt_eq {n : Int} {zs : List Int} (h : Rising n zs) : filt n (fun x => decide (x ∈ zs)) = zs := by
  refine rising_eq (rising_filt _ _).1 h.1 (fun x => ?_)
  rw [mem_filt]
  constructor
  · rintro ⟨_, _, hx⟩; exact of_decide_eq_true hx
  · intro hx; exact ⟨(h.2 x hx).1, (h.2 x hx).2, decide_eq_true hx⟩
theorem filt_congr {n : Int} {p q : Int → Bool} (h : ∀ x, 0 ≤ x → x < n → p x = q x) : filt n p = filt n q := by
  refine rising_eq (rising_filt _ _).1 (rising_filt _ _).1 (fun x => ?_)
  rw [mem_filt, mem_filt]
  constructor
  · rintro ⟨a, b, c⟩; exact ⟨a, b, by rw [← h x a b]; exact c⟩
  · rintro ⟨a, b, c⟩; exact ⟨a, b, by rw [h x a b]; exact c⟩
theorem filt_length (n : Int) (p : Int → Bool) : (filt n p).length ≤ n.toNat := by
  unfold filt
  refine Nat.le_trans (List.length_filter_le _ _) ?_
  simp
theorem Rising.length {n : Int} {zs : List Int} (h : Rising n zs) : zs.length ≤ n.toNat := by
  rw [← filt_eq h]
  exact filt_length _ _
/-- The numbers from a to less than b. -/
def upI (a b : Int) : List Int := (List.range (b - a).toNat).map (fun i : Nat => a + (i : Int))
theorem mem_upI {a b x : Int} : x ∈ upI a b ↔ a ≤ x ∧ x < b := by
  unfold upI
  rw [List.mem_map]
  constructor
  · rintro ⟨i, hi, rfl⟩
    rw [List.mem_range] at hi
    omega
  · rintro ⟨h1, h2⟩
    exact ⟨(x - a).toNat, List.mem_range.2 (by omega), by omega⟩
theorem upI_nil {a b : Int} (h : b ≤ a) : upI a b = [] := by
  unfold upI
  rw [show (b - a).toNat = 0 from by omega]
  rfl
theorem upI_succ {a b : Int} (h : a ≤ b) : upI a (b + 1) = upI a b ++ [b] := by
  unfold upI
  rw [show (b + 1 - a).toNat = (b - a).toNat + 1 from by omega, List.range_succ, List.map_append]
  congr 1
  simp
  omega
/-- The numbers in spans. -/
def numsS (sps : List (Int × Int)) : List Int := sps.flatMap (fun s => upI s.1 s.2)
theorem numsS_snoc (sps : List (Int × Int)) (s : Int × Int) : numsS (sps ++ [s]) = numsS sps ++ upI s.1 s.2 := by simp [numsS]
theorem mem_numsS {sps : List (Int × Int)} {x : Int} : x ∈ numsS sps ↔ ∃ s ∈ sps, s.1 ≤ x ∧ x < s.2 := by
  unfold numsS
  rw [List.mem_flatMap]
  constructor
  · rintro ⟨s, hs, hx⟩; exact ⟨s, hs, mem_upI.1 hx⟩
  · rintro ⟨s, hs, hx⟩; exact ⟨s, hs, mem_upI.2 hx⟩
/-- The spans' cells. -/
def rowS (sps : List (Int × Int)) : List Value := sps.flatMap (fun s => [.int .i64 s.1, .int .i64 s.2])
theorem rowS_snoc (sps : List (Int × Int)) (s : Int × Int) : rowS (sps ++ [s]) = rowS sps ++ [.int .i64 s.1, .int .i64 s.2] := by simp [rowS]
theorem rowS_length (sps : List (Int × Int)) : (rowS sps).length = sps.length * 2 := by
  induction sps with
  | nil => rfl
  | cons s r ih => simp [rowS] at ih ⊢; omega
theorem rowS_get : ∀ (sps : List (Int × Int)) (k : Nat) (h : k < sps.length), (rowS sps)[2 * k]? = some (.int .i64 (sps[k]).1) ∧ (rowS sps)[2 * k + 1]? = some (.int .i64 (sps[k]).2)
  | s :: r, 0, _ => ⟨rfl, rfl⟩
  | s :: r, k + 1, h => by
    have := rowS_get r k (by simpa using h)
    rw [show 2 * (k + 1) = 2 * k + 2 from by omega]
    exact this
/-- Is bit x of the words set? -/
def bitW (ws : List Int) (x : Int) : Bool := Nat.testBit ((ws[(x / 64).toNat]?.getD 0).toNat) (x % 64).toNat
/-- The numbers of which the words' bits are set. -/
def numsB (ws : List Int) : List Int := filt (64 * ws.length) (bitW ws)
/-- Whatever it is that a way's value owns. -/
def wayBlock : Value → Option Nat
  | .iface _ v => v.ownBlock
  | _ => none
/-- A way's value holds the numbers zs. -/
inductive IsWay (W : World) (wv : Value) (zs : List Int) : Prop
  | nil (e : wv = .nilIface) (z : zs = [])
  | ranges (v : Value) (sps : List (Int × Int)) (e : wv = .iface 77 v) (own : W.ownsRow 0 83 2 v sps.length (rowS sps)) (z : zs = numsS sps) (hb : ∀ s ∈ sps, 0 ≤ s.1 ∧ s.1 ≤ s.2 ∧ s.2 ≤ 4096) (hl : sps.length ≤ 4096)
  | bitmap (v : Value) (ws : List Int) (e : wv = .iface 79 v) (own : W.ownsRow 0 80 1 v ws.length (ws.map (Value.int .u64))) (z : zs = numsB ws) (hb : ∀ x ∈ ws, 0 ≤ x ∧ x < 18446744073709551616) (hl : ws.length ≤ 64)
  | list (v : Value) (e : wv = .iface 68 v) (own : W.ownsRow 0 3 1 v zs.length (zs.map (Value.int .i64)))
/-- A row's one block is as it was. -/
theorem own_block {W W' : World} {base e s n : Nat} {v : Value} {xs : List Value} (h : W.ownsRow base e s v n xs) (hk : ∀ k, v.ownBlock = some k → W'.heap[k]? = W.heap[k]?) : W'.ownsRow base e s v n xs := by
  refine ⟨h.1, ?_⟩
  rcases h.2 with hn | ⟨g, cap, cur, rfl, hb, hgg, rest⟩
  · exact .inl hn
  · exact .inr ⟨g, cap, cur, rfl, hb, (hk g rfl).trans hgg, rest⟩
theorem own_below {W W' : World} {base e s n : Nat} {v : Value} {xs : List Value} (h : W.ownsRow base e s v n xs) (hB : Below W.heap.size W W') : W'.ownsRow base e s v n xs :=
  own_block h (fun k hk => hB.block k (h.lt k hk).2)
theorem own_still {t : TypeId} {W W' : World} {base e s n : Nat} {v : Value} {xs : List Value} (h : W.ownsRow base e s v n xs) (hte : e ≠ t) (hB : Still t W W') : W'.ownsRow base e s v n xs :=
  own_block h (fun k hk => hB.block k (h.lt k hk).2 (fun cs fr hc => by
    rcases h.2 with ⟨rfl, _⟩ | ⟨g, cap, cur, rfl, _, hgg, _⟩
    · cases hk
    · obtain rfl : g = k := by simpa [Value.ownBlock] using hk
      rw [hgg] at hc
      simp at hc
      exact hte hc.2.1))
theorem own_base {W : World} {base e s n : Nat} {v : Value} {xs : List Value} (h : W.ownsRow base e s v n xs) : W.ownsRow 0 e s v n xs := by
  refine ⟨h.1, ?_⟩
  rcases h.2 with hn | ⟨g, cap, cur, rfl, _, rest⟩
  · exact .inl hn
  · exact .inr ⟨g, cap, cur, rfl, Nat.zero_le _, rest⟩
theorem IsWay.block {W W' : World} {wv : Value} {zs : List Int} (h : IsWay W wv zs) (hk : ∀ k, wayBlock wv = some k → W'.heap[k]? = W.heap[k]?) : IsWay W' wv zs := by
  cases h with
  | nil e z => exact .nil e z
  | ranges v sps e own z hb hl => subst e; exact .ranges v sps rfl (own_block own hk) z hb hl
  | bitmap v ws e own z hb hl => subst e; exact .bitmap v ws rfl (own_block own hk) z hb hl
  | list v e own => subst e; exact .list v rfl (own_block own hk)
theorem IsWay.lt {W : World} {wv : Value} {zs : List Int} (h : IsWay W wv zs) : ∀ k, wayBlock wv = some k → k < W.heap.size := by
  cases h with
  | nil e z => subst e; intro k hk; cases hk
  | ranges v sps e own z hb hl => subst e; exact fun k hk => (own.lt k hk).2
  | bitmap v ws e own z hb hl => subst e; exact fun k hk => (own.lt k hk).2
  | list v e own => subst e; exact fun k hk => (own.lt k hk).2
theorem IsWay.below {W W' : World} {wv : Value} {zs : List Int} (h : IsWay W wv zs) (hB : Below W.heap.size W W') : IsWay W' wv zs := h.block (fun k hk => hB.block k (h.lt k hk))
theorem IsWay.still {t : TypeId} {W W' : World} {wv : Value} {zs : List Int} (h : IsWay W wv zs) (h1 : (83 : Nat) ≠ t) (h2 : (80 : Nat) ≠ t) (h3 : (3 : Nat) ≠ t) (hB : Still t W W') : IsWay W' wv zs := by
  cases h with
  | nil e z => exact .nil e z
  | ranges v sps e own z hb hl => exact .ranges v sps e (own_still own h1 hB) z hb hl
  | bitmap v ws e own z hb hl => exact .bitmap v ws e (own_still own h2 hB) z hb hl
  | list v e own => exact .list v e (own_still own h3 hB)
/-- A set's value. -/
def setV (n rep : Int) (wv : Value) : Value := .agg #[.int .i64 n, .int .i64 rep, wv]
/-- A value is a set of the numbers zs, of n, in the way rep. -/
structure IsSet (W : World) (n rep : Int) (wv : Value) (zs : List Int) : Prop where
  way : IsWay W wv zs
  rising : Rising n zs
  n0 : 0 ≤ n
  n1 : n ≤ 4096
theorem IsSet.below {W W' : World} {n rep : Int} {wv : Value} {zs : List Int} (h : IsSet W n rep wv zs) (hB : Below W.heap.size W W') : IsSet W' n rep wv zs := ⟨h.way.below hB, h.rising, h.n0, h.n1⟩
theorem IsSet.block {W W' : World} {n rep : Int} {wv : Value} {zs : List Int} (h : IsSet W n rep wv zs) (hk : ∀ k, wayBlock wv = some k → W'.heap[k]? = W.heap[k]?) : IsSet W' n rep wv zs := ⟨h.way.block hk, h.rising, h.n0, h.n1⟩
theorem IsSet.still {W W' : World} {n rep : Int} {wv : Value} {zs : List Int} (h : IsSet W n rep wv zs) (hB : Still 28 W W') : IsSet W' n rep wv zs := ⟨h.way.still (by decide) (by decide) (by decide) hB, h.rising, h.n0, h.n1⟩
end Go.Proofs.Ytbjdnfnolhahgaa.F

/-! Iterators over numbers: what they give; slices.Values' closures. -/
namespace Go.Proofs.Ytbjdnfnolhahgaa.F
open Go.RowKit Go.Shelf Go.Proofs.YtbjdnfnolhahgaaW.PrintWords
attribute [local go_sem] Oper.semAt_some
set_option linter.unusedVariables false
/-- The blocks of D are as they were. -/
def Keep (D : Nat → Prop) (W W' : World) : Prop := ∀ k, D k → W'.heap[k]? = W.heap[k]?
theorem Keep.refl (D : Nat → Prop) (W : World) : Keep D W W := fun _ _ => rfl
theorem Keep.trans {D : Nat → Prop} {A B C : World} (h : Keep D A B) (k : Keep D B C) : Keep D A C := fun j hj => (k j hj).trans (h j hj)
theorem Keep.of_below {D : Nat → Prop} {n : Nat} {A B : World} (h : Below n A B) (hD : ∀ k, D k → k < n) : Keep D A B := fun j hj => h.block j (hD j hj)
theorem Keep.alloc {D : Nat → Prop} {A B : World} (h : Keep D A B) (hD : ∀ k, D k → k < B.heap.size) (o : Obj) : Keep D A (B.alloc o) := h.trans (fun j hj => Below.heap_alloc B o j (hD j hj))
theorem Keep.setCell {D : Nat → Prop} {A B : World} (h : Keep D A B) (p : Addr) (hD : ¬ D p.block) (u : Value) : Keep D A (B.setCell p u) := h.trans (fun j hj => Below.heap_setCell B p u j (fun e => hD (e ▸ hj)))
theorem Keep.grown {D : Nat → Prop} {A B C : World} {row : Option Nat} (h : Keep D A B) (hg : B.grownBy C row) (hD : ∀ k, D k → k < B.heap.size ∧ some k ≠ row) : Keep D A C := h.trans (fun j hj => hg.block j (hD j hj).1 (hD j hj).2)
theorem Keep.sub {D E : Nat → Prop} {A B : World} (h : Keep D A B) (hE : ∀ k, E k → D k) : Keep E A B := fun j hj => h j (hE j hj)
theorem Keep.putObj {D : Nat → Prop} (W : World) (l : Nat) (o : Obj) (hD : ¬ D l) : Keep D W (W.putObj l o) := fun j hj => World.putObj_heap_other (fun e => hD (e ▸ hj))
/-- The row that the variable in block B holds. -/
def ownAt (W : World) (B : Nat) : Option Nat := (W.cell? ⟨B, 0, none⟩).bind Value.ownBlock
/-- What the variables hold lies in the heap. -/
def Fit (bs : List Nat) (W : World) : Prop := ∀ B, B ∈ bs → ∀ k, ownAt W B = some k → k < W.heap.size
/-- Of the cells that lay there nothing has turned but the variables of bs and the rows that they held; these hold the rows that they held, or new ones. -/
structure KeepE (bs : List Nat) (W W' : World) : Prop where
  size : W.heap.size ≤ W'.heap.size
  block : ∀ k o, W.heap[k]? = some o → o.isCells = true → k ∉ bs → (∀ B, B ∈ bs → ownAt W B ≠ some k) → W'.heap[k]? = some o
  own : ∀ B, B ∈ bs → ∀ k, ownAt W' B = some k → ownAt W B = some k ∨ W.heap.size ≤ k
  fit : Fit bs W → Fit bs W'
theorem KeepE.refl (bs : List Nat) (W : World) : KeepE bs W W := ⟨Nat.le_refl _, fun _ _ h _ _ _ => h, fun _ _ _ h => .inl h, fun h => h⟩
theorem KeepE.trans {bs : List Nat} {A B C : World} (h : KeepE bs A B) (k : KeepE bs B C) : KeepE bs A C := by
  refine ⟨Nat.le_trans h.size k.size, fun j o ho hc hj hown => ?_, fun b hb j hj => ?_, fun hf => k.fit (h.fit hf)⟩
  · refine k.block j o (h.block j o ho hc hj hown) hc hj (fun b hb e => ?_)
    rcases h.own b hb j e with e' | e'
    · exact hown b hb e'
    · have := (Array.getElem?_eq_some_iff.1 ho).1
      omega
  · rcases k.own b hb j hj with e | e
    · exact h.own b hb j e
    · exact .inr (Nat.le_trans h.size e)
theorem ownAt_eq {W W' : World} {B : Nat} (h : W'.heap[B]? = W.heap[B]?) : ownAt W' B = ownAt W B := by
  unfold ownAt
  rw [World.cell?_of_block (a := ⟨B, 0, none⟩) h]
/-- Nothing that lay there has turned. -/
theorem KeepE.of_below {bs : List Nat} {W W' : World} (hbs : ∀ B, B ∈ bs → B < W.heap.size) (h : Below W.heap.size W W') : KeepE bs W W' := by
  have ho : ∀ B, B ∈ bs → ownAt W' B = ownAt W B := fun B hB => ownAt_eq (h.block B (hbs B hB))
  refine ⟨h.size, fun k o hk _ _ _ => (h.block k (Array.getElem?_eq_some_iff.1 hk).1).trans hk, fun B hB k hk => .inl (by rw [← ho B hB]; exact hk), fun hf B hB k hk => ?_⟩
  rw [ho B hB] at hk
  exact Nat.lt_of_lt_of_le (hf B hB k hk) h.size
/-- What the law asks of the book-keeping. -/
theorem KeepE.putObj {bs : List Nat} {n : Nat} (hbs : ∀ B, B ∈ bs → B < n) (W : World) (l : Nat) (o o' : Obj) (hl : n ≤ l) (ho : W.heap[l]? = some o) (hc : o.isCells = false) : KeepE bs W (W.putObj l o') := by
  have hne : ∀ B, B ∈ bs → ownAt (W.putObj l o') B = ownAt W B := fun B hB => ownAt_eq (World.putObj_heap_other (by have := hbs B hB; omega))
  have hsz : (W.putObj l o').heap.size = W.heap.size := (by simp)
  refine ⟨by rw [hsz]; exact Nat.le_refl _, fun k ok hk hcc _ _ => ?_, fun B hB k hk => .inl (by rw [← hne B hB]; exact hk), fun hf B hB k hk => ?_⟩
  · refine (World.putObj_heap_other (fun e => ?_)).trans hk
    subst e
    rw [ho] at hk
    cases hk
    rw [hc] at hcc
    cases hcc
  · rw [hne B hB] at hk
    rw [hsz]
    exact hf B hB k hk
/-- The blocks of D are cells, and none of the variables', nor of what these hold. -/
structure Clear (bs : List Nat) (D : Nat → Prop) (W : World) : Prop where
  lt : ∀ B, B ∈ bs → B < W.heap.size
  fit : Fit bs W
  not : ∀ k, D k → k ∉ bs ∧ ∀ B, B ∈ bs → ownAt W B ≠ some k
def AreCells (D : Nat → Prop) (W : World) : Prop := ∀ k, D k → ∃ o, W.heap[k]? = some o ∧ o.isCells = true
theorem AreCells.lt {D : Nat → Prop} {W : World} (h : AreCells D W) {k : Nat} (hk : D k) : k < W.heap.size := by
  obtain ⟨o, ho, _⟩ := h k hk
  exact (Array.getElem?_eq_some_iff.1 ho).1
theorem AreCells.below {D : Nat → Prop} {W W' : World} (h : AreCells D W) (hB : Below W.heap.size W W') : AreCells D W' := fun k hk => by
  obtain ⟨o, ho, hc⟩ := h k hk
  exact ⟨o, (hB.block k (h.lt hk)).trans ho, hc⟩
theorem KeepE.keep {bs : List Nat} {D : Nat → Prop} {W W' : World} (h : KeepE bs W W') (hc : Clear bs D W) (hd : AreCells D W) : Keep D W W' := fun k hk => by
  obtain ⟨o, ho, hcc⟩ := hd k hk
  rw [ho]
  exact h.block k o ho hcc (hc.not k hk).1 (hc.not k hk).2
/-- Called as a range's function it gives the numbers zs, in order, or some first ones of them where a round says 'no more'. -/
def StopsP (n : Nat) (gf : Nat) (lb : Array Value) (Kp : World → World → Prop) (zs : List Int) (w : World) : Prop :=
  ∀ (l : Nat) (J Jx : List Int → World → Prop) (W : World), Below w.heap.size w W → AbidesFrom W.heap.size J → AbidesFrom W.heap.size Jx →
    (∀ pre x W1, J pre W1 → pre ++ [x] <+: zs → YieldAt Fence.wide (n - 1) Try.prog l #[.int .i64 x] W1 fun e W' =>
      (e = .returned (.bool true) ∧ J (pre ++ [x]) W' ∧ Kp W1 W') ∨ (e = .returned (.bool false) ∧ Jx (pre ++ [x]) W')) →
    J [] W →
    CallsIn Fence.wide n Try.prog gf (#[.func (.yield l) #[] #[]] ++ lb) W fun e W' => (∃ v, e = .returned v) ∧ ((∃ xs, xs = zs ∧ J xs W') ∨ (∃ pre, pre <+: zs ∧ Jx pre W'))
theorem StopsP.all {n gf : Nat} {lb : Array Value} {Kp : World → World → Prop} {zs : List Int} {w : World} (h : StopsP n gf lb Kp zs w) :
    SeqStopsK Fence.wide n Try.prog gf lb (fun x : Int => #[Value.int .i64 x]) Kp (fun ys => ys = zs) (fun pre => pre <+: zs) zs.length w := fun l J Jx W hW hJ hJx hY h0 =>
  h l J Jx W hW hJ hJx (fun pre x W1 hj hp => hY pre x W1 hj (by have := hp.length_le; simp at this; omega)) h0
/-- The same, each number with what is known of all of them. -/
theorem StopsP.sub {n gf : Nat} {lb : Array Value} {Kp : World → World → Prop} {zs : List Int} {w : World} (h : StopsP n gf lb Kp zs w) (q : Int → Prop) (hq : ∀ x ∈ zs, q x) :
    SeqStopsK Fence.wide n Try.prog gf lb (fun x : { x : Int // q x } => #[Value.int .i64 x.1]) Kp (fun ys => ys.map (fun x => x.1) = zs) (fun pre => pre.map (fun x => x.1) <+: zs) zs.length w := fun l J Jx W hW hJ hJx hY h0 => by
  refine (h l (fun pre W => ∃ pre' : List { x : Int // q x }, pre'.map (fun x => x.1) = pre ∧ J pre' W) (fun pre W => ∃ pre' : List { x : Int // q x }, pre'.map (fun x => x.1) = pre ∧ Jx pre' W) W hW
    (fun s A B row hs hg hr => by obtain ⟨pre', e, hj⟩ := hs; exact ⟨pre', e, hJ _ _ _ _ hj hg hr⟩) (fun s A B row hs hg hr => by obtain ⟨pre', e, hj⟩ := hs; exact ⟨pre', e, hJx _ _ _ _ hj hg hr⟩)
    (fun pre x W1 hj hp => ?_) ⟨[], rfl, h0⟩).mono ?_
  · obtain ⟨pre', rfl, hj⟩ := hj
    have hx : x ∈ zs := hp.subset (by simp)
    obtain ⟨fn, tmps, assign, body, hy, hR⟩ := hY pre' ⟨x, hq x hx⟩ W1 hj (by have := hp.length_le; simp at this; omega)
    refine ⟨fn, tmps, assign, body, hy, hR.mono ?_⟩
    rintro e W' (⟨rfl, h1, h2⟩ | ⟨rfl, h1⟩)
    · exact .inl ⟨rfl, ⟨_, by simp, h1⟩, h2⟩
    · exact .inr ⟨rfl, _, by simp, h1⟩
  · rintro e W' ⟨he, ⟨xs, rfl, pre', e', hj⟩ | ⟨pre, hp, pre', e', hj⟩⟩
    · exact ⟨he, .inl ⟨pre', e', hj⟩⟩
    · exact ⟨he, .inr ⟨pre', show List.map (fun x : { x : Int // q x } => x.1) pre' <+: zs from by rw [e']; exact hp, hj⟩⟩
/-- A function value that gives, as a range's function, the numbers zs, wherever the blocks of D are as they were. -/
structure Gives (D : Nat → Prop) (gf : Nat) (lb : Array Value) (zs : List Int) (w : World) : Prop where
  cells : AreCells D w
  enters : ∀ args w, (callFunc gf args).run Try.prog w = .ok (.enter gf args) w
  stops : ∀ (bs : List Nat) (W : World), Keep D w W → Clear bs D W → ∀ n, 1 ≤ n → StopsP n gf lb (KeepE bs) zs W
theorem AreCells.keep {D : Nat → Prop} {W W' : World} (h : AreCells D W) (hk : Keep D W W') : AreCells D W' := fun k hd => by
  obtain ⟨o, ho, hc⟩ := h k hd
  exact ⟨o, (hk k hd).trans ho, hc⟩
theorem Gives.keep {D : Nat → Prop} {gf : Nat} {lb : Array Value} {zs : List Int} {w W : World} (h : Gives D gf lb zs w) (hk : Keep D w W) : Gives D gf lb zs W :=
  ⟨h.cells.keep hk, h.enters, fun bs W' hW' hcl n hn => h.stops bs W' (hk.trans hW') hcl n hn⟩
theorem Gives.below {D : Nat → Prop} {gf : Nat} {lb : Array Value} {zs : List Int} {w W : World} (h : Gives D gf lb zs w) (hB : Below w.heap.size w W) : Gives D gf lb zs W :=
  h.keep (Keep.of_below hB (fun k hk => h.cells.lt hk))
theorem take_snoc' {zs : List Int} {K : Int} (h0 : 0 ≤ K) (h1 : K < (zs.length : Int)) : zs.take (K + 1).toNat = zs.take K.toNat ++ [rd zs K] := by
  rw [show (K + 1).toNat = K.toNat + 1 from by omega, List.take_succ_eq_append_getElem (show K.toNat < zs.length by omega)]
  congr 2
  unfold rd
  rw [List.getD_eq_getElem?_getD, List.getElem?_eq_getElem (by omega)]
  rfl
set_option maxRecDepth 100000 in
set_option maxHeartbeats 2000000 in
/-- slices.Values's closure at []int. -/
theorem values1_in (Fn : Fence) (n : Nat) (h50 : Fn.fn 50) (hro : Fn.round = none) (hn : 1 ≤ n) (l Bs : Nat) (Kp : World → World → Prop) (hKt : ∀ {A B C : World}, Kp A B → Kp B C → Kp A C) (A : Option Addr) (cap : Nat) (zs : List Int) (w0 : World)
    (hC : ∀ W, Kp w0 W → (Kd.int .i64).C W A zs.length zs) (hB : ∀ W, Kp w0 W → W.cell? ⟨Bs, 0, none⟩ = some (.slice A zs.length cap)) (J Jx : List Int → World → Prop)
    (hY : ∀ pre x W, J pre W → pre ++ [x] <+: zs → YieldAt Fn (n - 1) Try.prog l #[.int .i64 x] W fun e W' =>
      (e = .returned (.bool true) ∧ J (pre ++ [x]) W' ∧ Kp W W') ∨ (e = .returned (.bool false) ∧ Jx (pre ++ [x]) W'))
    (W : World) (hW : Kp w0 W) (h0 : J [] W) :
    CallsIn Fn n Try.prog 50 #[.func (.yield l) #[] #[], .pointer (some ⟨Bs, 0, none⟩)] W fun e W' => (∃ v, e = .returned v) ∧
      ((∃ ys, ys = zs ∧ J ys W') ∨ (∃ pre, pre <+: zs ∧ Jx pre W')) := by
  have hBs := hB W hW
  have hzl := (hC W hW).2.1
  refine callsIn_of_wp Try.func50 rfl h50 ?_ hro
  simp only [Try.ntmps50, List.size_toArray, List.length_cons, List.length_nil, Nat.reduceAdd, Nat.reduceSub, Array.replicate_succ, Array.replicate_zero, List.push_toArray, List.append_toArray, List.nil_append, List.cons_append]
  gi_wp2
  gi_loopw [7] (fun i wr => ∃ K : Int, 0 ≤ K ∧ K ≤ (zs.length : Int) ∧ i = .int .i64 K ∧ J (zs.take K.toNat) wr ∧ Kp w0 wr) (fun i _ => zs.length - (intOf i).toNat)
  case atStart => exact ⟨0, by omega, by omega, rfl, h0, hW⟩
  case round =>
    obtain ⟨K, hK0, hK1, rfl, hJs, hnx⟩ := hrel
    by_cases hlt : K < (zs.length : Int)
    · obtain ⟨ad, e0, hx0⟩ := Kd.at_int (hC wr hnx) K hK0 hlt
      subst e0
      have hts := Aside0.mk (take_snoc' hK0 hlt)
      obtain ⟨fn, tmps, assign, body, hy, hR⟩ := hY _ (rd zs K) wr hJs (by rw [← hts.out]; exact List.take_prefix _ _)
      gi_wp2
      refine hR.mono ?_
      rintro e W3 (⟨rfl, hJ3, hk3⟩ | ⟨rfl, hJx3⟩)
      · gi_wp2
        go_roundw
        case rel => exact ⟨K + 1, by omega, by omega, by go_num, by rw [hts.out]; exact hJ3, hKt hnx hk3⟩
        case measure => simp [intOf]; omega
      · gi_wp2
        refine bodyPost_ret (results_none rfl _ _ _) rfl ?_
        exact ⟨⟨_, rfl⟩, .inr ⟨_, by rw [← hts.out]; exact List.take_prefix _ _, hJx3⟩⟩
    · obtain rfl : K = (zs.length : Int) := by omega
      rw [Int.toNat_natCast, List.take_length] at hJs
      gi_wp2
      go_end0
      exact ⟨⟨_, rfl⟩, .inl hJs⟩
set_option maxRecDepth 100000 in
set_option maxHeartbeats 2000000 in
/-- slices.Values's closure at pos.list. -/
theorem values2_in (Fn : Fence) (n : Nat) (h50 : Fn.fn 93) (hro : Fn.round = none) (hn : 1 ≤ n) (l Bs : Nat) (Kp : World → World → Prop) (hKt : ∀ {A B C : World}, Kp A B → Kp B C → Kp A C) (A : Option Addr) (cap : Nat) (zs : List Int) (w0 : World)
    (hC : ∀ W, Kp w0 W → (Kd.int .i64).C W A zs.length zs) (hB : ∀ W, Kp w0 W → W.cell? ⟨Bs, 0, none⟩ = some (.slice A zs.length cap)) (J Jx : List Int → World → Prop)
    (hY : ∀ pre x W, J pre W → pre ++ [x] <+: zs → YieldAt Fn (n - 1) Try.prog l #[.int .i64 x] W fun e W' =>
      (e = .returned (.bool true) ∧ J (pre ++ [x]) W' ∧ Kp W W') ∨ (e = .returned (.bool false) ∧ Jx (pre ++ [x]) W'))
    (W : World) (hW : Kp w0 W) (h0 : J [] W) :
    CallsIn Fn n Try.prog 93 #[.func (.yield l) #[] #[], .pointer (some ⟨Bs, 0, none⟩)] W fun e W' => (∃ v, e = .returned v) ∧
      ((∃ ys, ys = zs ∧ J ys W') ∨ (∃ pre, pre <+: zs ∧ Jx pre W')) := by
  have hBs := hB W hW
  have hzl := (hC W hW).2.1
  refine callsIn_of_wp Try.func93 rfl h50 ?_ hro
  simp only [Try.ntmps93, List.size_toArray, List.length_cons, List.length_nil, Nat.reduceAdd, Nat.reduceSub, Array.replicate_succ, Array.replicate_zero, List.push_toArray, List.append_toArray, List.nil_append, List.cons_append]
  gi_wp2
  gi_loopw [7] (fun i wr => ∃ K : Int, 0 ≤ K ∧ K ≤ (zs.length : Int) ∧ i = .int .i64 K ∧ J (zs.take K.toNat) wr ∧ Kp w0 wr) (fun i _ => zs.length - (intOf i).toNat)
  case atStart => exact ⟨0, by omega, by omega, rfl, h0, hW⟩
  case round =>
    obtain ⟨K, hK0, hK1, rfl, hJs, hnx⟩ := hrel
    by_cases hlt : K < (zs.length : Int)
    · obtain ⟨ad, e0, hx0⟩ := Kd.at_int (hC wr hnx) K hK0 hlt
      subst e0
      have hts := Aside0.mk (take_snoc' hK0 hlt)
      obtain ⟨fn, tmps, assign, body, hy, hR⟩ := hY _ (rd zs K) wr hJs (by rw [← hts.out]; exact List.take_prefix _ _)
      gi_wp2
      refine hR.mono ?_
      rintro e W3 (⟨rfl, hJ3, hk3⟩ | ⟨rfl, hJx3⟩)
      · gi_wp2
        go_roundw
        case rel => exact ⟨K + 1, by omega, by omega, by go_num, by rw [hts.out]; exact hJ3, hKt hnx hk3⟩
        case measure => simp [intOf]; omega
      · gi_wp2
        refine bodyPost_ret (results_none rfl _ _ _) rfl ?_
        exact ⟨⟨_, rfl⟩, .inr ⟨_, by rw [← hts.out]; exact List.take_prefix _ _, hJx3⟩⟩
    · obtain rfl : K = (zs.length : Int) := by omega
      rw [Int.toNat_natCast, List.take_length] at hJs
      gi_wp2
      go_end0
      exact ⟨⟨_, rfl⟩, .inl hJs⟩
/-- A world in which the row and its box are as they were. -/
theorem boxed_keep {D : Nat → Prop} {w W : World} {Bs : Nat} {t : TypeId} {v : Value} (h : Boxed w Bs t v) (hD : D Bs) (hW : Keep D w W) : W.cell? ⟨Bs, 0, none⟩ = some v := Boxed.cell (t := t) ((hW Bs hD).trans h)
theorem gives_values1 (Bs : Nat) (D : Nat → Prop) (A : Option Addr) (cap : Nat) (zs : List Int) (w : World) (hd : AreCells D w) (hb : Boxed w Bs 24 (.slice A zs.length cap)) (hDB : D Bs)
    (hC : ∀ W, Keep D w W → (Kd.int .i64).C W A zs.length zs) : Gives D 50 #[.pointer (some ⟨Bs, 0, none⟩)] zs w :=
  ⟨hd, enters_of Try.func50 (by kernel_rfl) rfl, fun bs W0 hW0 hcl n hn l J Jx W hW _ _ hY h0 => by
    have hk : ∀ W', KeepE bs W0 W' → Keep D w W' := fun W' h => hW0.trans (h.keep hcl (hd.keep hW0))
    exact values1_in Fence.wide n trivial rfl hn l Bs (KeepE bs) KeepE.trans A cap zs W0 (fun W' h => hC W' (hk W' h)) (fun W' h => boxed_keep hb hDB (hk W' h)) J Jx hY W (KeepE.of_below hcl.lt hW) h0⟩
theorem gives_values2 (Bs : Nat) (D : Nat → Prop) (A : Option Addr) (cap : Nat) (zs : List Int) (w : World) (hd : AreCells D w) (hb : Boxed w Bs 68 (.slice A zs.length cap)) (hDB : D Bs)
    (hC : ∀ W, Keep D w W → (Kd.int .i64).C W A zs.length zs) : Gives D 93 #[.pointer (some ⟨Bs, 0, none⟩)] zs w :=
  ⟨hd, enters_of Try.func93 (by kernel_rfl) rfl, fun bs W0 hW0 hcl n hn l J Jx W hW _ _ hY h0 => by
    have hk : ∀ W', KeepE bs W0 W' → Keep D w W' := fun W' h => hW0.trans (h.keep hcl (hd.keep hW0))
    exact values2_in Fence.wide n trivial rfl hn l Bs (KeepE bs) KeepE.trans A cap zs W0 (fun W' h => hC W' (hk W' h)) (fun W' h => boxed_keep hb hDB (hk W' h)) J Jx hY W (KeepE.of_below hcl.lt hW) h0⟩
end Go.Proofs.Ytbjdnfnolhahgaa.F

/-! bitmap.has; the bitmap's iterator. -/
namespace Go.Proofs.Ytbjdnfnolhahgaa.F
open Go.RowKit Go.Shelf Go.Proofs.YtbjdnfnolhahgaaW.PrintWords
attribute [local go_sem] Oper.semAt_some
set_option linter.unusedVariables false
theorem word_bit (x : Int) (k : Nat) (h0 : 0 ≤ x) (h1 : x < 18446744073709551616) : (bits .and .u64 (x / 2 ^ k) 1 == 1) = x.toNat.testBit k := by
  obtain ⟨n, rfl⟩ := Int.eq_ofNat_of_zero_le h0
  have hn : n < 18446744073709551616 := by omega
  have hd : n / 2 ^ k ≤ n := Nat.div_le_self _ _
  have e1 : ((n : Int) / 2 ^ k) = ((n / 2 ^ k : Nat) : Int) := by push_cast; rfl
  rw [e1, show (1 : Int) = ((1 : Nat) : Int) from rfl, u64_and_nat _ _ (by omega) (by omega), Nat.and_one_is_mod, Int.toNat_natCast, Nat.testBit_eq_decide_div_mod_eq]
  rcases Nat.mod_two_eq_zero_or_one (n / 2 ^ k) with h | h <;> simp [h]
theorem dec_of {p : Prop} [Decidable p] {b : Bool} (h : p ↔ b = true) : decide p = b := by
  cases b
  · exact decide_eq_false (fun hp => by have := h.1 hp; cases this)
  · exact decide_eq_true (h.2 rfl)
theorem C_range {ws : List Int} {k : IntKind} {w : World} {A : Option Addr} (hb : ∀ x ∈ ws, 0 ≤ x ∧ x < 18446744073709551616) (i : Int) (h0 : 0 ≤ i) (h1 : i < (ws.length : Int)) : 0 ≤ rd ws i ∧ rd ws i < 18446744073709551616 ∧ rd ws i = ws[i.toNat]?.getD 0 := by
  have hi : i.toNat < ws.length := by omega
  have e : rd ws i = ws[i.toNat] := by
    unfold rd
    rw [List.getD_eq_getElem?_getD, List.getElem?_eq_getElem hi]
    rfl
  rw [e, List.getElem?_eq_getElem hi]
  exact ⟨(hb _ (List.getElem_mem hi)).1, (hb _ (List.getElem_mem hi)).2, rfl⟩
set_option maxRecDepth 100000 in
set_option maxHeartbeats 2000000 in
theorem bhas_any (A : Option Addr) (cap : Nat) (ws : List Int) (at_ : Int) (hl : ws.length ≤ 64) (hb : ∀ x ∈ ws, 0 ≤ x ∧ x < 18446744073709551616) (w : World) (hC : (Kd.int .u64).C w A ws.length ws) :
    Calls Try.prog 102 #[.slice A ws.length cap, .int .i64 at_] w fun e w' => e = .returned (.bool (decide (at_ ∈ numsB ws))) ∧ w = w' := by
  have hlen : (ws.length : Int) ≤ 64 := by omega
  by_cases h0 : 0 ≤ at_
  · by_cases h1 : at_ < 64 * (ws.length : Int)
    · obtain ⟨ad, e0, hx0⟩ := Kd.at_int hC (at_ / 64) (by omega) (by omega)
      obtain ⟨r0, r1, r2⟩ := C_range (k := .u64) (w := w) (A := A) hb (at_ / 64) (by omega) (by omega)
      subst e0
      have HQ : Aside0 (decide (at_ ∈ numsB ws) = (bits .and .u64 (rd ws (at_ / 64) / 2 ^ (at_ % 64).toNat) 1 == 1)) := ⟨by
        rw [word_bit _ _ r0 r1, r2]
        have : at_ ∈ numsB ws ↔ bitW ws at_ = true := by unfold numsB; rw [mem_filt]; exact ⟨fun h => h.2.2, fun h => ⟨h0, h1, h⟩⟩
        exact dec_of this⟩
      clear r0 r1 r2 hb
      have d0 : 0 ≤ at_ / 64 := by omega
      have d1 : at_ / 64 < (ws.length : Int) := by omega
      have m0 : 0 ≤ at_ % 64 := by omega
      have m1 : at_ % 64 < 64 := by omega
      go_enter Try.func102, Try.ntmps102
      go_wp2
      go_ret
      exact ⟨by rw [HQ.out]; rfl, rfl⟩
    · have HQ : Aside0 (decide (at_ ∈ numsB ws) = false) := ⟨by
        refine decide_eq_false ?_
        unfold numsB
        rw [mem_filt]
        exact fun h => h1 h.2.1⟩
      have h1' : 64 * (ws.length : Int) ≤ at_ := by omega
      clear h1 hb
      go_enter Try.func102, Try.ntmps102
      go_wp2
      go_ret
      exact ⟨by rw [HQ.out]; rfl, rfl⟩
  · have HQ : Aside0 (decide (at_ ∈ numsB ws) = false) := ⟨by
      refine decide_eq_false ?_
      unfold numsB
      rw [mem_filt]
      exact fun h => h0 h.1⟩
    have h1' : at_ < 0 := by omega
    clear h0 hb
    go_enter Try.func102, Try.ntmps102
    go_wp2
    go_ret
    exact ⟨by rw [HQ.out]; rfl, rfl⟩
/-- The numbers that have come when k were looked at. -/
theorem filt_succ {k : Int} (h : 0 ≤ k) (p : Int → Bool) : filt (k + 1) p = filt k p ++ (if p k = true then [k] else []) := by
  unfold filt
  rw [show (k + 1).toNat = k.toNat + 1 from by omega, List.range_succ, List.map_append, List.filter_append]
  congr 1
  rw [List.map_cons, List.map_nil, show ((k.toNat : Nat) : Int) = k from by omega]
  cases hp : p k <;> simp [hp]
theorem filt_prefix {k n : Int} (h : k ≤ n) (p : Int → Bool) : filt k p <+: filt n p := by
  unfold filt
  refine List.IsPrefix.filter _ (List.IsPrefix.map _ ?_)
  obtain ⟨d, hd⟩ : ∃ d, n.toNat = k.toNat + d := ⟨n.toNat - k.toNat, by omega⟩
  rw [hd, List.range_add]
  exact List.prefix_append _ _
theorem filt_lt {k n : Int} (h0 : 0 ≤ k) (h : k < n) (p : Int → Bool) (hp : p k = true) : (filt k p).length < (filt n p).length := by
  have h1 := (filt_prefix (show k + 1 ≤ n by omega) p).length_le
  rw [filt_succ h0, if_pos hp, List.length_append, List.length_singleton] at h1
  omega
theorem filt_zero (p : Int → Bool) : filt 0 p = [] := rfl
set_option maxRecDepth 100000 in
set_option maxHeartbeats 2000000 in
theorem bitmap1_in (n : Nat) (hn : 1 ≤ n) (l Bs : Nat) (Kp : World → World → Prop) (hKt : ∀ {A B C : World}, Kp A B → Kp B C → Kp A C) (A : Option Addr) (cap : Nat) (ws : List Int) (hl : ws.length ≤ 64) (hb : ∀ x ∈ ws, 0 ≤ x ∧ x < 18446744073709551616) (w0 : World)
    (hC : ∀ W, Kp w0 W → (Kd.int .u64).C W A ws.length ws) (hB : ∀ W, Kp w0 W → W.cell? ⟨Bs, 0, none⟩ = some (.slice A ws.length cap)) (J Jx : List Int → World → Prop)
    (hY : ∀ pre x W, J pre W → pre ++ [x] <+: numsB ws → YieldAt Fence.wide (n - 1) Try.prog l #[.int .i64 x] W fun e W' =>
      (e = .returned (.bool true) ∧ J (pre ++ [x]) W' ∧ Kp W W') ∨ (e = .returned (.bool false) ∧ Jx (pre ++ [x]) W'))
    (W : World) (hW : Kp w0 W) (h0 : J [] W) :
    CallsIn Fence.wide n Try.prog 103 #[.func (.yield l) #[] #[], .pointer (some ⟨Bs, 0, none⟩)] W fun e W' => (∃ v, e = .returned v) ∧
      ((∃ ys, ys = numsB ws ∧ J ys W') ∨ (∃ pre, pre <+: numsB ws ∧ Jx pre W')) := by
  have hBs := hB W hW
  have hf102 : Fence.wide.fn 102 := trivial
  have hlen : (ws.length : Int) ≤ 64 := by omega
  refine callsIn_of_wp Try.func103 rfl trivial ?_ rfl
  simp only [Try.ntmps103, List.size_toArray, List.length_cons, List.length_nil, Nat.reduceAdd, Nat.reduceSub, Array.replicate_succ, Array.replicate_zero, List.push_toArray, List.append_toArray, List.nil_append, List.cons_append]
  gi_wp2
  gi_loopw [7] (fun i wr => ∃ K : Int, 0 ≤ K ∧ K ≤ 64 * (ws.length : Int) ∧ i = .int .i64 K ∧ J (filt K (bitW ws)) wr ∧ Kp w0 wr) (fun i _ => 64 * ws.length - (intOf i).toNat)
  case atStart => exact ⟨0, by omega, by omega, rfl, h0, hW⟩
  case round =>
    obtain ⟨K, hK0, hK1, rfl, hJs, hnx⟩ := hrel
    by_cases hlt : K < 64 * (ws.length : Int)
    · have hbx := hB wr hnx
      have hfs := filt_succ hK0 (bitW ws)
      have hm : decide (K ∈ numsB ws) = bitW ws K := by
        have : K ∈ numsB ws ↔ bitW ws K = true := by unfold numsB; rw [mem_filt]; exact ⟨fun h => h.2.2, fun h => ⟨hK0, hlt, h⟩⟩
        exact dec_of this
      have hc := bhas_any A cap ws K hl hb wr (hC wr hnx)
      rw [hm] at hc
      clear hm
      by_cases hs : bitW ws K = true
      · rw [hs, if_pos rfl] at hfs
        rw [hs] at hc
        obtain ⟨fn, tmps, assign, body, hy, hR⟩ := hY _ K wr hJs (by rw [← hfs]; exact filt_prefix (by omega) _)
        have HFS := Aside0.mk hfs
        have HX := Aside0.mk hbx
        clear hfs hs
        gi_wp2_with (gi_at_call 102; refine (callsIn_wide.2 hc).mono ?_; clear hc; rintro e w' ⟨rfl, rfl⟩)
        refine hR.mono ?_
        rintro e W3 (⟨rfl, hJ3, hk3⟩ | ⟨rfl, hJx3⟩)
        · gi_wp2
          go_roundw
          case rel => exact ⟨K + 1, by omega, by omega, by go_num, by rw [HFS.out]; exact hJ3, hKt hnx hk3⟩
          case measure => simp [intOf]; omega
        · gi_wp2
          refine bodyPost_ret (results_none rfl _ _ _) rfl ?_
          exact ⟨⟨_, rfl⟩, .inr ⟨_, by rw [← HFS.out]; exact filt_prefix (by omega) _, hJx3⟩⟩
      · have hs' : bitW ws K = false := by simpa using hs
        rw [hs', if_neg (by decide), List.append_nil] at hfs
        rw [hs'] at hc
        have HFS := Aside0.mk hfs
        clear hfs hs hs'
        gi_wp2_with (gi_at_call 102; refine (callsIn_wide.2 hc).mono ?_; clear hc; rintro e w' ⟨rfl, rfl⟩)
        refine ⟨fun _ h => (by cases h), ?_⟩
        gi_wp2
        go_roundw
        case rel => exact ⟨K + 1, by omega, by omega, by go_num, by rw [HFS.out]; exact hJs, hnx⟩
        case measure => simp [intOf]; omega
    · obtain rfl : K = 64 * (ws.length : Int) := by omega
      gi_wp2
      go_end0
      exact ⟨⟨_, rfl⟩, .inl hJs⟩
theorem gives_bitmap (Bs : Nat) (D : Nat → Prop) (A : Option Addr) (cap : Nat) (ws : List Int) (w : World) (hl : ws.length ≤ 64) (hr : ∀ x ∈ ws, 0 ≤ x ∧ x < 18446744073709551616) (hd : AreCells D w) (hb : Boxed w Bs 79 (.slice A ws.length cap)) (hDB : D Bs)
    (hC : ∀ W, Keep D w W → (Kd.int .u64).C W A ws.length ws) : Gives D 103 #[.pointer (some ⟨Bs, 0, none⟩)] (numsB ws) w :=
  ⟨hd, enters_of Try.func103 (by kernel_rfl) rfl, fun bs W0 hW0 hcl n hn l J Jx W hW _ _ hY h0 => by
    have hk : ∀ W', KeepE bs W0 W' → Keep D w W' := fun W' h => hW0.trans (h.keep hcl (hd.keep hW0))
    exact bitmap1_in n hn l Bs (KeepE bs) KeepE.trans A cap ws hl hr W0 (fun W' h => hC W' (hk W' h)) (fun W' h => boxed_keep hb hDB (hk W' h)) J Jx hY W (KeepE.of_below hcl.lt hW) h0⟩
/-- Nothing comes. -/
theorem gives_none (w : World) : Gives (fun _ => False) 52 #[] [] w :=
  ⟨fun _ h => h.elim, enters_of Try.func52 (by kernel_rfl) rfl, fun bs W0 hW0 hcl n hn l J Jx W hW _ _ hY h0 => by
    refine callsIn_of_wp Try.func52 rfl trivial ?_ rfl
    simp only [Try.ntmps52, List.size_toArray, List.length_cons, List.length_nil, Nat.reduceAdd, Nat.reduceSub, Array.replicate_succ, Array.replicate_zero, List.push_toArray, List.append_toArray, List.nil_append, List.cons_append]
    gi_wp2
    go_end0
    exact ⟨⟨_, rfl⟩, .inl ⟨_, rfl, h0⟩⟩⟩
end Go.Proofs.Ytbjdnfnolhahgaa.F

/-! The spans' iterator. -/
namespace Go.Proofs.Ytbjdnfnolhahgaa.F
open Go.RowKit Go.Shelf Go.Proofs.YtbjdnfnolhahgaaW.PrintWords
attribute [local go_sem] Oper.semAt_some
set_option linter.unusedVariables false
def kS : Kd (Int × Int) := Kd.pair (Kd.int .i64) (Kd.int .i64)
theorem kS_open {w : World} {x : Int × Int} {cs : List Value} (h : kS.K w x cs) : cs = [.int .i64 x.1, .int .i64 x.2] := by
  obtain ⟨c1, c2, rfl, h1, h2⟩ := h
  have e1 : c1 = [.int .i64 x.1] := h1
  have e2 : c2 = [.int .i64 x.2] := h2
  rw [e1, e2]; rfl
theorem kS_mkM (w : World) (base : Nat) (ok : Nat → Prop) (x : Int × Int) : kS.M w base ok x [.int .i64 x.1, .int .i64 x.2] := ⟨[.int .i64 x.1], [.int .i64 x.2], rfl, rfl, rfl⟩
def rdS (xs : List (Int × Int)) (i : Int) : Int × Int := xs.getD i.toNat (0, 0)
theorem at_S {w : World} {A : Option Addr} {n : Nat} {xs : List (Int × Int)} (h : Kd.C kS w A n xs) (i : Int) (h0 : 0 ≤ i) (h1 : i < n) : ∃ ad, A = some ad ∧ w.cell? (ad.add (i.toNat * 2)) = some (.int .i64 (rdS xs i).1) ∧ w.cell? ⟨(ad.add (i.toNat * 2)).block, (ad.add (i.toNat * 2)).off + 1, none⟩ = some (.int .i64 (rdS xs i).2) := by
  obtain ⟨ad, c, e, _, hK, hc0⟩ := Kd.C_get h (0, 0) i h0 h1
  have hc : ∀ j u, c[j]? = some u → w.cell? (ad.add (i.toNat * 2 + j)) = some u := hc0
  obtain rfl := kS_open hK
  exact ⟨ad, e, hc 0 _ rfl, by rw [← add_field _ _ 1 (by omega)]; exact hc 1 _ rfl⟩
theorem repsS {R : Int × Int → List Value → Prop} (hR : ∀ x, R x [.int .i64 x.1, .int .i64 x.2]) (xs : List (Int × Int)) : ∀ pre : List (Int × Int), Reps R 2 pre (rowS pre) → Reps R 2 (pre ++ xs) (rowS (pre ++ xs)) := by
  induction xs with
  | nil => intro pre h; rwa [List.append_nil]
  | cons x xs ih =>
    intro pre h
    have h2 := ih (pre ++ [x]) (by rw [rowS_snoc]; exact h.snoc (hR x) rfl)
    rwa [List.append_assoc] at h2
theorem RS_of_own {W : World} {base : Nat} {v : Value} {xs : List (Int × Int)} (h : W.ownsRow base 83 2 v xs.length (rowS xs)) : Kd.R kS 83 W base (fun _ => True) v xs :=
  ⟨fun _ _ => trivial, rowS xs, h, repsS (fun x => kS_mkM _ _ _ x) xs [] (Reps.none _ _)⟩
theorem CS_of_own {W : World} {base : Nat} {v : Value} {xs : List (Int × Int)} (h : W.ownsRow base 83 2 v xs.length (rowS xs)) : ∃ A c, v = .slice A xs.length c ∧ xs.length ≤ c ∧ Kd.C kS W A xs.length xs := Kd.R_reads (RS_of_own h)
theorem CI_of_own {W : World} {base : Nat} {v : Value} {e : Nat} {k : IntKind} {xs : List Int} (h : W.ownsRow base e 1 v xs.length (xs.map (Value.int k))) : ∃ A c, v = .slice A xs.length c ∧ xs.length ≤ c ∧ (Kd.int k).C W A xs.length xs :=
  Kd.R_reads (ok := fun _ => True) (e := e) (Kd.R_of_own (by simpa [encs] using h) (fun _ _ => trivial))
theorem numsS_take {sps : List (Int × Int)} {K : Int} (h0 : 0 ≤ K) (h1 : K < (sps.length : Int)) : numsS (sps.take (K + 1).toNat) = numsS (sps.take K.toNat) ++ upI (rdS sps K).1 (rdS sps K).2 := by
  rw [show (K + 1).toNat = K.toNat + 1 from by omega, List.take_succ_eq_append_getElem (show K.toNat < sps.length by omega), numsS_snoc]
  unfold rdS
  rw [List.getD_eq_getElem?_getD, List.getElem?_eq_getElem (by omega)]
  rfl
theorem numsS_prefix (sps : List (Int × Int)) (k : Nat) : numsS (sps.take k) <+: numsS sps := by
  have h1 : numsS sps = numsS (sps.take k) ++ numsS (sps.drop k) := by
    unfold numsS
    rw [← List.flatMap_append, List.take_append_drop]
  rw [h1]
  exact List.prefix_append _ _
theorem upI_prefix {a b c : Int} (h : b ≤ c) : upI a b <+: upI a c := by
  unfold upI
  refine List.IsPrefix.map _ ?_
  obtain ⟨d, hd⟩ : ∃ d, (c - a).toNat = (b - a).toNat + d := ⟨(c - a).toNat - (b - a).toNat, by omega⟩
  rw [hd, List.range_add]
  exact List.prefix_append _ _
/-- What has come when K spans were over, and of the next the numbers below i. -/
theorem inner_prefix {sps : List (Int × Int)} {K i : Int} (h0 : 0 ≤ K) (h1 : K < (sps.length : Int)) (hi : i ≤ (rdS sps K).2) : numsS (sps.take K.toNat) ++ upI (rdS sps K).1 i <+: numsS sps := by
  refine List.IsPrefix.trans ?_ (numsS_prefix sps (K + 1).toNat)
  rw [numsS_take h0 h1]
  exact (List.prefix_append_right_inj _).2 (upI_prefix hi)
theorem ownAt_alloc {W : World} (o : Obj) {B : Nat} (h : B < W.heap.size) : ownAt (W.alloc o) B = ownAt W B := ownAt_eq (Below.heap_alloc W o B h)
theorem KeepE.alloc {bs : List Nat} {A W : World} (h : KeepE bs A W) (hbs : ∀ B, B ∈ bs → B < W.heap.size) (o : Obj) : KeepE bs A (W.alloc o) :=
  h.trans (KeepE.of_below hbs ((Below.refl _ W).alloc (Nat.le_refl _) o))
/-- A block of the iterator's own: no variable's of the caller. -/
structure Mine (bs : List Nat) (b : Nat) (o : Obj) (W : World) : Prop where
  is : W.heap[b]? = some o
  cells : o.isCells = true
  nb : b ∉ bs
  own : ∀ B, B ∈ bs → ownAt W B ≠ some b
theorem Mine.new {bs : List Nat} {W : World} (hbs : ∀ B, B ∈ bs → B < W.heap.size) (hf : Fit bs W) (cs : Array Value) (t : TypeId) : Mine bs W.heap.size (.cells cs t) (W.alloc (.cells cs t)) :=
  ⟨World.alloc_heap_new W _, rfl, fun h => Nat.lt_irrefl _ (hbs _ h), fun B hB e => by rw [ownAt_alloc _ (hbs B hB)] at e; exact Nat.lt_irrefl _ (hf B hB _ e)⟩
theorem Mine.keep {bs : List Nat} {b : Nat} {o : Obj} {W W' : World} (h : Mine bs b o W) (hk : KeepE bs W W') : Mine bs b o W' :=
  ⟨hk.block b o h.is h.cells h.nb h.own, h.cells, h.nb, fun B hB e => by
    rcases hk.own B hB b e with e' | e'
    · exact h.own B hB e'
    · have := (Array.getElem?_eq_some_iff.1 h.is).1; omega⟩
theorem Mine.cell2 {bs : List Nat} {b : Nat} {u v : Value} {t : TypeId} {W : World} (h : Mine bs b (.cells #[u, v] t) W) : W.cell? ⟨b, 0, none⟩ = some u ∧ W.cell? ⟨b, 1, none⟩ = some v := by
  refine ⟨?_, ?_⟩ <;> simp [World.cell?, h.is]
set_option maxRecDepth 100000 in
set_option maxHeartbeats 4000000 in
theorem ranges1_in (n : Nat) (hn : 1 ≤ n) (l Bs : Nat) (bs : List Nat) (A : Option Addr) (cap : Nat) (sps : List (Int × Int)) (hb : ∀ s ∈ sps, 0 ≤ s.1 ∧ s.1 ≤ s.2 ∧ s.2 ≤ 4096) (hl : sps.length ≤ 4096) (w0 : World) (hbs : ∀ B, B ∈ bs → B < w0.heap.size) (hfit : Fit bs w0)
    (hC : ∀ W, KeepE bs w0 W → kS.C W A sps.length sps) (hB : ∀ W, KeepE bs w0 W → W.cell? ⟨Bs, 0, none⟩ = some (.slice A sps.length cap)) (J Jx : List Int → World → Prop) (hgr : ∀ s W W', J s W → W.grownBy W' none → J s W')
    (hY : ∀ pre x W, J pre W → pre ++ [x] <+: numsS sps → YieldAt Fence.wide (n - 1) Try.prog l #[.int .i64 x] W fun e W' =>
      (e = .returned (.bool true) ∧ J (pre ++ [x]) W' ∧ KeepE bs W W') ∨ (e = .returned (.bool false) ∧ Jx (pre ++ [x]) W'))
    (W : World) (hW : KeepE bs w0 W) (h0 : J [] W) :
    CallsIn Fence.wide n Try.prog 97 #[.func (.yield l) #[] #[], .pointer (some ⟨Bs, 0, none⟩)] W fun e W' => (∃ v, e = .returned v) ∧
      ((∃ ys, ys = numsS sps ∧ J ys W') ∨ (∃ pre, pre <+: numsS sps ∧ Jx pre W')) := by
  have hBs := hB W hW
  have hlen : (sps.length : Int) ≤ 4096 := by omega
  have hu83 := Try.underlying83
  refine callsIn_of_wp Try.func97 rfl trivial ?_ rfl
  simp only [Try.ntmps97, List.size_toArray, List.length_cons, List.length_nil, Nat.reduceAdd, Nat.reduceSub, Array.replicate_succ, Array.replicate_zero, List.push_toArray, List.append_toArray, List.nil_append, List.cons_append]
  gi_wp2
  gi_loopw [8] (fun i wr => ∃ K : Int, 0 ≤ K ∧ K ≤ (sps.length : Int) ∧ i = .int .i64 K ∧ J (numsS (sps.take K.toNat)) wr ∧ KeepE bs w0 wr) (fun i _ => sps.length - (intOf i).toNat)
  case atStart => exact ⟨0, by omega, by omega, rfl, h0, hW⟩
  case round =>
    obtain ⟨K, hK0, hK1, rfl, hJs, hnx⟩ := hrel
    by_cases hlt : K < (sps.length : Int)
    · obtain ⟨ad, e0, hx0, hx1⟩ := at_S (hC wr hnx) K hK0 hlt
      subst e0
      have hbd : 0 ≤ (rdS sps K).1 ∧ (rdS sps K).1 ≤ (rdS sps K).2 ∧ (rdS sps K).2 ≤ 4096 := by
        unfold rdS
        rw [List.getD_eq_getElem?_getD, List.getElem?_eq_getElem (by omega)]
        exact hb _ (List.getElem_mem _)
      have hts := numsS_take hK0 hlt
      have hip := fun i (hi : i ≤ (rdS sps K).2) => inner_prefix hK0 hlt hi
      obtain ⟨f, hf⟩ : ∃ f, (rdS sps K).1 = f := ⟨_, rfl⟩
      obtain ⟨t, ht⟩ : ∃ t, (rdS sps K).2 = t := ⟨_, rfl⟩
      rw [hf] at hx0
      rw [ht] at hx1
      rw [hf, ht] at hbd hts
      simp only [hf, ht] at hip
      obtain ⟨hb1, hb2, hb3⟩ := hbd
      have HTS := Aside0.mk hts
      have HIP := Aside0.mk hip
      have hbs' : ∀ B, B ∈ bs → B < wr.heap.size := fun B hB => Nat.lt_of_lt_of_le (hbs B hB) hnx.size
      have HM := Aside0.mk (Mine.new hbs' (hnx.fit hfit) #[.int .i64 f, .int .i64 t] 83)
      have HJ2 := Aside0.mk (hgr _ _ _ hJs (World.grownBy_alloc wr (.cells #[.int .i64 f, .int .i64 t] 83) none))
      have HN2 := Aside0.mk (hnx.alloc hbs' (.cells #[.int .i64 f, .int .i64 t] 83))
      clear hf ht hts hip hbs'
      gi_wp2
      gi_loopw [5] (fun i wi => ∃ N : Int, f ≤ N ∧ N ≤ t ∧ i = .int .i64 N ∧ J (numsS (sps.take K.toNat) ++ upI f N) wi ∧ KeepE bs w0 wi ∧ Mine bs wr.heap.size (.cells #[.int .i64 f, .int .i64 t] 83) wi) (fun i _ => (t - intOf i).toNat)
      case atStart => exact ⟨f, by omega, by omega, rfl, by rw [upI_nil (Int.le_refl _), List.append_nil]; exact HJ2.out, HN2.out, HM.out⟩
      case round =>
        obtain ⟨N, hN0, hN1, rfl, hJi, hni, hmi⟩ := hrel
        obtain ⟨hc0, hc1⟩ := hmi.cell2
        by_cases hlt2 : N < t
        · have hus := upI_succ hN0
          have hip2 := HIP.out (N + 1) (by omega)
          have hpl : (numsS (sps.take K.toNat) ++ upI f N) ++ [N] <+: numsS sps := by
            have := hip2
            rwa [hus, ← List.append_assoc] at this
          obtain ⟨fn, tmps, assign, body, hy, hR⟩ := hY _ N _ hJi hpl
          have HUS := Aside0.mk hus
          have HIP2 := Aside0.mk hip2
          clear hus hip2 hpl
          gi_wp2
          refine hR.mono ?_
          rintro e W3 (⟨rfl, hJ3, hk3⟩ | ⟨rfl, hJx3⟩)
          · have hm3 := hmi.keep hk3
            obtain ⟨hc03, hc13⟩ := hm3.cell2
            gi_wp2
            go_roundw
            case rel => exact ⟨N + 1, by omega, by omega, by go_num, by rw [HUS.out, ← List.append_assoc]; exact hJ3, hni.trans hk3, hm3⟩
            case measure => simp [intOf]; omega
          · gi_wp2
            refine bodyPost_ret (results_none rfl _ _ _) rfl ?_
            exact ⟨⟨_, rfl⟩, .inr ⟨_, by rw [List.append_assoc, ← HUS.out]; exact HIP2.out, hJx3⟩⟩
        · obtain rfl : N = t := by omega
          gi_wp2
          go_roundw
          case rel => exact ⟨K + 1, by omega, by omega, by go_num, by rw [HTS.out]; exact hJi, hni⟩
          case measure => simp [intOf]; omega
    · obtain rfl : K = (sps.length : Int) := by omega
      rw [Int.toNat_natCast, List.take_length] at hJs
      gi_wp2
      go_end0
      exact ⟨⟨_, rfl⟩, .inl hJs⟩
theorem gives_ranges (Bs : Nat) (D : Nat → Prop) (A : Option Addr) (cap : Nat) (sps : List (Int × Int)) (hr : ∀ s ∈ sps, 0 ≤ s.1 ∧ s.1 ≤ s.2 ∧ s.2 ≤ 4096) (hl : sps.length ≤ 4096) (w : World) (hd : AreCells D w) (hb : Boxed w Bs 77 (.slice A sps.length cap)) (hDB : D Bs)
    (hC : ∀ W, Keep D w W → kS.C W A sps.length sps) : Gives D 97 #[.pointer (some ⟨Bs, 0, none⟩)] (numsS sps) w :=
  ⟨hd, enters_of Try.func97 (by kernel_rfl) rfl, fun bs W0 hW0 hcl n hn l J Jx W hW hJ _ hY h0 => by
    have hk : ∀ W', KeepE bs W0 W' → Keep D w W' := fun W' h => hW0.trans (h.keep hcl (hd.keep hW0))
    exact ranges1_in n hn l Bs bs A cap sps hr hl W0 hcl.lt hcl.fit (fun W' h => hC W' (hk W' h)) (fun W' h => boxed_keep hb hDB (hk W' h)) J Jx (fun s W W' hs hg => hJ s W W' none hs hg (fun r e => by cases e)) hY W (KeepE.of_below hcl.lt hW) h0⟩
end Go.Proofs.Ytbjdnfnolhahgaa.F
