/- A region that draws its order, and makes a box in it, and stores there: as the first law, and what the store gives is said of the new box. -/
import Derived.Test.YtbjdnfnolhahgaaMod
namespace Go.Proofs.Ytbjdnfnolhahgaa.F.G
open Go.RowKit Go.Shelf Go.Proofs.YtbjdnfnolhahgaaW.PrintWords
set_option linter.unusedVariables false
/-- Nothing has turned but blocks of cells of type t. -/
structure Still (t : TypeId) (W W' : World) : Prop where
  os : W'.os = W.os
  tape : W'.tape = W.tape
  output : W'.output = W.output
  size : W.heap.size ≤ W'.heap.size
  block : ∀ k, k < W.heap.size → (∀ cs fr, W.heap[k]? ≠ some (.cells cs t fr)) → W'.heap[k]? = W.heap[k]?
  shape : ∀ (k : Nat) (cs : Array Value) (fr : Nat × Nat), W.heap[k]? = some (Obj.cells cs t fr) → ∃ cs' : Array Value, cs'.size = cs.size ∧ W'.heap[k]? = some (Obj.cells cs' t fr)
/-- What is said of a value, and which nothing turns. -/
structure Fact (t : TypeId) where
  p : Value → World → Prop
  s1 : ∀ v W W', p v W → Below W.heap.size W W' → p v W'
  s2 : ∀ v W W', p v W → Still t W W' → p v W'
def FactAt {t : TypeId} (Fs : List (Fact t)) (j : Nat) (v : Value) (W : World) : Prop := match Fs[j]? with
  | some f => f.p v W
  | none => True
theorem FactAt.s1 {t : TypeId} {Fs : List (Fact t)} {j : Nat} {v : Value} {W W' : World} (h : FactAt Fs j v W) (hB : Below W.heap.size W W') : FactAt Fs j v W' := by
  unfold FactAt at *
  split
  · rename_i f hf; rw [hf] at h; exact f.s1 _ _ _ h hB
  · trivial
theorem FactAt.s2 {t : TypeId} {Fs : List (Fact t)} {j : Nat} {v : Value} {W W' : World} (h : FactAt Fs j v W) (hB : Still t W W') : FactAt Fs j v W' := by
  unfold FactAt at *
  split
  · rename_i f hf; rw [hf] at h; exact f.s2 _ _ _ h hB
  · trivial
section
variable {t : TypeId} (P : Program) (ops : Array Oper) (Q : Exit → Act → World → Prop) (Fs : List (Fact t)) (I : World → Prop) (St : Value → World → Prop) (s al : Nat) (mk : (Nat → Value) → Act)
/-- One operation's own walk. -/
def StepAt (i : Nat) (o : Oper) : Prop := ∀ (σ : Nat → Value) (W : World), I W → (∀ j, (needs o).contains j = true → FactAt Fs j (σ j) W) →
  (Region.wanted o (yielded ops (mk σ).tmps) = true ∧ ∀ K : Act → World → Prop, (∀ v W', FactAt Fs i v W' → Below W.heap.size W W' → K ((mk σ).put o.dst v) W') → o.wp P (mk σ) W K Q) ∨
  (Region.wanted o (yielded ops (mk σ).tmps) = false ∧ FactAt Fs i undef W)
/-- The store's. -/
def StoreAt (i : Nat) (o : Oper) : Prop := ∀ (σ : Nat → Value) (W : World), I W → (∀ j, (needs o).contains j = true → FactAt Fs j (σ j) W) →
  Region.wanted o (yielded ops (mk σ).tmps) = true ∧ ∀ K : Act → World → Prop, (∀ v W', FactAt Fs i v W' → Still t W W' → I W' → St (σ al) W' → K ((mk σ).put o.dst v) W') → o.wp P (mk σ) W K Q
def Steps : Nat → List Oper → Prop
  | _, [] => True
  | i, o :: r => (if i = s then StoreAt P ops Q Fs I St al mk i o else StepAt P ops Q Fs I mk i o) ∧ Steps (i + 1) r
variable {P ops Q Fs I St s al mk}
theorem Steps.cons {i : Nat} {o : Oper} {r : List Oper} (hi : (i == s) = false) (h : StepAt P ops Q Fs I mk i o) (hr : Steps P ops Q Fs I St s al mk (i + 1) r) : Steps P ops Q Fs I St s al mk i (o :: r) := by
  refine ⟨?_, hr⟩
  rw [if_neg (by simpa using hi)]
  exact h
theorem Steps.store {i : Nat} {o : Oper} {r : List Oper} (hi : (i == s) = true) (h : StoreAt P ops Q Fs I St al mk i o) (hr : Steps P ops Q Fs I St s al mk (i + 1) r) : Steps P ops Q Fs I St s al mk i (o :: r) := by
  refine ⟨?_, hr⟩
  rw [if_pos (by simpa using hi)]
  exact h
theorem Steps.nil {i : Nat} : Steps P ops Q Fs I St s al mk i [] := trivial
theorem Steps.at : ∀ {l : List Oper} {i : Nat}, Steps P ops Q Fs I St s al mk i l → ∀ (k : Nat) (o : Oper), l[k]? = some o → (i + k = s → StoreAt P ops Q Fs I St al mk (i + k) o) ∧ (i + k ≠ s → StepAt P ops Q Fs I mk (i + k) o)
  | [], _, _, k, o, h => by simp at h
  | o' :: r, i, hs, 0, o, h => by
    simp only [List.getElem?_cons_zero, Option.some.injEq] at h
    subst h
    have h1 := hs.1
    simp only [Nat.add_zero]
    refine ⟨fun e => ?_, fun e => ?_⟩
    · rwa [if_pos e] at h1
    · rwa [if_neg e] at h1
  | o' :: r, i, hs, k + 1, o, h => by
    have := Steps.at (l := r) hs.2 k o h
    rwa [show i + 1 + k = i + (k + 1) from by omega] at this
end
section
variable {t : TypeId} {P : Program} {ops : Array Oper} {Q : Exit → Act → World → Prop} {Fs : List (Fact t)} {I : World → Prop} {St : Value → World → Prop} {s al : Nat} {a0 : Act}
theorem wpAny_still (hap : apartB (dstsOf ops) = true) (hback : backB ops = true) (hI1 : ∀ W W', I W → Below W.heap.size W W' → I W') (hS1 : ∀ u W W', St u W → Below W.heap.size W W' → St u W') (hal : ∀ o, ops[s]? = some o → (needs o).contains al = true)
    (steps : Steps P ops Q Fs I St s al (fun σ => putAll σ 0 (dstsOf ops) a0) 0 ops.toList)
    (done : ∀ σ W, I W → (s < ops.size → St (σ al) W) → (∀ j, j < ops.size → FactAt Fs j (σ j) W) → Q .normal (putAll σ 0 (dstsOf ops) a0) W) :
    ∀ (fuel : Nat) (listed : Array Bool) (σ : Nat → Value) (W : World), listed.size = ops.size → openCount ops.size listed ≤ fuel → I W → (listed.getD s false = true → listed.getD al false = true ∧ St (σ al) W) → (∀ j, listed.getD j false = true → FactAt Fs j (σ j) W) →
      wpAny P .any ops Q fuel listed (putAll σ 0 (dstsOf ops) a0) W := by
  intro fuel
  have hfin : ∀ (listed : Array Bool) (σ : Nat → Value) (W : World), listed.size = ops.size → I W → (listed.getD s false = true → listed.getD al false = true ∧ St (σ al) W) → (∀ j, listed.getD j false = true → FactAt Fs j (σ j) W) →
      (∀ i, i < ops.size → listed.getD i true = true) → Q .normal (putAll σ 0 (dstsOf ops) a0) W := fun listed σ W hsz hI hSt hF hall => by
    have hd : ∀ j, j < ops.size → listed.getD j false = true := fun j hj => by
      have := hall j hj
      have hj' : j < listed.size := by omega
      simpa [Array.getD, hj'] using this
    exact done σ W hI (fun hs => (hSt (hd s hs)).2) (fun j hj => hF j (hd j hj))
  induction fuel with
  | zero =>
    intro listed σ W hsz hcnt hI hSt hF
    have hall : ∀ i, i < ops.size → listed.getD i true = true := fun i hi => by
      have h0 : (List.range ops.size).filter (fun i => !listed.getD i true) = [] := List.eq_nil_of_length_eq_zero (by unfold openCount at hcnt; omega)
      have := List.filter_eq_nil_iff.1 h0 i (List.mem_range.2 hi)
      simpa using this
    refine ⟨?_, hfin listed σ W hsz hI hSt hF hall⟩
    unfold Region.ready
    refine List.filter_eq_nil_iff.2 (fun i hi => ?_)
    rw [hall i (List.mem_range.1 hi)]
    simp
  | succ fuel ih =>
    intro listed σ W hsz hcnt hI hSt hF
    refine ⟨fun hr => hfin listed σ W hsz hI hSt hF (back_ready hback hr), fun i hi => ?_⟩
    obtain ⟨hun, o, ho, hall⟩ := mem_ready.1 hi
    have hlt : i < ops.size := (Array.getElem?_eq_some_iff.1 ho).1
    have hneeds : ∀ j, (needs o).contains j = true → FactAt Fs j (σ j) W := fun j hj => by
      rw [List.contains_iff_mem] at hj
      obtain ⟨e, he, rfl⟩ := List.mem_map.1 hj
      obtain ⟨he1, he2⟩ := List.mem_filter.1 he
      exact hF _ (hall e (by simpa using he1) he2)
    have hneedl : ∀ j, (needs o).contains j = true → listed.getD j false = true := fun j hj => by
      rw [List.contains_iff_mem] at hj
      obtain ⟨e, he, rfl⟩ := List.mem_map.1 hj
      obtain ⟨he1, he2⟩ := List.mem_filter.1 he
      exact hall e (by simpa using he1) he2
    have hol : ops.toList[i]? = some o := by simpa using ho
    have hdst : (dstsOf ops)[i]? = some o.dst := by simp [dstsOf, ho]
    have hun' : listed.getD i true = false := by
      have hi' : i < listed.size := by omega
      simpa [Array.getD, hi'] using hun
    have hset : ∀ v, (putAll σ 0 (dstsOf ops) a0).put o.dst v = putAll (upd σ i v) 0 (dstsOf ops) a0 := fun v => by
      have := putAll_put (dstsOf ops) σ 0 i a0 o.dst v hap hdst
      simpa using this
    have hcnt' : openCount ops.size (listed.setIfInBounds i true) ≤ fuel := by
      have := openCount_set ops.size listed i hlt (by omega) hun'
      omega
    have hgd : ∀ j, (listed.setIfInBounds i true).getD j false = true → j = i ∨ listed.getD j false = true := fun j hj => by
      by_cases e : j = i
      · exact .inl e
      · refine .inr ?_
        simp only [Array.getD_eq_getD_getElem?, Array.getElem?_setIfInBounds] at hj
        rw [if_neg (fun h => e h.symm)] at hj
        simpa [Array.getD_eq_getD_getElem?] using hj
    have hni : ∀ j, listed.getD j false = true → j ≠ i := fun j hj e => by
      subst e
      have hi' : j < listed.size := by omega
      simp [Array.getD, hi'] at hj hun'
      rw [hj] at hun'
      cases hun'
    have hst := (Steps.at steps i o hol)
    simp only [Nat.zero_add] at hst
    unfold wpOp
    simp only [ho]
    have close : ∀ v W', FactAt Fs i v W' → (i = s → listed.getD al false = true ∧ St (σ al) W') → I W' → (listed.getD s false = true → listed.getD al false = true ∧ St (σ al) W') → (∀ j, listed.getD j false = true → FactAt Fs j (σ j) W') →
        wpAny P .any ops Q fuel (listed.setIfInBounds i true) ((putAll σ 0 (dstsOf ops) a0).put o.dst v) W' := fun v W' hv hvs hI' hSt' hF' => by
      rw [hset v]
      refine ih (listed.setIfInBounds i true) (upd σ i v) W' (by simpa using hsz) hcnt' hI' (fun h => ?_) (fun j hj => ?_)
      · have keep : (listed.getD al false = true ∧ St (σ al) W') → ((listed.setIfInBounds i true).getD al false = true ∧ St (upd σ i v al) W') := fun ⟨h1, h2⟩ => by
          refine ⟨?_, by simpa [upd, hni al h1] using h2⟩
          simp only [Array.getD_eq_getD_getElem?, Array.getElem?_setIfInBounds]
          rw [if_neg (fun h => hni al h1 h.symm)]
          simpa [Array.getD_eq_getD_getElem?] using h1
        rcases hgd s h with e | e
        · exact keep (hvs e.symm)
        · exact keep (hSt' e)
      · rcases hgd j hj with e | e
        · subst e; simpa [upd] using hv
        · have := hF' j e
          simpa [upd, hni j e] using this
    by_cases his : i = s
    · obtain ⟨hw, hK⟩ := hst.1 his σ W hI hneeds
      rw [if_pos hw]
      refine .inl (hK _ (fun v W' hv hB hI' hS => close v W' hv (fun _ => ⟨hneedl al (hal o (his ▸ ho)), hS⟩) hI' (fun hs => absurd his.symm (hni s hs)) (fun j hj => (hF j hj).s2 hB)))
    · rcases hst.2 his σ W hI hneeds with ⟨hw, hK⟩ | ⟨hw, hv⟩
      · rw [if_pos hw]
        refine .inl (hK _ (fun v W' hv hB => close v W' hv (fun e => absurd e his) (hI1 _ _ hI hB) (fun h => ⟨(hSt h).1, hS1 _ _ _ (hSt h).2 hB⟩) (fun j hj => (hF j hj).s1 hB)))
      · rw [if_neg (by rw [hw]; decide)]
        exact close undef W hv (fun e => absurd e his) hI hSt hF
end
/-- **The law.** -/
theorem wp_region_still {t : TypeId} {P : Program} {id : Nat} {ops : Array Oper} {Q : Exit → Act → World → Prop} {a : Act} {w : World} (hm : P.follows .mixedOrders = true) (Fs : List (Fact t)) (I : World → Prop) (St : Value → World → Prop) (s al : Nat)
    (hap : apartB (dstsOf ops) = true) (hback : backB ops = true) (hI0 : I w.drew) (hI1 : ∀ W W', I W → Below W.heap.size W W' → I W') (hS1 : ∀ u W W', St u W → Below W.heap.size W W' → St u W') (hal : ∀ o, ops[s]? = some o → (needs o).contains al = true)
    (steps : ∀ mk : (Nat → Value) → Act, (∀ σ, mk σ = putAll σ 0 (dstsOf ops) a) → Steps P ops Q Fs I St s al mk 0 ops.toList)
    (done : ∀ mk : (Nat → Value) → Act, (∀ σ, mk σ = putAll σ 0 (dstsOf ops) a) → ∀ σ W, I W → (s < ops.size → St (σ al) W) → (∀ j, j < ops.size → FactAt Fs j (σ j) W) → Q .normal (mk σ) W) :
    (Code.region id ops true).wp P Q a w := by
  refine wp_region_any hm ?_
  obtain ⟨σ0, hσ⟩ : ∃ σ0 : Nat → Value, putAll σ0 0 (dstsOf ops) a = a := ⟨fun i => match (dstsOf ops)[i]? with
    | some (some d) => a.tmps.getD d undef
    | _ => undef, putAll_self _ _ _ _ (fun k d hd => by simp [hd])⟩
  have h := wpAny_still (a0 := a) hap hback hI1 hS1 hal (steps _ (fun _ => rfl)) (fun σ W hI hS hF => done _ (fun _ => rfl) σ W hI hS hF) ops.size (Array.replicate ops.size false) σ0 { w with drawn := w.drawn + 1 } (by simp)
    (by unfold openCount; exact Nat.le_trans (List.length_filter_le _ _) (by simp)) hI0
    (fun h => by rw [rep_false] at h; cases h)
    (fun j h => by rw [rep_false] at h; cases h)
  rw [hσ] at h
  exact h
theorem own_still {t : TypeId} {W W' : World} {base e s n : Nat} {v : Value} {xs : List Value} (h : W.ownsRow base e s v n xs) (hte : e ≠ t) (hB : Still t W W') : W'.ownsRow base e s v n xs :=
  own_block h (fun k hk => hB.block k (h.lt k hk).2 (fun cs fr hc => by
    rcases h.2 with ⟨rfl, _⟩ | ⟨g, cap, cur, rfl, _, hgg, _⟩
    · cases hk
    · obtain rfl : g = k := by simpa [Value.ownBlock] using hk
      rw [hgg] at hc
      simp at hc
      exact hte hc.2.1))
theorem isSet_still {W W' : World} {n rep : Int} {wv : Value} {zs : List Int} (h : IsSet W n rep wv zs) (hB : Still 28 W W') : IsSet W' n rep wv zs := by
  refine ⟨?_, h.rising, h.n0, h.n1⟩
  cases h.way with
  | nil e z => exact .nil e z
  | ranges v sps e own z hb hl => exact .ranges v sps e (own_still own (by decide) hB) z hb hl
  | bitmap v ws e own z hb hl => exact .bitmap v ws e (own_still own (by decide) hB) z hb hl
  | list v e own => exact .list v e (own_still own (by decide) hB)
def Fact.eq (v0 : Value) : Fact 28 := ⟨fun v _ => v = v0, fun _ _ _ h _ => h, fun _ _ _ h _ => h⟩
def Fact.top : Fact 28 := ⟨fun _ _ => True, fun _ _ _ _ _ => trivial, fun _ _ _ _ _ => trivial⟩
def Fact.set (n rep : Int) (zs : List Int) : Fact 28 := ⟨fun v W => ∃ t u, v = .agg #[.int .i64 n, .int .i64 rep, .iface t u] ∧ IsSet W n rep (.iface t u) zs, fun _ _ _ ⟨t, u, e, h⟩ hB => ⟨t, u, e, h.below hB⟩, fun _ _ _ ⟨t, u, e, h⟩ hB => ⟨t, u, e, isSet_still h hB⟩⟩
/-- A set and no error. -/
def Fact.setE (n rep : Int) (zs : List Int) : Fact 28 := ⟨fun v W => ∃ t u, v = .tuple #[.agg #[.int .i64 n, .int .i64 rep, .iface t u], .int .i64 0] ∧ IsSet W n rep (.iface t u) zs, fun _ _ _ ⟨t, u, e, h⟩ hB => ⟨t, u, e, h.below hB⟩, fun _ _ _ ⟨t, u, e, h⟩ hB => ⟨t, u, e, isSet_still h hB⟩⟩
def Fact.rowI (zs : List Int) : Fact 28 := ⟨fun v W => (Kd.int .i64).R 3 W 0 (fun _ => True) v zs, fun v W W' ⟨_, inner, own, reps⟩ hB => ⟨fun _ _ => trivial, inner, own_below own hB, reps⟩, fun v W W' ⟨_, inner, own, reps⟩ hB => ⟨fun _ _ => trivial, inner, own_still own (by decide) hB, reps⟩⟩
/-- A box, new since base. -/
def Fact.box (base : Nat) : Fact 28 := ⟨fun v W => ∃ b x y z, v = .pointer (some ⟨b, 0, none⟩) ∧ base ≤ b ∧ SBox W b x y z, fun _ _ _ ⟨b, x, y, z, e, h, hb⟩ hB => ⟨b, x, y, z, e, h, hb.below hB⟩, fun _ _ W' ⟨b, x, y, z, e, h, hb⟩ hB => by
  obtain ⟨cs', hs, hc⟩ := hB.shape b _ _ hb
  obtain ⟨l⟩ := cs'
  match l, (show l.length = 3 from hs) with
  | [x', y', z'], _ => exact ⟨b, x', y', z', e, h, hc⟩⟩
theorem set3_still {W : World} {B : Nat} {x y z : Value} (h : SBox W B x y z) (x' y' z' : Value) : Still 28 W (set3 W B x' y' z') :=
  ⟨rfl, rfl, rfl, by rw [set3_size]; exact Nat.le_refl _, fun k _ hk => set3_other W B x' y' z' (fun e => hk _ _ (e ▸ h)), fun k cs fr hk => by
    by_cases e : k = B
    · subst e
      rw [show W.heap[k]? = _ from h] at hk
      injection hk with hk
      injection hk with h1 h2 h3
      subst h1 h3
      exact ⟨#[x', y', z'], rfl, h.set x' y' z'⟩
    · exact ⟨cs, rfl, (set3_other W B x' y' z' e).trans hk⟩⟩
/-- What the store gives: the new box holds a set. -/
def StBox (n rep : Int) (zs : List Int) : Value → World → Prop := fun v W => ∃ b t u, v = .pointer (some ⟨b, 0, none⟩) ∧ SBox W b (.int .i64 n) (.int .i64 rep) (.iface t u) ∧ IsSet W n rep (.iface t u) zs
theorem StBox.below {n rep : Int} {zs : List Int} {v : Value} {W W' : World} (h : StBox n rep zs v W) (hB : Below W.heap.size W W') : StBox n rep zs v W' := by
  obtain ⟨b, t, u, e, hb, hS⟩ := h
  exact ⟨b, t, u, e, hb.below hB, hS.below hB⟩
def Fact.few (A : Option Addr) (n : Nat) : Fact 28 := ⟨fun v _ => ∃ c', v = .slice A n c' ∧ n ≤ c', fun _ _ _ h _ => h, fun _ _ _ h _ => h⟩
/-- A block that holds a pair. -/
def QBox (t : TypeId) (W : World) (B : Nat) (x y : Value) : Prop := W.heap[B]? = some (.cells #[x, y] t (0, 0))
theorem QBox.lt {t : TypeId} {W : World} {B : Nat} {x y : Value} (h : QBox t W B x y) : B < W.heap.size := (Array.getElem?_eq_some_iff.1 h).1
theorem QBox.below {t : TypeId} {W W' : World} {B : Nat} {x y : Value} (h : QBox t W B x y) (hB : Below W.heap.size W W') : QBox t W' B x y := (hB.block B h.lt).trans h
theorem QBox.cells {t : TypeId} {W : World} {B : Nat} {x y : Value} (h : QBox t W B x y) :
    W.cell? ⟨B, 0, none⟩ = some x ∧ W.cell? ⟨B, 1, none⟩ = some y ∧ W.frozen? ⟨B, 0, none⟩ = false ∧ W.frozen? ⟨B, 1, none⟩ = false := by
  have h' : W.heap[B]? = some (.cells #[x, y] t (0, 0)) := h
  refine ⟨?_, ?_, ?_, ?_⟩ <;> simp [World.cell?, World.frozen?, h']
/-- As many in both and in either as in the one and in the other. -/
theorem filt_both (n : Int) (p q : Int → Bool) : (filt n (fun x => p x && q x)).length + (filt n (fun x => p x || q x)).length = (filt n p).length + (filt n q).length := by
  unfold filt
  generalize (List.range n.toNat).map (fun i : Nat => (i : Int)) = l
  induction l with
  | nil => rfl
  | cons x r ih =>
    simp only [List.filter_cons]
    cases p x <;> cases q x <;> simp <;> omega
theorem filt_not (n : Int) (p : Int → Bool) : (filt n (fun x => !p x)).length + (filt n p).length = n.toNat := by
  unfold filt
  have h : ∀ l : List Int, (l.filter (fun x => !p x)).length + (l.filter p).length = l.length := fun l => by
    induction l with
    | nil => rfl
    | cons x r ih =>
      simp only [List.filter_cons]
      cases p x <;> simp <;> omega
  rw [h]
  simp
theorem inZ_eq {n : Int} {zs : List Int} (h : Rising n zs) : filt n (inZ zs) = zs := filt_eq h
end Go.Proofs.Ytbjdnfnolhahgaa.F.G
