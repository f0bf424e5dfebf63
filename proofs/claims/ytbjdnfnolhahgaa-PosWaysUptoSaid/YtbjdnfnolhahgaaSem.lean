/- The document's functions, as plain functions: what they come to for the sets of this program. No code in sight. -/
import Derived.Test.YtbjdnfnolhahgaaGe
import Derived.Test.YtbjdnfnolhahgaaGb
import Derived.Test.YtbjdnfnolhahgaaF38
import Derived.Test.YtbjdnfnolhahgaaF52
import Derived.Test.YtbjdnfnolhahgaaF54
import Derived.Test.YtbjdnfnolhahgaaF55
import Derived.Test.YtbjdnfnolhahgaaF56
import Derived.Test.YtbjdnfnolhahgaaF59
import Derived.Test.YtbjdnfnolhahgaaF62
import Derived.Test.YtbjdnfnolhahgaaF63
namespace Go.Proofs.Ytbjdnfnolhahgaa.F
open Go.RowKit Go.Proofs.YtbjdnfnolhahgaaW.PrintWords
set_option linter.unusedVariables false
theorem rdI {x : List Int} {j : Nat} (h : j < x.length) : rd x (j : Int) = x[j] := by
  unfold rd
  rw [Int.toNat_natCast, List.getD_eq_getElem?_getD, List.getElem?_eq_getElem h]
  rfl
theorem rdB {x : List Bool} {j : Nat} (h : j < x.length) : rdOf false x (j : Int) = x[j] := by
  unfold rdOf
  rw [Int.toNat_natCast, List.getD_eq_getElem?_getD, List.getElem?_eq_getElem h]
  rfl
theorem wrap_succ {j : Nat} (h : j ≤ 4611686018427387904) : wrap64 ((j : Int) + 1) = ((j + 1 : Nat) : Int) := by
  rw [Go.IntWalk.wrap64_in _ (by omega)]
  rfl
/-! ### Ints -/
theorem ints_l (x0 x1 : List Int) (hl : x1.length = x0.length) (hb : x0.length ≤ 4611686018427387904) : ∀ (m j k : Nat), j + m = x0.length → m < k → astragalref12_Ints.l0 k x0 x1 (j : Int) = some (decide (x0.drop j = x1.drop j))
  | m, j, 0, _, hk => by omega
  | 0, j, k + 1, hj, _ => by
    unfold astragalref12_Ints.l0
    rw [if_neg (by omega), List.drop_of_length_le (by omega), List.drop_of_length_le (by omega)]
    simp
  | m + 1, j, k + 1, hj, hk => by
    unfold astragalref12_Ints.l0
    have h0 : j < x0.length := by omega
    have h1 : j < x1.length := by omega
    rw [if_pos (by omega), if_pos (by omega), if_pos (by omega), wrap_succ (by omega), rdI h0, rdI h1, List.drop_eq_getElem_cons h0, List.drop_eq_getElem_cons h1]
    by_cases e : x0[j] = x1[j]
    · rw [if_pos e, ints_l x0 x1 hl hb m (j + 1) k (by omega) (by omega)]
      refine congrArg some (decide_eq_decide.2 ?_)
      rw [List.cons.injEq]
      exact ⟨fun h => ⟨e, h⟩, fun h => h.2⟩
    · rw [if_neg e, decide_eq_false (fun h => e (List.cons.inj h).1)]
theorem ints_law (l0 l1 : List Int) (hb : l0.length ≤ 4611686018427387904) : astragalref12_Ints.f (l0.length + 1) l0 l1 = some (decide (l0 = l1)) := by
  unfold astragalref12_Ints.f
  by_cases h : (l0.length : Int) = (l1.length : Int)
  · rw [if_pos h]
    have := ints_l l0 l1 (by omega) hb l0.length 0 (l0.length + 1) (by omega) (by omega)
    simpa using this
  · rw [if_neg h]
    have : l0 ≠ l1 := fun e => h (by rw [e])
    simp [this]
/-! ### Of -/
/-- Of each number whether it is in. -/
def bsOf (n : Int) (zs : List Int) : List Bool := (List.range n.toNat).map (fun i : Nat => decide ((i : Int) ∈ zs))
theorem bsOf_length (n : Int) (zs : List Int) : (bsOf n zs).length = n.toNat := by simp [bsOf]
theorem bsOf_get {n : Int} {zs : List Int} {j : Nat} (h : j < (bsOf n zs).length) : (bsOf n zs)[j] = decide ((j : Int) ∈ zs) := by simp [bsOf]
theorem bsOf_congr {n : Int} {zs ys : List Int} (h : ∀ x, 0 ≤ x → x < n → (x ∈ zs ↔ x ∈ ys)) : bsOf n zs = bsOf n ys := by
  unfold bsOf
  refine List.map_congr_left (fun i hi => ?_)
  rw [List.mem_range] at hi
  exact decide_eq_decide.2 (h _ (by omega) (by omega))
theorem bsOf_filt (n : Int) (l : List Int) : bsOf n (filt n (inZ l)) = bsOf n l := bsOf_congr fun x h0 h1 => by
  rw [mem_filt]
  unfold inZ
  simp [h0, h1]
theorem bsOf_nil (n : Int) : bsOf n [] = List.replicate n.toNat false := by
  refine List.eq_replicate_iff.2 ⟨bsOf_length _ _, fun b hb => ?_⟩
  unfold bsOf at hb
  obtain ⟨i, _, rfl⟩ := List.mem_map.1 hb
  simp
theorem bsOf_snoc {n : Int} {zs : List Int} {x : Int} (h0 : 0 ≤ x) (h1 : x < n) : (bsOf n zs).set x.toNat true = bsOf n (zs ++ [x]) := by
  refine List.ext_getElem (by simp [bsOf_length]) (fun i hi hi' => ?_)
  rw [List.getElem_set, bsOf_get]
  split
  · rename_i e
    have : (i : Int) ∈ zs ++ [x] := by rw [show (i : Int) = x from by omega]; simp
    rw [bsOf_get]
    exact (decide_eq_true this).symm
  · rename_i e
    have hne : (i : Int) ≠ x := by omega
    rw [bsOf_get]
    exact decide_eq_decide.2 (by simp [hne])
theorem of_l (n rep : Int) (l : List Int) (hin : ∀ x ∈ l, 0 ≤ x ∧ x < n) (hb : l.length ≤ 4611686018427387904) : ∀ (m j k : Nat), j + m = l.length → m < k → astragalref12_Of.l0 k n l (j : Int) (bsOf n (l.take j)) rep = some (bsOf n l, rep, 0)
  | m, j, 0, _, hk => by omega
  | 0, j, k + 1, hj, _ => by
    unfold astragalref12_Of.l0
    rw [if_neg (by omega), List.take_of_length_le (by omega)]
  | m + 1, j, k + 1, hj, hk => by
    unfold astragalref12_Of.l0
    have h0 : j < l.length := by omega
    obtain ⟨hx0, hx1⟩ := hin _ (List.getElem_mem h0)
    rw [if_pos (by omega), if_pos (by omega), rdI h0, if_neg (by omega), if_neg (by omega), if_pos hx0, if_pos (by rw [bsOf_length]; omega), wrap_succ (by omega), bsOf_snoc hx0 hx1, ← List.take_succ_eq_append_getElem h0]
    exact of_l n rep l hin hb m (j + 1) k (by omega) (by omega)
theorem of_l2 (n rep : Int) (l : List Int) (hb : l.length ≤ 4611686018427387904) : ∀ (m j k : Nat), j + m = l.length → m < k → (l.drop j).any (outB n) = true → astragalref12_Of.l0 k n l (j : Int) (bsOf n (l.take j)) rep = some ([], 0, 2)
  | m, j, 0, _, hk, _ => by omega
  | 0, j, k + 1, hj, _, hany => by rw [List.drop_of_length_le (by omega)] at hany; simp at hany
  | m + 1, j, k + 1, hj, hk, hany => by
    unfold astragalref12_Of.l0
    have h0 : j < l.length := by omega
    rw [List.drop_eq_getElem_cons h0, List.any_cons, Bool.or_eq_true] at hany
    rw [if_pos (by omega), if_pos (by omega), rdI h0]
    by_cases hx0 : l[j] < 0
    · rw [if_pos hx0]
    · rw [if_neg hx0]
      by_cases hx1 : l[j] ≥ n
      · rw [if_pos hx1]
      · rw [if_neg hx1, if_pos (by omega), if_pos (by rw [bsOf_length]; omega), wrap_succ (by omega), bsOf_snoc (by omega) (by omega), ← List.take_succ_eq_append_getElem h0]
        refine of_l2 n rep l hb m (j + 1) k (by omega) (by omega) ?_
        rcases hany with h | h
        · unfold outB at h
          simp at h
          omega
        · exact h
theorem may_law (r : Int) : astragalref12_may.f r = some (mayB r) := by
  unfold astragalref12_may.f mayB
  by_cases h1 : r = 1
  · subst h1; rfl
  · rw [if_neg h1]
    by_cases h2 : r = 2
    · subst h2; rfl
    · rw [if_neg h2]
      by_cases h3 : r = 3
      · subst h3; rfl
      · have : (decide (1 ≤ r) && decide (r ≤ 3)) = false := by
          rw [Bool.and_eq_false_iff, decide_eq_false_iff_not, decide_eq_false_iff_not]; omega
        rw [this]
        simp [h3]
theorem of_f (k : Nat) (n rep : Int) (l : List Int) (hf : fitB n rep = true) : astragalref12_Of.f (k + 1) n l rep = astragalref12_Of.l0 k n l 0 (bsOf n []) rep := by
  unfold fitB at hf
  rw [Bool.and_eq_true, Bool.and_eq_true, decide_eq_true_eq, decide_eq_true_eq] at hf
  obtain ⟨⟨hm, hn0⟩, hn1⟩ := hf
  unfold astragalref12_Of.f
  rw [may_law, hm]
  simp only [Option.bind_some, if_true]
  rw [if_neg (by omega), decide_eq_false (by omega)]
  rw [astragalref12_Of.j0]
  rw [if_neg (by simp), if_pos hn0, if_pos (by omega), bsOf_nil]
theorem of_law (k : Nat) (n rep : Int) (l : List Int) (hb : l.length ≤ 4611686018427387904) (hk : l.length + 2 ≤ k) (hf : fitB n rep = true) (hin : l.any (outB n) = false) : astragalref12_Of.f k n l rep = some (bsOf n l, rep, 0) := by
  obtain ⟨k, rfl⟩ : ∃ j, k = j + 1 := ⟨k - 1, by omega⟩
  rw [of_f k n rep l hf]
  have := of_l n rep l (out_none hin) hb l.length 0 k (by omega) (by omega)
  simpa using this
theorem of_law2 (k : Nat) (n rep : Int) (l : List Int) (hb : l.length ≤ 4611686018427387904) (hk : l.length + 2 ≤ k) (hf : fitB n rep = true) (hin : l.any (outB n) = true) : astragalref12_Of.f k n l rep = some ([], 0, 2) := by
  obtain ⟨k, rfl⟩ : ∃ j, k = j + 1 := ⟨k - 1, by omega⟩
  rw [of_f k n rep l hf]
  have := of_l2 n rep l hb l.length 0 k (by omega) (by omega) (by simpa using hin)
  simpa using this
theorem of_law1 (k : Nat) (n rep : Int) (l : List Int) (hf : fitB n rep = false) : astragalref12_Of.f (k + 1) n l rep = some ([], 0, 1) := by
  unfold astragalref12_Of.f
  rw [may_law]
  simp only [Option.bind_some]
  have hj : ∀ b, b = true → astragalref12_Of.j0 (k + 1) n l rep b = some ([], 0, 1) := fun b hb => by rw [astragalref12_Of.j0]; rw [if_pos hb]
  cases hm : mayB rep with
  | false => rw [if_neg (by simp), hj _ rfl]
  | true =>
    unfold fitB at hf
    rw [hm, Bool.true_and, Bool.and_eq_false_iff, decide_eq_false_iff_not, decide_eq_false_iff_not] at hf
    rw [if_pos rfl]
    by_cases h0 : n < 0
    · rw [if_pos h0, hj _ rfl]
    · rw [if_neg h0, hj _ (decide_eq_true (by omega))]
/-! ### Not, And, Or: of each number a bool. -/
def Half (g : Nat → Bool) (j n : Nat) (x : List Bool) : Prop := x.length = n ∧ ∀ i (h : i < x.length), i < j → x[i] = g i
theorem Half.start (g : Nat → Bool) (n : Nat) : Half g 0 n (List.replicate n false) := ⟨by simp, fun i _ h => by omega⟩
theorem Half.step {g : Nat → Bool} {j n : Nat} {x : List Bool} (h : Half g j n x) {b : Bool} (hb : b = g j) : Half g (j + 1) n (x.set ((j : Int)).toNat b) := by
  refine ⟨by simpa using h.1, fun i hi hj => ?_⟩
  rw [List.getElem_set]
  split
  · rename_i e; rw [hb]; congr 1
  · rename_i e; exact h.2 i (by simpa using hi) (by simp at e; omega)
theorem Half.done {g : Nat → Bool} {n : Nat} {x : List Bool} (h : Half g n n x) : x = (List.range n).map g := by
  refine List.ext_getElem (by simp [h.1]) (fun i hi hi' => ?_)
  rw [h.2 i hi (by have := h.1; omega)]
  simp
theorem not_l (a : List Bool) (ra rs : Int) (hb : a.length ≤ 4611686018427387904) : ∀ (m j k : Nat) (x : List Bool), j + m = a.length → m < k → Half (fun i => !(a[i]?.getD false)) j a.length x → astragalref12_Not.l0 k (j : Int) a ra x rs = some ((List.range a.length).map (fun i => !(a[i]?.getD false)), rs)
  | m, j, 0, x, _, hk, _ => by omega
  | 0, j, k + 1, x, hj, _, hx => by
    unfold astragalref12_Not.l0
    have := hx.1
    obtain rfl : j = a.length := by omega
    rw [if_neg (by omega), ← hx.done]
  | m + 1, j, k + 1, x, hj, hk, hx => by
    unfold astragalref12_Not.l0
    have hxl := hx.1
    have h0 : j < a.length := by omega
    rw [if_pos (by omega), if_pos (by omega), if_pos (by omega), wrap_succ (by omega), rdB h0]
    exact not_l a ra rs hb m (j + 1) k _ (by omega) (by omega) (hx.step (by rw [List.getElem?_eq_getElem h0]; rfl))
theorem and_l (a b : List Bool) (ra rb rs : Int) (hl : a.length = b.length) (hb : a.length ≤ 4611686018427387904) : ∀ (m j k : Nat) (x : List Bool), j + m = a.length → m < k → Half (fun i => a[i]?.getD false && b[i]?.getD false) j a.length x → astragalref12_And.l0 k (j : Int) a ra b rb x rs = some ((List.range a.length).map (fun i => a[i]?.getD false && b[i]?.getD false), rs, 0)
  | m, j, 0, x, _, hk, _ => by omega
  | 0, j, k + 1, x, hj, _, hx => by
    unfold astragalref12_And.l0
    have := hx.1
    obtain rfl : j = a.length := by omega
    rw [if_neg (by omega), ← hx.done]
  | m + 1, j, k + 1, x, hj, hk, hx => by
    unfold astragalref12_And.l0
    have hxl := hx.1
    have h0 : j < a.length := by omega
    have h1 : j < b.length := by omega
    rw [if_pos (by omega), if_pos (by omega), if_pos (by omega), wrap_succ (by omega), rdB h0, rdB h1]
    split
    · rename_i e
      rw [if_pos (by omega)]
      exact and_l a b ra rb rs hl hb m (j + 1) k _ (by omega) (by omega) (hx.step (by rw [List.getElem?_eq_getElem h0, List.getElem?_eq_getElem h1]; simp [e]))
    · rename_i e
      exact and_l a b ra rb rs hl hb m (j + 1) k _ (by omega) (by omega) (hx.step (by rw [List.getElem?_eq_getElem h0]; simp [e]))
theorem or_l (a b : List Bool) (ra rb rs : Int) (hl : a.length = b.length) (hb : a.length ≤ 4611686018427387904) : ∀ (m j k : Nat) (x : List Bool), j + m = a.length → m < k → Half (fun i => a[i]?.getD false || b[i]?.getD false) j a.length x → astragalref12_Or.l0 k (j : Int) a ra b rb x rs = some ((List.range a.length).map (fun i => a[i]?.getD false || b[i]?.getD false), rs, 0)
  | m, j, 0, x, _, hk, _ => by omega
  | 0, j, k + 1, x, hj, _, hx => by
    unfold astragalref12_Or.l0
    have := hx.1
    obtain rfl : j = a.length := by omega
    rw [if_neg (by omega), ← hx.done]
  | m + 1, j, k + 1, x, hj, hk, hx => by
    unfold astragalref12_Or.l0
    have hxl := hx.1
    have h0 : j < a.length := by omega
    have h1 : j < b.length := by omega
    rw [if_pos (by omega), if_pos (by omega), if_pos (by omega), wrap_succ (by omega), rdB h0, rdB h1]
    split
    · rename_i e
      exact or_l a b ra rb rs hl hb m (j + 1) k _ (by omega) (by omega) (hx.step (by rw [List.getElem?_eq_getElem h0]; simp [e]))
    · rename_i e
      rw [if_pos (by omega)]
      exact or_l a b ra rb rs hl hb m (j + 1) k _ (by omega) (by omega) (hx.step (by rw [List.getElem?_eq_getElem h0, List.getElem?_eq_getElem h1]; simp [e]))
theorem bsOf_at {n : Int} {zs : List Int} {i : Nat} (h : i < n.toNat) : (bsOf n zs)[i]?.getD false = inZ zs i := by
  rw [List.getElem?_eq_getElem (by rw [bsOf_length]; exact h), bsOf_get]
  rfl
theorem range_bsOf {n : Int} {g : Nat → Bool} {p : Int → Bool} (h : ∀ i, i < n.toNat → g i = p i) : (List.range n.toNat).map g = bsOf n (filt n p) := by
  unfold bsOf
  refine List.map_congr_left (fun i hi => ?_)
  rw [List.mem_range] at hi
  rw [h i hi, Bool.eq_iff_iff, decide_eq_true_eq, mem_filt]
  constructor
  · intro hp; exact ⟨by omega, by omega, hp⟩
  · intro hp; exact hp.2.2
theorem not_law (k : Nat) (n rep : Int) (zs : List Int) (hn : n ≤ 4096) (hk : n.toNat < k) : astragalref12_Not.f k (bsOf n zs) rep = some (bsOf n (filt n (fun x => !inZ zs x)), rep) := by
  unfold astragalref12_Not.f
  have hl := bsOf_length n zs
  rw [if_pos (by omega), if_pos (by omega), Int.toNat_natCast]
  have := not_l (bsOf n zs) rep rep (by omega) (bsOf n zs).length 0 k _ (by omega) (by omega) (Half.start _ _)
  rw [show ((0 : Nat) : Int) = 0 from rfl] at this
  rw [this, hl, range_bsOf (p := fun x => !inZ zs x) (fun i hi => by rw [bsOf_at hi])]
theorem and_law (k : Nat) (n ra rb : Int) (za zb : List Int) (hn : n ≤ 4096) (hk : n.toNat < k) : astragalref12_And.f k (bsOf n za) ra (bsOf n zb) rb = some (bsOf n (filt n (fun x => inZ za x && inZ zb x)), ra, 0) := by
  unfold astragalref12_And.f
  have hl := bsOf_length n za
  have hl2 := bsOf_length n zb
  rw [if_pos (by omega), if_pos (by omega), if_pos (by omega), Int.toNat_natCast]
  have := and_l (bsOf n za) (bsOf n zb) ra rb ra (by omega) (by omega) (bsOf n za).length 0 k _ (by omega) (by omega) (Half.start _ _)
  rw [show ((0 : Nat) : Int) = 0 from rfl] at this
  rw [this, hl, range_bsOf (p := fun x => inZ za x && inZ zb x) (fun i hi => by rw [bsOf_at hi, bsOf_at hi])]
theorem or_law (k : Nat) (n ra rb : Int) (za zb : List Int) (hn : n ≤ 4096) (hk : n.toNat < k) : astragalref12_Or.f k (bsOf n za) ra (bsOf n zb) rb = some (bsOf n (filt n (fun x => inZ za x || inZ zb x)), ra, 0) := by
  unfold astragalref12_Or.f
  have hl := bsOf_length n za
  have hl2 := bsOf_length n zb
  rw [if_pos (by omega), if_pos (by omega), if_pos (by omega), Int.toNat_natCast]
  have := or_l (bsOf n za) (bsOf n zb) ra rb ra (by omega) (by omega) (bsOf n za).length 0 k _ (by omega) (by omega) (Half.start _ _)
  rw [show ((0 : Nat) : Int) = 0 from rfl] at this
  rw [this, hl, range_bsOf (p := fun x => inZ za x || inZ zb x) (fun i hi => by rw [bsOf_at hi, bsOf_at hi])]
theorem and_bad (k : Nat) (ra rb : Int) (a b : List Bool) (h : a.length ≠ b.length) : astragalref12_And.f k a ra b rb = some ([], 0, 1) := by unfold astragalref12_And.f; rw [if_neg (by omega)]
theorem or_bad (k : Nat) (ra rb : Int) (a b : List Bool) (h : a.length ≠ b.length) : astragalref12_Or.f k a ra b rb = some ([], 0, 1) := by unfold astragalref12_Or.f; rw [if_neg (by omega)]
theorem all_law (k : Nat) (n rep : Int) (hf : fitB n rep = true) (hk : n.toNat + 2 ≤ k) : astragalref12_All.f k n rep = some (bsOf n (filt n (fun _ => true)), rep, 0) := by
  unfold astragalref12_All.f
  rw [of_law k n rep [] (by simp) (by simp; omega) hf rfl]
  simp only [Option.bind_some, if_true]
  unfold fitB at hf
  rw [Bool.and_eq_true, Bool.and_eq_true, decide_eq_true_eq, decide_eq_true_eq] at hf
  rw [not_law k n rep [] hf.2 (by omega)]
  rfl
theorem all_law1 (k : Nat) (n rep : Int) (hf : fitB n rep = false) : astragalref12_All.f (k + 1) n rep = some ([], 0, 1) := by
  unfold astragalref12_All.f
  rw [of_law1 k n rep [] hf]
  rfl
theorem to_law (bs : List Bool) (rep tw : Int) : astragalref12_To.f bs rep tw = if mayB tw = true then some (bs, tw, 0) else some ([], 0, 1) := by
  unfold astragalref12_To.f
  rw [may_law]
  rfl
/-! ### List, Has, Rank -/
theorem filt_snoc' (j : Nat) (p : Int → Bool) : filt ((j + 1 : Nat) : Int) p = filt (j : Int) p ++ (if p j = true then [(j : Int)] else []) := by
  unfold filt
  rw [Int.toNat_natCast, Int.toNat_natCast, List.range_succ, List.map_append, List.filter_append]
  congr 1
  simp [List.filter_cons]
theorem list_l (n rep : Int) (zs : List Int) (hn : n ≤ 4096) : ∀ (m j k : Nat), j + m = n.toNat → m < k → astragalref12_List.l0 k (filt (j : Int) (inZ zs)) (j : Int) (bsOf n zs) rep = some (filt n (inZ zs))
  | m, j, 0, _, hk => by omega
  | 0, j, k + 1, hj, _ => by
    unfold astragalref12_List.l0
    rw [if_neg (by rw [bsOf_length]; omega)]
    unfold filt
    rw [show ((j : Int)).toNat = n.toNat from by omega]
  | m + 1, j, k + 1, hj, hk => by
    unfold astragalref12_List.l0
    have h0 : j < n.toNat := by omega
    have hlen := filt_length (j : Int) (inZ zs)
    have h1 : j < (bsOf n zs).length := by rw [bsOf_length]; omega
    have hr : rdOf false (bsOf n zs) (j : Int) = inZ zs j := by rw [rdB h1, bsOf_get]; rfl
    have ih := list_l n rep zs hn m (j + 1) k (by omega) (by omega)
    rw [filt_snoc'] at ih
    rw [if_pos (by omega), if_pos (by omega), hr, wrap_succ (by omega)]
    split
    · rename_i e
      rw [if_pos e] at ih
      rw [if_pos (by omega), ih]
    · rename_i e
      rw [if_neg e, List.append_nil] at ih
      exact ih
theorem list_law (k : Nat) (n rep : Int) (zs : List Int) (hn : n ≤ 4096) (hr : Rising n zs) (hk : n.toNat < k) : astragalref12_List.f k (bsOf n zs) rep = some zs := by
  unfold astragalref12_List.f
  have := list_l n rep zs hn n.toNat 0 k (by omega) hk
  rw [show ((0 : Nat) : Int) = 0 from rfl, show filt 0 (inZ zs) = [] from rfl] at this
  rw [this]
  exact congrArg some (filt_eq hr)
theorem has_law (n rep at_ : Int) (zs : List Int) (hr : Rising n zs) : astragalref12_Has.f (bsOf n zs) rep at_ = some (inZ zs at_) := by
  unfold astragalref12_Has.f
  have hl := bsOf_length n zs
  have hno : ¬ (0 ≤ at_ ∧ at_ < n) → inZ zs at_ = false := fun h => by
    unfold inZ
    exact decide_eq_false fun hm => h (hr.2 _ hm)
  by_cases h0 : at_ ≥ 0
  · rw [if_pos h0]
    by_cases h1 : at_ < ((bsOf n zs).length : Int)
    · rw [if_pos h1, if_pos h0]
      have : rdOf false (bsOf n zs) ((at_.toNat : Nat) : Int) = _ := rdB (by omega)
      rw [bsOf_get, show ((at_.toNat : Nat) : Int) = at_ from by omega] at this
      rw [this]
      rfl
    · rw [if_neg h1, hno (by omega)]
  · rw [if_neg h0, hno (by omega)]
theorem rank_l (n rep at_ : Int) (zs : List Int) (hn : n ≤ 4096) : ∀ (m j k : Nat), j + m = n.toNat → 2 * m + 1 < k → astragalref12_Rank.l0 k at_ ((filt (j : Int) (fun x => inZ zs x && decide (x < at_))).length : Nat) (j : Int) (bsOf n zs) rep = some (((filt n (fun x => inZ zs x && decide (x < at_))).length : Nat) : Int)
  | m, j, 0, _, hk => by omega
  | m, j, 1, _, hk => by omega
  | 0, j, k + 2, hj, _ => by
    unfold astragalref12_Rank.l0
    rw [if_neg (by rw [bsOf_length]; omega)]
    rw [astragalref12_Rank.j1]
    rw [if_neg (by simp)]
    unfold filt
    rw [show ((j : Int)).toNat = n.toNat from by omega]
  | m + 1, j, k + 2, hj, hk => by
    unfold astragalref12_Rank.l0
    have h0 : j < n.toNat := by omega
    have hlen := filt_length (j : Int) (fun x => inZ zs x && decide (x < at_))
    have h1 : j < (bsOf n zs).length := by rw [bsOf_length]; omega
    have hr : rdOf false (bsOf n zs) (j : Int) = inZ zs j := by rw [rdB h1, bsOf_get]; rfl
    rw [if_pos (by omega)]
    rw [astragalref12_Rank.j1]
    by_cases ha : (j : Int) < at_
    · rw [if_pos (decide_eq_true ha), if_pos (by omega), if_pos (by omega), hr]
      have ih := rank_l n rep at_ zs hn m (j + 1) k (by omega) (by omega)
      rw [filt_snoc', decide_eq_true ha, Bool.and_true] at ih
      rw [wrap_succ (by omega), wrap_succ (by omega)]
      split
      · rename_i e
        rw [if_pos e, List.length_append] at ih
        exact ih
      · rename_i e
        rw [if_neg e, List.append_nil] at ih
        exact ih
    · rw [if_neg (by simpa using ha)]
      congr 2
      refine congrArg List.length (rising_eq (rising_filt _ _).1 (rising_filt _ _).1 (fun x => ?_))
      rw [mem_filt, mem_filt]
      simp
      omega
theorem rank_law (k : Nat) (n rep at_ : Int) (zs : List Int) (hn : n ≤ 4096) (hr : Rising n zs) (hk : 2 * n.toNat + 1 < k) : astragalref12_Rank.f k (bsOf n zs) rep at_ = some (rankZ zs at_) := by
  unfold astragalref12_Rank.f
  have := rank_l n rep at_ zs hn n.toNat 0 k (by omega) hk
  rw [show ((0 : Nat) : Int) = 0 from rfl] at this
  refine this.trans ?_
  unfold rankZ
  congr 3
  conv => rhs; rw [← filt_eq hr]
  unfold filt
  rw [List.filter_filter]
  refine List.filter_congr (fun x _ => ?_)
  unfold inZ
  rw [Bool.and_comm]
end Go.Proofs.Ytbjdnfnolhahgaa.F
