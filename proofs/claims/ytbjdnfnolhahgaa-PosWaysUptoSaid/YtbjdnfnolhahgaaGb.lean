/- Several texts of this session, end to end. -/
import Derived.Test.YtbjdnfnolhahgaaShelf
import Derived.Test.YtbjdnfnolhahgaaGa
import Derived.BigQuiet
import Derived.Deep.QuietTactic
import Derived.Maps.AppendAt
import Derived.Maps.OwnIn
/-! Does a set have a number: the ways' and the set's own. -/
namespace Go.Proofs.Ytbjdnfnolhahgaa.F
open Go.RowKit Go.Shelf Go.Proofs.YtbjdnfnolhahgaaW.PrintWords
attribute [local go_sem] Oper.semAt_some
set_option linter.unusedVariables false
theorem containsS {α : Type} [Inhabited α] (k : Nat) (aE : ∀ w, (isAgg 83).run Try.prog w = .ok true w) (zE : ∀ w, (Go.sizeOf 83).run Try.prog w = .ok k w) (enc : α → List Value) (hk : ∀ x, (enc x).length = k)
    (p : α → Bool) (g : Nat) (lb : Array Value) (eg : ∀ args w, (callFunc g args).run Try.prog w = .ok (.enter g args) w) (b off n c : Nat) (zs : List α) (w : World)
    (hp : PredBelow Try.prog g lb (fun x => .agg (enc x).toArray) p w) (hz : n ≤ zs.length) (hbig : n ≤ 9223372036854775807) (hb : b < w.heap.size)
    (hc : ∀ j, j < zs.length → ∀ i v, (enc zs[j]!)[i]? = some v → w.cell? ⟨b, off + j * k + i, none⟩ = some v) :
    Calls Try.prog 98 #[.slice (some ⟨b, off, none⟩) n c, .func (.func g) #[] lb] w fun e w' => e = .returned (.bool ((zs.take n).any p)) ∧ Below w.heap.size w w' := AnyQ.slices_ContainsFunc Try.laysCF k aE zE enc hk p g lb eg b off n c zs w hp hz hbig hb hc
set_option maxHeartbeats 1000000 in
theorem index_empty (a : Option Addr) (cap : Nat) (fv : Value) (w : World) : Calls Try.prog 100 #[.slice a 0 cap, fv] w fun e w' => e = .returned (.int .i64 (-1)) ∧ w = w' := by
  go_enter Try.func100, Try.ntmps100
  go_wp2
  go_loop [8] (fun i => i = .int .i64 0) (fun _ => 0)
  case atStart => rfl
  case round =>
    subst hrel
    go_wp2
    go_ret
    exact ⟨rfl, rfl⟩
set_option maxHeartbeats 1000000 in
theorem contains_empty (a : Option Addr) (cap : Nat) (fv : Value) (w : World) : Calls Try.prog 98 #[.slice a 0 cap, fv] w fun e w' => e = .returned (.bool false) ∧ w = w' := by
  go_enter Try.func98, Try.ntmps98
  go_wp2_with (go_at_call 100; refine (index_empty _ _ _ _).mono ?_; rintro e w' ⟨rfl, rfl⟩)
  go_ret
  exact ⟨rfl, rfl⟩
/-- Is it in the span? -/
def inS (at_ : Int) (s : Int × Int) : Bool := decide (s.1 ≤ at_) && decide (at_ < s.2)
set_option maxRecDepth 100000 in
set_option maxHeartbeats 1000000 in
theorem has1_any (at_ : Int) (s : Int × Int) (B : Nat) (w : World) (hB : B < w.heap.size) (hc : w.cell? ⟨B, 0, none⟩ = some (.int .i64 at_)) :
    Calls Try.prog 99 #[.agg #[.int .i64 s.1, .int .i64 s.2], .pointer (some ⟨B, 0, none⟩)] w fun e w' => e = .returned (.bool (inS at_ s)) ∧ Below w.heap.size w w' := by
  obtain ⟨f, t⟩ := s
  have hu83 := Try.underlying83
  have HB := Aside0.mk ((Below.refl w.heap.size w).alloc (Nat.le_refl _) (.cells #[.int .i64 f, .int .i64 t] 83))
  by_cases h1 : f ≤ at_
  · have HQ : Aside0 (inS at_ (f, t) = decide (at_ < t)) := ⟨by unfold inS; rw [decide_eq_true h1, Bool.true_and]⟩
    go_enter Try.func99, Try.ntmps99
    go_wp2
    go_ret
    exact ⟨by rw [HQ.out]; rfl, HB.out⟩
  · have HQ : Aside0 (inS at_ (f, t) = false) := ⟨by unfold inS; rw [decide_eq_false h1, Bool.false_and]⟩
    have h1' : at_ < f := by omega
    clear h1
    go_enter Try.func99, Try.ntmps99
    go_wp2
    go_ret
    exact ⟨by rw [HQ.out]; rfl, HB.out⟩
theorem any_mem (at_ : Int) (sps : List (Int × Int)) : sps.any (inS at_) = decide (at_ ∈ numsS sps) := by
  refine (dec_of ?_).symm
  rw [mem_numsS, List.any_eq_true]
  constructor
  · rintro ⟨s, hs, h1, h2⟩; exact ⟨s, hs, by unfold inS; rw [decide_eq_true h1, decide_eq_true h2]; rfl⟩
  · rintro ⟨s, hs, h⟩
    unfold inS at h
    rw [Bool.and_eq_true, decide_eq_true_eq, decide_eq_true_eq] at h
    exact ⟨s, hs, h.1, h.2⟩
theorem rowS_at {sps : List (Int × Int)} {j : Nat} (hj : j < sps.length) {i : Nat} {v : Value} (h : ([.int .i64 (sps[j]!).1, .int .i64 (sps[j]!).2] : List Value)[i]? = some v) : (rowS sps)[j * 2 + i]? = some v := by
  obtain ⟨h0, h1⟩ := rowS_get sps j hj
  have e : sps[j]! = sps[j] := getElem!_pos sps j hj
  rw [e] at h
  match i, h with
  | 0, h => cases h; rw [show j * 2 + 0 = 2 * j from by omega]; exact h0
  | 1, h => cases h; rw [show j * 2 + 1 = 2 * j + 1 from by omega]; exact h1
set_option maxRecDepth 100000 in
set_option maxHeartbeats 1000000 in
theorem rhas_any (at_ : Int) (v : Value) (sps : List (Int × Int)) (hl : sps.length ≤ 4096) (w : World) (own : w.ownsRow 0 83 2 v sps.length (rowS sps)) :
    Calls Try.prog 96 #[v, .int .i64 at_] w fun e w' => e = .returned (.bool (decide (at_ ∈ numsS sps))) ∧ Below w.heap.size w w' := by
  have hcells := fun g (hg : v.ownBlock = some g) => own.cells hg
  have hlt := own.lt
  rcases own.2 with ⟨rfl, hn⟩ | ⟨g, cap, cur, rfl, _⟩
  · have hs : sps = [] := List.eq_nil_of_length_eq_zero hn
    subst hs
    have HB := Aside0.mk ((Below.refl w.heap.size w).alloc (Nat.le_refl _) (.cells #[.int .i64 at_] 3))
    have HQ : Aside0 (decide (at_ ∈ numsS []) = false) := ⟨decide_eq_false (by simp [numsS])⟩
    clear hcells hlt own hn
    go_enter Try.func96, Try.ntmps96
    go_wp2_with (go_at_call 98; refine (contains_empty _ _ _ _).mono ?_; rintro e w' ⟨rfl, rfl⟩)
    go_ret
    exact ⟨by rw [HQ.out]; rfl, HB.out⟩
  · have hg := (hlt g rfl).2
    have hc := hcells g rfl
    have hB0 := (Below.refl w.heap.size w).alloc (Nat.le_refl _) (.cells #[.int .i64 at_] 3)
    have hcon := containsS 2 (fun _ => by kernel_rfl) (fun _ => by kernel_rfl) (fun s : Int × Int => [.int .i64 s.1, .int .i64 s.2]) (fun _ => rfl) (inS at_) 99 #[.pointer (some ⟨w.heap.size, 0, none⟩)] (enters_of Try.func99 (by kernel_rfl) rfl) g 0 sps.length cap sps (w.alloc (.cells #[.int .i64 at_] 3))
      (fun W s hb => by
        have hb0 : w.heap.size < (w.alloc (.cells #[.int .i64 at_] 3)).heap.size := by simp
        have hcB : W.cell? ⟨w.heap.size, 0, none⟩ = some (.int .i64 at_) := (hb.cell (p := ⟨w.heap.size, 0, none⟩) hb0).trans (Boxed.cell (Boxed.new w 3 _))
        exact (has1_any at_ s w.heap.size W (Nat.lt_of_lt_of_le hb0 hb.size) hcB).mono (fun e w' ⟨he, hb'⟩ => ⟨he, hb.trans (hb'.mono hb.size)⟩))
      (Nat.le_refl _) (by omega) (by simp; omega)
      (fun j hj i v hv => by
        have h1 := hc (j * 2 + i) v (rowS_at hj hv)
        have h2 : (⟨g, 0, none⟩ : Addr).add (j * 2 + i) = ⟨g, 0 + j * 2 + i, none⟩ := by unfold Addr.add; split <;> simp_all
        rw [h2] at h1
        exact (hB0.cell (p := ⟨g, 0 + j * 2 + i, none⟩) hg).trans h1)
    rw [List.take_length, any_mem] at hcon
    have HB0 := Aside0.mk hB0
    obtain ⟨r, hr⟩ : ∃ r, decide (at_ ∈ numsS sps) = r := ⟨_, rfl⟩
    rw [hr] at hcon ⊢
    clear hB0 hc hcells hlt own hr
    go_enter Try.func96, Try.ntmps96
    go_wp2_with (go_at_call 98; refine hcon.mono ?_; clear hcon; rintro e w' ⟨rfl, hb'⟩)
    go_ret
    exact ⟨rfl, HB0.out.trans (hb'.mono (by simp))⟩
set_option maxRecDepth 100000 in
set_option maxHeartbeats 1000000 in
theorem search_empty (cap : Nat) (x : Int) (w : World) : Calls Try.prog 92 #[.slice none 0 cap, .int .i64 x] w fun e w' => e = .returned (.tuple #[.int .i64 0, .bool false]) ∧ w = w' := by
  go_enter Try.func92, Try.ntmps92
  go_wp2
  go_loop [7, 8] (fun i j => i = .int .i64 0 ∧ j = .int .i64 0) (fun _ _ => 0)
  case atStart => exact ⟨rfl, rfl⟩
  case round =>
    obtain ⟨rfl, rfl⟩ := hrel
    go_wp2
    go_ret2
    exact ⟨rfl, rfl⟩
set_option maxRecDepth 100000 in
set_option maxHeartbeats 1000000 in
theorem lhas_any (at_ : Int) (v : Value) (zs : List Int) (hl : zs.length ≤ 4096) (hs : zs.Pairwise (· < ·)) (w : World) (own : w.ownsRow 0 3 1 v zs.length (zs.map (Value.int .i64))) :
    Calls Try.prog 90 #[v, .int .i64 at_] w fun e w' => e = .returned (.bool (decide (at_ ∈ zs))) ∧ Below w.heap.size w w' := by
  have hcells := fun g (hg : v.ownBlock = some g) => own.cells hg
  rcases own.2 with ⟨rfl, hn⟩ | ⟨g, cap, cur, rfl, _⟩
  · have hz : zs = [] := List.eq_nil_of_length_eq_zero hn
    subst hz
    have HQ : Aside0 (decide (at_ ∈ ([] : List Int)) = false) := ⟨decide_eq_false (by simp)⟩
    clear hcells own hn hs
    go_enter Try.func90, Try.ntmps90
    go_wp2_with (go_at_call 92; refine (search_empty _ _ _).mono ?_; rintro e w' ⟨rfl, rfl⟩)
    go_ret
    exact ⟨by rw [HQ.out]; rfl, Below.refl _ _⟩
  · have hc := hcells g rfl
    have hcon := Try.slices_BinarySearch g 0 zs.length cap zs at_ w (Nat.le_refl _) (by omega)
      (fun j hj => by
        have h1 := hc j (.int .i64 (zs.getD j 0)) (by rw [List.getElem?_map, List.getD_eq_getElem?_getD, List.getElem?_eq_getElem hj]; rfl)
        have h2 : (⟨g, 0, none⟩ : Addr).add j = ⟨g, 0 + j, none⟩ := by unfold Addr.add; split <;> simp_all
        rwa [h2] at h1)
      (by rw [List.take_length]; exact hs.imp (fun h => Int.le_of_lt h))
    rw [List.take_length, List.contains_eq_mem] at hcon
    obtain ⟨r, hr⟩ : ∃ r, decide (at_ ∈ zs) = r := ⟨_, rfl⟩
    rw [hr] at hcon ⊢
    clear hc hcells own hr
    go_enter Try.func90, Try.ntmps90
    go_wp2_with (go_at_call 92; refine hcon.mono ?_; clear hcon; rintro e w' ⟨rfl, q, rfl⟩)
    go_ret
    exact ⟨rfl, pw_below_drewN (Below.refl _ _) q⟩
theorem m_has77 (v : Value) (w : World) : (method 228 77 v "astragal/pos.has").run Try.prog w = .ok (96, v) w := by kernel_rfl
theorem m_has79 (v : Value) (w : World) : (method 228 79 v "astragal/pos.has").run Try.prog w = .ok (102, v) w := by kernel_rfl
theorem m_has68 (v : Value) (w : World) : (method 228 68 v "astragal/pos.has").run Try.prog w = .ok (90, v) w := by kernel_rfl
set_option maxRecDepth 100000 in
set_option maxHeartbeats 1000000 in
theorem has_any (at_ n rep : Int) (wv : Value) (zs : List Int) (w : World) (hS : IsSet w n rep wv zs) :
    Calls Try.prog 15 #[setV n rep wv, .int .i64 at_] w fun e w' => e = .returned (.bool (decide (at_ ∈ zs))) ∧ Below w.heap.size w w' := by
  have hu28 := Try.underlying28
  have HB := Aside0.mk ((Below.refl w.heap.size w).alloc (Nat.le_refl _) (.cells #[.int .i64 n, .int .i64 rep, wv] 28))
  unfold setV
  have hzl := hS.rising.length
  have hn1 := hS.n1
  have hr := hS.rising.1
  cases hS.way with
  | nil e z =>
    subst e
    subst z
    have HQ : Aside0 (decide (at_ ∈ ([] : List Int)) = false) := ⟨decide_eq_false (by simp)⟩
    clear hS hzl hr hn1
    go_enter Try.func15, Try.ntmps15
    go_wp2
    go_ret
    exact ⟨by rw [HQ.out]; rfl, HB.out⟩
  | ranges v sps e own z hb hl =>
    subst e
    have hcon := rhas_any at_ v sps hl _ (own_below own HB.out)
    rw [← z] at hcon
    obtain ⟨r, hr⟩ : ∃ r, decide (at_ ∈ zs) = r := ⟨_, rfl⟩
    rw [hr] at hcon ⊢
    clear hr own hS hzl z hb hl hn1
    have hm := m_has77 v
    go_enter Try.func15, Try.ntmps15
    go_wp2_with (go_at_call 96; refine hcon.mono ?_; clear hcon; rintro e w' ⟨rfl, hb'⟩)
    go_ret
    exact ⟨rfl, HB.out.trans (hb'.mono (by simp))⟩
  | bitmap v ws e own z hb hl =>
    subst e
    obtain ⟨A, c, rfl, hc, hC⟩ := CI_of_own (own_below own HB.out)
    have hcon := bhas_any A c ws at_ hl hb _ hC
    rw [← z] at hcon
    obtain ⟨r, hr⟩ : ∃ r, decide (at_ ∈ zs) = r := ⟨_, rfl⟩
    rw [hr] at hcon ⊢
    clear hr own hS hzl z hb hl hC hc hn1
    have hm := m_has79 (.slice A ws.length c)
    go_enter Try.func15, Try.ntmps15
    go_wp2_with (go_at_call 102; refine hcon.mono ?_; clear hcon; rintro e w' ⟨rfl, rfl⟩)
    go_ret
    exact ⟨rfl, HB.out⟩
  | list v e own =>
    subst e
    have hcon := lhas_any at_ v zs (by omega) hr _ (own_below own HB.out)
    obtain ⟨r, hq⟩ : ∃ r, decide (at_ ∈ zs) = r := ⟨_, rfl⟩
    rw [hq] at hcon ⊢
    clear hq hr own hS hzl hn1
    have hm := m_has68 v
    go_enter Try.func15, Try.ntmps15
    go_wp2_with (go_at_call 90; refine hcon.mono ?_; clear hcon; rintro e w' ⟨rfl, hb'⟩)
    go_ret
    exact ⟨rfl, HB.out.trans (hb'.mono (by simp))⟩
end Go.Proofs.Ytbjdnfnolhahgaa.F

/-! A set's numbers, as a range's function. -/
namespace Go.Proofs.Ytbjdnfnolhahgaa.F
open Go.RowKit Go.Shelf Go.Proofs.YtbjdnfnolhahgaaW.PrintWords
attribute [local go_sem] Oper.semAt_some
set_option linter.unusedVariables false
/-- What 'each' hands back. -/
def EachPost (wv : Value) (zs : List Int) (w : World) (e : Ending) (w' : World) : Prop :=
  ∃ gf lb D, e = .returned (.func (.func gf) #[] lb) ∧ Gives D gf lb zs w' ∧ (∀ k, D k → wayBlock wv = some k ∨ w.heap.size ≤ k) ∧ (∀ k, D k → ∀ cs fr, w'.heap[k]? ≠ some (.cells cs 28 fr)) ∧ Below w.heap.size w w'
set_option maxHeartbeats 1000000 in
theorem values1_any (A : Option Addr) (cap : Nat) (zs : List Int) (w : World) : Calls Try.prog 36 #[.slice A zs.length cap] w fun e w' => e = .returned (.func (.func 50) #[] #[.pointer (some ⟨w.heap.size, 0, none⟩)]) ∧ w.alloc (.cells #[.slice A zs.length cap] 24) = w' := by
  go_enter Try.func36, Try.ntmps36
  go_wp2
  go_ret
  exact ⟨rfl, rfl⟩
set_option maxHeartbeats 1000000 in
theorem values2_any (A : Option Addr) (m c : Nat) (w : World) : Calls Try.prog 91 #[.slice A m c] w fun e w' => e = .returned (.func (.func 93) #[] #[.pointer (some ⟨w.heap.size, 0, none⟩)]) ∧ w.alloc (.cells #[.slice A m c] 68) = w' := by
  go_enter Try.func91, Try.ntmps91
  go_wp2
  go_ret
  exact ⟨rfl, rfl⟩
set_option maxHeartbeats 1000000 in
theorem leach_any (A : Option Addr) (m c : Nat) (w : World) : Calls Try.prog 89 #[.slice A m c] w fun e w' => e = .returned (.func (.func 93) #[] #[.pointer (some ⟨w.heap.size, 0, none⟩)]) ∧ w.alloc (.cells #[.slice A m c] 68) = w' := by
  go_enter Try.func89, Try.ntmps89
  go_wp2_with (go_at_call 91; refine (values2_any _ _ _ _).mono ?_; rintro e w' ⟨rfl, rfl⟩)
  go_ret
  exact ⟨rfl, rfl⟩
set_option maxHeartbeats 1000000 in
theorem reach_any (A : Option Addr) (m c : Nat) (w : World) : Calls Try.prog 95 #[.slice A m c] w fun e w' => e = .returned (.func (.func 97) #[] #[.pointer (some ⟨w.heap.size, 0, none⟩)]) ∧ w.alloc (.cells #[.slice A m c] 77) = w' := by
  go_enter Try.func95, Try.ntmps95
  go_wp2
  go_ret
  exact ⟨rfl, rfl⟩
set_option maxHeartbeats 1000000 in
theorem beach_any (A : Option Addr) (m c : Nat) (w : World) : Calls Try.prog 101 #[.slice A m c] w fun e w' => e = .returned (.func (.func 103) #[] #[.pointer (some ⟨w.heap.size, 0, none⟩)]) ∧ w.alloc (.cells #[.slice A m c] 79) = w' := by
  go_enter Try.func101, Try.ntmps101
  go_wp2
  go_ret
  exact ⟨rfl, rfl⟩
theorem m_each77 (v : Value) (w : World) : (method 228 77 v "astragal/pos.each").run Try.prog w = .ok (95, v) w := by kernel_rfl
theorem m_each79 (v : Value) (w : World) : (method 228 79 v "astragal/pos.each").run Try.prog w = .ok (101, v) w := by kernel_rfl
theorem m_each68 (v : Value) (w : World) : (method 228 68 v "astragal/pos.each").run Try.prog w = .ok (89, v) w := by kernel_rfl
theorem own_cells {W : World} {base e s n : Nat} {v : Value} {xs : List Value} (h : W.ownsRow base e s v n xs) : ∀ k, v.ownBlock = some k → ∃ o, W.heap[k]? = some o ∧ o.isCells = true := by
  intro k hk
  rcases h.2 with ⟨rfl, _⟩ | ⟨g, cap, cur, rfl, _, hgg, _⟩
  · cases hk
  · obtain rfl : g = k := by simpa [Value.ownBlock] using hk
    exact ⟨_, hgg, rfl⟩
/-- The blocks that an iterator over a boxed row hangs on. -/
def DRow (v : Value) (B : Nat) : Nat → Prop := fun k => v.ownBlock = some k ∨ k = B
theorem drow_cells {W : World} {base e s n : Nat} {v : Value} {xs : List Value} (h : W.ownsRow base e s v n xs) {B : Nat} {t : TypeId} {u : Value} (hb : Boxed W B t u) : AreCells (DRow v B) W := by
  rintro k (hk | rfl)
  · exact own_cells h k hk
  · exact ⟨_, hb, rfl⟩
theorem drow_not28 {W : World} {base e s n : Nat} {v : Value} {xs : List Value} (h : W.ownsRow base e s v n xs) (he : e ≠ 28) {B : Nat} {t : TypeId} {u : Value} (hb : Boxed W B t u) (ht : t ≠ 28) : ∀ k, DRow v B k → ∀ cs fr, W.heap[k]? ≠ some (.cells cs 28 fr) := by
  rintro k (hk | rfl) cs fr hc
  · rcases h.2 with ⟨rfl, _⟩ | ⟨g, cap, cur, rfl, _, hgg, _⟩
    · cases hk
    · obtain rfl : g = k := by simpa [Value.ownBlock] using hk
      rw [hgg] at hc
      simp at hc
      exact he hc.2.1
  · rw [show W.heap[k]? = _ from hb] at hc
    simp at hc
    exact ht hc.2.1
theorem own_keep {W W' : World} {base e s n B : Nat} {v : Value} {xs : List Value} (h : W.ownsRow base e s v n xs) (hk : Keep (DRow v B) W W') : W'.ownsRow base e s v n xs := own_block h (fun k hv => hk k (.inl hv))
theorem slice_eq {A A' : Option Addr} {n c c' : Nat} (h : Value.slice A n c = .slice A' n c') : A = A' ∧ c = c' := by cases h; exact ⟨rfl, rfl⟩
set_option maxRecDepth 100000 in
set_option maxHeartbeats 2000000 in
theorem each_any (n rep : Int) (wv : Value) (zs : List Int) (w : World) (hS : IsSet w n rep wv zs) : Calls Try.prog 39 #[setV n rep wv] w (EachPost wv zs w) := by
  have hu28 := Try.underlying28
  have HB := Aside0.mk ((Below.refl w.heap.size w).alloc (Nat.le_refl _) (.cells #[.int .i64 n, .int .i64 rep, wv] 28))
  unfold setV
  have hzl := hS.rising.length
  have hn1 := hS.n1
  cases hS.way with
  | nil e z =>
    subst e
    subst z
    clear hS hzl hn1
    go_enter Try.func39, Try.ntmps39
    go_wp2
    go_ret
    exact ⟨52, #[], _, rfl, gives_none _, fun k hk => hk.elim, fun k hk => hk.elim, HB.out⟩
  | ranges v sps e own z hb hl =>
    subst e
    obtain ⟨A, c, rfl, hc0, _⟩ := CS_of_own own
    have hm := m_each77 (.slice A sps.length c)
    obtain ⟨w1, hw1⟩ : ∃ w1, w.alloc (.cells #[.int .i64 n, .int .i64 rep, .iface 77 (.slice A sps.length c)] 28) = w1 := ⟨_, rfl⟩
    have HP : Aside0 (EachPost (.iface 77 (.slice A sps.length c)) zs w (.returned (.func (.func 97) #[] #[.pointer (some ⟨w.heap.size + 1, 0, none⟩)])) ((w.alloc (.cells #[.int .i64 n, .int .i64 rep, .iface 77 (.slice A sps.length c)] 28)).alloc (.cells #[.slice A sps.length c] 77))) := ⟨by
      have hB := HB.out
      rw [hw1] at hB ⊢
      have hs1 : w1.heap.size = w.heap.size + 1 := by rw [← hw1]; simp
      have bO := Boxed.new w1 77 (.slice A sps.length c)
      rw [hs1] at bO
      have hB2 := hB.alloc (o := .cells #[.slice A sps.length c] 77) hB.size
      have own2 := own_below own hB2
      have hd := drow_cells own2 bO
      refine ⟨97, _, DRow (.slice A sps.length c) (w.heap.size + 1), rfl, ?_, ?_, drow_not28 own2 (by decide) bO (by decide), hB2⟩
      · rw [z]
        refine gives_ranges _ _ A c sps hb hl _ hd bO (.inr rfl) (fun W hW => ?_)
        obtain ⟨A', c', e', _, hC'⟩ := CS_of_own (own_keep own2 hW)
        obtain ⟨rfl, rfl⟩ := slice_eq e'
        exact hC'
      · rintro k (hk | rfl)
        · exact .inl hk
        · exact .inr (by omega)⟩
    clear hw1 own hS hzl z hb hl hn1 hc0
    go_enter Try.func39, Try.ntmps39
    go_wp2_with (go_at_call 95; refine (reach_any _ _ _ _).mono ?_; rintro e w' ⟨rfl, rfl⟩)
    go_ret
    simpa using HP.out
  | bitmap v ws e own z hb hl =>
    subst e
    obtain ⟨A, c, rfl, hc0, _⟩ := CI_of_own own
    have hm := m_each79 (.slice A ws.length c)
    obtain ⟨w1, hw1⟩ : ∃ w1, w.alloc (.cells #[.int .i64 n, .int .i64 rep, .iface 79 (.slice A ws.length c)] 28) = w1 := ⟨_, rfl⟩
    have HP : Aside0 (EachPost (.iface 79 (.slice A ws.length c)) zs w (.returned (.func (.func 103) #[] #[.pointer (some ⟨w.heap.size + 1, 0, none⟩)])) ((w.alloc (.cells #[.int .i64 n, .int .i64 rep, .iface 79 (.slice A ws.length c)] 28)).alloc (.cells #[.slice A ws.length c] 79))) := ⟨by
      have hB := HB.out
      rw [hw1] at hB ⊢
      have hs1 : w1.heap.size = w.heap.size + 1 := by rw [← hw1]; simp
      have bO := Boxed.new w1 79 (.slice A ws.length c)
      rw [hs1] at bO
      have hB2 := hB.alloc (o := .cells #[.slice A ws.length c] 79) hB.size
      have own2 := own_below own hB2
      have hd := drow_cells own2 bO
      refine ⟨103, _, DRow (.slice A ws.length c) (w.heap.size + 1), rfl, ?_, ?_, drow_not28 own2 (by decide) bO (by decide), hB2⟩
      · rw [z]
        refine gives_bitmap _ _ A c ws _ hl hb hd bO (.inr rfl) (fun W hW => ?_)
        obtain ⟨A', c', e', _, hC'⟩ := CI_of_own (own_keep own2 hW)
        obtain ⟨rfl, rfl⟩ := slice_eq e'
        exact hC'
      · rintro k (hk | rfl)
        · exact .inl hk
        · exact .inr (by omega)⟩
    clear hw1 own hS hzl z hb hl hn1 hc0
    go_enter Try.func39, Try.ntmps39
    go_wp2_with (go_at_call 101; refine (beach_any _ _ _ _).mono ?_; rintro e w' ⟨rfl, rfl⟩)
    go_ret
    simpa using HP.out
  | list v e own =>
    subst e
    obtain ⟨A, c, rfl, hc0, _⟩ := CI_of_own own
    have hm := m_each68 (.slice A zs.length c)
    obtain ⟨w1, hw1⟩ : ∃ w1, w.alloc (.cells #[.int .i64 n, .int .i64 rep, .iface 68 (.slice A zs.length c)] 28) = w1 := ⟨_, rfl⟩
    have HP : Aside0 (EachPost (.iface 68 (.slice A zs.length c)) zs w (.returned (.func (.func 93) #[] #[.pointer (some ⟨w.heap.size + 1, 0, none⟩)])) ((w.alloc (.cells #[.int .i64 n, .int .i64 rep, .iface 68 (.slice A zs.length c)] 28)).alloc (.cells #[.slice A zs.length c] 68))) := ⟨by
      have hB := HB.out
      rw [hw1] at hB ⊢
      have hs1 : w1.heap.size = w.heap.size + 1 := by rw [← hw1]; simp
      have bO := Boxed.new w1 68 (.slice A zs.length c)
      rw [hs1] at bO
      have hB2 := hB.alloc (o := .cells #[.slice A zs.length c] 68) hB.size
      have own2 := own_below own hB2
      have hd := drow_cells own2 bO
      refine ⟨93, _, DRow (.slice A zs.length c) (w.heap.size + 1), rfl, ?_, ?_, drow_not28 own2 (by decide) bO (by decide), hB2⟩
      · refine gives_values2 _ _ A c zs _ hd bO (.inr rfl) (fun W hW => ?_)
        obtain ⟨A', c', e', _, hC'⟩ := CI_of_own (own_keep own2 hW)
        obtain ⟨rfl, rfl⟩ := slice_eq e'
        exact hC'
      · rintro k (hk | rfl)
        · exact .inl hk
        · exact .inr (by omega)⟩
    clear hw1 own hS hzl  hn1 hc0
    go_enter Try.func39, Try.ntmps39
    go_wp2_with (go_at_call 89; refine (leach_any _ _ _ _).mono ?_; rintro e w' ⟨rfl, rfl⟩)
    go_ret
    simpa using HP.out
end Go.Proofs.Ytbjdnfnolhahgaa.F

/-! Numbers collected: slices.AppendSeq, slices.Collect, a set's List. -/
namespace Go.Proofs.Ytbjdnfnolhahgaa.F
open Go.RowKit Go.Shelf Go.Proofs.YtbjdnfnolhahgaaW.PrintWords
attribute [local go_sem] Oper.semAt_some
set_option linter.unusedVariables false
theorem infoI : (Try.prog.info? 3).map (fun i => (i.zero, i.size, i.bytes)) = some (some (.int .i64 0), 1, 8) := by kernel_rfl
/-- One variable's row has grown, or was written; or the variable holds another one that is new. -/
theorem KeepE.step {bs : List Nat} {W W' : World} {B : Nat} {v v' : Value} (hsz : W.heap.size ≤ W'.heap.size) (hblk : ∀ k, k < W.heap.size → k ≠ B → some k ≠ v.ownBlock → W'.heap[k]? = W.heap[k]?) (hB : B ∈ bs)
    (hv : ownAt W B = v.ownBlock) (hv' : ownAt W' B = v'.ownBlock) (hat : v'.ownBlock = v.ownBlock ∨ ∃ g, v'.ownBlock = some g ∧ W.heap.size ≤ g ∧ g < W'.heap.size)
    (hbs : ∀ B', B' ∈ bs → B' < W.heap.size ∧ (B' ≠ B → some B' ≠ v.ownBlock)) : KeepE bs W W' := by
  have hoth : ∀ B', B' ∈ bs → B' ≠ B → ownAt W' B' = ownAt W B' := fun B' h' hne => ownAt_eq (hblk B' (hbs B' h').1 hne ((hbs B' h').2 hne))
  refine ⟨hsz, fun k o hk hc hn hown => ?_, fun B' h' k hk => ?_, fun hf B' h' k hk => ?_⟩
  · refine (hblk k (Array.getElem?_eq_some_iff.1 hk).1 (fun e => hn (e ▸ hB)) (fun e => hown B hB (hv.trans e.symm))).trans hk
  · by_cases e : B' = B
    · subst e
      rw [hv'] at hk
      rcases hat with h | ⟨g, h, hg, _⟩
      · exact .inl (by rw [hv, ← h]; exact hk)
      · rw [h] at hk; cases hk; exact .inr hg
    · exact .inl (by rw [← hoth B' h' e]; exact hk)
  · by_cases e : B' = B
    · subst e
      rw [hv'] at hk
      rcases hat with h | ⟨g, h, _, hg⟩
      · exact Nat.lt_of_lt_of_le (hf B' h' k (by rw [hv, ← h]; exact hk)) hsz
      · rw [h] at hk; cases hk; exact hg
    · rw [hoth B' h' e] at hk
      exact Nat.lt_of_lt_of_le (hf B' h' k hk) hsz
theorem ownAt_box {W : World} {B : Nat} {t : TypeId} {v : Value} (h : Boxed W B t v) : ownAt W B = v.ownBlock := by
  unfold ownAt
  rw [h.cell]
  rfl
/-- 'x = append(x, ..)' of a variable of bs. -/
theorem KeepE.appended {bs : List Nat} {W w1 : World} {n₀ B : Nat} {t e : TypeId} {size : Nat} {v v' : Value} {m : Nat} {ys : List Value} {tmp : Obj} (hB : B ∈ bs) (hv : Boxed W B t v)
    (hv2 : Boxed (w1.setCell ⟨B, 0, none⟩ v') B t v') (hown' : (w1.setCell ⟨B, 0, none⟩ v').ownsRow n₀ e size v' m ys) (hgrow : (W.alloc tmp).grownBy w1 v.ownBlock)
    (hat : v'.ownBlock = v.ownBlock ∨ v'.ownBlock = some (W.alloc tmp).heap.size) (hbs : ∀ B', B' ∈ bs → B' < W.heap.size ∧ (B' ≠ B → some B' ≠ v.ownBlock)) : KeepE bs W (w1.setCell ⟨B, 0, none⟩ v') := by
  have hsz : W.heap.size + 1 ≤ w1.heap.size := by have := hgrow.size; simpa using this
  have hsz2 : (w1.setCell ⟨B, 0, none⟩ v').heap.size = w1.heap.size := by simp [World.setCell]
  refine KeepE.step (v := v) (v' := v') (B := B) (by omega) (fun k hk hne hnr => ?_) hB (ownAt_box hv) (ownAt_box hv2) ?_ hbs
  · rw [Below.heap_setCell _ _ _ k hne, hgrow.block k (by simp; omega) hnr, Below.heap_alloc _ _ k hk]
  · rcases hat with h | h
    · exact .inl h
    · refine .inr ⟨_, h, by simp, ?_⟩
      exact (hown'.lt _ h).2
set_option maxRecDepth 100000 in
set_option maxHeartbeats 2000000 in
theorem appendSeq_any (gf : Nat) (lb : Array Value) (D : Nat → Prop) (zs : List Int) (hlen : zs.length ≤ 1000000000000) (w : World) (hg : Gives D gf lb zs w) :
    Calls Try.prog 51 #[.slice none 0 0, .func (.func gf) #[] lb] w fun e W' => ∃ v, e = .returned v ∧ W'.ownsRow w.heap.size 3 1 v zs.length (zs.map (Value.int .i64)) ∧ Below w.heap.size w W' := by
  obtain ⟨i0, hi, hz0, hz1, hz2⟩ := info_parts infoI
  refine (callsIn_wide (n := 9)).1 ?_
  refine callsIn_of_wp_marks Try.func51 rfl trivial ?_ rfl
  simp only [Try.ntmps51, List.size_toArray, List.length_cons, List.length_nil, Nat.reduceAdd, Nat.reduceSub, Array.replicate_succ, Array.replicate_zero, List.push_toArray, List.append_toArray, List.nil_append, List.cons_append]
  gi_wp2
  have bO := Boxed.new w 24 (.slice none 0 0)
  have hB0 : Below w.heap.size w (w.alloc (.cells #[.slice none 0 0] 24)) := (Below.refl _ w).alloc (Nat.le_refl _) _
  have hcl : Clear [w.heap.size] D (w.alloc (.cells #[.slice none 0 0] 24)) := by
    refine ⟨fun B hB => ?_, fun B hB k hk => ?_, fun k hk => ⟨?_, fun B hB e => ?_⟩⟩
    · obtain rfl : B = w.heap.size := by simpa using hB
      simp
    · obtain rfl : B = w.heap.size := by simpa using hB
      rw [ownAt_box bO] at hk
      cases hk
    · have := hg.cells.lt hk
      simp
      omega
    · obtain rfl : B = w.heap.size := by simpa using hB
      rw [ownAt_box bO] at e
      cases e
  refine wpIn_rangeFunc_ownH rfl (by omega) (gf := gf) (lb := lb) rfl trivial hg.enters
    (hg.stops [w.heap.size] _ (Keep.of_below hB0 (fun k hk => hg.cells.lt hk)) hcl _ (by omega)).all KeepE.trans (fun W l o o' hl ho hc _ => KeepE.putObj hcl.lt W l o o' hl ho hc) (Below.refl _ _) (fun _ => rfl)
    (fun pre W => (∃ v, Boxed W w.heap.size 24 v ∧ W.ownsRow w.heap.size 3 1 v pre.length (pre.map (Value.int .i64)) ∧ True) ∧ Below w.heap.size w W)
    (fun _ _ _ => False)
    (OwnFrom.and (Own.from (holdsRow_own w.heap.size w.heap.size 24 3 1 (fun pre : List Int => pre.length) (fun pre => pre.map (Value.int .i64)) (fun pre v => True)) _) (ownFrom_below (Nat.le_refl _) (by simp)))
    (fun _ _ _ _ _ hs _ _ => hs)
    ⟨⟨_, bO, World.ownsRow_nil _ _ _ _, trivial⟩, hB0⟩
    (fun x a' W => a' = { tmps := #[.slice none 0 0, .func (.func gf) #[] lb, .pointer (some ⟨w.heap.size, 0, none⟩), undef, .slice none 0 0, .int .i64 x, .func (.func gf) #[] lb, .int .i64 x, undef, undef, undef, undef, undef], defers := [] })
    (fun x a' _ X Y row hs hg hr => hs)
    ?assign ?body ?done ?stop
  case assign =>
    rintro l pre x W K hI hK
    gi_wp2
    exact hK _ _ (KeepsFrom.refl _ _) (KeepE.refl _ _) hI rfl
  case body =>
    rintro l pre x a' W hl ⟨r, hr⟩ ⟨⟨v, hv, hrow, _⟩, hB⟩ rfl hlt
    have hc := hv.cell
    have hBs := hB.size
    gi_wp2_with (gi_at_builtin; refine wpListIn_append_own_at _ rfl _ _ 24 rfl w.heap.size 3 i0 (.int .i64 0) 1 8 Try.underlying24 hi hz0 hz1 hz2 rfl (by decide) _ _ _ rfl (hrow.alloc _) ⟨W.heap.size, 0, none⟩ 1 1 [.int .i64 x] rfl rfl (cell_one_new _ _ _) (by simp [Value.oneCell']) (by unfold maxLen; omega) (by omega) (by simp; omega) ?_; intro v' w1 hown' hgrow _ hat; obtain ⟨g', cap', rfl⟩ := ownsRow_succ hown'; obtain ⟨hv1, hv2, hr2, hk2, hb2⟩ := hv.appended (by decide) hrow hB.size (Nat.le_refl _) hown' hgrow; have hc1 := hv1.cell; have hf1 := hv1.frozen)
    refine ⟨hk2.from _, KeepE.appended (by simp) hv hv2 hr2 hgrow hat (fun B' h' => ?_), ⟨_, hv2, by simpa using hr2, trivial⟩, hB.trans hb2⟩
    obtain rfl : B' = w.heap.size := by simpa using h'
    exact ⟨hv.lt, fun h => absurd rfl h⟩
  case done =>
    rintro D' ys W hD rfl ⟨⟨v, hv, hrow, _⟩, hB⟩ hK
    have hc := hv.cell
    gi_wp2
    refine ⟨by simp, .inl ⟨_, _, rfl, run_takeDeferred hK, ?_⟩⟩
    exact ⟨_, results_tmp rfl _ _ _, v, rfl, ownsRow_putObj hrow _ hK rfl, hB.trans (belowK_b (w := w) (Nat.le_refl _) W D' _ _ (by simp at hD; omega) hK rfl rfl)⟩
  case stop =>
    rintro D' c pre W _ _ h _
    exact h.elim
set_option maxHeartbeats 1000000 in
theorem collect_any (gf : Nat) (lb : Array Value) (D : Nat → Prop) (zs : List Int) (hlen : zs.length ≤ 1000000000000) (w : World) (hg : Gives D gf lb zs w) :
    Calls Try.prog 38 #[.func (.func gf) #[] lb] w fun e W' => ∃ v, e = .returned v ∧ W'.ownsRow w.heap.size 3 1 v zs.length (zs.map (Value.int .i64)) ∧ Below w.heap.size w W' := by
  have hcon := appendSeq_any gf lb D zs hlen w hg
  clear hg
  go_enter Try.func38, Try.ntmps38
  go_wp2_with (go_at_call 51; refine hcon.mono ?_; clear hcon; rintro e w' ⟨v, rfl, hrow, hB⟩)
  go_ret
  exact ⟨_, rfl, hrow, hB⟩
set_option maxRecDepth 100000 in
set_option maxHeartbeats 1000000 in
theorem list_any (n rep : Int) (wv : Value) (zs : List Int) (w : World) (hS : IsSet w n rep wv zs) :
    Calls Try.prog 13 #[setV n rep wv] w fun e W' => ∃ v, e = .returned v ∧ W'.ownsRow w.heap.size 3 1 v zs.length (zs.map (Value.int .i64)) ∧ Below w.heap.size w W' := by
  have hu28 := Try.underlying28
  have hB := (Below.refl w.heap.size w).alloc (Nat.le_refl _) (.cells #[.int .i64 n, .int .i64 rep, wv] 28)
  have hlen : zs.length ≤ 1000000000000 := by have := hS.rising.length; have := hS.n1; omega
  have hcon := each_any n rep wv zs _ (hS.below hB)
  have HB := Aside0.mk hB
  unfold setV at hcon ⊢
  have HL := Aside0.mk hlen
  clear hS hB hlen
  go_enter Try.func13, Try.ntmps13
  go_wp2_with (first
    | (go_at_call 39; refine hcon.mono ?_; clear hcon; rintro e w' ⟨gf, lb, D, rfl, hg, hD, _, hb'⟩; have hc2 := collect_any gf lb D zs HL.out w' hg; have HB2 := Aside0.mk hb'; clear hb' hg hD)
    | (go_at_call 38; refine hc2.mono ?_; clear hc2; rintro e w2 ⟨v, rfl, hrow, hb2⟩))
  go_ret
  have hB2 := HB.out.trans (HB2.out.mono (by simp))
  refine ⟨_, rfl, own_weaken hrow hB2.size, hB2.trans (hb2.mono hB2.size)⟩
end Go.Proofs.Ytbjdnfnolhahgaa.F

/-! How many of a set's numbers lie below a number. -/
namespace Go.Proofs.Ytbjdnfnolhahgaa.F
open Go.RowKit Go.Shelf Go.Proofs.YtbjdnfnolhahgaaW.PrintWords
attribute [local go_sem] Oper.semAt_some
set_option linter.unusedVariables false
/-- How many lie below. -/
def rankZ (zs : List Int) (at_ : Int) : Int := ((zs.filter (fun x => decide (x < at_))).length : Nat)
theorem Boxed.owned {W W' : World} {row : Option Nat} {B : Nat} {t : TypeId} {v : Value} (h : Boxed W B t v) (hg : W.grownBy W' row) (hr : ∀ r, row = some r → ∃ o : Obj, W.heap[r]? = some o ∧ o.isCells = false) : Boxed W' B t v :=
  h.kept hg (fun e => by
    obtain ⟨o, ho, hc⟩ := hr B e.symm
    rw [show W.heap[B]? = _ from h] at ho
    cases ho
    cases hc)
theorem rank_all {zs : List Int} {at_ : Int} (h : ∀ y ∈ zs, y < at_) : rankZ zs at_ = (zs.length : Int) := by
  unfold rankZ
  rw [List.filter_eq_self.2 (fun y hy => decide_eq_true (h y hy))]
theorem rank_stop {zs ini : List Int} {x at_ : Int} (hs : zs.Pairwise (· < ·)) (hp : ini ++ [x] <+: zs) (h : ∀ y ∈ ini, y < at_) (hx : at_ ≤ x) : rankZ zs at_ = (ini.length : Int) := by
  obtain ⟨r, rfl⟩ := hp
  unfold rankZ
  rw [List.append_assoc, List.pairwise_append] at hs
  obtain ⟨_, hs2, _⟩ := hs
  rw [List.singleton_append, List.pairwise_cons] at hs2
  rw [List.append_assoc, List.filter_append, List.filter_eq_self.2 (fun y hy => decide_eq_true (h y hy)), List.filter_eq_nil_iff.2 (fun y hy => ?_), List.append_nil]
  have : x ≤ y := by
    rcases List.mem_cons.1 hy with e | e
    · omega
    · have := hs2.1 y e; omega
  simp
  omega
theorem below_box {B : Nat} {W W' : World} {n : Nat} {t : TypeId} {v : Value} (h : Boxed W B t v) (hB : Below n W W') (hn : B < n) : Boxed W' B t v := (hB.block B hn).trans h
set_option maxRecDepth 100000 in
set_option maxHeartbeats 4000000 in
theorem rank_any (n rep at_ : Int) (wv : Value) (zs : List Int) (w : World) (hS : IsSet w n rep wv zs) :
    Calls Try.prog 14 #[setV n rep wv, .int .i64 at_] w fun e W' => e = .returned (.int .i64 (rankZ zs at_)) ∧ Below w.heap.size w W' := by
  have hu28 := Try.underlying28
  obtain ⟨w3, hw3⟩ : ∃ w3, ((w.alloc (.cells #[.int .i64 n, .int .i64 rep, wv] 28)).alloc (.cells #[.int .i64 at_] 3)).alloc (.cells #[.int .i64 0] 3) = w3 := ⟨_, rfl⟩
  have hB : Below w.heap.size w w3 := by rw [← hw3]; exact ((((Below.refl _ w).alloc (Nat.le_refl _) _).alloc (by simp) _).alloc (by simp; omega) _)
  have hs3 : w3.heap.size = w.heap.size + 3 := by rw [← hw3]; simp
  have bA : Boxed w3 (w.heap.size + 1) 3 (.int .i64 at_) := by
    rw [← hw3]
    have h := (Boxed.new (w.alloc (.cells #[.int .i64 n, .int .i64 rep, wv] 28)) 3 (.int .i64 at_)).alloc (.cells #[.int .i64 0] 3)
    rwa [World.size_alloc] at h
  have bN : Boxed w3 (w.heap.size + 1 + 1) 3 (.int .i64 0) := by
    rw [← hw3]
    have h := Boxed.new ((w.alloc (.cells #[.int .i64 n, .int .i64 rep, wv] 28)).alloc (.cells #[.int .i64 at_] 3)) 3 (.int .i64 0)
    rwa [World.size_alloc, World.size_alloc] at h
  have hcon := each_any n rep wv zs w3 (hS.below hB)
  have hlen : zs.length ≤ 4096 := by have := hS.rising.length; have := hS.n1; omega
  have hway := hS.way.lt
  have hris := hS.rising.1
  unfold setV at hcon ⊢
  rw [← hw3] at hcon
  refine (callsIn_wide (n := 9)).1 ?_
  refine callsIn_of_wp_marks Try.func14 rfl trivial ?_ rfl
  simp only [Try.ntmps14, List.size_toArray, List.length_cons, List.length_nil, Nat.reduceAdd, Nat.reduceSub, Array.replicate_succ, Array.replicate_zero, List.push_toArray, List.append_toArray, List.nil_append, List.cons_append]
  have HH := Aside0.mk (And.intro hw3 (And.intro hB (And.intro hs3 (And.intro bA (And.intro bN (And.intro hlen (And.intro hway hris)))))))
  clear hw3 hB hs3 bA bN hlen hway hris hS
  have hf39 : Fence.wide.fn 39 := trivial
  gi_wp2_with (gi_at_call 39; refine (callsIn_wide.2 hcon).mono ?_; clear hcon; rintro e w4 ⟨gf, lb, D, rfl, hg, hD, _, hb'⟩)
  obtain ⟨hw3, hB, hs3, bA, bN, hlen, hway, hris⟩ := HH.out
  rw [hw3] at hb' hD
  clear hw3 HH
  have bA4 := below_box bA hb' (by omega)
  have bN4 := below_box bN hb' (by omega)
  have hB4 := hB.trans (hb'.mono hB.size)
  have hsz4 := hb'.size
  have hcl : Clear [w.heap.size + 1 + 1] D w4 := by
    refine ⟨fun B hB => ?_, fun B hB k hk => ?_, fun k hk => ⟨?_, fun B hB e => ?_⟩⟩
    · obtain rfl : B = w.heap.size + 1 + 1 := by simpa using hB
      omega
    · obtain rfl : B = w.heap.size + 1 + 1 := by simpa using hB
      rw [ownAt_box bN4] at hk
      cases hk
    · rcases hD k hk with h | h
      · have := hway k h; simp; omega
      · simp; omega
    · obtain rfl : B = w.heap.size + 1 + 1 := by simpa using hB
      rw [ownAt_box bN4] at e
      cases e
  refine wpIn_rangeFunc_ownH rfl (by omega) (gf := gf) (lb := lb) rfl trivial hg.enters
    (hg.stops [w.heap.size + 1 + 1] _ (Keep.refl _ _) hcl _ (by omega)).all KeepE.trans (fun W l o o' hl ho hc _ => KeepE.putObj hcl.lt W l o o' hl ho hc) (Below.refl _ _) (fun _ => rfl)
    (fun pre W => ((∀ y ∈ pre, y < at_) ∧ Boxed W (w.heap.size + 1) 3 (.int .i64 at_) ∧ Boxed W (w.heap.size + 1 + 1) 3 (.int .i64 (pre.length : Int))) ∧ Below w.heap.size w W)
    (fun c pre W => (c = .exit 0 ∧ ∃ ini x, pre = ini ++ [x] ∧ (∀ y ∈ ini, y < at_) ∧ at_ ≤ x ∧ Boxed W (w.heap.size + 1 + 1) 3 (.int .i64 (ini.length : Int))) ∧ Below w.heap.size w W)
    (OwnFrom.and (fun s A B row hs hg hr => ⟨hs.1, Boxed.owned hs.2.1 hg (fun r e => (hr r e).2), Boxed.owned hs.2.2 hg (fun r e => (hr r e).2)⟩) (ownFrom_below (Nat.le_refl _) (by omega)))
    (fun c => OwnFrom.and (fun s A B row hs hg hr => by obtain ⟨h1, ini, x, h2, h3, h4, h5⟩ := hs; exact ⟨h1, ini, x, h2, h3, h4, Boxed.owned h5 hg (fun r e => (hr r e).2)⟩) (ownFrom_below (Nat.le_refl _) (by omega)))
    ⟨⟨by simp, bA4, bN4⟩, hB4⟩
    (fun x a' W => a' = { tmps := #[.agg #[.int .i64 n, .int .i64 rep, wv], .int .i64 at_, .pointer (some ⟨w.heap.size, 0, none⟩), .pointer (some ⟨w.heap.size + 1, 0, none⟩), .int .i64 0, .pointer (some ⟨w.heap.size + 1 + 1, 0, none⟩), .int .i64 x, .agg #[.int .i64 n, .int .i64 rep, wv], .func (.func gf) #[] lb, .int .i64 x, undef, undef, undef, undef, undef, undef], defers := [] })
    (fun x a' _ X Y row hs hg hr => hs)
    ?assign ?body ?done ?stop
  case assign =>
    rintro l pre x W K hI hK
    gi_wp2
    exact hK _ _ (KeepsFrom.refl _ _) (KeepE.refl _ _) hI rfl
  case body =>
    rintro l pre x a' W hl ⟨r, hr⟩ ⟨⟨hall, hA, hN⟩, hBW⟩ rfl hlt
    have hcA := hA.cell
    have hcN := hN.cell
    have hfN := hN.frozen
    have hpl : (pre.length : Int) ≤ 4096 := by omega
    have hall' := Aside0.mk hall
    clear hall
    by_cases hx : at_ ≤ x
    · gi_wp2
      exact ⟨KeepsFrom.refl _ _, ⟨rfl, pre, x, rfl, hall'.out, hx, hN⟩, hBW⟩
    · have hx' : x < at_ := by omega
      clear hx
      gi_wp2
      have hset := hN.set (.int .i64 ((pre.length : Int) + 1))
      refine ⟨(KeepsOthers.setCell _ _ _).from _, ?_, ⟨?_, ?_, ?_⟩, hBW.setCell (p := ⟨w.heap.size + 1 + 1, 0, none⟩) (by simp; omega) _⟩
      · refine KeepE.step (B := w.heap.size + 1 + 1) (v := .int .i64 (pre.length : Int)) (v' := .int .i64 ((pre.length : Int) + 1)) (by simp [World.setCell]) (fun k hk hne _ => Below.heap_setCell _ _ _ k hne) (by simp) (ownAt_box hN) (ownAt_box hset) (.inl rfl) (fun B' h' => ?_)
        obtain rfl : B' = w.heap.size + 1 + 1 := by simpa using h'
        exact ⟨hN.lt, fun h => absurd rfl h⟩
      · intro y hy
        rcases List.mem_append.1 hy with h | h
        · exact hall'.out y h
        · obtain rfl : y = x := by simpa using h
          exact hx'
      · exact (Below.heap_setCell _ _ _ _ (by simp)).trans hA
      · rw [show ((pre ++ [x]).length : Int) = (pre.length : Int) + 1 from by simp]
        exact hset
  case done =>
    rintro D' ys W hD' rfl ⟨⟨hall, hA, hN⟩, hBW⟩ hK
    have hc := hN.cell
    have HR := Aside0.mk (rank_all hall)
    clear hall
    gi_wp2
    refine ⟨by simp, .inl ⟨_, _, rfl, run_takeDeferred hK, ?_⟩⟩
    exact ⟨_, results_tmp rfl _ _ _, by rw [HR.out]; rfl, hBW.trans (belowK_b (w := w) (Nat.le_refl _) W D' _ _ (by omega) hK rfl rfl)⟩
  case stop =>
    rintro D' c pre W hD' hpre ⟨⟨rfl, ini, x, rfl, hall, hx, hN⟩, hBW⟩ hK
    have hc := hN.cell
    have HR := Aside0.mk (rank_stop hris hpre hall hx)
    clear hall
    gi_wp2
    refine ⟨by simp, .inl ⟨_, _, rfl, run_takeDeferred hK, ?_⟩⟩
    exact ⟨_, results_tmp rfl _ _ _, by rw [HR.out]; rfl, hBW.trans (belowK_b (w := w) (Nat.le_refl _) W D' _ _ (by omega) hK rfl rfl)⟩
end Go.Proofs.Ytbjdnfnolhahgaa.F
