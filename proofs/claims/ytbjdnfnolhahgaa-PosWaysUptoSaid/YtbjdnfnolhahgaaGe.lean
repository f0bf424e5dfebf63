/- Several texts of this session, end to end. -/
import Derived.Lib.SlicesCompact
import Derived.Sort.OwnSortedInts
import Derived.Test.YtbjdnfnolhahgaaGd
/-! Numbers sorted, each once. -/
namespace Go.Proofs.Ytbjdnfnolhahgaa.F
open Go.RowKit Go.Shelf Go.Proofs.YtbjdnfnolhahgaaW.PrintWords
set_option linter.unusedVariables false
theorem compactUpTo_inv (d : Array Int) (hs : ∀ i j, i ≤ j → j < d.size → d[i]! ≤ d[j]!) : ∀ m, m ≤ d.size → (Lib.compactUpTo d m).Pairwise (· < ·) ∧ (∀ x, x ∈ Lib.compactUpTo d m ↔ ∃ j, j < m ∧ d[j]! = x) := by
  intro m
  induction m with
  | zero => intro _; exact ⟨List.Pairwise.nil, fun x => ⟨fun h => (by cases h), fun ⟨j, hj, _⟩ => (by omega)⟩⟩
  | succ m ih =>
    intro hm
    obtain ⟨h1, h2⟩ := ih (by omega)
    rw [Lib.compactUpTo_succ]
    by_cases hk : Lib.keeps d m = true
    · rw [if_pos hk]
      refine ⟨?_, fun x => ?_⟩
      · rw [List.pairwise_append]
        refine ⟨h1, List.pairwise_singleton _ _, fun a ha b hb => ?_⟩
        obtain rfl : b = d[m]! := by simpa using hb
        obtain ⟨j, hj, rfl⟩ := (h2 a).1 ha
        have h3 := hs j (m - 1) (by omega) (by omega)
        have h4 := hs (m - 1) m (by omega) (by omega)
        have h5 : d[m]! ≠ d[m - 1]! := by
          unfold Lib.keeps at hk
          have := of_decide_eq_true hk
          rcases this with e | e
          · omega
          · exact e
        omega
      · rw [List.mem_append, h2]
        constructor
        · rintro (⟨j, hj, e⟩ | e)
          · exact ⟨j, by omega, e⟩
          · obtain rfl : x = d[m]! := by simpa using e
            exact ⟨m, by omega, rfl⟩
        · rintro ⟨j, hj, e⟩
          by_cases hjm : j = m
          · subst hjm; exact .inr (by simp [e])
          · exact .inl ⟨j, by omega, e⟩
    · rw [if_neg hk, List.append_nil]
      refine ⟨h1, fun x => ?_⟩
      rw [h2]
      constructor
      · rintro ⟨j, hj, e⟩; exact ⟨j, by omega, e⟩
      · rintro ⟨j, hj, e⟩
        by_cases hjm : j = m
        · subst hjm
          have : ¬ (j = 0 ∨ d[j]! ≠ d[j - 1]!) := by
            unfold Lib.keeps at hk
            simpa using hk
          have h0 : j ≠ 0 := fun e => this (.inl e)
          have h1' : d[j]! = d[j - 1]! := by
            by_cases e' : d[j]! = d[j - 1]!
            · exact e'
            · exact absurd (.inr e') this
          exact ⟨j - 1, by omega, by rw [← h1']; exact e⟩
        · exact ⟨j, by omega, e⟩
/-- Sorted, each once. -/
def onceZ (l : List Int) : List Int := Lib.compact (l.mergeSort fun x y => decide (x ≤ y))
theorem sorted_pairwise (l : List Int) : (l.mergeSort fun x y => decide (x ≤ y)).Pairwise (· ≤ ·) := by
  have h := List.pairwise_mergeSort (le := fun x y : Int => decide (x ≤ y)) (fun a b c => by simp; omega) (fun a b => by simp; omega) l
  exact h.imp (fun h => of_decide_eq_true h)
theorem once_eq {n : Int} {l : List Int} (h : ∀ x ∈ l, 0 ≤ x ∧ x < n) : onceZ l = filt n (inZ l) := by
  obtain ⟨s, hs⟩ : ∃ s, l.mergeSort (fun x y => decide (x ≤ y)) = s := ⟨_, rfl⟩
  have hp := sorted_pairwise l
  have hm : ∀ x, x ∈ s ↔ x ∈ l := fun x => by rw [← hs]; exact List.mem_mergeSort
  unfold onceZ
  rw [hs] at hp ⊢
  unfold Lib.compact
  obtain ⟨h1, h2⟩ := compactUpTo_inv s.toArray (fun i j hij hj => by
    have hj' : j < s.length := by simpa using hj
    rw [getElem!_pos s.toArray i (by simp; omega), getElem!_pos s.toArray j (by simpa using hj')]
    by_cases e : i = j
    · subst e; exact Int.le_refl _
    · have := List.pairwise_iff_getElem.1 hp i j (by omega) hj' (by omega)
      simpa using this) s.length (by simp)
  refine rising_eq h1 (rising_filt _ _).1 (fun x => ?_)
  rw [h2, mem_filt]
  constructor
  · rintro ⟨j, hj, e⟩
    have hx : x ∈ s := by
      rw [getElem!_pos s.toArray j (by simpa using hj)] at e
      rw [← e]
      simp
    have hl := (hm x).1 hx
    exact ⟨(h x hl).1, (h x hl).2, by unfold inZ; exact decide_eq_true hl⟩
  · rintro ⟨_, _, hx⟩
    unfold inZ at hx
    have hx' := (hm x).2 (of_decide_eq_true hx)
    obtain ⟨j, hj, e⟩ := List.getElem_of_mem hx'
    exact ⟨j, hj, by rw [getElem!_pos s.toArray j (by simpa using hj)]; simpa using e⟩
theorem own_take {W : World} {base e g n cap m : Nat} {xs : List Value} (h : W.ownsRow base e 1 (.slice (some ⟨g, 0, none⟩) n cap) n xs) (hm : m ≤ n) : W.ownsRow base e 1 (.slice (some ⟨g, 0, none⟩) m cap) m (xs.take m) := by
  have hl := h.1
  refine ⟨by rw [List.length_take]; omega, ?_⟩
  rcases h.2 with ⟨h0, _⟩ | ⟨g', cap', cur, he, hb, hgg, h1, h2, h3, h4⟩
  · cases h0
  · cases he
    refine .inr ⟨g, cap, cur, rfl, hb, hgg, by omega, h2, h3, ?_⟩
    rw [← h4, List.take_take]
    congr 1
    omega
theorem compact_length (s : List Int) : (Lib.compact s).length ≤ s.length := by
  unfold Lib.compact Lib.compactUpTo
  rw [List.length_map]
  refine Nat.le_trans (List.length_filter_le _ _) ?_
  simp
set_option maxHeartbeats 1000000 in
/-- slices.Sorted. -/
theorem sorted_any (gf : Nat) (lb : Array Value) (D : Nat → Prop) (zs : List Int) (hlen : zs.length ≤ 1000000000000) (w : World) (hg : Gives D gf lb zs w) :
    Calls Try.prog 35 #[.func (.func gf) #[] lb] w fun e W' => ∃ v, e = .returned v ∧ W'.ownsRow w.heap.size 3 1 v zs.length ((zs.mergeSort fun x y => decide (x ≤ y)).map (Value.int .i64)) ∧ Below w.heap.size w W' := by
  have hcon := collect_any gf lb D zs hlen w hg
  have hsort : Aside0 (∀ v W', W'.ownsRow w.heap.size 3 1 v zs.length (zs.map (Value.int .i64)) → Below w.heap.size w W' → Calls Try.prog 49 #[v] W' fun e w2 => e = .returned (.tuple #[]) ∧ w2.ownsRow w.heap.size 3 1 v zs.length ((zs.mergeSort fun x y => decide (x ≤ y)).map (Value.int .i64)) ∧ Below w.heap.size w w2) := ⟨fun v W' hrow hB => by
    rcases hrow.2 with ⟨rfl, hn⟩ | ⟨g, cap, cur, rfl, hbase, hb, h1, h2, h3, h4⟩
    · have hz : zs = [] := List.eq_nil_of_length_eq_zero hn
      subst hz
      refine (Try.slices_Sort_int_none none 0 W').mono ?_
      rintro e w2 ⟨rfl, rfl⟩
      exact ⟨rfl, by simpa using hrow, hB⟩
    · have hH := holds_of_blockI hb (by simpa using h4)
      have hgl : g < W'.heap.size := (Array.getElem?_eq_some_iff.1 hb).1
      refine (Try.slices_Sort_int g 0 cap zs W' hH hgl (by omega)).mono ?_
      rintro e w2 ⟨rfl, nn, os, rfl⟩
      exact ⟨rfl, ownsRow_sortedI (by simp) hbase hb h1 h2 h3, hB.grown (grownBy_sortedI _) hB.size (fun j hj => by cases hj; exact hbase)⟩⟩
  clear hg
  go_enter Try.func35, Try.ntmps35
  go_wp2_with (first
    | (go_at_call 38; refine hcon.mono ?_; clear hcon; rintro e w' ⟨v, rfl, hrow, hB⟩; have hc2 := hsort.out v w' hrow hB; clear hsort hrow hB)
    | (go_at_call 49; refine hc2.mono ?_; clear hc2; rintro e w2 ⟨rfl, hrow, hB⟩))
  go_ret
  exact ⟨_, rfl, hrow, hB⟩
/-- slices.Compact of a row of one's own. -/
theorem compact_any (v : Value) (s : List Int) (base : Nat) (w0 w : World) (hlen : s.length ≤ 1000000000000) (hrow : w.ownsRow base 3 1 v s.length (s.map (Value.int .i64))) (hB : Below base w0 w) (hbs : base ≤ w.heap.size) :
    Calls Try.prog 34 #[v] w fun e W' => ∃ v', e = .returned v' ∧ W'.ownsRow base 3 1 v' (Lib.compact s).length ((Lib.compact s).map (Value.int .i64)) ∧ Below base w0 W' := by
  rcases hrow.2 with ⟨rfl, hn⟩ | ⟨g, cap, cur, rfl, hbase, hb, h1, h2, h3, h4⟩
  · have hz : s = [] := List.eq_nil_of_length_eq_zero hn
    subst hz
    refine (Try.slices_Compact_int_empty none 0 w).mono ?_
    rintro e w2 ⟨rfl, rfl⟩
    exact ⟨_, rfl, World.ownsRow_nil _ _ _ _, hB⟩
  · have hH := holds_of_blockI hb (by simpa using h4)
    refine (Try.slices_Compact_int g 0 cap s w hH (by omega) h1).mono ?_
    rintro e w2 ⟨rfl, q, rfl⟩
    have hcl := compact_length s
    have hr := ownsRow_sortedI (w := w) (n := q) (os := #[]) (ss := s) (ts := Lib.compact s ++ List.replicate (s.length - (Lib.compact s).length) 0) (by rw [List.length_append, List.length_replicate]; omega) hbase hb h1 h2 h3
    rw [Go.Sort.grow_empty] at hr
    have hr2 := own_take hr hcl
    rw [List.map_append, List.take_left' (by simp)] at hr2
    have hgr := grownBy_sortedI (w := w) (g := g) (n := q) (os := #[]) (Lib.compact s ++ List.replicate (s.length - (Lib.compact s).length) 0).toArray
    rw [Go.Sort.grow_empty] at hgr
    exact ⟨_, rfl, hr2, hB.grown hgr hbs (fun j hj => by cases hj; exact hbase)⟩
end Go.Proofs.Ytbjdnfnolhahgaa.F

/-! pos.Of: a walk of its code. -/
namespace Go.Proofs.Ytbjdnfnolhahgaa.F
open Go.RowKit Go.Shelf Go.Proofs.YtbjdnfnolhahgaaW.PrintWords
set_option linter.unusedVariables false
/-- A slice of numbers that can be read, at a plain address. -/
def IntArg (W : World) (A : Option Addr) (l : List Int) : Prop := l ≠ [] → ∃ b off, A = some ⟨b, off, none⟩ ∧ ∀ j, j < l.length → W.cell? ⟨b, off + j, none⟩ = some (.int .i64 (l.getD j 0))
theorem cell_lt {W : World} {b o : Nat} {v : Value} (h : W.cell? ⟨b, o, none⟩ = some v) : b < W.heap.size := World.block_lt_of_cell? W _ h
theorem IntArg.below {W W' : World} {A : Option Addr} {l : List Int} (h : IntArg W A l) (hB : Below W.heap.size W W') : IntArg W' A l := fun hl => by
  obtain ⟨b, off, e, hc⟩ := h hl
  exact ⟨b, off, e, fun j hj => (hB.cell (p := ⟨b, off + j, none⟩) (cell_lt (hc j hj))).trans (hc j hj)⟩
theorem add_plain (b off j : Nat) : (⟨b, off, none⟩ : Addr).add j = ⟨b, off + j, none⟩ := by unfold Addr.add; split <;> simp_all
theorem IntArg.C {W : World} {A : Option Addr} {l : List Int} (h : IntArg W A l) (hl : l.length ≤ 9223372036854775807) : (Kd.int .i64).C W A l.length l := by
  refine Kd.C_of_reads (d := 0) ⟨rfl, hl, fun hn => ?_⟩
  obtain ⟨b, off, e, hc⟩ := h (fun e => by rw [e] at hn; simp at hn)
  exact ⟨_, e, fun j hj => by rw [add_plain]; exact hc j hj⟩
theorem intArg_own {W : World} {base : Nat} {v : Value} {l : List Int} (h : W.ownsRow base 3 1 v l.length (l.map (Value.int .i64))) : ∃ A c, v = .slice A l.length c ∧ l.length ≤ c ∧ IntArg W A l := by
  have hc := fun g (hg : v.ownBlock = some g) => h.cells hg
  rcases h.2 with ⟨rfl, hn⟩ | ⟨g, cap, cur, rfl, _, _, hcap, _⟩
  · exact ⟨none, 0, by rw [hn], by omega, fun hl => absurd (List.eq_nil_of_length_eq_zero hn) hl⟩
  · refine ⟨_, cap, rfl, hcap, fun _ => ⟨g, 0, rfl, fun j hj => ?_⟩⟩
    have := hc g rfl j (.int .i64 (l.getD j 0)) (by rw [List.getElem?_map, List.getD_eq_getElem?_getD, List.getElem?_eq_getElem hj]; rfl)
    rwa [add_plain] at this
/-- The numbers of an argument, as a range's function. -/
theorem gives_arg {W : World} {A : Option Addr} {l : List Int} {c Bs : Nat} (h : IntArg W A l) (hl : l.length ≤ 9223372036854775807) (hb : Boxed W Bs 24 (.slice A l.length c)) : ∃ D, Gives D 50 #[.pointer (some ⟨Bs, 0, none⟩)] l W := by
  by_cases hn : l = []
  · subst hn
    refine ⟨fun k => k = Bs, gives_values1 Bs _ A c [] W (fun k hk => by subst hk; exact ⟨_, hb, rfl⟩) hb rfl (fun W' _ => ?_)⟩
    exact (show IntArg W' A [] from fun h => absurd rfl h).C (by simp)
  · obtain ⟨b, off, e, hc⟩ := h hn
    refine ⟨fun k => k = b ∨ k = Bs, gives_values1 Bs _ A c l W ?_ hb (.inr rfl) (fun W' hk => ?_)⟩
    · rintro k (rfl | rfl)
      · have h0 := hc 0 (List.length_pos_iff.2 hn)
        have hlt := cell_lt h0
        refine ⟨W.heap[k], Array.getElem?_eq_getElem hlt, ?_⟩
        unfold World.cell? at h0
        simp only [Array.getElem?_eq_getElem hlt] at h0
        cases ho : W.heap[k] with
        | cells cs t fr => rfl
        | _ => rw [ho] at h0; simp at h0
      · exact ⟨_, hb, rfl⟩
    · refine (show IntArg W' A l from fun _ => ⟨b, off, e, fun j hj => ?_⟩).C hl
      rw [World.cell?_of_block (a := ⟨b, off + j, none⟩) (hk b (.inl rfl))]
      exact hc j hj
theorem gives_row (W : World) {base : Nat} {A : Option Addr} {c : Nat} {zs : List Int} (own : W.ownsRow base 3 1 (.slice A zs.length c) zs.length (zs.map (Value.int .i64))) :
    Gives (DRow (.slice A zs.length c) W.heap.size) 50 #[.pointer (some ⟨W.heap.size, 0, none⟩)] zs (W.alloc (.cells #[.slice A zs.length c] 24)) ∧ ∀ k, DRow (.slice A zs.length c) W.heap.size k → ∀ cs fr, (W.alloc (.cells #[.slice A zs.length c] 24)).heap[k]? ≠ some (.cells cs 28 fr) := by
  have bO := Boxed.new W 24 (.slice A zs.length c)
  have own2 := own.alloc (.cells #[.slice A zs.length c] 24)
  refine ⟨gives_values1 _ _ A c zs _ (drow_cells own2 bO) bO (.inr rfl) (fun W' hk => ?_), drow_not28 own2 (by decide) bO (by decide)⟩
  obtain ⟨A', c', e', _, hC'⟩ := CI_of_own (own_keep own2 hk)
  obtain ⟨rfl, rfl⟩ := slice_eq e'
  exact hC'
/-- Is a number out of the range? -/
def outB (n x : Int) : Bool := decide (x < 0) || decide (n ≤ x)
set_option maxHeartbeats 1000000 in
theorem of1_any (n x : Int) (B : Nat) (w : World) (hc : w.cell? ⟨B, 0, none⟩ = some (.int .i64 n)) :
    Calls Try.prog 33 #[.int .i64 x, .pointer (some ⟨B, 0, none⟩)] w fun e w' => e = .returned (.bool (outB n x)) ∧ w = w' := by
  by_cases h0 : x < 0
  · have HQ : Aside0 (outB n x = true) := ⟨by unfold outB; rw [decide_eq_true h0]; rfl⟩
    go_enter Try.func33, Try.ntmps33
    go_wp2
    go_ret
    exact ⟨by rw [HQ.out]; rfl, rfl⟩
  · have h0' : 0 ≤ x := by omega
    clear h0
    go_enter Try.func33, Try.ntmps33
    go_wp2
    go_ret
    exact ⟨by unfold outB; rfl, rfl⟩
/-- Is any of them out of the range? -/
theorem out_any (n : Int) (A : Option Addr) (c B : Nat) (l : List Int) (hl : l.length ≤ 4611686018427387903) (w : World) (h : IntArg w A l) (hb : Boxed w B 3 (.int .i64 n)) :
    Calls Try.prog 32 #[.slice A l.length c, .func (.func 33) #[] #[.pointer (some ⟨B, 0, none⟩)]] w fun e w' => e = .returned (.bool (l.any (outB n))) ∧ Below w.heap.size w w' := by
  by_cases hn : l = []
  · subst hn
    refine (Try.slices_ContainsFunc_empty (α := Int) A c _ w).mono ?_
    rintro e w' ⟨rfl, rfl⟩
    exact ⟨rfl, Below.refl _ _⟩
  · obtain ⟨b, off, rfl, hc⟩ := h hn
    refine (Try.slices_ContainsFunc (Value.int .i64) (outB n) 33 #[.pointer (some ⟨B, 0, none⟩)] (enters_of Try.func33 (by kernel_rfl) rfl) b off l.length c l w (fun W x hB => ?_) (Nat.le_refl _) (by omega) (fun j hj => ?_)).mono ?_
    · unfold FnGives
      refine (of1_any n x B W ((hB.cell (p := ⟨B, 0, none⟩) hb.lt).trans hb.cell)).mono ?_
      rintro e w' ⟨rfl, rfl⟩
      exact ⟨rfl, 0, rfl⟩
    · rw [getElem!_pos l j hj, hc j hj, List.getD_eq_getElem?_getD, List.getElem?_eq_getElem hj]
      rfl
    · rintro e w' ⟨rfl, q, rfl⟩
      rw [List.take_length]
      exact ⟨rfl, pw_below_drewN (Below.refl _ _) q⟩
theorem out_none {n : Int} {l : List Int} (h : l.any (outB n) = false) : ∀ x ∈ l, 0 ≤ x ∧ x < n := fun x hx => by
  have := (List.any_eq_false.1 h) x hx
  unfold outB at this
  simp at this
  omega
set_option maxRecDepth 100000 in
set_option maxHeartbeats 8000000 in
theorem of_any (n rep : Int) (A : Option Addr) (c : Nat) (l : List Int) (w : World) (hl : l.length ≤ 1000000000000) (hA : IntArg w A l) (hf : fitB n rep = true) (hin : l.any (outB n) = false) :
    Calls Try.prog 11 #[.int .i64 n, .slice A l.length c, .int .i64 rep] w (SetPostE n rep (filt n (inZ l)) w) := by
  have hu28 := Try.underlying28
  unfold fitB at hf
  rw [Bool.and_eq_true, Bool.and_eq_true, decide_eq_true_eq, decide_eq_true_eq] at hf
  obtain ⟨⟨hm, hn0⟩, hn1⟩ := hf
  have hout := out_none hin
  obtain ⟨zs, hzs⟩ : ∃ zs, filt n (inZ l) = zs := ⟨_, rfl⟩
  have hris : Rising n zs := by rw [← hzs]; exact rising_filt _ _
  have honce : onceZ l = zs := by rw [← hzs]; exact once_eq hout
  rw [hzs]
  obtain ⟨w0, hw0⟩ : ∃ w0, (w.alloc (.cells #[.int .i64 n] 3)).alloc (.cells #[.int .i64 0, .int .i64 0, .nilIface] 28) = w0 := ⟨_, rfl⟩
  have hB0 : Below w.heap.size w w0 := by rw [← hw0]; exact (((Below.refl _ w).alloc (Nat.le_refl _) _).alloc (by simp) _)
  have b0 : Boxed w0 w.heap.size 3 (.int .i64 n) := by rw [← hw0]; exact (Boxed.new w 3 _).alloc _
  have b1 : SBox w0 (w.heap.size + 1) (.int .i64 0) (.int .i64 0) .nilIface := by
    rw [← hw0]
    have := SBox.new (w.alloc (.cells #[.int .i64 n] 3)) (.int .i64 0) (.int .i64 0) .nilIface
    rwa [World.size_alloc] at this
  have hmay := may_any rep w0
  rw [hm] at hmay
  have hco := out_any n A c w.heap.size l (by omega) w0 (hA.below hB0) b0
  rw [hin] at hco
  have hv : Aside0 (∀ W, Below w0.heap.size w0 W → Calls Try.prog 36 #[.slice A l.length c] W fun e w' => ∃ B D, e = .returned (.func (.func 50) #[] #[.pointer (some ⟨B, 0, none⟩)]) ∧ Gives D 50 #[.pointer (some ⟨B, 0, none⟩)] l w' ∧ Below w0.heap.size w0 w') := ⟨fun W hB => by
    refine (values1_any A c l W).mono ?_
    rintro e w' ⟨rfl, rfl⟩
    have hB2 := hB.alloc hB.size (.cells #[.slice A l.length c] 24)
    obtain ⟨D, hD⟩ := gives_arg ((hA.below hB0).below hB2) (by omega) (Boxed.new W 24 (.slice A l.length c))
    exact ⟨_, D, rfl, hD, hB2⟩⟩
  have hso : Aside0 (∀ W B D, Gives D 50 #[.pointer (some ⟨B, 0, none⟩)] l W → Below w0.heap.size w0 W → Calls Try.prog 35 #[.func (.func 50) #[] #[.pointer (some ⟨B, 0, none⟩)]] W fun e w' => ∃ v, e = .returned v ∧ w'.ownsRow w0.heap.size 3 1 v l.length ((l.mergeSort fun x y => decide (x ≤ y)).map (Value.int .i64)) ∧ Below w0.heap.size w0 w') := ⟨fun W B D hg hB => by
    refine (sorted_any 50 _ D l hl W hg).mono ?_
    rintro e w' ⟨v, rfl, hrow, hb⟩
    exact ⟨v, rfl, own_weaken hrow hB.size, hB.trans (hb.mono hB.size)⟩⟩
  have hcp : Aside0 (∀ v W, W.ownsRow w0.heap.size 3 1 v l.length ((l.mergeSort fun x y => decide (x ≤ y)).map (Value.int .i64)) → Below w0.heap.size w0 W → Calls Try.prog 34 #[v] W fun e w' => ∃ A8 c8, e = .returned (.slice A8 zs.length c8) ∧ w'.ownsRow w.heap.size 3 1 (.slice A8 zs.length c8) zs.length (zs.map (Value.int .i64)) ∧ Below w0.heap.size w0 w') := ⟨fun v W hrow hB => by
    have hlen : (l.mergeSort fun x y => decide (x ≤ y)).length = l.length := by simp
    refine (compact_any v (l.mergeSort fun x y => decide (x ≤ y)) w0.heap.size w0 W (by rw [hlen]; exact hl) (by rw [hlen]; exact hrow) hB hB.size).mono ?_
    rintro e w' ⟨v', rfl, hr, hb⟩
    have hr' : w'.ownsRow w0.heap.size 3 1 v' zs.length (zs.map (Value.int .i64)) := by rw [← honce]; exact hr
    obtain ⟨A8, c8, rfl, _, _⟩ := CI_of_own hr'
    exact ⟨A8, c8, rfl, own_weaken hr' hB0.size, hb⟩⟩
  have HH := Aside0.mk (And.intro hB0 (And.intro b0 (And.intro b1 hw0)))
  rw [← hw0] at hmay hco
  clear hB0 b0 b1 hw0 hm honce hzs hout hin hA
  go_enter Try.func11, Try.ntmps11
  go_wp2_with (first
    | (go_at_call 31; refine hmay.mono ?_; clear hmay; rintro e w' ⟨rfl, rfl⟩)
    | (go_at_call 32; refine hco.mono ?_; clear hco; rintro e w1 ⟨rfl, hb1⟩; rw [HH.out.2.2.2] at hb1; have hcv := hv.out w1 hb1; clear hv; have HB1 := Aside0.mk hb1; clear hb1)
    | (go_at_call 36; refine hcv.mono ?_; clear hcv HB1; rintro e w2 ⟨B2, D2, rfl, hg2, hb2⟩; have hcs := hso.out w2 B2 D2 hg2 hb2; clear hso hg2 hb2)
    | (go_at_call 35; refine hcs.mono ?_; clear hcs; rintro e w3 ⟨v3, rfl, hr3, hb3⟩; have hcc := hcp.out v3 w3 hr3 hb3; clear hcp hr3 hb3)
    | (go_at_call 34; refine hcc.mono ?_; clear hcc; rintro e w4 ⟨A8, c8, rfl, hrow0, hb4⟩))
  obtain ⟨hB0', b0', b1', hw0⟩ := HH.out
  have hB0 := hB0'.trans (hb4.mono hB0'.size)
  have b0 := bel b0' hb4
  have b1 := b1'.below hb4
  clear hB0' b0' b1' hw0 HH hb4
  refine wp_region_still (t := 28) (by kernel_rfl) [Fact.eq (.int .i64 n), Fact.eq (.int .i64 rep), Fact.eq (.int .i64 n), Fact.eq (.int .i64 rep), Fact.eq (.slice A8 zs.length c8), Fact.gives zs, Fact.way zs, Fact.set n rep zs, Fact.top, Fact.eq (.int .i64 0)]
    (fun W => Below w.heap.size w W ∧ Boxed W w.heap.size 3 (.int .i64 n) ∧ W.ownsRow w.heap.size 3 1 (.slice A8 zs.length c8) zs.length (zs.map (Value.int .i64)) ∧ ∃ x y z, SBox W (w.heap.size + 1) x y z)
    (fun W => ∃ t u, SBox W (w.heap.size + 1) (.int .i64 n) (.int .i64 rep) (.iface t u) ∧ IsSet W n rep (.iface t u) zs) 8 (by kernel_rfl) (by kernel_rfl) ?I0 ?I1 ?S1 ?steps ?done
  case I0 => exact ⟨hB0.drew, b0, own_below hrow0 ((Below.refl _ _).drew), _, _, _, b1⟩
  case I1 => exact fun W W' ⟨h1, h2, h3, x, y, z, h4⟩ hB => ⟨h1.trans (hB.mono h1.size), bel h2 hB, own_below h3 hB, x, y, z, h4.below hB⟩
  case S1 => exact fun W W' ⟨t, u, h1, h2⟩ hB => ⟨t, u, h1.below hB, h2.below hB⟩
  case steps =>
    intro mk hmk
    simp only [dstsOf, putAll, List.map_cons, List.map_nil, Nat.reduceAdd, Act.put, List.setIfInBounds_toArray, List.set_cons_zero, List.set_cons_succ] at hmk
    refine Steps.cons (i := 0) rfl ?s0 (Steps.cons (i := 1) rfl ?s1 (Steps.cons (i := 2) rfl ?s2 (Steps.cons (i := 3) rfl ?s3 (Steps.cons (i := 4) rfl ?s4 (Steps.cons (i := 5) rfl ?s5 (Steps.cons (i := 6) rfl ?s6 (Steps.cons (i := 7) rfl ?s7 (Steps.store (i := 8) rfl ?s8 (Steps.cons (i := 9) rfl ?s9 (Steps.nil))))))))))
    case s0 =>
      intro σ W hI hT
      obtain ⟨hB, h0, hrow, x, y, z, h2⟩ := hI; have k0 := h0.cell; obtain ⟨c1, c2, c3, c4, c5, c6⟩ := h2.cells
      clear hT
      refine .inl ⟨rfl, fun K hK => ?_⟩
      rw [hmk] at hK ⊢
      simp only [Act.put, List.setIfInBounds_toArray, List.set_cons_zero, List.set_cons_succ] at hK
      have HK := Aside0.mk hK
      clear hK
      go_wp2
      exact HK.out _ _ rfl (Below.refl _ _)
    case s1 =>
      intro σ W hI hT
      obtain ⟨hB, h0, hrow, x, y, z, h2⟩ := hI; have k0 := h0.cell; obtain ⟨c1, c2, c3, c4, c5, c6⟩ := h2.cells
      clear hT
      refine .inl ⟨rfl, fun K hK => ?_⟩
      rw [hmk] at hK ⊢
      simp only [Act.put, List.setIfInBounds_toArray, List.set_cons_zero, List.set_cons_succ] at hK
      have HK := Aside0.mk hK
      clear hK
      go_wp2
      exact HK.out _ _ rfl (Below.refl _ _)
    case s2 =>
      intro σ W hI hT
      obtain ⟨hB, h0, hrow, x, y, z, h2⟩ := hI; have k0 := h0.cell; obtain ⟨c1, c2, c3, c4, c5, c6⟩ := h2.cells
      clear hT
      refine .inl ⟨rfl, fun K hK => ?_⟩
      rw [hmk] at hK ⊢
      simp only [Act.put, List.setIfInBounds_toArray, List.set_cons_zero, List.set_cons_succ] at hK
      have HK := Aside0.mk hK
      clear hK
      go_wp2
      exact HK.out _ _ rfl (Below.refl _ _)
    case s3 =>
      intro σ W hI hT
      obtain ⟨hB, h0, hrow, x, y, z, h2⟩ := hI; have k0 := h0.cell; obtain ⟨c1, c2, c3, c4, c5, c6⟩ := h2.cells
      clear hT
      refine .inl ⟨rfl, fun K hK => ?_⟩
      rw [hmk] at hK ⊢
      simp only [Act.put, List.setIfInBounds_toArray, List.set_cons_zero, List.set_cons_succ] at hK
      have HK := Aside0.mk hK
      clear hK
      go_wp2
      exact HK.out _ _ rfl (Below.refl _ _)
    case s4 =>
      intro σ W hI hT
      obtain ⟨hB, h0, hrow, x, y, z, h2⟩ := hI; have k0 := h0.cell; obtain ⟨c1, c2, c3, c4, c5, c6⟩ := h2.cells
      clear hT
      refine .inl ⟨rfl, fun K hK => ?_⟩
      rw [hmk] at hK ⊢
      simp only [Act.put, List.setIfInBounds_toArray, List.set_cons_zero, List.set_cons_succ] at hK
      have HK := Aside0.mk hK
      clear hK
      go_wp2
      exact HK.out _ _ rfl (Below.refl _ _)
    case s5 =>
      intro σ W hI hT
      obtain ⟨hB, h0, hrow, x, y, z, h2⟩ := hI; have k0 := h0.cell; obtain ⟨c1, c2, c3, c4, c5, c6⟩ := h2.cells
      have e4 : σ 4 = .slice A8 zs.length c8 := hT 4 (by kernel_rfl)
      clear hT
      refine .inl ⟨rfl, fun K hK => ?_⟩
      rw [hmk] at hK ⊢
      simp only [Act.put, List.setIfInBounds_toArray, List.set_cons_zero, List.set_cons_succ] at hK
      rw [e4] at hK ⊢
      clear e4
      have HK := Aside0.mk hK
      clear hK
      have hg := gives_row W hrow
      go_wp2_with (go_at_call 36; refine (values1_any A8 c8 zs W).mono ?_; rintro e w' ⟨rfl, rfl⟩)
      exact HK.out _ _ ⟨_, _, _, rfl, hg.1, hg.2⟩ ((Below.refl _ W).alloc (Nat.le_refl _) _)
    case s6 =>
      intro σ W hI hT
      obtain ⟨hB, h0, hrow, x, y, z, h2⟩ := hI; have k0 := h0.cell; obtain ⟨c1, c2, c3, c4, c5, c6⟩ := h2.cells
      have e2 : σ 2 = .int .i64 n := hT 2 (by kernel_rfl)
      have e3 : σ 3 = .int .i64 rep := hT 3 (by kernel_rfl)
      obtain ⟨g5, l5, D5, e5, f5, _⟩ := hT 5 (by kernel_rfl)
      clear hT
      refine .inl ⟨rfl, fun K hK => ?_⟩
      rw [hmk] at hK ⊢
      simp only [Act.put, List.setIfInBounds_toArray, List.set_cons_zero, List.set_cons_succ] at hK
      rw [e2, e3, e5] at hK ⊢
      clear e2 e3 e5
      have HK := Aside0.mk hK
      clear hK
      have hcon := build_any n rep g5 l5 D5 zs hn0 hn1 hris W f5
      go_wp2_with (go_at_call 37; refine hcon.mono ?_; clear hcon; rintro e w' ⟨t, u, rfl, hw, hb⟩)
      exact HK.out _ _ ⟨_, _, rfl, hw⟩ hb
    case s7 =>
      intro σ W hI hT
      obtain ⟨hB, h0, hrow, x, y, z, h2⟩ := hI; have k0 := h0.cell; obtain ⟨c1, c2, c3, c4, c5, c6⟩ := h2.cells
      have e0 : σ 0 = .int .i64 n := hT 0 (by kernel_rfl)
      have e1 : σ 1 = .int .i64 rep := hT 1 (by kernel_rfl)
      obtain ⟨t6, u6, e6, f6⟩ := hT 6 (by kernel_rfl)
      clear hT
      refine .inl ⟨rfl, fun K hK => ?_⟩
      rw [hmk] at hK ⊢
      simp only [Act.put, List.setIfInBounds_toArray, List.set_cons_zero, List.set_cons_succ] at hK
      rw [e0, e1, e6] at hK ⊢
      clear e0 e1 e6
      have HK := Aside0.mk hK
      clear hK
      go_wp2
      exact HK.out _ _ ⟨_, _, rfl, f6, hris, hn0, hn1⟩ (Below.refl _ _)
    case s8 =>
      intro σ W hI hT
      obtain ⟨hB, h0, hrow, x, y, z, h2⟩ := hI; have k0 := h0.cell; obtain ⟨c1, c2, c3, c4, c5, c6⟩ := h2.cells
      obtain ⟨t7, u7, e7, f7⟩ := hT 7 (by kernel_rfl)
      clear hT
      refine ⟨rfl, fun K hK => ?_⟩
      rw [hmk] at hK ⊢
      simp only [Act.put] at hK
      rw [e7] at hK ⊢
      clear e7
      have HK := Aside0.mk hK
      clear hK
      go_wp2
      exact HK.out undef _ trivial (h2.still _ _ _) ⟨below_set3 hB (by omega) _ _ _, boxed_set3 h0 (by omega) _ _ _, own_still hrow (by decide) (h2.still _ _ _), _, _, _, h2.set _ _ _⟩ ⟨_, _, h2.set _ _ _, f7.still (h2.still _ _ _)⟩
    case s9 =>
      intro σ W hI hT
      obtain ⟨hB, h0, hrow, x, y, z, h2⟩ := hI; have k0 := h0.cell; obtain ⟨c1, c2, c3, c4, c5, c6⟩ := h2.cells
      clear hT
      refine .inl ⟨rfl, fun K hK => ?_⟩
      rw [hmk] at hK ⊢
      simp only [Act.put, List.setIfInBounds_toArray, List.set_cons_zero, List.set_cons_succ] at hK
      have HK := Aside0.mk hK
      clear hK
      go_wp2
      exact HK.out _ _ rfl (Below.refl _ _)
  case done =>
    intro mk hmk σ W hI hS hT
    simp only [dstsOf, putAll, List.map_cons, List.map_nil, Nat.reduceAdd, Act.put, List.setIfInBounds_toArray, List.set_cons_zero, List.set_cons_succ] at hmk
    rw [hmk]
    have e9 : σ 9 = .int .i64 0 := hT 9 (by decide)
    rw [e9]
    clear hT e9
    obtain ⟨t, u, hb, hSS⟩ := hS (by decide)
    go_wp2
    exact bodyPost_ret (results_setE rfl _ _ (w.heap.size + 1) _ _ _ rfl hb) rfl ⟨t, u, rfl, hSS, hI.1⟩
set_option maxRecDepth 100000 in
set_option maxHeartbeats 4000000 in
theorem of_err1 (n rep : Int) (v : Value) (w : World) (hf : fitB n rep = false) : Calls Try.prog 11 #[.int .i64 n, v, .int .i64 rep] w (ErrPost 1 w) := by
  have hu28 := Try.underlying28
  have HB := Aside0.mk (((Below.refl w.heap.size w).alloc (Nat.le_refl _) (.cells #[.int .i64 n] 3)).alloc (by simp) (.cells #[.int .i64 0, .int .i64 0, .nilIface] 28))
  have hs := SBox.new (w.alloc (.cells #[.int .i64 n] 3)) (.int .i64 0) (.int .i64 0) .nilIface
  rw [World.size_alloc] at hs
  have HS := Aside0.mk hs
  clear hs
  have hmay := fun W => may_any rep W
  cases hm : mayB rep with
  | false =>
    rw [hm] at hmay
    clear hm hf
    go_enter Try.func11, Try.ntmps11
    go_wp2_with (go_at_call 31; refine (hmay _).mono ?_; clear hmay; rintro e w' ⟨rfl, rfl⟩)
    exact bodyPost_ret (results_setE rfl _ _ (w.heap.size + 1) _ _ _ rfl HS.out) rfl ⟨rfl, HB.out⟩
  | true =>
    rw [hm] at hmay
    unfold fitB at hf
    rw [hm, Bool.true_and, Bool.and_eq_false_iff, decide_eq_false_iff_not, decide_eq_false_iff_not] at hf
    by_cases h0 : n < 0
    · clear hm hf
      go_enter Try.func11, Try.ntmps11
      go_wp2_with (go_at_call 31; refine (hmay _).mono ?_; clear hmay; rintro e w' ⟨rfl, rfl⟩)
      exact bodyPost_ret (results_setE rfl _ _ (w.heap.size + 1) _ _ _ rfl HS.out) rfl ⟨rfl, HB.out⟩
    · have h0' : 0 ≤ n := by omega
      have h1 : 4096 < n := by omega
      clear hm hf h0
      go_enter Try.func11, Try.ntmps11
      go_wp2_with (go_at_call 31; refine (hmay _).mono ?_; clear hmay; rintro e w' ⟨rfl, rfl⟩)
      exact bodyPost_ret (results_setE rfl _ _ (w.heap.size + 1) _ _ _ rfl HS.out) rfl ⟨rfl, HB.out⟩
set_option maxRecDepth 100000 in
set_option maxHeartbeats 4000000 in
theorem of_err2 (n rep : Int) (A : Option Addr) (c : Nat) (l : List Int) (w : World) (hl : l.length ≤ 1000000000000) (hA : IntArg w A l) (hf : fitB n rep = true) (hin : l.any (outB n) = true) :
    Calls Try.prog 11 #[.int .i64 n, .slice A l.length c, .int .i64 rep] w (ErrPost 2 w) := by
  have hu28 := Try.underlying28
  unfold fitB at hf
  rw [Bool.and_eq_true, Bool.and_eq_true, decide_eq_true_eq, decide_eq_true_eq] at hf
  obtain ⟨⟨hm, hn0⟩, hn1⟩ := hf
  obtain ⟨w0, hw0⟩ : ∃ w0, (w.alloc (.cells #[.int .i64 n] 3)).alloc (.cells #[.int .i64 0, .int .i64 0, .nilIface] 28) = w0 := ⟨_, rfl⟩
  have hB0 : Below w.heap.size w w0 := by rw [← hw0]; exact (((Below.refl _ w).alloc (Nat.le_refl _) _).alloc (by simp) _)
  have b0 : Boxed w0 w.heap.size 3 (.int .i64 n) := by rw [← hw0]; exact (Boxed.new w 3 _).alloc _
  have b1 : SBox w0 (w.heap.size + 1) (.int .i64 0) (.int .i64 0) .nilIface := by
    rw [← hw0]
    have := SBox.new (w.alloc (.cells #[.int .i64 n] 3)) (.int .i64 0) (.int .i64 0) .nilIface
    rwa [World.size_alloc] at this
  have hmay := may_any rep w0
  rw [hm] at hmay
  have hco := out_any n A c w.heap.size l (by omega) w0 (hA.below hB0) b0
  rw [hin] at hco
  have HH := Aside0.mk (And.intro hB0 (And.intro b1 hw0))
  rw [← hw0] at hmay hco
  clear hB0 b0 b1 hw0 hm hin hA
  go_enter Try.func11, Try.ntmps11
  go_wp2_with (first
    | (go_at_call 31; refine hmay.mono ?_; clear hmay; rintro e w' ⟨rfl, rfl⟩)
    | (go_at_call 32; refine hco.mono ?_; clear hco; rintro e w1 ⟨rfl, hb1⟩; rw [HH.out.2.2] at hb1; have b1 := HH.out.2.1.below hb1; obtain ⟨c1, c2, c3, c4, c5, c6⟩ := b1.cells; have HB1 := Aside0.mk hb1; clear hb1))
  have hB := HH.out.1.trans (HB1.out.mono HH.out.1.size)
  exact bodyPost_ret (results_setE rfl _ _ (w.heap.size + 1) _ _ _ rfl (b1.set _ _ _)) rfl ⟨rfl, below_set3 hB (by omega) _ _ _⟩
end Go.Proofs.Ytbjdnfnolhahgaa.F
