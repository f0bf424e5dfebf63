/- Several texts of this session, end to end. -/
import Derived.Laws.EntriesVeiled
import Derived.Test.YtbjdnfnolhahgaaGc
/-! pos.Not, pos.And, pos.Or, and small ones: walks of their code. -/
namespace Go.Proofs.Ytbjdnfnolhahgaa.F
open Go.RowKit Go.Shelf Go.Proofs.YtbjdnfnolhahgaaW.PrintWords
set_option linter.unusedVariables false
/-- Is a number among them? -/
def inZ (zs : List Int) (x : Int) : Bool := decide (x ∈ zs)
set_option maxHeartbeats 1000000 in
theorem not1_any (n rep x : Int) (wv : Value) (zs : List Int) (B : Nat) (w : World) (hS : IsSet w n rep wv zs) (hb : Boxed w B 35 (.func (.func 15) #[setV n rep wv] #[])) :
    Calls Try.prog 41 #[.int .i64 x, .pointer (some ⟨B, 0, none⟩)] w fun e w' => e = .returned (.bool (!inZ zs x)) ∧ Below w.heap.size w w' := by
  have hcon := has_any x n rep wv zs w hS
  have hc := hb.cell
  unfold inZ
  obtain ⟨r, hr⟩ : ∃ r, decide (x ∈ zs) = r := ⟨_, rfl⟩
  rw [hr] at hcon ⊢
  unfold setV at hc hcon
  have he := enters_of Try.func15 (by kernel_rfl) rfl
  clear hr hS hb
  go_enter Try.func41, Try.ntmps41
  go_wp2_with (go_at_call 15; refine hcon.mono ?_; clear hcon; rintro e w' ⟨rfl, hb'⟩)
  go_ret
  exact ⟨rfl, hb'⟩
theorem way_cells {W : World} {wv : Value} {zs : List Int} (h : IsWay W wv zs) : ∀ k, wayBlock wv = some k → ∃ o, W.heap[k]? = some o ∧ o.isCells = true := by
  cases h with
  | nil e z => subst e; intro k hk; cases hk
  | ranges v sps e own z hb hl => subst e; exact own_cells own
  | bitmap v ws e own z hb hl => subst e; exact own_cells own
  | list v e own => subst e; exact own_cells own
theorem holds_not (n rep : Int) (wv : Value) (zs : List Int) (B : Nat) (w : World) (hS : IsSet w n rep wv zs) (hb : Boxed w B 35 (.func (.func 15) #[setV n rep wv] #[])) :
    HoldsF (fun k => wayBlock wv = some k ∨ k = B) 41 #[.pointer (some ⟨B, 0, none⟩)] (fun x => !inZ zs x) w := by
  refine ⟨?_, enters_of Try.func41 (by kernel_rfl) rfl, fun W x hk => ?_⟩
  · rintro k (hk | rfl)
    · exact way_cells hS.way k hk
    · exact ⟨_, hb, rfl⟩
  · exact not1_any n rep x wv zs B W (hS.block (fun k hk' => hk k (.inl hk'))) ((hk B (.inr rfl)).trans hb)
set_option maxRecDepth 100000 in
set_option maxHeartbeats 2000000 in
theorem not_any (n rep : Int) (wv : Value) (zs : List Int) (w : World) (hS : IsSet w n rep wv zs) :
    Calls Try.prog 17 #[setV n rep wv] w (SetPost n rep (filt n (fun x => !inZ zs x)) w) := by
  have hu28 := Try.underlying28
  obtain ⟨w3, hw3⟩ : ∃ w3, ((w.alloc (.cells #[.int .i64 n, .int .i64 rep, wv] 28)).alloc (.cells #[.int .i64 0, .int .i64 0, .nilIface] 28)).alloc (.cells #[.func (.func 15) #[setV n rep wv] #[]] 35) = w3 := ⟨_, rfl⟩
  have hB : Below w.heap.size w w3 := by rw [← hw3]; exact ((((Below.refl _ w).alloc (Nat.le_refl _) _).alloc (by simp) _).alloc (by simp; omega) _)
  have b0 : SBox w3 w.heap.size (.int .i64 n) (.int .i64 rep) wv := by rw [← hw3]; exact ((SBox.new w _ _ _).alloc _).alloc _
  have b1 : SBox w3 (w.heap.size + 1) (.int .i64 0) (.int .i64 0) .nilIface := by
    rw [← hw3]
    have := (SBox.new (w.alloc (.cells #[.int .i64 n, .int .i64 rep, wv] 28)) (.int .i64 0) (.int .i64 0) .nilIface).alloc (.cells #[.func (.func 15) #[setV n rep wv] #[]] 35)
    rwa [World.size_alloc] at this
  have b2 : Boxed w3 (w.heap.size + 1 + 1) 35 (.func (.func 15) #[setV n rep wv] #[]) := by
    rw [← hw3]
    have := Boxed.new ((w.alloc (.cells #[.int .i64 n, .int .i64 rep, wv] 28)).alloc (.cells #[.int .i64 0, .int .i64 0, .nilIface] 28)) 35 (.func (.func 15) #[setV n rep wv] #[])
    rwa [World.size_alloc, World.size_alloc] at this
  have hcon := some_any n rep 41 #[.pointer (some ⟨w.heap.size + 1 + 1, 0, none⟩)] _ (fun x => !inZ zs x) hS.n0 hS.n1 w3 (holds_not n rep wv zs (w.heap.size + 1 + 1) w3 (hS.below hB) b2)
  obtain ⟨c0, c1, c2, _⟩ := b0.cells
  have HH := Aside0.mk (And.intro hB b1)
  rw [← hw3] at hcon c0 c1 c2
  unfold setV at hcon ⊢
  have HW3 := Aside0.mk hw3
  clear hB b0 b1 b2 hS hw3
  unfold setV at HW3
  go_enter Try.func17, Try.ntmps17
  go_wp2_with (go_at_call 40; refine hcon.mono ?_; clear hcon; rintro e w' ⟨t, u, rfl, hs, hb'⟩; unfold setV; have hb3 : Below w3.heap.size w3 w' := HW3.out ▸ hb'; have hb1 := HH.out.2.below hb3; obtain ⟨d0, d1, d2, d3, d4, d5⟩ := hb1.cells)
  have hB := HH.out.1
  refine bodyPost_ret (results_set rfl _ _ (w.heap.size + 1) _ _ _ rfl (hb1.set _ _ _)) rfl ?_
  exact ⟨t, u, rfl, hs.still (hb1.still _ _ _), below_set3 (hB.trans (hb3.mono hB.size)) (by omega) _ _ _⟩
/-- A new set and no error; an error and no set. -/
def SetPostE (n rep : Int) (zs : List Int) (w : World) (e : Ending) (w' : World) : Prop := ∃ t u, e = .returned (.tuple #[setV n rep (.iface t u), .int .i64 0]) ∧ IsSet w' n rep (.iface t u) zs ∧ Below w.heap.size w w'
def ErrPost (err : Int) (w : World) (e : Ending) (w' : World) : Prop := e = .returned (.tuple #[setV 0 0 .nilIface, .int .i64 err]) ∧ Below w.heap.size w w'
theorem results_setE {fn : Func} {p q : Tmp} (h : fn.results = #[.cell p 28, .tmp q]) (tmps : Array Value) (w : World) (B : Nat) (x y z : Value) (hp : tmps.getD p undef = .pointer (some ⟨B, 0, none⟩)) (hb : SBox w B x y z) :
    (results fn tmps).run Try.prog w = .ok (.tuple #[.agg #[x, y, z], tmps.getD q undef]) w := by
  obtain ⟨c0, c1, c2, _⟩ := hb.cells
  have hu28 := Try.underlying28
  have hp' : tmps[p]?.getD undef = .pointer (some ⟨B, 0, none⟩) := by simpa using hp
  simp [results, h, go_sem, hp', c0, c1, c2]
set_option maxRecDepth 100000 in
set_option maxHeartbeats 1000000 in
theorem and1_any (na ra nb rb x : Int) (va vb : Value) (za zb : List Int) (A B C : Nat) (w : World) (hA : IsSet w na ra va za) (hBs : IsSet w nb rb vb zb) (ba : SBox w A (.int .i64 na) (.int .i64 ra) va) (bb : SBox w B (.int .i64 nb) (.int .i64 rb) vb) (bc : Boxed w C 70 (.func (.func 15) #[] #[])) :
    Calls Try.prog 42 #[.int .i64 x, .pointer (some ⟨C, 0, none⟩), .pointer (some ⟨A, 0, none⟩), .pointer (some ⟨B, 0, none⟩)] w fun e w' => e = .returned (.bool (inZ za x && inZ zb x)) ∧ Below w.heap.size w w' := by
  have hu28 := Try.underlying28
  have h1 := has_any x na ra va za w hA
  obtain ⟨a0, a1, a2, _⟩ := ba.cells
  obtain ⟨b0, b1, b2, _⟩ := bb.cells
  have hc := bc.cell
  unfold setV at h1
  have he := enters_of Try.func15 (by kernel_rfl) rfl
  cases hr : decide (x ∈ za) with
  | false =>
    have HQ : Aside0 ((inZ za x && inZ zb x) = false) := ⟨by unfold inZ; rw [hr]; rfl⟩
    rw [hr] at h1
    clear hr hA hBs ba bb bc
    go_enter Try.func42, Try.ntmps42
    go_wp2_with (go_at_call 15; refine h1.mono ?_; clear h1; rintro e w' ⟨rfl, hb'⟩)
    go_ret
    exact ⟨by rw [HQ.out]; rfl, hb'⟩
  | true =>
    have HQ : Aside0 ((inZ za x && inZ zb x) = decide (x ∈ zb)) := ⟨by unfold inZ; rw [hr]; rfl⟩
    rw [hr] at h1
    have h2 : ∀ w', Below w.heap.size w w' → Calls Try.prog 15 #[.agg #[.int .i64 nb, .int .i64 rb, vb], .int .i64 x] w' fun e w2 => e = .returned (.bool (decide (x ∈ zb))) ∧ Below w'.heap.size w' w2 := fun w' hb => has_any x nb rb vb zb w' (hBs.below hb)
    have HK := Aside0.mk (And.intro bb bc)
    obtain ⟨r, hr2⟩ : ∃ r, decide (x ∈ zb) = r := ⟨_, rfl⟩
    rw [hr2] at HQ
    simp only [hr2] at h2
    have H2 := Aside0.mk h2
    clear hr hr2 h2 hA hBs ba bb bc
    go_enter Try.func42, Try.ntmps42
    go_wp2_with (first
      | (go_at_call 15; refine h1.mono ?_; clear h1; rintro e w' ⟨rfl, hb'⟩; obtain ⟨d0, d1, d2, _⟩ := (HK.out.1.below hb').cells; have d3 := (bel HK.out.2 hb').cell; have h3 := H2.out w' hb'; clear H2 HK)
      | (go_at_call 15; refine h3.mono ?_; clear h3; rintro e w2 ⟨rfl, hb2⟩))
    go_ret
    exact ⟨by rw [HQ.out]; rfl, hb'.trans (hb2.mono hb'.size)⟩
set_option maxRecDepth 100000 in
set_option maxHeartbeats 1000000 in
theorem or1_any (na ra nb rb x : Int) (va vb : Value) (za zb : List Int) (A B : Nat) (w : World) (hA : IsSet w na ra va za) (hBs : IsSet w nb rb vb zb) (ba : SBox w A (.int .i64 na) (.int .i64 ra) va) (bb : SBox w B (.int .i64 nb) (.int .i64 rb) vb) :
    Calls Try.prog 43 #[.int .i64 x, .pointer (some ⟨A, 0, none⟩), .pointer (some ⟨B, 0, none⟩)] w fun e w' => e = .returned (.bool (inZ za x || inZ zb x)) ∧ Below w.heap.size w w' := by
  have hu28 := Try.underlying28
  have h1 := has_any x na ra va za w hA
  obtain ⟨a0, a1, a2, _⟩ := ba.cells
  obtain ⟨b0, b1, b2, _⟩ := bb.cells
  unfold setV at h1
  cases hr : decide (x ∈ za) with
  | true =>
    have HQ : Aside0 ((inZ za x || inZ zb x) = true) := ⟨by unfold inZ; rw [hr]; rfl⟩
    rw [hr] at h1
    clear hr hA hBs ba bb
    go_enter Try.func43, Try.ntmps43
    go_wp2_with (go_at_call 15; refine h1.mono ?_; clear h1; rintro e w' ⟨rfl, hb'⟩)
    go_ret
    exact ⟨by rw [HQ.out]; rfl, hb'⟩
  | false =>
    have HQ : Aside0 ((inZ za x || inZ zb x) = decide (x ∈ zb)) := ⟨by unfold inZ; rw [hr]; rfl⟩
    rw [hr] at h1
    have h2 : ∀ w', Below w.heap.size w w' → Calls Try.prog 15 #[.agg #[.int .i64 nb, .int .i64 rb, vb], .int .i64 x] w' fun e w2 => e = .returned (.bool (decide (x ∈ zb))) ∧ Below w'.heap.size w' w2 := fun w' hb => has_any x nb rb vb zb w' (hBs.below hb)
    have HK := Aside0.mk bb
    obtain ⟨r, hr2⟩ : ∃ r, decide (x ∈ zb) = r := ⟨_, rfl⟩
    rw [hr2] at HQ
    simp only [hr2] at h2
    have H2 := Aside0.mk h2
    clear hr hr2 h2 hA hBs ba bb
    go_enter Try.func43, Try.ntmps43
    go_wp2_with (first
      | (go_at_call 15; refine h1.mono ?_; clear h1; rintro e w' ⟨rfl, hb'⟩; obtain ⟨d0, d1, d2, _⟩ := (HK.out.below hb').cells; have h3 := H2.out w' hb'; clear H2 HK)
      | (go_at_call 15; refine h3.mono ?_; clear h3; rintro e w2 ⟨rfl, hb2⟩))
    go_ret
    exact ⟨by rw [HQ.out]; rfl, hb'.trans (hb2.mono hb'.size)⟩
theorem holds_and (na ra nb rb : Int) (va vb : Value) (za zb : List Int) (A B C : Nat) (w : World) (hA : IsSet w na ra va za) (hBs : IsSet w nb rb vb zb) (ba : SBox w A (.int .i64 na) (.int .i64 ra) va) (bb : SBox w B (.int .i64 nb) (.int .i64 rb) vb) (bc : Boxed w C 70 (.func (.func 15) #[] #[])) :
    HoldsF (fun k => wayBlock va = some k ∨ wayBlock vb = some k ∨ k = A ∨ k = B ∨ k = C) 42 #[.pointer (some ⟨C, 0, none⟩), .pointer (some ⟨A, 0, none⟩), .pointer (some ⟨B, 0, none⟩)] (fun x => inZ za x && inZ zb x) w := by
  refine ⟨?_, enters_of Try.func42 (by kernel_rfl) rfl, fun W x hk => ?_⟩
  · rintro k (hk | hk | rfl | rfl | rfl)
    · exact way_cells hA.way k hk
    · exact way_cells hBs.way k hk
    · exact ⟨_, ba, rfl⟩
    · exact ⟨_, bb, rfl⟩
    · exact ⟨_, bc, rfl⟩
  · exact and1_any na ra nb rb x va vb za zb A B C W (hA.block (fun k h => hk k (.inl h))) (hBs.block (fun k h => hk k (.inr (.inl h)))) ((hk A (.inr (.inr (.inl rfl)))).trans ba) ((hk B (.inr (.inr (.inr (.inl rfl))))).trans bb) ((hk C (.inr (.inr (.inr (.inr rfl))))).trans bc)
theorem holds_or (na ra nb rb : Int) (va vb : Value) (za zb : List Int) (A B : Nat) (w : World) (hA : IsSet w na ra va za) (hBs : IsSet w nb rb vb zb) (ba : SBox w A (.int .i64 na) (.int .i64 ra) va) (bb : SBox w B (.int .i64 nb) (.int .i64 rb) vb) :
    HoldsF (fun k => wayBlock va = some k ∨ wayBlock vb = some k ∨ k = A ∨ k = B) 43 #[.pointer (some ⟨A, 0, none⟩), .pointer (some ⟨B, 0, none⟩)] (fun x => inZ za x || inZ zb x) w := by
  refine ⟨?_, enters_of Try.func43 (by kernel_rfl) rfl, fun W x hk => ?_⟩
  · rintro k (hk | hk | rfl | rfl)
    · exact way_cells hA.way k hk
    · exact way_cells hBs.way k hk
    · exact ⟨_, ba, rfl⟩
    · exact ⟨_, bb, rfl⟩
  · exact or1_any na ra nb rb x va vb za zb A B W (hA.block (fun k h => hk k (.inl h))) (hBs.block (fun k h => hk k (.inr (.inl h)))) ((hk A (.inr (.inr (.inl rfl)))).trans ba) ((hk B (.inr (.inr (.inr rfl)))).trans bb)
end Go.Proofs.Ytbjdnfnolhahgaa.F

/-! pos.And, pos.Or, and small ones: walks of their code. -/
namespace Go.Proofs.Ytbjdnfnolhahgaa.F
open Go.RowKit Go.Shelf Go.Proofs.YtbjdnfnolhahgaaW.PrintWords
set_option linter.unusedVariables false
set_option maxRecDepth 100000 in
set_option maxHeartbeats 4000000 in
theorem and_any (n ra rb : Int) (va vb : Value) (za zb : List Int) (w : World) (hA : IsSet w n ra va za) (hBs : IsSet w n rb vb zb) :
    Calls Try.prog 19 #[setV n ra va, setV n rb vb] w (SetPostE n ra (filt n (fun x => inZ za x && inZ zb x)) w) := by
  have hu28 := Try.underlying28
  obtain ⟨w4, hw4⟩ : ∃ w4, ((((w.alloc (.cells #[.int .i64 n, .int .i64 ra, va] 28)).alloc (.cells #[.int .i64 n, .int .i64 rb, vb] 28)).alloc (.cells #[.int .i64 0, .int .i64 0, .nilIface] 28)).alloc (.cells #[.func (.func 15) #[] #[]] 70)) = w4 := ⟨_, rfl⟩
  have hB : Below w.heap.size w w4 := by rw [← hw4]; exact (((((Below.refl _ w).alloc (Nat.le_refl _) _).alloc (by simp) _).alloc (by simp; omega) _).alloc (by simp; omega) _)
  have b0 : SBox w4 w.heap.size (.int .i64 n) (.int .i64 ra) va := by rw [← hw4]; exact ((((SBox.new w _ _ _).alloc _).alloc _).alloc _)
  have b1 : SBox w4 (w.heap.size + 1) (.int .i64 n) (.int .i64 rb) vb := by
    rw [← hw4]
    have := (SBox.new (w.alloc (.cells #[.int .i64 n, .int .i64 ra, va] 28)) (.int .i64 n) (.int .i64 rb) vb)
    rw [World.size_alloc] at this
    exact ((this.alloc _).alloc _)
  have b2 : SBox w4 (w.heap.size + 1 + 1) (.int .i64 0) (.int .i64 0) .nilIface := by
    rw [← hw4]
    have := SBox.new ((w.alloc (.cells #[.int .i64 n, .int .i64 ra, va] 28)).alloc (.cells #[.int .i64 n, .int .i64 rb, vb] 28)) (.int .i64 0) (.int .i64 0) .nilIface
    rw [World.size_alloc, World.size_alloc] at this
    exact (this.alloc _)
  have bh : Boxed w4 (w.heap.size + 1 + 1 + 1) 70 (.func (.func 15) #[] #[]) := by
    rw [← hw4]
    have := Boxed.new (((w.alloc (.cells #[.int .i64 n, .int .i64 ra, va] 28)).alloc (.cells #[.int .i64 n, .int .i64 rb, vb] 28)).alloc (.cells #[.int .i64 0, .int .i64 0, .nilIface] 28)) 70 (.func (.func 15) #[] #[])
    rwa [World.size_alloc, World.size_alloc, World.size_alloc] at this
  have hcon := some_any n ra 42 #[.pointer (some ⟨w.heap.size + 1 + 1 + 1, 0, none⟩), .pointer (some ⟨w.heap.size, 0, none⟩), .pointer (some ⟨w.heap.size + 1, 0, none⟩)] _ (fun x => inZ za x && inZ zb x) hA.n0 hA.n1 w4 (holds_and n ra n rb va vb za zb _ _ _ w4 (hA.below hB) (hBs.below hB) b0 b1 bh)
  have HH := Aside0.mk (And.intro hB b2)
  rw [← hw4] at hcon
  unfold setV
  have HW4 := Aside0.mk hw4
  clear hB b0 b1 b2 bh hA hBs hw4
  go_enter Try.func19, Try.ntmps19
  go_wp2_with (go_at_call 40; refine hcon.mono ?_; clear hcon; rintro e w' ⟨t, u, rfl, hs, hb'⟩; unfold setV; have hb3 : Below w4.heap.size w4 w' := HW4.out ▸ hb'; have hb1 := HH.out.2.below hb3; obtain ⟨d0, d1, d2, d3, d4, d5⟩ := hb1.cells)
  have hB := HH.out.1
  refine bodyPost_ret (results_setE rfl _ _ (w.heap.size + 1 + 1) _ _ _ rfl (hb1.set _ _ _)) rfl ?_
  exact ⟨t, u, rfl, hs.still (hb1.still _ _ _), below_set3 (hB.trans (hb3.mono hB.size)) (by omega) _ _ _⟩
set_option maxRecDepth 100000 in
set_option maxHeartbeats 4000000 in
theorem and_err (na nb ra rb : Int) (va vb : Value) (w : World) (hne : na ≠ nb) : Calls Try.prog 19 #[setV na ra va, setV nb rb vb] w (ErrPost 1 w) := by
  have hu28 := Try.underlying28
  have h1 : (na != nb) = true := by simpa using hne
  unfold setV
  have HB := Aside0.mk ((((Below.refl w.heap.size w).alloc (Nat.le_refl _) (.cells #[.int .i64 na, .int .i64 ra, va] 28)).alloc (by simp) (.cells #[.int .i64 nb, .int .i64 rb, vb] 28)).alloc (by simp; omega) (.cells #[.int .i64 0, .int .i64 0, .nilIface] 28))
  have HS := Aside0.mk (SBox.new ((w.alloc (.cells #[.int .i64 na, .int .i64 ra, va] 28)).alloc (.cells #[.int .i64 nb, .int .i64 rb, vb] 28)) (.int .i64 0) (.int .i64 0) .nilIface)
  clear hne
  go_enter Try.func19, Try.ntmps19
  go_wp2
  have h := HS.out
  rw [World.size_alloc, World.size_alloc] at h
  refine bodyPost_ret (results_setE rfl _ _ (w.heap.size + 1 + 1) _ _ _ rfl h) rfl ?_
  exact ⟨rfl, HB.out⟩
set_option maxRecDepth 100000 in
set_option maxHeartbeats 4000000 in
theorem or_any (n ra rb : Int) (va vb : Value) (za zb : List Int) (w : World) (hA : IsSet w n ra va za) (hBs : IsSet w n rb vb zb) :
    Calls Try.prog 20 #[setV n ra va, setV n rb vb] w (SetPostE n ra (filt n (fun x => inZ za x || inZ zb x)) w) := by
  have hu28 := Try.underlying28
  obtain ⟨w4, hw4⟩ : ∃ w4, (((w.alloc (.cells #[.int .i64 n, .int .i64 ra, va] 28)).alloc (.cells #[.int .i64 n, .int .i64 rb, vb] 28)).alloc (.cells #[.int .i64 0, .int .i64 0, .nilIface] 28)) = w4 := ⟨_, rfl⟩
  have hB : Below w.heap.size w w4 := by rw [← hw4]; exact ((((Below.refl _ w).alloc (Nat.le_refl _) _).alloc (by simp) _).alloc (by simp; omega) _)
  have b0 : SBox w4 w.heap.size (.int .i64 n) (.int .i64 ra) va := by rw [← hw4]; exact (((SBox.new w _ _ _).alloc _).alloc _)
  have b1 : SBox w4 (w.heap.size + 1) (.int .i64 n) (.int .i64 rb) vb := by
    rw [← hw4]
    have := (SBox.new (w.alloc (.cells #[.int .i64 n, .int .i64 ra, va] 28)) (.int .i64 n) (.int .i64 rb) vb)
    rw [World.size_alloc] at this
    exact (this.alloc _)
  have b2 : SBox w4 (w.heap.size + 1 + 1) (.int .i64 0) (.int .i64 0) .nilIface := by
    rw [← hw4]
    have := SBox.new ((w.alloc (.cells #[.int .i64 n, .int .i64 ra, va] 28)).alloc (.cells #[.int .i64 n, .int .i64 rb, vb] 28)) (.int .i64 0) (.int .i64 0) .nilIface
    rw [World.size_alloc, World.size_alloc] at this
    exact this
  have hcon := some_any n ra 43 #[.pointer (some ⟨w.heap.size, 0, none⟩), .pointer (some ⟨w.heap.size + 1, 0, none⟩)] _ (fun x => inZ za x || inZ zb x) hA.n0 hA.n1 w4 (holds_or n ra n rb va vb za zb _ _ w4 (hA.below hB) (hBs.below hB) b0 b1)
  have HH := Aside0.mk (And.intro hB b2)
  rw [← hw4] at hcon
  unfold setV
  have HW4 := Aside0.mk hw4
  clear hB b0 b1 b2 hA hBs hw4
  go_enter Try.func20, Try.ntmps20
  go_wp2_with (go_at_call 40; refine hcon.mono ?_; clear hcon; rintro e w' ⟨t, u, rfl, hs, hb'⟩; unfold setV; have hb3 : Below w4.heap.size w4 w' := HW4.out ▸ hb'; have hb1 := HH.out.2.below hb3; obtain ⟨d0, d1, d2, d3, d4, d5⟩ := hb1.cells)
  have hB := HH.out.1
  refine bodyPost_ret (results_setE rfl _ _ (w.heap.size + 1 + 1) _ _ _ rfl (hb1.set _ _ _)) rfl ?_
  exact ⟨t, u, rfl, hs.still (hb1.still _ _ _), below_set3 (hB.trans (hb3.mono hB.size)) (by omega) _ _ _⟩
set_option maxRecDepth 100000 in
set_option maxHeartbeats 4000000 in
theorem or_err (na nb ra rb : Int) (va vb : Value) (w : World) (hne : na ≠ nb) : Calls Try.prog 20 #[setV na ra va, setV nb rb vb] w (ErrPost 1 w) := by
  have hu28 := Try.underlying28
  have h1 : (na != nb) = true := by simpa using hne
  unfold setV
  have HB := Aside0.mk ((((Below.refl w.heap.size w).alloc (Nat.le_refl _) (.cells #[.int .i64 na, .int .i64 ra, va] 28)).alloc (by simp) (.cells #[.int .i64 nb, .int .i64 rb, vb] 28)).alloc (by simp; omega) (.cells #[.int .i64 0, .int .i64 0, .nilIface] 28))
  have HS := Aside0.mk (SBox.new ((w.alloc (.cells #[.int .i64 na, .int .i64 ra, va] 28)).alloc (.cells #[.int .i64 nb, .int .i64 rb, vb] 28)) (.int .i64 0) (.int .i64 0) .nilIface)
  clear hne
  go_enter Try.func20, Try.ntmps20
  go_wp2
  have h := HS.out
  rw [World.size_alloc, World.size_alloc] at h
  refine bodyPost_ret (results_setE rfl _ _ (w.heap.size + 1 + 1) _ _ _ rfl h) rfl ?_
  exact ⟨rfl, HB.out⟩
set_option maxHeartbeats 1000000 in
theorem len_any (n rep : Int) (wv : Value) (w : World) : Calls Try.prog 18 #[setV n rep wv] w fun e w' => e = .returned (.int .i64 n) ∧ Below w.heap.size w w' := by
  have hu28 := Try.underlying28
  have HB := Aside0.mk ((Below.refl w.heap.size w).alloc (Nat.le_refl _) (.cells #[.int .i64 n, .int .i64 rep, wv] 28))
  unfold setV
  go_enter Try.func18, Try.ntmps18
  go_wp2
  go_ret
  exact ⟨rfl, HB.out⟩
set_option maxHeartbeats 1000000 in
theorem rep_any (n rep : Int) (wv : Value) (w : World) : Calls Try.prog 27 #[setV n rep wv] w fun e w' => e = .returned (.int .i64 rep) ∧ Below w.heap.size w w' := by
  have hu28 := Try.underlying28
  have HB := Aside0.mk ((Below.refl w.heap.size w).alloc (Nat.le_refl _) (.cells #[.int .i64 n, .int .i64 rep, wv] 28))
  unfold setV
  go_enter Try.func27, Try.ntmps27
  go_wp2
  go_ret
  exact ⟨rfl, HB.out⟩
/-- Is there a way? -/
def mayB (rep : Int) : Bool := decide (1 ≤ rep) && decide (rep ≤ 3)
set_option maxHeartbeats 1000000 in
theorem may_any (rep : Int) (w : World) : Calls Try.prog 31 #[.int .i64 rep] w fun e w' => e = .returned (.bool (mayB rep)) ∧ w = w' := by
  by_cases h1 : 1 ≤ rep
  · have HQ : Aside0 (mayB rep = decide (rep ≤ 3)) := ⟨by unfold mayB; rw [decide_eq_true h1, Bool.true_and]⟩
    go_enter Try.func31, Try.ntmps31
    go_wp2
    go_ret
    exact ⟨by rw [HQ.out]; rfl, rfl⟩
  · have HQ : Aside0 (mayB rep = false) := ⟨by unfold mayB; rw [decide_eq_false h1, Bool.false_and]⟩
    have h1' : rep < 1 := by omega
    clear h1
    go_enter Try.func31, Try.ntmps31
    go_wp2
    go_ret
    exact ⟨by rw [HQ.out]; rfl, rfl⟩
end Go.Proofs.Ytbjdnfnolhahgaa.F

/-! pos.All: a walk of its code. -/
namespace Go.Proofs.Ytbjdnfnolhahgaa.F
open Go.RowKit Go.Shelf Go.Proofs.YtbjdnfnolhahgaaW.PrintWords
set_option linter.unusedVariables false
/-- Are number and way as a set may have them? -/
def fitB (n rep : Int) : Bool := mayB rep && decide (0 ≤ n) && decide (n ≤ 4096)
set_option maxRecDepth 100000 in
set_option maxHeartbeats 2000000 in
theorem all_any (n rep : Int) (w : World) (hf : fitB n rep = true) : Calls Try.prog 16 #[.int .i64 n, .int .i64 rep] w (SetPostE n rep (filt n (fun _ => true)) w) := by
  have hu28 := Try.underlying28
  unfold fitB at hf
  rw [Bool.and_eq_true, Bool.and_eq_true, decide_eq_true_eq, decide_eq_true_eq] at hf
  obtain ⟨⟨hm, hn0⟩, hn1⟩ := hf
  obtain ⟨w1, hw1⟩ : ∃ w1, w.alloc (.cells #[.int .i64 0, .int .i64 0, .nilIface] 28) = w1 := ⟨_, rfl⟩
  have hB : Below w.heap.size w w1 := by rw [← hw1]; exact (Below.refl _ w).alloc (Nat.le_refl _) _
  have b0 : SBox w1 w.heap.size (.int .i64 0) (.int .i64 0) .nilIface := by rw [← hw1]; exact SBox.new w _ _ _
  have hS : IsSet w1 n rep (.iface 68 (.slice none 0 0)) [] := ⟨.list (.slice none 0 0) rfl (World.ownsRow_nil _ _ _ _), ⟨List.Pairwise.nil, fun x hx => (by cases hx)⟩, hn0, hn1⟩
  have hcon := not_any n rep (.iface 68 (.slice none 0 0)) [] w1 hS
  rw [show filt n (fun x => !inZ [] x) = filt n (fun _ => true) from filt_congr (fun x _ _ => by simp [inZ])] at hcon
  have hmay := may_any rep w1
  rw [hm] at hmay
  have HH := Aside0.mk (And.intro hB b0)
  rw [← hw1] at hcon hmay
  unfold setV at hcon
  have HW1 := Aside0.mk hw1
  clear hB b0 hS hw1 hm
  go_enter Try.func16, Try.ntmps16
  go_wp2_with (first
    | (go_at_call 31; refine hmay.mono ?_; clear hmay; rintro e w' ⟨rfl, rfl⟩)
    | (go_at_call 17; refine hcon.mono ?_; clear hcon; rintro e w' ⟨t, u, rfl, hs, hb'⟩; unfold setV; have hb3 : Below w1.heap.size w1 w' := HW1.out ▸ hb'; have hb1 := HH.out.2.below hb3; obtain ⟨d0, d1, d2, d3, d4, d5⟩ := hb1.cells))
  have hB := HH.out.1
  refine bodyPost_ret (results_setE rfl _ _ w.heap.size _ _ _ rfl (hb1.set _ _ _)) rfl ?_
  exact ⟨t, u, rfl, hs.still (hb1.still _ _ _), below_set3 (hB.trans (hb3.mono hB.size)) (by omega) _ _ _⟩
set_option maxRecDepth 100000 in
set_option maxHeartbeats 2000000 in
theorem all_err (n rep : Int) (w : World) (hf : fitB n rep = false) : Calls Try.prog 16 #[.int .i64 n, .int .i64 rep] w (ErrPost 1 w) := by
  have hu28 := Try.underlying28
  have HB := Aside0.mk ((Below.refl w.heap.size w).alloc (Nat.le_refl _) (.cells #[.int .i64 0, .int .i64 0, .nilIface] 28))
  have HS := Aside0.mk (SBox.new w (.int .i64 0) (.int .i64 0) .nilIface)
  have hmay := fun W => may_any rep W
  cases hm : mayB rep with
  | false =>
    rw [hm] at hmay
    clear hm hf
    go_enter Try.func16, Try.ntmps16
    go_wp2_with (go_at_call 31; refine (hmay _).mono ?_; clear hmay; rintro e w' ⟨rfl, rfl⟩)
    exact bodyPost_ret (results_setE rfl _ _ w.heap.size _ _ _ rfl HS.out) rfl ⟨rfl, HB.out⟩
  | true =>
    rw [hm] at hmay
    unfold fitB at hf
    rw [hm, Bool.true_and, Bool.and_eq_false_iff, decide_eq_false_iff_not, decide_eq_false_iff_not] at hf
    by_cases h0 : n < 0
    · clear hm hf
      go_enter Try.func16, Try.ntmps16
      go_wp2_with (go_at_call 31; refine (hmay _).mono ?_; clear hmay; rintro e w' ⟨rfl, rfl⟩)
      exact bodyPost_ret (results_setE rfl _ _ w.heap.size _ _ _ rfl HS.out) rfl ⟨rfl, HB.out⟩
    · have h0' : 0 ≤ n := by omega
      have h1 : 4096 < n := by omega
      clear hm hf h0
      go_enter Try.func16, Try.ntmps16
      go_wp2_with (go_at_call 31; refine (hmay _).mono ?_; clear hmay; rintro e w' ⟨rfl, rfl⟩)
      exact bodyPost_ret (results_setE rfl _ _ w.heap.size _ _ _ rfl HS.out) rfl ⟨rfl, HB.out⟩
end Go.Proofs.Ytbjdnfnolhahgaa.F

/-! pos.To: a walk of its code. -/
namespace Go.Proofs.Ytbjdnfnolhahgaa.F
open Go.RowKit Go.Shelf Go.Proofs.YtbjdnfnolhahgaaW.PrintWords
set_option linter.unusedVariables false
set_option maxRecDepth 100000 in
set_option maxHeartbeats 4000000 in
theorem to_any (n rep tw : Int) (wv : Value) (zs : List Int) (w : World) (hS : IsSet w n rep wv zs) (hm : mayB tw = true) : Calls Try.prog 25 #[setV n rep wv, .int .i64 tw] w (SetPostE n tw zs w) := by
  have hu28 := Try.underlying28
  obtain ⟨w0, hw0⟩ : ∃ w0, (w.alloc (.cells #[.int .i64 n, .int .i64 rep, wv] 28)).alloc (.cells #[.int .i64 0, .int .i64 0, .nilIface] 28) = w0 := ⟨_, rfl⟩
  have hB0 : Below w.heap.size w w0 := by rw [← hw0]; exact (((Below.refl _ w).alloc (Nat.le_refl _) _).alloc (by simp) _)
  have b0 : SBox w0 w.heap.size (.int .i64 n) (.int .i64 rep) wv := by rw [← hw0]; exact (SBox.new w _ _ _).alloc _
  have b1 : SBox w0 (w.heap.size + 1) (.int .i64 0) (.int .i64 0) .nilIface := by
    rw [← hw0]
    have := SBox.new (w.alloc (.cells #[.int .i64 n, .int .i64 rep, wv] 28)) (.int .i64 0) (.int .i64 0) .nilIface
    rwa [World.size_alloc] at this
  have hS0 := hS.below hB0
  have hmay := may_any tw w0
  rw [hm] at hmay
  have HH := Aside0.mk (And.intro hB0 (And.intro b0 (And.intro b1 (And.intro hS0 hw0))))
  rw [← hw0] at hmay
  unfold setV
  clear hB0 b0 b1 hS0 hw0 hS hm
  go_enter Try.func25, Try.ntmps25
  go_wp2_with (go_at_call 31; refine hmay.mono ?_; clear hmay; rintro e w' ⟨rfl, rfl⟩)
  obtain ⟨hB0, b0, b1, hS0, hw0⟩ := HH.out
  rw [hw0]
  clear hw0 HH
  refine wp_region_still (t := 28) (by kernel_rfl) [Fact.eq (.pointer (some ⟨w.heap.size, 0, none⟩)), Fact.eq (.int .i64 n), Fact.eq (.int .i64 tw), Fact.eq (.pointer (some ⟨w.heap.size, 0, none⟩)), Fact.eq (.int .i64 n), Fact.eq (.int .i64 tw), Fact.eq (.agg #[.int .i64 n, .int .i64 rep, wv]), Fact.gives zs, Fact.way zs, Fact.set n tw zs, Fact.top, Fact.eq (.int .i64 0)]
    (fun W => Below w.heap.size w W ∧ SBox W w.heap.size (.int .i64 n) (.int .i64 rep) wv ∧ IsSet W n rep wv zs ∧ ∃ x y z, SBox W (w.heap.size + 1) x y z)
    (fun W => ∃ t u, SBox W (w.heap.size + 1) (.int .i64 n) (.int .i64 tw) (.iface t u) ∧ IsSet W n tw (.iface t u) zs) 10 (by kernel_rfl) (by kernel_rfl) ?I0 ?I1 ?S1 ?steps ?done
  case I0 => exact ⟨hB0.drew, b0, hS0.below ((Below.refl _ _).drew), _, _, _, b1⟩
  case I1 => exact fun W W' ⟨h1, h2, h3, x, y, z, h4⟩ hB => ⟨h1.trans (hB.mono h1.size), h2.below hB, h3.below hB, x, y, z, h4.below hB⟩
  case S1 => exact fun W W' ⟨t, u, h1, h2⟩ hB => ⟨t, u, h1.below hB, h2.below hB⟩
  case steps =>
    intro mk hmk
    simp only [dstsOf, putAll, List.map_cons, List.map_nil, Nat.reduceAdd, Act.put, List.setIfInBounds_toArray, List.set_cons_zero, List.set_cons_succ] at hmk
    refine Steps.cons (i := 0) rfl ?s0 (Steps.cons (i := 1) rfl ?s1 (Steps.cons (i := 2) rfl ?s2 (Steps.cons (i := 3) rfl ?s3 (Steps.cons (i := 4) rfl ?s4 (Steps.cons (i := 5) rfl ?s5 (Steps.cons (i := 6) rfl ?s6 (Steps.cons (i := 7) rfl ?s7 (Steps.cons (i := 8) rfl ?s8 (Steps.cons (i := 9) rfl ?s9 (Steps.store (i := 10) rfl ?s10 (Steps.cons (i := 11) rfl ?s11 (Steps.nil))))))))))))
    case s0 =>
      intro σ W hI hT
      obtain ⟨hB, h0, hS, x, y, z, h2⟩ := hI; obtain ⟨k0, k1, k2, _⟩ := h0.cells; obtain ⟨c1, c2, c3, c4, c5, c6⟩ := h2.cells
      clear hT
      refine .inl ⟨rfl, fun K hK => ?_⟩
      rw [hmk] at hK ⊢
      simp only [Act.put, List.setIfInBounds_toArray, List.set_cons_zero, List.set_cons_succ] at hK
      have HK := Aside0.mk hK
      clear hK
      go_wp2
      exact HK.out _ _ rfl (Below.refl _ _)
    case s1 =>
      intro σ W hI hT
      obtain ⟨hB, h0, hS, x, y, z, h2⟩ := hI; obtain ⟨k0, k1, k2, _⟩ := h0.cells; obtain ⟨c1, c2, c3, c4, c5, c6⟩ := h2.cells
      have e0 : σ 0 = .pointer (some ⟨w.heap.size, 0, none⟩) := hT 0 (by kernel_rfl)
      clear hT
      refine .inl ⟨rfl, fun K hK => ?_⟩
      rw [hmk] at hK ⊢
      simp only [Act.put, List.setIfInBounds_toArray, List.set_cons_zero, List.set_cons_succ] at hK
      rw [e0] at hK ⊢
      clear e0
      have HK := Aside0.mk hK
      clear hK
      go_wp2
      exact HK.out _ _ rfl (Below.refl _ _)
    case s2 =>
      intro σ W hI hT
      obtain ⟨hB, h0, hS, x, y, z, h2⟩ := hI; obtain ⟨k0, k1, k2, _⟩ := h0.cells; obtain ⟨c1, c2, c3, c4, c5, c6⟩ := h2.cells
      clear hT
      refine .inl ⟨rfl, fun K hK => ?_⟩
      rw [hmk] at hK ⊢
      simp only [Act.put, List.setIfInBounds_toArray, List.set_cons_zero, List.set_cons_succ] at hK
      have HK := Aside0.mk hK
      clear hK
      go_wp2
      exact HK.out _ _ rfl (Below.refl _ _)
    case s3 =>
      intro σ W hI hT
      obtain ⟨hB, h0, hS, x, y, z, h2⟩ := hI; obtain ⟨k0, k1, k2, _⟩ := h0.cells; obtain ⟨c1, c2, c3, c4, c5, c6⟩ := h2.cells
      clear hT
      refine .inl ⟨rfl, fun K hK => ?_⟩
      rw [hmk] at hK ⊢
      simp only [Act.put, List.setIfInBounds_toArray, List.set_cons_zero, List.set_cons_succ] at hK
      have HK := Aside0.mk hK
      clear hK
      go_wp2
      exact HK.out _ _ rfl (Below.refl _ _)
    case s4 =>
      intro σ W hI hT
      obtain ⟨hB, h0, hS, x, y, z, h2⟩ := hI; obtain ⟨k0, k1, k2, _⟩ := h0.cells; obtain ⟨c1, c2, c3, c4, c5, c6⟩ := h2.cells
      have e3 : σ 3 = .pointer (some ⟨w.heap.size, 0, none⟩) := hT 3 (by kernel_rfl)
      clear hT
      refine .inl ⟨rfl, fun K hK => ?_⟩
      rw [hmk] at hK ⊢
      simp only [Act.put, List.setIfInBounds_toArray, List.set_cons_zero, List.set_cons_succ] at hK
      rw [e3] at hK ⊢
      clear e3
      have HK := Aside0.mk hK
      clear hK
      go_wp2
      exact HK.out _ _ rfl (Below.refl _ _)
    case s5 =>
      intro σ W hI hT
      obtain ⟨hB, h0, hS, x, y, z, h2⟩ := hI; obtain ⟨k0, k1, k2, _⟩ := h0.cells; obtain ⟨c1, c2, c3, c4, c5, c6⟩ := h2.cells
      clear hT
      refine .inl ⟨rfl, fun K hK => ?_⟩
      rw [hmk] at hK ⊢
      simp only [Act.put, List.setIfInBounds_toArray, List.set_cons_zero, List.set_cons_succ] at hK
      have HK := Aside0.mk hK
      clear hK
      go_wp2
      exact HK.out _ _ rfl (Below.refl _ _)
    case s6 =>
      intro σ W hI hT
      obtain ⟨hB, h0, hS, x, y, z, h2⟩ := hI; obtain ⟨k0, k1, k2, _⟩ := h0.cells; obtain ⟨c1, c2, c3, c4, c5, c6⟩ := h2.cells
      clear hT
      refine .inl ⟨rfl, fun K hK => ?_⟩
      rw [hmk] at hK ⊢
      simp only [Act.put, List.setIfInBounds_toArray, List.set_cons_zero, List.set_cons_succ] at hK
      have HK := Aside0.mk hK
      clear hK
      go_wp2
      exact HK.out _ _ rfl (Below.refl _ _)
    case s7 =>
      intro σ W hI hT
      obtain ⟨hB, h0, hS, x, y, z, h2⟩ := hI; obtain ⟨k0, k1, k2, _⟩ := h0.cells; obtain ⟨c1, c2, c3, c4, c5, c6⟩ := h2.cells
      have e6 : σ 6 = .agg #[.int .i64 n, .int .i64 rep, wv] := hT 6 (by kernel_rfl)
      clear hT
      refine .inl ⟨rfl, fun K hK => ?_⟩
      rw [hmk] at hK ⊢
      simp only [Act.put, List.setIfInBounds_toArray, List.set_cons_zero, List.set_cons_succ] at hK
      rw [e6] at hK ⊢
      clear e6
      have HK := Aside0.mk hK
      clear hK
      have hcon := each_any n rep wv zs W hS
      unfold setV at hcon
      go_wp2_with (go_at_call 39; refine hcon.mono ?_; clear hcon; rintro e w' ⟨gf, lb, D, rfl, hg, _, h28, hb⟩)
      exact HK.out _ _ ⟨gf, lb, D, rfl, hg, h28⟩ hb
    case s8 =>
      intro σ W hI hT
      obtain ⟨hB, h0, hS, x, y, z, h2⟩ := hI; obtain ⟨k0, k1, k2, _⟩ := h0.cells; obtain ⟨c1, c2, c3, c4, c5, c6⟩ := h2.cells
      have e4 : σ 4 = .int .i64 n := hT 4 (by kernel_rfl)
      have e5 : σ 5 = .int .i64 tw := hT 5 (by kernel_rfl)
      obtain ⟨g7, l7, D7, e7, f7, _⟩ := hT 7 (by kernel_rfl)
      clear hT
      refine .inl ⟨rfl, fun K hK => ?_⟩
      rw [hmk] at hK ⊢
      simp only [Act.put, List.setIfInBounds_toArray, List.set_cons_zero, List.set_cons_succ] at hK
      rw [e4, e5, e7] at hK ⊢
      clear e4 e5 e7
      have HK := Aside0.mk hK
      clear hK
      have hcon := build_any n tw g7 l7 D7 zs hS.n0 hS.n1 hS.rising W f7
      go_wp2_with (go_at_call 37; refine hcon.mono ?_; clear hcon; rintro e w' ⟨t, u, rfl, hw, hb⟩)
      exact HK.out _ _ ⟨_, _, rfl, hw⟩ hb
    case s9 =>
      intro σ W hI hT
      obtain ⟨hB, h0, hS, x, y, z, h2⟩ := hI; obtain ⟨k0, k1, k2, _⟩ := h0.cells; obtain ⟨c1, c2, c3, c4, c5, c6⟩ := h2.cells
      have e1 : σ 1 = .int .i64 n := hT 1 (by kernel_rfl)
      have e2 : σ 2 = .int .i64 tw := hT 2 (by kernel_rfl)
      obtain ⟨t8, u8, e8, f8⟩ := hT 8 (by kernel_rfl)
      clear hT
      refine .inl ⟨rfl, fun K hK => ?_⟩
      rw [hmk] at hK ⊢
      simp only [Act.put, List.setIfInBounds_toArray, List.set_cons_zero, List.set_cons_succ] at hK
      rw [e1, e2, e8] at hK ⊢
      clear e1 e2 e8
      have HK := Aside0.mk hK
      clear hK
      go_wp2
      exact HK.out _ _ ⟨_, _, rfl, f8, hS.rising, hS.n0, hS.n1⟩ (Below.refl _ _)
    case s10 =>
      intro σ W hI hT
      obtain ⟨hB, h0, hS, x, y, z, h2⟩ := hI; obtain ⟨k0, k1, k2, _⟩ := h0.cells; obtain ⟨c1, c2, c3, c4, c5, c6⟩ := h2.cells
      obtain ⟨t9, u9, e9, f9⟩ := hT 9 (by kernel_rfl)
      clear hT
      refine ⟨rfl, fun K hK => ?_⟩
      rw [hmk] at hK ⊢
      simp only [Act.put] at hK
      rw [e9] at hK ⊢
      clear e9
      have HK := Aside0.mk hK
      clear hK
      go_wp2
      exact HK.out undef _ trivial (h2.still _ _ _) ⟨below_set3 hB (by omega) _ _ _, sbox_set3 h0 (by omega) _ _ _, hS.still (h2.still _ _ _), _, _, _, h2.set _ _ _⟩ ⟨_, _, h2.set _ _ _, f9.still (h2.still _ _ _)⟩
    case s11 =>
      intro σ W hI hT
      obtain ⟨hB, h0, hS, x, y, z, h2⟩ := hI; obtain ⟨k0, k1, k2, _⟩ := h0.cells; obtain ⟨c1, c2, c3, c4, c5, c6⟩ := h2.cells
      clear hT
      refine .inl ⟨rfl, fun K hK => ?_⟩
      rw [hmk] at hK ⊢
      simp only [Act.put, List.setIfInBounds_toArray, List.set_cons_zero, List.set_cons_succ] at hK
      have HK := Aside0.mk hK
      clear hK
      go_wp2
      exact HK.out _ _ rfl (Below.refl _ _)
  case done =>
    intro mk hmk σ W hI hS hT
    simp only [dstsOf, putAll, List.map_cons, List.map_nil, Nat.reduceAdd, Act.put, List.setIfInBounds_toArray, List.set_cons_zero, List.set_cons_succ] at hmk
    rw [hmk]
    have e11 : σ 11 = .int .i64 0 := hT 11 (by decide)
    rw [e11]
    clear hT e11
    obtain ⟨t, u, hb, hSS⟩ := hS (by decide)
    go_wp2
    exact bodyPost_ret (results_setE rfl _ _ (w.heap.size + 1) _ _ _ rfl hb) rfl ⟨t, u, rfl, hSS, hI.1⟩
set_option maxRecDepth 100000 in
set_option maxHeartbeats 2000000 in
theorem to_err (n rep tw : Int) (wv : Value) (w : World) (hm : mayB tw = false) : Calls Try.prog 25 #[setV n rep wv, .int .i64 tw] w (ErrPost 1 w) := by
  have hu28 := Try.underlying28
  have HB := Aside0.mk (((Below.refl w.heap.size w).alloc (Nat.le_refl _) (.cells #[.int .i64 n, .int .i64 rep, wv] 28)).alloc (by simp) (.cells #[.int .i64 0, .int .i64 0, .nilIface] 28))
  have hs := SBox.new (w.alloc (.cells #[.int .i64 n, .int .i64 rep, wv] 28)) (.int .i64 0) (.int .i64 0) .nilIface
  rw [World.size_alloc] at hs
  have HS := Aside0.mk hs
  have hmay := fun W => may_any tw W
  rw [hm] at hmay
  unfold setV
  clear hm hs
  go_enter Try.func25, Try.ntmps25
  go_wp2_with (go_at_call 31; refine (hmay _).mono ?_; clear hmay; rintro e w' ⟨rfl, rfl⟩)
  exact bodyPost_ret (results_setE rfl _ _ (w.heap.size + 1) _ _ _ rfl HS.out) rfl ⟨rfl, HB.out⟩
end Go.Proofs.Ytbjdnfnolhahgaa.F
