/- The program's sets and the document's, side by side: what each pair of functions comes to. -/
import Derived.Test.YtbjdnfnolhahgaaAlike
namespace Go.Proofs.Ytbjdnfnolhahgaa.F
open Go.RowKit Go.Shelf Go.Proofs.YtbjdnfnolhahgaaW.PrintWords
set_option linter.unusedVariables false
theorem results_refE {fn : Func} {p q : Tmp} (h : fn.results = #[.cell p 48, .tmp q]) (tmps : Array Value) (w : World) (B : Nat) (x y : Value) (hp : tmps.getD p undef = .pointer (some ⟨B, 0, none⟩)) (c0 : w.cell? ⟨B, 0, none⟩ = some x) (c1 : w.cell? ⟨B, 1, none⟩ = some y) :
    (results fn tmps).run Try.prog w = .ok (.tuple #[.agg #[x, y], tmps.getD q undef]) w := by
  have hu48 := Try.underlying48
  have hp' : tmps[p]?.getD undef = .pointer (some ⟨B, 0, none⟩) := by simpa using hp
  simp [results, h, go_sem, hp', c0, c1]
theorem rto_any (A : Option Addr) (l c : Nat) (rep tw : Int) (w : World) (hm : mayB tw = true) : Calls Try.prog 26 #[.agg #[.slice A l c, .int .i64 rep], .int .i64 tw] w fun e w' => e = .returned (.tuple #[.agg #[.slice A l c, .int .i64 tw], .int .i64 0]) ∧ Below w.heap.size w w' := by
  have hu48 := Try.underlying48
  have hmay := fun W => astragalref12_may.calls tw (mayB tw) W (may_law tw)
  rw [hm] at hmay
  clear hm
  go_enter Try.func26, Try.ntmps26
  go_wp2_with (go_at_call 44; refine (hmay _).mono ?_; clear hmay; rintro e w' ⟨rfl, n, rfl⟩)
  refine bodyPost_ret (results_refE rfl _ _ (w.heap.size + 1) _ _ rfl (by go_simp; done) (by go_simp; done)) rfl ⟨rfl, ?_⟩
  repeat (first | exact Below.refl _ _ | apply below_alloc | apply pw_below_drewN | refine below_set ?_ (by simp))
theorem rto_err (A : Option Addr) (l c : Nat) (rep tw : Int) (w : World) (hm : mayB tw = false) : Calls Try.prog 26 #[.agg #[.slice A l c, .int .i64 rep], .int .i64 tw] w fun e w' => e = .returned (.tuple #[.agg #[.slice none 0 0, .int .i64 0], .int .i64 1]) ∧ Below w.heap.size w w' := by
  have hu48 := Try.underlying48
  have hmay := fun W => astragalref12_may.calls tw (mayB tw) W (may_law tw)
  rw [hm] at hmay
  clear hm
  go_enter Try.func26, Try.ntmps26
  go_wp2_with (go_at_call 44; refine (hmay _).mono ?_; clear hmay; rintro e w' ⟨rfl, n, rfl⟩)
  refine bodyPost_ret (results_refE rfl _ _ (w.heap.size + 1) _ _ rfl (by go_simp; done) (by go_simp; done)) rfl ⟨rfl, ?_⟩
  repeat (first | exact Below.refl _ _ | apply below_alloc | apply pw_below_drewN | refine below_set ?_ (by simp))
/-- A way's value: none, or an interface's. -/
def wvOf : Option (TypeId × Value) → Value
  | none => .nilIface
  | some (t, u) => .iface t u
theorem run_store_wv (P : Program) (w : World) (a : Addr) (m : Mode) (o : Option (TypeId × Value)) : (store a (wvOf o) m).run P w = stored P w a (wvOf o) m := run_store P w a _ m (by cases o <;> rfl)
def SetR (n rep : Int) (zs : List Int) (err : Int) (w : World) (e : Ending) (w' : World) : Prop := ∃ o, e = .returned (.tuple #[setV n rep (wvOf o), .int .i64 err]) ∧ IsSet w' n rep (wvOf o) zs ∧ Below w.heap.size w w'
def RefR (n rep : Int) (zs : List Int) (err : Int) (w : World) (e : Ending) (w' : World) : Prop := ∃ u, e = .returned (.tuple #[.agg #[u, .int .i64 rep], .int .i64 err]) ∧ Kd.bool.R 4 w' 0 (fun _ => True) u (bsOf n zs) ∧ Below w.heap.size w w'
theorem isSet_zero (w : World) : IsSet w 0 0 .nilIface [] := ⟨.nil rfl rfl, ⟨List.Pairwise.nil, fun x hx => by cases hx⟩, by omega, by omega⟩
theorem SetR.of {n rep : Int} {zs : List Int} {w w' : World} {e : Ending} (h : SetPostE n rep zs w e w') : SetR n rep zs 0 w e w' := by
  obtain ⟨t, u, he, hS, hB⟩ := h
  exact ⟨some (t, u), he, hS, hB⟩
theorem SetR.err {err : Int} {w w' : World} {e : Ending} (h : ErrPost err w e w') : SetR 0 0 [] err w e w' := ⟨none, h.1, isSet_zero _, h.2⟩
theorem RefR.of {n rep : Int} {zs : List Int} {r2 r3 err : Int} {bs : List Bool} {w w' : World} {e : Ending} (h : ∃ v0_ : Value, e = .returned (.tuple #[.agg #[v0_, .int .i64 r2], .int .i64 r3]) ∧ Kd.R Kd.bool 4 w' w.heap.size (fun _ => True) v0_ bs ∧ Below w.heap.size w w') (hb : bs = bsOf n zs) (h2 : r2 = rep) (h3 : r3 = err) : RefR n rep zs err w e w' := by
  obtain ⟨u, he, hR, hB⟩ := h
  subst hb h2 h3
  exact ⟨u, he, Kd.R_lower hR (Nat.zero_le _), hB⟩
theorem of_both (n rep : Int) (l : List Int) (hl : l.length ≤ 1000000000000) : ∃ n' rep' zs err, (∀ w A c, IntArg w A l → Calls Try.prog 11 #[.int .i64 n, .slice A l.length c, .int .i64 rep] w (SetR n' rep' zs err w)) ∧
    (∀ w A c, IntArg w A l → l.length ≤ c → Calls Try.prog 22 #[.int .i64 n, .slice A l.length c, .int .i64 rep] w (RefR n' rep' zs err w)) := by
  cases hf : fitB n rep with
  | false =>
    refine ⟨0, 0, [], 1, fun w A c hA => (of_err1 n rep _ w hf).mono fun _ _ h => SetR.err h, fun w A c hA hc => ?_⟩
    exact (astragalref12_Of.calls _ n A c l rep _ _ _ w (hA.C (by omega)) hc (of_law1 0 n rep l hf)).mono fun _ _ h => RefR.of h rfl rfl rfl
  | true =>
    cases hin : l.any (outB n) with
    | true =>
      refine ⟨0, 0, [], 2, fun w A c hA => (of_err2 n rep A c l w hl hA hf hin).mono fun _ _ h => SetR.err h, fun w A c hA hc => ?_⟩
      exact (astragalref12_Of.calls _ n A c l rep _ _ _ w (hA.C (by omega)) hc (of_law2 _ n rep l (by omega) (Nat.le_refl _) hf hin)).mono fun _ _ h => RefR.of h rfl rfl rfl
    | false =>
      refine ⟨n, rep, filt n (inZ l), 0, fun w A c hA => (of_any n rep A c l w hl hA hf hin).mono fun _ _ h => SetR.of h, fun w A c hA hc => ?_⟩
      exact (astragalref12_Of.calls _ n A c l rep _ _ _ w (hA.C (by omega)) hc (of_law _ n rep l (by omega) (Nat.le_refl _) hf hin)).mono fun _ _ h => RefR.of h (bsOf_filt n l).symm rfl rfl
theorem all_both (n rep : Int) : ∃ n' rep' zs err, (∀ w, Calls Try.prog 16 #[.int .i64 n, .int .i64 rep] w (SetR n' rep' zs err w)) ∧ (∀ w, Calls Try.prog 23 #[.int .i64 n, .int .i64 rep] w (RefR n' rep' zs err w)) := by
  cases hf : fitB n rep with
  | false => exact ⟨0, 0, [], 1, fun w => (all_err n rep w hf).mono fun _ _ h => SetR.err h, fun w => (astragalref12_All.calls _ n rep _ _ _ w (all_law1 0 n rep hf)).mono fun _ _ h => RefR.of h rfl rfl rfl⟩
  | true => exact ⟨n, rep, _, 0, fun w => (all_any n rep w hf).mono fun _ _ h => SetR.of h, fun w => (astragalref12_All.calls _ n rep _ _ _ w (all_law _ n rep hf (Nat.le_refl _))).mono fun _ _ h => RefR.of h rfl rfl rfl⟩
theorem R_bool_below {w w' : World} {u : Value} {bs : List Bool} (h : Kd.bool.R 4 w 0 (fun _ => True) u bs) (hB : Below w.heap.size w w') : Kd.bool.R 4 w' 0 (fun _ => True) u bs := by
  obtain ⟨_, inner, own, reps⟩ := h
  exact ⟨fun _ _ => trivial, inner, own_below own hB, reps⟩
theorem R_bool_still {t : TypeId} {w w' : World} {u : Value} {bs : List Bool} (h : Kd.bool.R 4 w 0 (fun _ => True) u bs) (ht : (4 : Nat) ≠ t) (hB : Still t w w') : Kd.bool.R 4 w' 0 (fun _ => True) u bs := by
  obtain ⟨_, inner, own, reps⟩ := h
  exact ⟨fun _ _ => trivial, inner, own_still own ht hB, reps⟩
theorem to_both (n rep tw : Int) (zs : List Int) : ∃ n' rep' ys err, (∀ w wv, IsSet w n rep wv zs → Calls Try.prog 25 #[setV n rep wv, .int .i64 tw] w (SetR n' rep' ys err w)) ∧
    (∀ w u, Kd.bool.R 4 w 0 (fun _ => True) u (bsOf n zs) → Calls Try.prog 26 #[.agg #[u, .int .i64 rep], .int .i64 tw] w (RefR n' rep' ys err w)) := by
  cases hm : mayB tw with
  | false =>
    refine ⟨0, 0, [], 1, fun w wv _ => (to_err n rep tw wv w hm).mono fun _ _ h => SetR.err h, fun w u hR => ?_⟩
    obtain ⟨A, c, rfl, _, _⟩ := Kd.R_reads hR
    exact (rto_err A _ c rep tw w hm).mono fun _ w' ⟨he, hB⟩ => ⟨_, he, ⟨fun _ _ => trivial, [], own_nil _ _ _ _, Reps.none _ _⟩, hB⟩
  | true =>
    refine ⟨n, tw, zs, 0, fun w wv hS => (to_any n rep tw wv zs w hS hm).mono fun _ _ h => SetR.of h, fun w u hR => ?_⟩
    obtain ⟨A, c, rfl, _, _⟩ := Kd.R_reads hR
    exact (rto_any A _ c rep tw w hm).mono fun _ w' ⟨he, hB⟩ => ⟨_, he, R_bool_below hR hB, hB⟩
theorem and_both (na ra nb rb : Int) (za zb : List Int) (h0 : 0 ≤ na) (h1 : na ≤ 4096) (h2 : 0 ≤ nb) : ∃ n' rep' ys err, (∀ w va vb, IsSet w na ra va za → IsSet w nb rb vb zb → Calls Try.prog 19 #[setV na ra va, setV nb rb vb] w (SetR n' rep' ys err w)) ∧
    (∀ w u v, Kd.bool.R 4 w 0 (fun _ => True) u (bsOf na za) → Kd.bool.R 4 w 0 (fun _ => True) v (bsOf nb zb) → Calls Try.prog 28 #[.agg #[u, .int .i64 ra], .agg #[v, .int .i64 rb]] w (RefR n' rep' ys err w)) := by
  by_cases e : na = nb
  · subst e
    refine ⟨na, ra, _, 0, fun w va vb hA hB => (and_any na ra rb va vb za zb w hA hB).mono fun _ _ h => SetR.of h, fun w u v hu hv => ?_⟩
    obtain ⟨A, c, rfl, hc, hC⟩ := Kd.R_reads hu
    obtain ⟨A', c', rfl, hc', hC'⟩ := Kd.R_reads hv
    exact (astragalref12_And.calls _ A c _ ra A' c' _ rb _ _ _ w hC hc hC' hc' (and_law _ na ra rb za zb h1 (Nat.lt_succ_self _))).mono fun _ _ h => RefR.of h rfl rfl rfl
  · refine ⟨0, 0, [], 1, fun w va vb hA hB => (and_err na nb ra rb va vb w e).mono fun _ _ h => SetR.err h, fun w u v hu hv => ?_⟩
    obtain ⟨A, c, rfl, hc, hC⟩ := Kd.R_reads hu
    obtain ⟨A', c', rfl, hc', hC'⟩ := Kd.R_reads hv
    exact (astragalref12_And.calls 0 A c _ ra A' c' _ rb _ _ _ w hC hc hC' hc' (and_bad 0 ra rb _ _ (by rw [bsOf_length, bsOf_length]; omega))).mono fun _ _ h => RefR.of h rfl rfl rfl
theorem or_both (na ra nb rb : Int) (za zb : List Int) (h0 : 0 ≤ na) (h1 : na ≤ 4096) (h2 : 0 ≤ nb) : ∃ n' rep' ys err, (∀ w va vb, IsSet w na ra va za → IsSet w nb rb vb zb → Calls Try.prog 20 #[setV na ra va, setV nb rb vb] w (SetR n' rep' ys err w)) ∧
    (∀ w u v, Kd.bool.R 4 w 0 (fun _ => True) u (bsOf na za) → Kd.bool.R 4 w 0 (fun _ => True) v (bsOf nb zb) → Calls Try.prog 29 #[.agg #[u, .int .i64 ra], .agg #[v, .int .i64 rb]] w (RefR n' rep' ys err w)) := by
  by_cases e : na = nb
  · subst e
    refine ⟨na, ra, _, 0, fun w va vb hA hB => (or_any na ra rb va vb za zb w hA hB).mono fun _ _ h => SetR.of h, fun w u v hu hv => ?_⟩
    obtain ⟨A, c, rfl, hc, hC⟩ := Kd.R_reads hu
    obtain ⟨A', c', rfl, hc', hC'⟩ := Kd.R_reads hv
    exact (astragalref12_Or.calls _ A c _ ra A' c' _ rb _ _ _ w hC hc hC' hc' (or_law _ na ra rb za zb h1 (Nat.lt_succ_self _))).mono fun _ _ h => RefR.of h rfl rfl rfl
  · refine ⟨0, 0, [], 1, fun w va vb hA hB => (or_err na nb ra rb va vb w e).mono fun _ _ h => SetR.err h, fun w u v hu hv => ?_⟩
    obtain ⟨A, c, rfl, hc, hC⟩ := Kd.R_reads hu
    obtain ⟨A', c', rfl, hc', hC'⟩ := Kd.R_reads hv
    exact (astragalref12_Or.calls 0 A c _ ra A' c' _ rb _ _ _ w hC hc hC' hc' (or_bad 0 ra rb _ _ (by rw [bsOf_length, bsOf_length]; omega))).mono fun _ _ h => RefR.of h rfl rfl rfl
/-- What isn't in a set, by the document. -/
theorem rnot_any (n rep : Int) (zs : List Int) (u : Value) (w : World) (hn : n ≤ 4096) (hR : Kd.bool.R 4 w 0 (fun _ => True) u (bsOf n zs)) :
    Calls Try.prog 30 #[.agg #[u, .int .i64 rep]] w fun e w' => ∃ v, e = .returned (.agg #[v, .int .i64 rep]) ∧ Kd.bool.R 4 w' 0 (fun _ => True) v (bsOf n (filt n (fun x => !inZ zs x))) ∧ Below w.heap.size w w' := by
  obtain ⟨A, c, rfl, hc, hC⟩ := Kd.R_reads hR
  refine (astragalref12_Not.calls _ A c _ rep _ _ w hC hc (not_law _ n rep zs hn (Nat.lt_succ_self _))).mono ?_
  rintro e w' ⟨v, rfl, hv, hB⟩
  exact ⟨v, rfl, Kd.R_lower hv (Nat.zero_le _), hB⟩
end Go.Proofs.Ytbjdnfnolhahgaa.F
