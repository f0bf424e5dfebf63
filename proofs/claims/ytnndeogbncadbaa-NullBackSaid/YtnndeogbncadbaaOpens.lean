/- Rows of places, and of values, that came in, opened. -/
import Derived.Test.YtnndeogbncadbaaGdef
import Derived.Deep.Grids
import Derived.WalkKit
import Derived.ProofKit
import Derived.OpenShut
namespace Go.Proofs.Ytnndeogbncadbaa.F
open Go.ChangeShapes Go.WideShapes Go.ChangeAt Go.RowKit Go.Proofs.YtnndeogbncadbaaW.PrintWords
set_option linter.unusedVariables false
theorem open_places {H : Type} {enc : TypeId × Value → H} {W : World} {a : Option Addr} {len cap : Nat} {d : DataW H} {p : List MemPlace}
    (h : DataW.Trod enc Try.prog W 0 (fun _ => true) true 24 (.slice a len cap) d p) :
    ∃ xs : List Bool, len = xs.length ∧ Kd.C Kd.bool W a xs.length xs ∧ xs.length ≤ cap := by
  obtain ⟨fuel, hf⟩ := h
  rcases Deep.open_bools Try.underlying24 Try.underlying4 (by kernel_rfl) hf with ⟨hcs, _⟩ | ⟨x, l, c, B, hcs, _, hl, hm, _, hc⟩
  · simp [Value.cells] at hcs
    obtain ⟨rfl, rfl, rfl⟩ := hcs
    exact ⟨[], rfl, Kd.C_nil _ _, Nat.zero_le _⟩
  · simp [Value.cells] at hcs
    obtain ⟨rfl, rfl, rfl⟩ := hcs
    obtain ⟨xs, hxl, hx⟩ : ∃ xs : List Bool, xs.length = len ∧ ∀ i (hi : i < xs.length), B i = xs[i] :=
      ⟨(List.range len).map B, by simp, fun i hi => by simp⟩
    subst hxl
    refine ⟨xs, rfl, ⟨rfl, by unfold maxLen at hm; omega, fun _ => ⟨x, rfl, fun j p hp => ?_⟩⟩, hl⟩
    obtain ⟨hj, rfl⟩ := List.getElem?_eq_some_iff.1 hp
    refine ⟨[.bool xs[j]], rfl, rfl, fun i u hu => ?_⟩
    match i, hu with
    | 0, hu =>
      cases hu
      rw [← hx j hj]
      have := hc j (by omega)
      show W.cell? (x.add (j * 1 + 0)) = _
      rw [Nat.mul_one, Nat.add_zero]
      exact this
theorem open_vals {H : Type} {enc : TypeId × Value → H} {W : World} {a : Option Addr} {len cap : Nat} {d : DataW H} {p : List MemPlace}
    (h : DataW.Trod enc Try.prog W 0 (fun _ => true) true 22 (.slice a len cap) d p) :
    ∃ xs : List S37, len = xs.length ∧ Kd.C k37 W a xs.length xs ∧ xs.length ≤ cap := by
  obtain ⟨fuel, hf⟩ := h
  rcases Deep.open_slice Try.underlying22 hf with ⟨hcs, _⟩ | ⟨x, l, c, m, n, D, Pl, hcs, _, hl, hm, hmm, _, hc⟩
  · simp [Value.cells] at hcs
    obtain ⟨rfl, rfl, rfl⟩ := hcs
    exact ⟨[], rfl, Kd.C_nil _ _, Nat.zero_le _⟩
  · simp [Value.cells] at hcs
    obtain ⟨rfl, rfl, rfl⟩ := hcs
    have hlm : len ≤ m := by rw [hmm]; split <;> omega
    have c3 : Try.prog.cellsOf 37 = 3 := by kernel_rfl
    have k0 : Try.prog.cellsOf 3 = 1 := by kernel_rfl
    have k1 : Try.prog.cellsOf 2 = 1 := by kernel_rfl
    have k2 : Try.prog.cellsOf 9 = 1 := by kernel_rfl
    have each : ∀ i, i < len → ∃ y : S37, W.cell? (x.add (i * 3)) = some (.int .i64 y.f0) ∧ W.cell? (x.add (i * 3 + 1)) = some (.int .i64 y.f1) ∧ W.cell? (x.add (i * 3 + 2)) = some (.string y.f2) := by
      intro i hi
      obtain ⟨cs', h1, h2⟩ := hc i (by omega)
      rw [c3] at h1
      obtain ⟨_, hlen, hcell⟩ := World.cells?_some h1
      obtain ⟨xs, k, hk, _, _, hxl, hf⟩ := DataW.trod_struct Try.underlying37 h2
      match xs, hxl, cs', hlen with
      | [y0, y1, y2], _, [v0, v1, v2], _ =>
        have g0 := hf 0 _ rfl
        have g1 := hf 1 _ rfl
        have g2 := hf 2 _ rfl
        simp [k0] at g0
        simp [k1] at g1
        simp [k2] at g2
        have e0 := hcell 0 (by omega)
        have e1 := hcell 1 (by omega)
        have e2 := hcell 2 (by omega)
        rw [Deep.add_add] at e0 e1 e2
        obtain ⟨z0, h0, _, _⟩ := DataW.trod_int Try.underlying3 g0
        obtain ⟨z1, h1', _, _⟩ := DataW.trod_int Try.underlying2 g1
        obtain ⟨z2, h2', _, _⟩ := DataW.trod_string Try.underlying9 g2
        simp only [List.cons.injEq, and_true] at h0 h1' h2'
        subst h0 h1' h2'
        exact ⟨⟨z0, z1, z2⟩, by simpa using e0, by simpa using e1, by simpa using e2⟩
    have each2 : ∀ i : Nat, ∃ y : S37, i < len → (W.cell? (x.add (i * 3)) = some (.int .i64 y.f0) ∧ W.cell? (x.add (i * 3 + 1)) = some (.int .i64 y.f1) ∧ W.cell? (x.add (i * 3 + 2)) = some (.string y.f2)) := by
      intro i
      by_cases hi : i < len
      · obtain ⟨y, hy⟩ := each i hi
        exact ⟨y, fun _ => hy⟩
      · exact ⟨z37, fun h => absurd h hi⟩
    obtain ⟨Y, hY⟩ := Classical.axiomOfChoice each2
    obtain ⟨xs, hxl, hx⟩ : ∃ xs : List S37, xs.length = len ∧ ∀ i (hi : i < xs.length), Y i = xs[i] :=
      ⟨(List.range len).map Y, by simp, fun i hi => by simp⟩
    subst hxl
    refine ⟨xs, rfl, ⟨rfl, by unfold maxLen at hm; omega, fun _ => ⟨x, rfl, fun j p hp => ?_⟩⟩, hl⟩
    obtain ⟨hj, rfl⟩ := List.getElem?_eq_some_iff.1 hp
    obtain ⟨e0, e1, e2⟩ := hY j hj
    rw [hx j hj] at e0 e1 e2
    refine ⟨_, rfl, k37_mk _ _, fun i u hu => ?_⟩
    match i, hu with
    | 0, hu => cases hu; exact e0
    | 1, hu => cases hu; exact e1
    | 2, hu => cases hu; exact e2
end Go.Proofs.Ytnndeogbncadbaa.F
