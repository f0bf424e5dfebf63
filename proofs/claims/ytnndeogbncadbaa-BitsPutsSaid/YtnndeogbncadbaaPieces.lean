/- A row of pieces that came in, opened. -/
import Derived.Test.YtnndeogbncadbaaGdef
import Derived.Deep.SlicePairs
import Derived.WalkKit
import Derived.ProofKit
import Derived.OpenShut
namespace Go.Proofs.Ytnndeogbncadbaa.F
open Go.ChangeShapes Go.WideShapes Go.ChangeAt Go.RowKit Go.Proofs.YtnndeogbncadbaaW.PrintWords
set_option linter.unusedVariables false
theorem open_pieces {H : Type} {enc : TypeId × Value → H} {W : World} {a : Option Addr} {len cap : Nat} {d : DataW H} {p : List MemPlace}
    (h : DataW.Trod enc Try.prog W 0 (fun _ => true) true 52 (.slice a len cap) d p) :
    ∃ xs : List S57, len = xs.length ∧ Kd.C k57 W a xs.length xs ∧ xs.length ≤ cap ∧ xs.all (fun x => inU64 x.f0) = true := by
  obtain ⟨fuel, hf⟩ := h
  rcases Deep.open_slice_pairs Try.underlying52 Try.underlying57 (by kernel_rfl) rfl rfl (by kernel_rfl) (by kernel_rfl) hf with ⟨hcs, _⟩ | ⟨x, l, c, m, n, V0, V1, D0, D1, P0, P1, hcs, _, hl, hm, hmm, _, hc⟩
  · simp [Value.cells] at hcs
    obtain ⟨rfl, rfl, rfl⟩ := hcs
    exact ⟨[], rfl, Kd.C_nil _ _, Nat.zero_le _, rfl⟩
  · simp [Value.cells] at hcs
    obtain ⟨rfl, rfl, rfl⟩ := hcs
    have hlm : len ≤ m := by rw [hmm]; split <;> omega
    have each : ∀ i, i < len → ∃ y z : Int, V0 i = .int .u64 y ∧ V1 i = .int .i64 z ∧ inU64 y = true := by
      intro i hi
      obtain ⟨_, _, h0, h1⟩ := hc i (by omega)
      obtain ⟨y, hy, _, hw⟩ := DataW.trod_int Try.underlying40 h0
      obtain ⟨z, hz, _, _⟩ := DataW.trod_int Try.underlying3 h1
      refine ⟨y, z, by simpa using hy, by simpa using hz, ?_⟩
      have h2 : IntKind.u64.min ≤ y ∧ y ≤ IntKind.u64.max := by simpa [Lit.wf] using hw
      have e1 : IntKind.u64.min = 0 := rfl
      have e2 : IntKind.u64.max = 18446744073709551615 := rfl
      simp only [inU64, Bool.and_eq_true, decide_eq_true_eq]
      omega
    obtain ⟨xs, hxl, hx⟩ : ∃ xs : List S57, xs.length = len ∧ ∀ i (hi : i < xs.length), V0 i = .int .u64 (xs[i]).f0 ∧ V1 i = .int .i64 (xs[i]).f1 ∧ inU64 (xs[i]).f0 = true := by
      refine ⟨(List.range len).map fun i => ⟨intOf (V0 i), intOf (V1 i)⟩, by simp, fun i hi => ?_⟩
      simp only [List.length_map, List.length_range] at hi
      obtain ⟨y, z, h0, h1, h2⟩ := each i hi
      simp only [List.getElem_map, List.getElem_range, h0, h1, intOf]
      exact ⟨trivial, trivial, h2⟩
    subst hxl
    refine ⟨xs, rfl, ⟨rfl, by unfold maxLen at hm; omega, fun _ => ⟨x, rfl, fun j p hp => ?_⟩⟩, hl, ?_⟩
    · obtain ⟨hj, rfl⟩ := List.getElem?_eq_some_iff.1 hp
      obtain ⟨c0, c1, _, _⟩ := hc j (by omega)
      obtain ⟨e0, e1, _⟩ := hx j hj
      refine ⟨[.int .u64 (xs[j]).f0, .int .i64 (xs[j]).f1], rfl, k57_mk _ _, fun i u hu => ?_⟩
      match i, hu with
      | 0, hu => cases hu; rw [← e0]; exact c0
      | 1, hu => cases hu; rw [← e1]; exact c1
    · rw [List.all_eq_true]
      intro y hy
      obtain ⟨i, hi, rfl⟩ := List.mem_iff_getElem.1 hy
      exact (hx i hi).2.2
end Go.Proofs.Ytnndeogbncadbaa.F
