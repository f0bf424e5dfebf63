/- A value that came in, opened. -/
import Derived.Test.YtnndeogbncadbaaGdef
import Derived.WalkKit
import Derived.ProofKit
import Derived.OpenShut
namespace Go.Proofs.Ytnndeogbncadbaa.F
open Go.ChangeShapes Go.WideShapes Go.ChangeAt Go.RowKit Go.Proofs.YtnndeogbncadbaaW.PrintWords
set_option linter.unusedVariables false
theorem cells_three {v : Value} (h : v.cells.toList.length = 3) : ∃ x0 x1 x2, v = .agg #[x0, x1, x2] := by
  cases v with
  | agg cs =>
    obtain ⟨l⟩ := cs
    match l, h with
    | [x0, x1, x2], _ => exact ⟨x0, x1, x2, rfl⟩
  | _ => simp [Value.cells] at h
theorem open_val {H : Type} {enc : TypeId × Value → H} {W : World} {v : Value} {d : DataW H} {p : List MemPlace}
    (h : DataW.Trod enc Try.prog W 0 (fun _ => true) true 37 v d p) : ∃ (f0 f1 : Int) (f2 : ByteArray), v = .agg #[.int .i64 f0, .int .i64 f1, .string f2] := by
  obtain ⟨fuel, hf⟩ := h
  have c3 : Try.prog.cellsOf 37 = 3 := by kernel_rfl
  have k0 : Try.prog.cellsOf 3 = 1 := by kernel_rfl
  have k1 : Try.prog.cellsOf 2 = 1 := by kernel_rfl
  have k2 : Try.prog.cellsOf 9 = 1 := by kernel_rfl
  obtain ⟨xs, k, hk, _, hlen, hxl, hfs⟩ := DataW.trod_struct Try.underlying37 hf
  rw [c3] at hlen
  obtain ⟨v0, v1, v2, rfl⟩ := cells_three hlen
  match xs, hxl with
  | [y0, y1, y2], _ =>
    have g0 := hfs 0 _ rfl
    have g1 := hfs 1 _ rfl
    have g2 := hfs 2 _ rfl
    simp [Value.cells, k0] at g0
    simp [Value.cells, k1] at g1
    simp [Value.cells, k2] at g2
    obtain ⟨z0, h0, _, _⟩ := DataW.trod_int Try.underlying3 g0
    obtain ⟨z1, h1', _, _⟩ := DataW.trod_int Try.underlying2 g1
    obtain ⟨z2, h2', _, _⟩ := DataW.trod_string Try.underlying9 g2
    simp only [List.cons.injEq, and_true] at h0 h1' h2'
    subst h0 h1' h2'
    exact ⟨z0, z1, z2, rfl⟩
end Go.Proofs.Ytnndeogbncadbaa.F
