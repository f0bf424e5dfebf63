/- Rows of numbers, and pairs, that came in, opened. -/
import Derived.Test.YtbjdnfnolhahgaaShown
import Derived.WalkKit
import Derived.ProofKit
import Derived.OpenShut
import Derived.ChangeSlices
namespace Go.Proofs.Ytbjdnfnolhahgaa.F
open Go.ChangeShapes Go.WideShapes Go.ChangeAt Go.RowKit Go.Proofs.YtbjdnfnolhahgaaW.PrintWords
set_option linter.unusedVariables false
/-- A slice of numbers of a kind that can be read, at a plain address. -/
def ArgOf (k : IntKind) (W : World) (A : Option Addr) (l : List Int) : Prop := l ≠ [] → ∃ b off, A = some ⟨b, off, none⟩ ∧ ∀ j, j < l.length → W.cell? ⟨b, off + j, none⟩ = some (.int k (l.getD j 0))
theorem arg_int {W : World} {A : Option Addr} {l : List Int} (h : ArgOf .i64 W A l) : IntArg W A l := h
theorem plain_addr {W : World} {x : Addr} {v : Value} (h : W.cell? x = some v) : x = ⟨x.block, x.off, none⟩ := by
  obtain ⟨b, o, s⟩ := x
  cases s with
  | none => rfl
  | some s =>
    unfold World.cell? at h
    split at h <;> simp at h
theorem open_nums {H : Type} {enc : TypeId × Value → H} {W : World} {t u : TypeId} {k : IntKind} {a : Option Addr} {len cap : Nat} {d : DataW H} {p : List MemPlace} (ht : Try.prog.underlying t = some (.slice u)) (hu : Try.prog.underlying u = some (.int k)) (hc : Try.prog.cellsOf u = 1)
    (h : DataW.Trod enc Try.prog W 0 (fun _ => true) true t (.slice a len cap) d p) : ∃ l : List Int, len = l.length ∧ l.length ≤ cap ∧ ArgOf k W a l ∧ ∀ x ∈ l, (Lit.int k x).wf = true := by
  obtain ⟨fuel, hf⟩ := h
  rcases open_ints ht hu hc hf with ⟨hcs, _⟩ | ⟨x, l, c, zs, hcs, _, hl, hm, hz, _, hcell, hwz⟩
  · simp [Value.cells] at hcs
    obtain ⟨rfl, rfl, rfl⟩ := hcs
    exact ⟨[], rfl, Nat.zero_le _, fun h => absurd rfl h, fun x hx => by cases hx⟩
  · simp [Value.cells] at hcs
    obtain ⟨rfl, rfl, rfl⟩ := hcs
    have hz' : zs.length = cap := by simpa using hz
    refine ⟨zs.take len, by rw [List.length_take]; omega, by rw [List.length_take]; omega, fun hn => ?_, fun y hy => hwz y (List.mem_of_mem_take hy)⟩
    have h0 : 0 < zs.length := by
      cases zs with
      | nil => simp at hn
      | cons _ _ => simp
    have hx := plain_addr (W := W) (x := x.add 0) (hcell 0 h0)
    have hxa : x.add 0 = x := rfl
    rw [hxa] at hx
    refine ⟨x.block, x.off, congrArg some hx, fun j hj => ?_⟩
    rw [List.length_take] at hj
    have := hcell j (by omega)
    rw [hx, add_plain] at this
    rw [this, List.getD_eq_getElem?_getD, List.getD_eq_getElem?_getD, List.getElem?_take_of_lt (by omega)]
theorem cells_pair {v : Value} (h : v.cells.toList.length = 2) : ∃ a b, v = .agg #[a, b] := by
  cases v with
  | agg cs =>
    obtain ⟨l⟩ := cs
    match l, (show l.length = 2 from h) with
    | [a, b], _ => exact ⟨a, b, rfl⟩
  | _ => simp [Value.cells] at h
theorem open_pair {H : Type} {enc : TypeId × Value → H} {W : World} {t u : TypeId} {k : IntKind} {v : Value} {d : DataW H} {p : List MemPlace} (ht : Try.prog.underlying t = some (.array 2 u)) (hu : Try.prog.underlying u = some (.int k)) (hc : Try.prog.cellsOf u = 1) (hct : Try.prog.cellsOf t = 2)
    (h : DataW.Trod enc Try.prog W 0 (fun _ => true) true t v d p) : ∃ a b : Int, v = .agg #[.int k a, .int k b] ∧ (Lit.int k a).wf = true ∧ (Lit.int k b).wf = true := by
  obtain ⟨fuel, hf⟩ := h
  obtain ⟨xs, m, _, _, hlen, hxl, hel⟩ := DataW.trod_array ht hf
  rw [hct] at hlen
  obtain ⟨a, b, rfl⟩ := cells_pair hlen
  match xs, hxl with
  | [y0, y1], _ =>
    have g0 := hel 0 (by omega)
    have g1 := hel 1 (by omega)
    simp [Value.cells, hc] at g0 g1
    obtain ⟨z0, h0, _, w0⟩ := DataW.trod_int hu g0
    obtain ⟨z1, h1, _, w1⟩ := DataW.trod_int hu g1
    simp only [List.cons.injEq, and_true] at h0 h1
    subst h0 h1
    exact ⟨z0, z1, rfl, w0, w1⟩
end Go.Proofs.Ytbjdnfnolhahgaa.F
