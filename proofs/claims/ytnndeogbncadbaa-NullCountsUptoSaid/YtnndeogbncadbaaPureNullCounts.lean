/- Of a column none is lost: the plain law. -/
import Derived.Test.YtnndeogbncadbaaSem3
import Derived.Test.YtnndeogbncadbaaF6
namespace Go.Proofs.Ytnndeogbncadbaa.F
open Go.RowKit Go.Proofs.YtnndeogbncadbaaW.PrintWords Go.Proofs.YtnndeogbncadbaaW.PrintLast Go.Proofs.YtnndeogbncadbaaW.PrintMore
set_option linter.unusedVariables false
theorem split_some (l : List S37) (h : l.length ≤ 1000000000) : null_Split.f l = some (l.map (fun v => v.f0 == 0), l.filter (fun v => v.f0 != 0)) := by
  unfold null_Split.f
  rw [if_pos h]
theorem split_parts (l : List S37) : (l.filter (fun v => v.f0 != 0)).length + (l.map (fun v => v.f0 == 0)).count true = l.length := by
  induction l with
  | nil => rfl
  | cons x r ih =>
    rw [List.map_cons, List.count_cons, List.length_cons, List.filter_cons]
    by_cases h : x.f0 = 0
    · rw [if_neg (by rw [h]; decide), if_pos (by rw [h]; decide)]
      omega
    · rw [if_pos (bne_iff_ne.2 h), if_neg (by simp [h]), List.length_cons]
      omega
theorem NullCounts.sem (l m : List S37) (hl : l.length ≤ 1048576) (hm : m.length ≤ 1048576) : ∃ k, astragallaw06_NullCounts.f k l m = some true := by
  obtain ⟨K1, h1⟩ := Shown6.sem
  obtain ⟨A, hA⟩ : ∃ A, l.map (fun v => v.f0 == 0) = A := ⟨_, rfl⟩
  obtain ⟨B, hB⟩ : ∃ B, m.map (fun v => v.f0 == 0) = B := ⟨_, rfl⟩
  obtain ⟨X, hX⟩ : ∃ X, l.filter (fun v => v.f0 != 0) = X := ⟨_, rfl⟩
  obtain ⟨Y, hY⟩ : ∃ Y, m.filter (fun v => v.f0 != 0) = Y := ⟨_, rfl⟩
  have pA := split_parts l
  have pB := split_parts m
  have lA : A.length = l.length := by rw [← hA, List.length_map]
  have lB : B.length = m.length := by rw [← hB, List.length_map]
  have s1 := split_some l (by omega)
  have s2 := split_some m (by omega)
  have s3 := split_some (l ++ m) (by rw [List.length_append]; omega)
  rw [List.map_append, List.filter_append] at s3
  rw [hA, hX] at s1 pA
  rw [hB, hY] at s2 pB
  rw [hA, hB, hX, hY] at s3
  have cA := List.count_le_length (a := true) (l := A)
  have cB := List.count_le_length (a := true) (l := B)
  obtain ⟨K2, h2⟩ := Same6.sem (A ++ B) (A ++ B) (by rw [List.length_append]; omega)
  rw [show decide (A ++ B = A ++ B) = true from decide_eq_true rfl] at h2
  obtain ⟨K3, h3⟩ := Count.sem (A ++ B) (by rw [List.length_append]; omega)
  obtain ⟨K4, h4⟩ := Count.sem A (by omega)
  obtain ⟨K5, h5⟩ := Count.sem B (by omega)
  refine ⟨K1 + K2 + K3 + K4 + K5, ?_⟩
  have g1 := h1 (K1 + K2 + K3 + K4 + K5) (by omega)
  have g2 := h2 (K1 + K2 + K3 + K4 + K5) (by omega)
  have g3 := h3 (K1 + K2 + K3 + K4 + K5) (by omega)
  have g4 := h4 (K1 + K2 + K3 + K4 + K5) (by omega)
  have g5 := h5 (K1 + K2 + K3 + K4 + K5) (by omega)
  dsimp only at g1 g2 g3 g4 g5
  rw [List.count_append] at g3
  unfold astragallaw06_NullCounts.f
  rw [g1, Option.bind_some, s1, Option.bind_some, s2, Option.bind_some, Option.bind_some, if_pos (by simp; omega), Option.bind_some, List.nil_append, if_pos (by omega), s3, Option.bind_some, if_pos rfl, Option.bind_some]
  dsimp only
  rw [if_pos (by simp; omega), Option.bind_some, List.nil_append, if_pos (by omega), g2, Option.bind_some, if_pos rfl, if_pos (by rw [List.length_append, wrap_le (by omega) (by omega)]; omega), g3, Option.bind_some, g4, Option.bind_some, g5, Option.bind_some,
    if_pos (by rw [wrap_le (by omega) (by omega)]; omega), Option.bind_some, wrap_le (by omega) (by omega)]
  rw [show ((l.length : Int) == (X.length : Int) + ((A.count true : Nat) : Int)) = true from beq_iff_eq.2 (by omega)]
theorem nullCounts_walk {w : World} (A0 : Option Addr) (c0 : Nat) (l0 : List S37) (hr0 : Kd.C k37 w A0 l0.length l0) (hc0 : l0.length ≤ c0) (hb0 : l0.length ≤ 1048576) (A1 : Option Addr) (c1 : Nat) (l1 : List S37) (hr1 : Kd.C k37 w A1 l1.length l1) (hc1 : l1.length ≤ c1) (hb1 : l1.length ≤ 1048576) :
    Calls Try.prog 3 #[.slice A0 l0.length c0, .slice A1 l1.length c1] w fun e w' => e = .returned (.bool true) ∧ Below w.heap.size w w' := by
  obtain ⟨k, h⟩ := NullCounts.sem l0 l1 hb0 hb1
  exact astragallaw06_NullCounts.calls k A0 c0 l0 A1 c1 l1 true w hr0 hc0 hr1 hc1 h
end Go.Proofs.Ytnndeogbncadbaa.F
