/- A row of numbers with a greater one has the greater width; halved it has one less, but for none: for every row of uint64 that can be read, and every number. -/
import Derived.Test.YtnndeogbncadbaaF19
import Derived.Test.YtnndeogbncadbaaShown1
namespace Go.Proofs.Ytnndeogbncadbaa.Pure
open Go.RowKit Go.Proofs.Ytnndeogbncadbaa.F Go.Proofs.YtnndeogbncadbaaW.PrintWords Go.Proofs.YtnndeogbncadbaaW.PrintLast Go.Proofs.YtnndeogbncadbaaW.PrintMore
set_option linter.unusedVariables false

theorem in_u64 {x : Int} (h : (Lit.int .u64 x).wf = true) : inU64 x = true := by
  have : 0 ≤ x ∧ x ≤ 18446744073709551615 := by simpa [Lit.wf, IntKind.min, IntKind.max, IntKind.signed, IntKind.bits] using h
  simp only [inU64, Bool.and_eq_true, decide_eq_true_eq]
  omega
theorem all_u64 {l : List Int} (h : ∀ x ∈ l, (Lit.int .u64 x).wf = true) : l.all inU64 = true := List.all_eq_true.2 fun x hx => in_u64 (h x hx)

/-- The numbers, halved. -/
def halves (l : List Int) : List Int := l.map fun x => ((x.toNat / 2 : Nat) : Int)
theorem halves_u64 (l : List Int) (h : l.all inU64 = true) : (halves l).all inU64 = true := by
  rw [List.all_eq_true]
  intro x hx
  simp only [halves, List.mem_map] at hx
  obtain ⟨y, hy, rfl⟩ := hx
  have := u64_of (List.all_eq_true.1 h y hy)
  simp only [inU64, Bool.and_eq_true, decide_eq_true_eq]
  omega
theorem lenN_half2 (n : Nat) : lenN (n / 2) = lenN n - 1 := by
  by_cases h : n = 0
  · subst h; rfl
  · have := lenN_half n h
    omega
theorem widthN_halves (l : List Int) : widthN (halves l) = widthN l - 1 := by
  induction l with
  | nil => rfl
  | cons x l ih =>
    have h1 : widthN (halves (x :: l)) = max (lenN (((x.toNat / 2 : Nat) : Int)).toNat) (widthN (halves l)) := rfl
    have h2 : widthN (x :: l) = max (lenN x.toNat) (widthN l) := rfl
    rw [h1, h2, ih, Int.toNat_natCast, lenN_half2]
    omega
theorem mx_nat (a b : Nat) : mx (a : Int) (b : Int) = ((max a b : Nat) : Int) := by unfold mx; split <;> omega

theorem tail (l : List Int) (a : Int) (hu : l.all inU64 = true) (ha : inU64 a = true) (hl : l.length ≤ 17592186044000) (d : Nat) : ∀ i : Nat, l.length = i + d →
    Ev (fun k => astragallaw01_BitsWidths.l0 k l a true (widthN (l ++ [a]) : Int) (halves (l.take i)) (i : Int)) true := by
  induction d with
  | zero =>
    intro i hi
    rw [List.take_of_length_le (by omega)]
    have h1 := Width.sem l hu (by omega)
    have h2 := Width.sem [a] (by simpa using ha) (by simp)
    have h3 := Width.sem (halves l) (halves_u64 l hu) (by simp [halves]; omega)
    have h64 := widthN_64 (l ++ [a]) (by rw [List.all_append, hu]; simpa using ha)
    have hw : widthN (l ++ [a]) = max (widthN l) (widthN [a]) := widthN_append _ _
    have hh := widthN_halves l
    refine Ev.step (f := fun k => (bits_Width.f k l).bind fun t279 => ((bits_Width.f k [a]).bind fun t283 => (if (widthN (l ++ [a]) : Int) = (mx t279 t283) then ((bits_Width.f k (halves l)).bind fun t284 => ((bits_Width.f k l).bind fun t285 => (if t284 = (mx (wrap64 (t285 - 1)) 0) then (some (decide ((widthN (l ++ [a]) : Int) ≤ 64))) else (some false)))) else (some false)))) (fun k => ?_) ?_
    · simp only [astragallaw01_BitsWidths.l0]
      rw [if_neg (by omega), if_pos trivial]
    · refine Ev.bind h1 (Ev.bind h2 ?_)
      simp only [mx_nat, ← hw, if_true]
      refine Ev.bind h3 (Ev.bind h1 ?_)
      have h5 : ((widthN (halves l) : Nat) : Int) = mx (wrap64 ((widthN l : Int) - 1)) 0 := by
        rw [wrap_le (by omega) (by omega)]
        unfold mx
        split <;> omega
      simp only [if_pos h5]
      rw [decide_eq_true (by omega)]
      exact Ev.now _
  | succ d ih =>
    intro i hi
    have hlt : i < l.length := by omega
    have hx := u64_of (all_at hu i hlt)
    refine Ev.step (fun k => ?_) (ih (i + 1) (by omega))
    simp only [astragallaw01_BitsWidths.l0]
    rw [if_pos (by omega), if_pos (by omega), if_pos (by simp only [halves, List.length_map, List.length_take]; omega), rd_nat l i hlt, wrap_le (by omega) (by omega)]
    have h1 : halves (l.take (i + 1)) = halves (l.take i) ++ [((l[i].toNat / 2 : Nat) : Int)] := by
      unfold halves
      rw [List.take_succ_eq_append_getElem hlt, List.map_append]
      rfl
    have h2 : IntKind.u64.wrap (Int.tdiv l[i] 2) = ((l[i].toNat / 2 : Nat) : Int) := by
      rw [Int.tdiv_eq_ediv_of_nonneg hx.1, IntKind.wrap_u64]
      omega
    rw [h1, h2]
    rfl
theorem BitsWidths : astragallaw01_BitsWidths.Pure := by
  intro l a _ hl hl0 ha
  have hu := all_u64 hl0
  have hA := in_u64 ha
  have hua : (l ++ [a]).all inU64 = true := by rw [List.all_append, hu]; simpa using hA
  have h1 := Width.sem (l ++ [a]) hua (by rw [List.length_append, List.length_singleton]; omega)
  have h2 := tail l a hu hA (by omega) l.length 0 (by omega)
  refine Ev.rounds (Ev.congr (f := fun k => (astragallaw01_shown.f k).bind fun t264 => (bits_Width.f k (l ++ [a])).bind fun t274 => astragallaw01_BitsWidths.l0 k l a t264 t274 ([] : List Int) 0) (fun k => ?_) (Ev.bind Shown1.sem (Ev.bind h1 h2)))
  unfold astragallaw01_BitsWidths.f
  congr 1
  funext t
  rw [Option.bind_some, if_pos (by simp; omega), Option.bind_some, List.nil_append, if_pos (by omega)]
end Go.Proofs.Ytnndeogbncadbaa.Pure
