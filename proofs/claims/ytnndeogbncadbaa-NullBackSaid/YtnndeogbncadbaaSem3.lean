/- What the functions of layer 6 come to. -/
import Derived.Test.YtnndeogbncadbaaBitsLaws
import Derived.Test.YtnndeogbncadbaaSem2
import Derived.Test.YtnndeogbncadbaaF3
import Derived.Test.YtnndeogbncadbaaF38
import Derived.Test.YtnndeogbncadbaaF5
import Derived.Test.YtnndeogbncadbaaJoin0
namespace Go.Proofs.Ytnndeogbncadbaa.F
open Go.RowKit Go.Proofs.YtnndeogbncadbaaW.PrintWords Go.Proofs.YtnndeogbncadbaaW.PrintLast Go.Proofs.YtnndeogbncadbaaW.PrintMore
set_option linter.unusedVariables false
theorem Same6.loop (a b : List Bool) (hab : a.length = b.length) (hl : a.length ≤ 17592186044416) (d : Nat) : ∀ (i : Nat), a.length = i + d → a.take i = b.take i → Ev (fun k => astragalref06_Same.l0 k a b (i : Int)) (decide (a = b)) := by
  induction d with
  | zero =>
    intro i hi ht
    rw [List.take_of_length_le (by omega), List.take_of_length_le (by omega)] at ht
    rw [show decide (a = b) = true from decide_eq_true ht]
    refine Ev.step (f := fun k => some true) (fun k => ?_) (Ev.now _)
    simp only [astragalref06_Same.l0]
    rw [if_neg (by omega)]
  | succ d ih =>
    intro i hi ht
    have hia : i < a.length := by omega
    have hib : i < b.length := by omega
    by_cases he : a[i] = b[i]
    · have h := ih (i + 1) (by omega) (by rw [List.take_succ_eq_append_getElem hia, List.take_succ_eq_append_getElem hib, ht, he])
      refine Ev.step (f := fun k => astragalref06_Same.l0 k a b ((i + 1 : Nat) : Int)) (fun k => ?_) h
      simp only [astragalref06_Same.l0]
      rw [if_pos (by omega), if_pos (by omega), if_pos (by omega), if_neg (by rw [rdb_nat a i hia, rdb_nat b i hib, he]; simp), wrap_le (by omega) (by omega)]
      rfl
    · have hne : a ≠ b := fun h => he (by subst h; rfl)
      rw [show decide (a = b) = false from decide_eq_false hne]
      refine Ev.step (f := fun k => some false) (fun k => ?_) (Ev.now _)
      simp only [astragalref06_Same.l0]
      rw [if_pos (by omega), if_pos (by omega), if_pos (by omega), if_pos (by rw [rdb_nat a i hia, rdb_nat b i hib]; exact bne_iff_ne.2 he)]
theorem Same6.sem (a b : List Bool) (hl : a.length ≤ 17592186044416) : Ev (fun k => astragalref06_Same.f k a b) (decide (a = b)) := by
  by_cases hab : a.length = b.length
  · refine Ev.congr (fun k => ?_) (Same6.loop a b hab hl a.length 0 (by omega) rfl)
    unfold astragalref06_Same.f
    rw [if_pos (by omega)]
    rfl
  · have hne : a ≠ b := fun h => hab (by rw [h])
    rw [show decide (a = b) = false from decide_eq_false hne]
    refine Ev.congr (fun k => ?_) (Ev.now false)
    unfold astragalref06_Same.f
    rw [if_neg (by omega)]
theorem Of.loop (xs : List Int) (hl : xs.length ≤ 1048576) (d : Nat) : ∀ (i : Nat), xs.length = i + d → Ev (fun k => null_Of.l0 k ((xs.take i).map fun x => x == 1) xs (xs.length : Int) (i : Int)) (xs.map (fun x => x == 1), 0) := by
  induction d with
  | zero =>
    intro i hi
    refine Ev.step (f := fun k => some (xs.map (fun x => x == 1), 0)) (fun k => ?_) (Ev.now _)
    simp only [null_Of.l0]
    rw [if_neg (by omega), List.take_of_length_le (by omega)]
  | succ d ih =>
    intro i hi
    have hix : i < xs.length := by omega
    have h := ih (i + 1) (by omega)
    rw [List.take_succ_eq_append_getElem hix, List.map_append] at h
    have hrd : rd xs (i : Int) = xs[i] := by
      unfold rd
      rw [Int.toNat_natCast, List.getD_eq_getElem?_getD, List.getElem?_eq_getElem hix]
      rfl
    refine Ev.step (f := fun k => null_Of.l0 k ((xs.take i).map (fun x => x == 1) ++ [xs[i]].map (fun x => x == 1)) xs (xs.length : Int) ((i + 1 : Nat) : Int)) (fun k => ?_) h
    simp only [null_Of.l0]
    rw [if_pos (by omega), if_pos (by omega), if_pos (by omega), if_pos (by rw [List.length_map, List.length_take]; omega), hrd, wrap_le (by omega) (by omega)]
    rfl
theorem Of.good (l : List Int) (n : Int) (xs : List Int) (hl : xs.length ≤ 1048576) (h : bits_Unpack.f l n 1 = some (xs, 0)) : Ev (fun k => null_Of.f k l n) (xs.map (fun x => x == 1), 0) := by
  refine Ev.congr (fun k => ?_) (Of.loop xs hl xs.length 0 (by omega))
  unfold null_Of.f
  rw [h, Option.bind_some, if_pos rfl]
  rfl
theorem Of.bad (l : List Int) (n : Int) (xs : List Int) (e : Int) (he : e ≠ 0) (h : bits_Unpack.f l n 1 = some (xs, e)) : Ev (fun k => null_Of.f k l n) ([], e) := by
  refine Ev.congr (fun k => ?_) (Ev.now ([], e))
  unfold null_Of.f
  rw [h, Option.bind_some, if_neg he]
theorem Shown6.sem : Ev (fun k => astragallaw06_shown.f k) true := by
  have hs : null_Split.f [(⟨1, 5, (⟨#[]⟩ : ByteArray)⟩ : S37), (⟨0, 0, (⟨#[]⟩ : ByteArray)⟩ : S37), (⟨1, 6, (⟨#[]⟩ : ByteArray)⟩ : S37)] = some ([false, true, false], [(⟨1, 5, (⟨#[]⟩ : ByteArray)⟩ : S37), (⟨1, 6, (⟨#[]⟩ : ByteArray)⟩ : S37)]) := rfl
  have h1 := Same6.sem [false, true, false] [false, true, false] (by decide)
  have h2 := Count.sem [false, true, false] (by decide)
  refine Ev.congr (fun k => ?_) (Ev.bind h1 (f := fun k t => if t = true then ((null_Count.f k [false, true, false]).bind fun t118 => some (t118 == 1)) else some false) ?_)
  · unfold astragallaw06_shown.f
    rw [hs, Option.bind_some]
    rfl
  · rw [show decide ([false, true, false] = [false, true, false]) = true from rfl]
    refine Ev.congr (fun k => ?_) (Ev.bind h2 (f := fun k t => some (t == 1)) (Ev.now _))
    rw [if_pos rfl]
end Go.Proofs.Ytnndeogbncadbaa.F
