/- With a value more, or less, or one that is nothing, nothing is joined: the plain law. -/
import Derived.Test.YtnndeogbncadbaaSem3
import Derived.Test.YtnndeogbncadbaaF14
namespace Go.Proofs.Ytnndeogbncadbaa.F
open Go.RowKit Go.Proofs.YtnndeogbncadbaaW.PrintWords Go.Proofs.YtnndeogbncadbaaW.PrintLast Go.Proofs.YtnndeogbncadbaaW.PrintMore
set_option linter.unusedVariables false
theorem count_both (l : List Bool) : l.count true + l.count false = l.length := by
  induction l with
  | nil => rfl
  | cons b r ih => cases b <;> simp <;> omega
theorem join_off (l : List Bool) (xs : List S37) (hl : l.length ≤ 1000000000) (hx : xs.length ≤ 1000000000) (h : ¬ (xs.length + l.count true = l.length ∧ xs.all (fun v => v.f0 != 0) = true)) : null_Join.f l xs = some ([], 4) := by
  unfold null_Join.f
  rw [if_pos ⟨hl, hx⟩, if_neg h]
theorem NullMore.end_ (l : List Bool) (f0 f1 : Int) (f2 : ByteArray) (h0 : f0 ≠ 0) (hl : l.length ≤ 2000) :
    Ev (fun k => astragallaw06_NullMore.j2 k l true (List.replicate (l.count false) (⟨f0, f1, f2⟩ : S37)) false) true := by
  have hb := count_both l
  by_cases hc : l.count false = 0
  · refine Ev.step (f := fun _ => some true) (fun k => ?_) (Ev.now _)
    simp only [astragallaw06_NullMore.j2]
    rw [if_neg (by decide), if_pos (by rw [List.length_replicate, hc]; rfl)]
  · have e1 : null_Join.f l ((List.replicate (l.count false) (⟨f0, f1, f2⟩ : S37)).drop 1) = some ([], 4) :=
      join_off _ _ (by omega) (by rw [List.length_drop, List.length_replicate]; omega) (fun h => by
        have := h.1
        rw [List.length_drop, List.length_replicate] at this
        omega)
    have e2 : null_Join.f l ((List.replicate (l.count false) (⟨f0, f1, f2⟩ : S37)).set (0 : Int).toNat (⟨0, 0, (⟨#[]⟩ : ByteArray)⟩ : S37)) = some ([], 4) :=
      join_off _ _ (by omega) (by rw [List.length_set, List.length_replicate]; omega) (fun h => by
        have h2 := h.2
        obtain ⟨c, hcc⟩ : ∃ c, l.count false = c + 1 := ⟨l.count false - 1, by omega⟩
        rw [hcc, List.replicate_succ] at h2
        simp at h2)
    refine Ev.step (f := fun _ => some true) (fun k => ?_) (Ev.now _)
    simp only [astragallaw06_NullMore.j2]
    rw [if_neg (by decide), if_neg (by rw [List.length_replicate]; omega), if_pos (by rw [List.length_replicate]; omega), e1, Option.bind_some, if_pos (by rw [List.length_replicate]; omega), e2, Option.bind_some]
    rfl
theorem NullMore.loop (l : List Bool) (f0 f1 : Int) (f2 : ByteArray) (h0 : f0 ≠ 0) (hl : l.length ≤ 2000) (d : Nat) : ∀ (i : Nat), l.length = i + d →
    Ev (fun k => astragallaw06_NullMore.l0 k l true (List.replicate ((l.take i).count false) (⟨f0, f1, f2⟩ : S37)) (i : Int) f0 f1 f2) true := by
  have hb := count_both l
  induction d with
  | zero =>
    intro i hi
    rw [List.take_of_length_le (by omega)]
    have e1 : ∃ x, null_Join.f l (List.replicate (l.count false) (⟨f0, f1, f2⟩ : S37)) = some (x, 0) := by
      refine ⟨joinN l (List.replicate (l.count false) (⟨f0, f1, f2⟩ : S37)), ?_⟩
      have hall : (List.replicate (l.count false) (⟨f0, f1, f2⟩ : S37)).all (fun v => v.f0 != 0) = true := by
        rw [List.all_eq_true]
        intro x hx
        rw [List.eq_of_mem_replicate hx]
        exact bne_iff_ne.2 h0
      unfold null_Join.f
      rw [if_pos ⟨by omega, by rw [List.length_replicate]; omega⟩, if_pos ⟨by rw [List.length_replicate]; omega, hall⟩]
    obtain ⟨x, e1⟩ := e1
    have e2 : null_Join.f l (List.replicate (l.count false) (⟨f0, f1, f2⟩ : S37) ++ [(⟨f0, f1, f2⟩ : S37)]) = some ([], 4) :=
      join_off _ _ (by omega) (by rw [List.length_append, List.length_replicate, List.length_singleton]; omega) (fun h => by
        have := h.1
        rw [List.length_append, List.length_replicate, List.length_singleton] at this
        omega)
    refine Ev.step (f := fun k => astragallaw06_NullMore.j2 k l true (List.replicate (l.count false) (⟨f0, f1, f2⟩ : S37)) false) (fun k => ?_) (NullMore.end_ l f0 f1 f2 h0 hl)
    simp only [astragallaw06_NullMore.l0]
    rw [if_neg (by omega), e1, Option.bind_some, Option.bind_some, if_pos (by simp; omega), Option.bind_some, Option.bind_some, if_pos (by simp; omega), List.nil_append, e2, Option.bind_some, if_pos rfl]
    rfl
  | succ d ih =>
    intro i hi
    have hix : i < l.length := by omega
    have h := ih (i + 1) (by omega)
    have hcl : (l.take i).count false ≤ l.length := Nat.le_trans List.count_le_length (by rw [List.length_take]; omega)
    rw [List.take_succ_eq_append_getElem hix, List.count_append] at h
    have hrd := rdb_nat l i hix
    have hw : wrap64 ((i : Int) + 1) = ((i + 1 : Nat) : Int) := by rw [wrap_le (by omega) (by omega)]; rfl
    cases hbb : l[i] with
    | true =>
      rw [hbb] at h hrd
      refine Ev.step (f := fun k => astragallaw06_NullMore.l0 k l true (List.replicate ((l.take i).count false) (⟨f0, f1, f2⟩ : S37)) ((i + 1 : Nat) : Int) f0 f1 f2) (fun k => ?_) h
      simp only [astragallaw06_NullMore.l0]
      rw [if_pos (by omega), if_pos (by omega), if_pos hrd, hw]
    | false =>
      rw [hbb] at h hrd
      have hrep : List.replicate ((l.take i).count false + [false].count false) (⟨f0, f1, f2⟩ : S37) = List.replicate ((l.take i).count false) (⟨f0, f1, f2⟩ : S37) ++ [(⟨f0, f1, f2⟩ : S37)] := by
        rw [show [false].count false = 1 from rfl, List.replicate_succ']
      rw [hrep] at h
      refine Ev.step (f := fun k => astragallaw06_NullMore.l0 k l true (List.replicate ((l.take i).count false) (⟨f0, f1, f2⟩ : S37) ++ [(⟨f0, f1, f2⟩ : S37)]) ((i + 1 : Nat) : Int) f0 f1 f2) (fun k => ?_) h
      simp only [astragallaw06_NullMore.l0]
      rw [if_pos (by omega), if_pos (by omega), if_neg (by rw [hrd]; decide), Option.bind_some, if_pos (by rw [List.length_replicate, List.length_singleton]; omega), hw]
theorem NullMore.sem (l : List Bool) (f0 f1 : Int) (f2 : ByteArray) : Ev (fun k => astragallaw06_NullMore.f k l f0 f1 f2) true := by
  have hfar : Ev (fun k => astragallaw06_NullMore.j0 k l true true f0 f1 f2) true := Ev.step (f := fun _ => some true) (fun k => by simp only [astragallaw06_NullMore.j0]; rw [if_pos trivial]) (Ev.now _)
  by_cases h0 : f0 = 0
  · refine Ev.congr (fun k => ?_) (Ev.bind Shown6.sem (f := fun k t => astragallaw06_NullMore.j0 k l t true f0 f1 f2) hfar)
    unfold astragallaw06_NullMore.f
    simp only [if_pos h0]
  by_cases hl : (l.length : Int) > 2000
  · refine Ev.congr (fun k => ?_) (Ev.bind Shown6.sem (f := fun k t => astragallaw06_NullMore.j0 k l t true f0 f1 f2) hfar)
    unfold astragallaw06_NullMore.f
    simp only [if_neg h0, decide_eq_true hl]
  · have hlo := NullMore.loop l f0 f1 f2 h0 (by omega) l.length 0 (by omega)
    have hj : Ev (fun k => astragallaw06_NullMore.j0 k l true false f0 f1 f2) true := by
      refine Ev.step (f := fun k => astragallaw06_NullMore.l0 k l true [] 0 f0 f1 f2) (fun k => ?_) hlo
      simp only [astragallaw06_NullMore.j0]
      rw [if_neg (by decide)]
    refine Ev.congr (fun k => ?_) (Ev.bind Shown6.sem (f := fun k t => astragallaw06_NullMore.j0 k l t false f0 f1 f2) hj)
    unfold astragallaw06_NullMore.f
    simp only [if_neg h0, decide_eq_false hl]
theorem nullMore_walk {w : World} (A0 : Option Addr) (c0 : Nat) (l0 : List Bool) (hr0 : Kd.C Kd.bool w A0 l0.length l0) (hc0 : l0.length ≤ c0) (f0 f1 : Int) (f2 : ByteArray) :
    Calls Try.prog 5 #[.slice A0 l0.length c0, .agg #[.int .i64 f0, .int .i64 f1, .string f2]] w fun e w' => e = .returned (.bool true) ∧ Below w.heap.size w w' := by
  obtain ⟨k, h⟩ := (NullMore.sem l0 f0 f1 f2).rounds
  exact astragallaw06_NullMore.calls k A0 c0 l0 f0 f1 f2 true w hr0 hc0 h
end Go.Proofs.Ytnndeogbncadbaa.F
