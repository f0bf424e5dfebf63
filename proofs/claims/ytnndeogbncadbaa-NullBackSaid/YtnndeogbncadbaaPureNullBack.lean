/- What was split is joined as it was: the plain law. -/
import Derived.Test.YtnndeogbncadbaaSem3
import Derived.Test.YtnndeogbncadbaaF43
namespace Go.Proofs.Ytnndeogbncadbaa.F
open Go.RowKit Go.Proofs.YtnndeogbncadbaaW.PrintWords Go.Proofs.YtnndeogbncadbaaW.PrintLast Go.Proofs.YtnndeogbncadbaaW.PrintMore
set_option linter.unusedVariables false
theorem rdV_nat (l : List S37) (i : Nat) (h : i < l.length) : rd_T37 l (i : Int) = l[i] := by
  unfold rd_T37
  rw [Int.toNat_natCast, List.getD_eq_getElem?_getD, List.getElem?_eq_getElem h]
  rfl
theorem part_lengths (l : List S37) : (l.filter (fun v => v.f0 != 0)).length + (l.map (fun v => v.f0 == 0)).count true = l.length := by
  induction l with
  | nil => rfl
  | cons x r ih =>
    rw [List.map_cons, List.count_cons, List.length_cons, List.filter_cons]
    by_cases h : x.f0 = 0
    · rw [if_neg (by rw [h]; decide), if_pos (by rw [h]; decide)]
      omega
    · rw [if_pos (bne_iff_ne.2 h), if_neg (by simp [h]), List.length_cons]
      omega
/-- What is nothing has nothing else. -/
def bare (x : S37) : S37 := if x.f0 = 0 then z37 else x
theorem join_split (l : List S37) : joinN (l.map (fun v => v.f0 == 0)) (l.filter (fun v => v.f0 != 0)) = l.map bare := by
  induction l with
  | nil => rfl
  | cons x r ih =>
    rw [List.map_cons, List.map_cons, List.filter_cons]
    by_cases h : x.f0 = 0
    · rw [if_neg (by rw [h]; decide), show (x.f0 == 0) = true from beq_iff_eq.2 h, joinN_true, ih]
      unfold bare
      rw [if_pos h]
    · rw [if_pos (bne_iff_ne.2 h), show (x.f0 == 0) = false from beq_eq_false_iff_ne.2 h, joinN, ih]
      unfold bare
      rw [if_neg h]
theorem NullBack.loop (l : List S37) (hl : l.length ≤ 5000) (d : Nat) : ∀ (i : Nat), l.length = i + d → Ev (fun k => astragallaw06_NullBack.l0 k l true (l.map bare) (i : Int)) true := by
  induction d with
  | zero =>
    intro i hi
    refine Ev.step (f := fun k => some true) (fun k => ?_) (Ev.now _)
    simp only [astragallaw06_NullBack.l0]
    rw [if_neg (by omega)]
  | succ d ih =>
    intro i hi
    have hix : i < l.length := by omega
    have h1 := rdV_nat l i hix
    have h2 := rdV_nat (l.map bare) i (by rw [List.length_map]; exact hix)
    rw [List.getElem_map] at h2
    have hw : wrap64 ((i : Int) + 1) = ((i + 1 : Nat) : Int) := by rw [wrap_le (by omega) (by omega)]; rfl
    refine Ev.step (f := fun k => astragallaw06_NullBack.l0 k l true (l.map bare) ((i + 1 : Nat) : Int)) (fun k => ?_) (ih (i + 1) (by omega))
    simp only [astragallaw06_NullBack.l0, h1, h2]
    rw [if_pos (by omega), if_pos (by omega)]
    by_cases h0 : (l[i]).f0 = 0
    · have hb : bare l[i] = z37 := by unfold bare; rw [if_pos h0]
      rw [if_pos h0, if_pos (by rw [List.length_map]; omega), hb, if_neg (by simp [z37, ByteArray.toList_eq]), hw]
    · have hb : bare l[i] = l[i] := by unfold bare; rw [if_neg h0]
      rw [if_neg h0, if_pos (by rw [List.length_map]; omega), hb, if_neg (by simp), hw]
/-- A bit each, unpacked. -/
theorem gets_bits (A : List Bool) (rest : List Bool) : (getsN 1 A.length (A ++ rest)).map (fun x => x == 1) = A := by
  apply List.ext_getElem
  · rw [List.length_map, getsN_length]
  · intro i h1 h2
    rw [List.getElem_map]
    unfold getsN
    rw [List.getElem_map, List.getElem_range, Nat.mul_one, List.drop_append_of_le_length (by omega), List.drop_eq_getElem_cons h2]
    simp only [List.cons_append, List.take_succ_cons, List.take_zero, numN]
    cases A[i] <;> rfl
theorem of_back (A : List Bool) (hl : A.length ≤ 5000) : Ev (fun k => null_Of.f k (packN A) (A.length : Int)) (A, 0) := by
  have hlen := packN_length A
  have hu : bits_Unpack.f (packN A) (A.length : Int) 1 = some (getsN 1 A.length (bitsB (packN A)), 0) := by
    unfold bits_Unpack.f
    rw [if_pos ⟨by omega, packN_u8 A⟩, if_neg (by omega), if_neg (by omega), if_neg (by omega), if_pos ?_]
    · rw [Int.toNat_natCast]
      rfl
    · rw [Int.mul_one, Int.toNat_natCast, bitsB_packN, List.drop_left]
      rw [List.all_eq_true]
      intro x hx
      rw [List.eq_of_mem_replicate hx]
      rfl
  have h := Of.good (packN A) (A.length : Int) _ (by rw [getsN_length]; omega) hu
  rw [bitsB_packN, gets_bits] at h
  exact h
theorem NullBack.sem (l : List S37) : ∃ k, astragallaw06_NullBack.f k l = some true := by
  obtain ⟨K1, h1⟩ := Shown6.sem
  by_cases hl : (l.length : Int) > 5000
  · refine ⟨K1, ?_⟩
    have g1 := h1 K1 (by omega)
    dsimp only at g1
    unfold astragallaw06_NullBack.f
    rw [g1, Option.bind_some, if_pos hl]
  · have s1 : null_Split.f l = some (l.map (fun v => v.f0 == 0), l.filter (fun v => v.f0 != 0)) := by unfold null_Split.f; rw [if_pos (by omega)]
    have hp := part_lengths l
    have hj := join_split l
    have hfa : (l.filter (fun v => v.f0 != 0)).all (fun v => v.f0 != 0) = true := by
      rw [List.all_eq_true]
      intro x hx
      exact (List.mem_filter.1 hx).2
    obtain ⟨A, hA⟩ : ∃ A, l.map (fun v => v.f0 == 0) = A := ⟨_, rfl⟩
    obtain ⟨X, hX⟩ : ∃ X, l.filter (fun v => v.f0 != 0) = X := ⟨_, rfl⟩
    have lA : A.length = l.length := by rw [← hA, List.length_map]
    rw [hX] at hfa
    rw [hA, hX] at s1 hp hj
    have s2 : null_Join.f A X = some (l.map bare, 0) := by
      unfold null_Join.f
      rw [if_pos ⟨by omega, by omega⟩, if_pos ⟨by omega, hfa⟩, hj]
    have s3 : null_Bytes.f A = some (packN A) := by unfold null_Bytes.f; rw [if_pos (by omega)]
    obtain ⟨K2, h2⟩ := of_back A (by omega)
    obtain ⟨K3, h3⟩ := Same6.sem A A (by omega)
    rw [show decide (A = A) = true from decide_eq_true rfl] at h3
    obtain ⟨K4, h4⟩ := Count.sem A (by omega)
    obtain ⟨K5, h5⟩ := NullBack.loop l (by omega) l.length 0 (by omega)
    refine ⟨K1 + K2 + K3 + K4 + K5 + 1, ?_⟩
    have g1 := h1 (K1 + K2 + K3 + K4 + K5 + 1) (by omega)
    have g2 := h2 (K1 + K2 + K3 + K4 + K5 + 1) (by omega)
    have g3 := h3 (K1 + K2 + K3 + K4 + K5 + 1) (by omega)
    have g4 := h4 (K1 + K2 + K3 + K4 + K5 + 1) (by omega)
    have g5 := h5 (K1 + K2 + K3 + K4 + K5) (by omega)
    dsimp only at g1 g2 g3 g4 g5
    rw [lA] at g2
    unfold astragallaw06_NullBack.f
    rw [g1, Option.bind_some, if_neg hl, s1, Option.bind_some, s2, Option.bind_some, s3, Option.bind_some, g2, Option.bind_some, if_pos rfl, if_pos rfl, if_pos (by rw [List.length_map]), g3, Option.bind_some, if_pos rfl, g4, Option.bind_some]
    dsimp only
    rw [wrap_le (by omega) (by omega), show (((X.length : Int) + ((A.count true : Nat) : Int)) != (l.length : Int)) = false from bne_eq_false_iff_eq.2 (by omega)]
    simp only [astragallaw06_NullBack.j0]
    rw [if_neg (by decide)]
    exact g5
theorem nullBack_walk {w : World} (A0 : Option Addr) (c0 : Nat) (l0 : List S37) (hr0 : Kd.C k37 w A0 l0.length l0) (hc0 : l0.length ≤ c0) :
    Calls Try.prog 15 #[.slice A0 l0.length c0] w fun e w' => e = .returned (.bool true) ∧ Below w.heap.size w w' := by
  obtain ⟨k, h⟩ := NullBack.sem l0
  exact astragallaw06_NullBack.calls k A0 c0 l0 true w hr0 hc0 h
end Go.Proofs.Ytnndeogbncadbaa.F
