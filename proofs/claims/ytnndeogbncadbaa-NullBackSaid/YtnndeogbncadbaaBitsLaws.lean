/- Plain laws of bits and bytes: there and back. -/
import Derived.Test.YtnndeogbncadbaaPut
namespace Go.Proofs.Ytnndeogbncadbaa.F
open Go.RowKit Go.Proofs.YtnndeogbncadbaaW.PrintWords Go.Proofs.YtnndeogbncadbaaW.PrintLast Go.Proofs.YtnndeogbncadbaaW.PrintMore

theorem lenN_le_iff (n w : Nat) : lenN n ≤ w ↔ n < 2 ^ w := by
  unfold lenN
  split
  · rename_i h
    subst h
    exact ⟨fun _ => Nat.two_pow_pos w, fun _ => Nat.zero_le _⟩
  · rename_i h
    rw [← Nat.log2_lt h]
    omega
theorem lenN_or (a b : Nat) : lenN (a ||| b) = max (lenN a) (lenN b) := by
  apply Nat.le_antisymm
  · rw [lenN_le_iff]
    exact Nat.or_lt_two_pow ((lenN_le_iff _ _).1 (Nat.le_max_left _ _)) ((lenN_le_iff _ _).1 (Nat.le_max_right _ _))
  · apply Nat.max_le.2
    constructor
    · rw [lenN_le_iff]
      exact Nat.lt_of_le_of_lt Nat.left_le_or ((lenN_le_iff _ _).1 (Nat.le_refl _))
    · rw [lenN_le_iff]
      exact Nat.lt_of_le_of_lt Nat.right_le_or ((lenN_le_iff _ _).1 (Nat.le_refl _))
theorem lenN_64 (n : Nat) (h : n < 18446744073709551616) : lenN n ≤ 64 := (lenN_le_iff n 64).2 (by simpa using h)

/-- The width that numbers need. -/
def widthN (l : List Int) : Nat := l.foldr (fun x m => max (lenN x.toNat) m) 0
theorem widthN_le (l : List Int) (w : Nat) : widthN l ≤ w ↔ ∀ x ∈ l, lenN x.toNat ≤ w := by
  induction l with
  | nil => simp [widthN]
  | cons x l ih =>
    have : widthN (x :: l) = max (lenN x.toNat) (widthN l) := rfl
    rw [this, Nat.max_le, ih]
    simp
theorem widthN_append (a b : List Int) : widthN (a ++ b) = max (widthN a) (widthN b) := by
  induction a with
  | nil => simp [widthN]
  | cons x a ih =>
    show max (lenN x.toNat) (widthN (a ++ b)) = max (max (lenN x.toNat) (widthN a)) (widthN b)
    rw [ih, Nat.max_assoc]
theorem widthN_64 (l : List Int) (h : l.all inU64 = true) : widthN l ≤ 64 := by
  rw [widthN_le]
  intro x hx
  have h1 : inU64 x = true := List.all_eq_true.1 h x hx
  have h2 : 0 ≤ x ∧ x < 18446744073709551616 := by simpa [inU64] using h1
  exact lenN_64 _ (by omega)
theorem all_fit_iff (l : List Int) (w : Nat) : l.all (fun x => decide (lenN x.toNat ≤ w)) = true ↔ widthN l ≤ w := by
  rw [widthN_le, List.all_eq_true]
  simp

theorem numN_bitsN (w : Nat) : ∀ n, n < 2 ^ w → numN (bitsN w n) = n := by
  induction w with
  | zero => intro n h; have : n = 0 := by simpa using h
            subst this; rfl
  | succ w ih =>
    intro n h
    have hs : bitsN (w + 1) n = (n % 2 == 1) :: bitsN w (n / 2) := by
      simp only [bitsN, List.range_succ_eq_map, List.map_cons, List.map_map]
      congr 1
      · simp only [Nat.testBit_zero]; rfl
      · apply List.map_congr_left
        intro i _
        simp [Nat.testBit_succ]
    rw [hs, numN, ih _ (by rw [Nat.pow_succ] at h; omega)]
    rcases Nat.mod_two_eq_zero_or_one n with h2 | h2 <;> simp [h2] <;> omega
theorem bitsN_numN (bs : List Bool) : bitsN bs.length (numN bs) = bs := by
  induction bs with
  | nil => rfl
  | cons b bs ih =>
    have hs : bitsN (bs.length + 1) (numN (b :: bs)) = (numN (b :: bs) % 2 == 1) :: bitsN bs.length (numN (b :: bs) / 2) := by
      simp only [bitsN, List.range_succ_eq_map, List.map_cons, List.map_map]
      congr 1
      · simp only [Nat.testBit_zero]; rfl
      · apply List.map_congr_left
        intro i _
        simp [Nat.testBit_succ]
    rw [List.length_cons, hs]
    have h1 : numN (b :: bs) / 2 = numN bs := by simp only [numN]; cases b <;> simp <;> omega
    have h2 : (numN (b :: bs) % 2 == 1) = b := by simp only [numN]; cases b <;> simp <;> omega
    rw [h1, h2, ih]

theorem numN_false (x : List Bool) (j : Nat) : numN (x ++ List.replicate j false) = numN x := by
  induction x with
  | nil => rw [List.nil_append, show numN ([] : List Bool) = 0 from rfl, numN_zero]; simp
  | cons b x ih => rw [List.cons_append, numN, numN, ih]
/-- Bits that fill up with nothing give the same bytes. -/
theorem packN_pad (bs : List Bool) (j : Nat) (h : (bs.length + j + 7) / 8 = (bs.length + 7) / 8) : packN (bs ++ List.replicate j false) = packN bs := by
  apply List.ext_getElem?
  intro i
  have hl : (bs ++ List.replicate j false).length = bs.length + j := by simp
  rcases Nat.lt_or_ge i ((bs.length + 7) / 8) with hi | hi
  · rw [packN_get _ _ (by rw [hl, h]; exact hi), packN_get _ _ hi]
    congr 2
    by_cases h8 : 8 * i + 8 ≤ bs.length
    · rw [List.drop_append_of_le_length (by omega), List.take_append_of_le_length (by rw [List.length_drop]; omega)]
    · rw [List.drop_append_of_le_length (by omega), List.take_of_length_le (l := bs.drop (8 * i)) (by rw [List.length_drop]; omega)]
      rw [List.take_of_length_le (by rw [List.length_append, List.length_drop, List.length_replicate]; omega), numN_false]
  · rw [List.getElem?_eq_none (by rw [packN_length, hl, h]; exact hi), List.getElem?_eq_none (by rw [packN_length]; exact hi)]
theorem numN_take8 (l : List Int) (i : Nat) (hi : i < l.length) (hu : l.all inU8 = true) : ((numN (((bitsB l).drop (8 * i)).take 8) : Nat) : Int) = l[i] := by
  have h1 : ((bitsB l).drop (8 * i)).take 8 = bitsN 8 l[i].toNat := by
    apply List.ext_getElem?
    intro j
    by_cases hj : j < 8
    · rw [List.getElem?_take_of_lt hj, List.getElem?_drop, bitsB_get _ _ (by omega), show (8 * i + j) / 8 = i by omega, show (8 * i + j) % 8 = j by omega]
      simp [bitsN, hj, List.getD_eq_getElem?_getD, List.getElem?_eq_getElem hi]
    · rw [List.getElem?_eq_none (by rw [List.length_take]; omega), List.getElem?_eq_none (by rw [bitsN_length]; omega)]
  have h2 : inU8 l[i] = true := List.all_eq_true.1 hu _ (List.getElem_mem _)
  have h3 : 0 ≤ l[i] ∧ l[i] < 256 := by simpa [inU8] using h2
  rw [h1, numN_bitsN 8 _ (by omega)]
  omega
theorem packN_bitsB (l : List Int) (hu : l.all inU8 = true) : packN (bitsB l) = l := by
  apply List.ext_getElem?
  intro i
  rcases Nat.lt_or_ge i l.length with hi | hi
  · rw [packN_get _ _ (by rw [bitsB_length]; omega), numN_take8 l i hi hu, List.getElem?_eq_getElem hi]
  · rw [List.getElem?_eq_none (by rw [packN_length, bitsB_length]; omega), List.getElem?_eq_none hi]
theorem packN_u8 (bs : List Bool) : (packN bs).all inU8 = true := by
  rw [List.all_eq_true]
  intro x hx
  obtain ⟨i, hi, rfl⟩ := List.mem_iff_getElem.1 hx
  have h := packN_get bs i (by rw [packN_length] at hi; exact hi)
  rw [List.getElem?_eq_getElem hi] at h
  have h2 := Option.some.inj h
  rw [h2]
  have h3 := numN_lt ((bs.drop (8 * i)).take 8)
  have h4 : 2 ^ ((bs.drop (8 * i)).take 8).length ≤ 2 ^ 8 := Nat.pow_le_pow_right (by omega) (by rw [List.length_take]; omega)
  simp only [inU8, Bool.and_eq_true, decide_eq_true_eq]
  omega
theorem bitsB_packN (bs : List Bool) : bitsB (packN bs) = bs ++ List.replicate (8 * ((bs.length + 7) / 8) - bs.length) false := by
  apply List.ext_getElem?
  intro p
  have hL : (bitsB (packN bs)).length = 8 * ((bs.length + 7) / 8) := by rw [bitsB_length, packN_length]
  rcases Nat.lt_or_ge p (8 * ((bs.length + 7) / 8)) with hp | hp
  · rw [bitsB_get _ _ (by rw [packN_length]; exact hp), List.getD_eq_getElem?_getD, packN_get _ _ (by omega), Option.getD_some, Int.toNat_natCast]
    have key : ∀ (c : List Bool) (j : Nat), (numN c).testBit j = c.getD j false := by
      intro c
      induction c with
      | nil => intro j; simp [numN]
      | cons b c ih =>
        intro j
        cases j with
        | zero => simp only [Nat.testBit_zero, numN]; cases b <;> simp <;> omega
        | succ j =>
          rw [Nat.testBit_succ]
          have : numN (b :: c) / 2 = numN c := by simp only [numN]; cases b <;> simp <;> omega
          rw [this, ih]
          simp
    rw [key, List.getD_eq_getElem?_getD, List.getElem?_take_of_lt (by omega), List.getElem?_drop, show 8 * (p / 8) + p % 8 = p by omega]
    rcases Nat.lt_or_ge p bs.length with h2 | h2
    · rw [List.getElem?_append_left h2, List.getElem?_eq_getElem h2, Option.getD_some]
    · rw [List.getElem?_append_right h2, List.getElem?_eq_none h2, List.getElem?_replicate, if_pos (by omega), Option.getD_none]
  · rw [List.getElem?_eq_none (by omega), List.getElem?_eq_none (by rw [List.length_append, List.length_replicate]; omega)]

theorem flatN_length (l : List Int) (w : Nat) : (l.flatMap fun x => bitsN w x.toNat).length = l.length * w := by
  induction l with
  | nil => simp
  | cons x l ih => rw [List.flatMap_cons, List.length_append, ih, bitsN_length, List.length_cons, Nat.succ_mul]; omega
/-- Numbers that were laid down are got. -/
theorem getsN_flat (l : List Int) (w : Nat) (rest : List Bool) (h0 : ∀ x ∈ l, 0 ≤ x) (hw : widthN l ≤ w) : getsN w l.length ((l.flatMap fun x => bitsN w x.toNat) ++ rest) = l := by
  apply List.ext_getElem?
  intro i
  rcases Nat.lt_or_ge i l.length with hi | hi
  · have hd : ∀ (l : List Int) (i : Nat) (hi : i < l.length), (((l.flatMap fun x => bitsN w x.toNat) ++ rest).drop (i * w)).take w = bitsN w l[i].toNat := by
      intro l
      induction l with
      | nil => intro i hi; simp at hi
      | cons x l ih =>
        intro i hi
        cases i with
        | zero =>
          rw [Nat.zero_mul, List.drop_zero, List.flatMap_cons, List.append_assoc, List.take_append_of_le_length (by rw [bitsN_length]; exact Nat.le_refl _), List.take_of_length_le (by rw [bitsN_length]; exact Nat.le_refl _)]
          rfl
        | succ i =>
          rw [Nat.succ_mul, Nat.add_comm, ← List.drop_drop, List.flatMap_cons, List.append_assoc]
          have : (bitsN w x.toNat ++ ((l.flatMap fun x => bitsN w x.toNat) ++ rest)).drop w = (l.flatMap fun x => bitsN w x.toNat) ++ rest := List.drop_left' (bitsN_length _ _)
          rw [this, ih i (by simpa using hi)]
          rfl
    have hx : l[i] ∈ l := List.getElem_mem _
    have h1 := (widthN_le l w).1 hw _ hx
    have h2 := h0 _ hx
    rw [show (getsN w l.length ((l.flatMap fun x => bitsN w x.toNat) ++ rest))[i]? = some ((numN ((((l.flatMap fun x => bitsN w x.toNat) ++ rest).drop (i * w)).take w) : Nat) : Int) from by simp [getsN, List.getElem?_map, List.getElem?_range hi]]
    rw [hd l i hi, numN_bitsN w _ ((lenN_le_iff _ _).1 h1), List.getElem?_eq_getElem hi]
    congr 1
    omega
  · rw [List.getElem?_eq_none (by rw [getsN_length]; exact hi), List.getElem?_eq_none hi]
/-- What was got is laid down as the very bits. -/
theorem flat_getsN (w n : Nat) (bs : List Bool) (h : n * w ≤ bs.length) : ((getsN w n bs).flatMap fun x => bitsN w x.toNat) = bs.take (n * w) := by
  induction n with
  | zero => simp [getsN]
  | succ n ih =>
    rw [Nat.succ_mul] at h
    rw [getsN_succ, List.flatMap_append, ih (by omega), Nat.succ_mul, List.take_add]
    congr 1
    simp only [List.flatMap_cons, List.flatMap_nil, List.append_nil, Int.toNat_natCast]
    have hl : ((bs.drop (n * w)).take w).length = w := by rw [List.length_take, List.length_drop]; omega
    have := bitsN_numN ((bs.drop (n * w)).take w)
    rw [hl] at this
    exact this
theorem getsN_fit (w n : Nat) (bs : List Bool) : widthN (getsN w n bs) ≤ w := by
  rw [widthN_le]
  intro x hx
  simp only [getsN, List.mem_map] at hx
  obtain ⟨i, _, rfl⟩ := hx
  rw [Int.toNat_natCast, lenN_le_iff]
  exact Nat.lt_of_lt_of_le (numN_lt _) (Nat.pow_le_pow_right (by omega) (by rw [List.length_take]; omega))
theorem getsN_u64 (w n : Nat) (hw : w ≤ 64) (bs : List Bool) : (getsN w n bs).all inU64 = true := by
  rw [List.all_eq_true]
  intro x hx
  have h1 := (widthN_le _ _).1 (getsN_fit w n bs) x hx
  rw [lenN_le_iff] at h1
  have h2 : 2 ^ w ≤ 2 ^ 64 := Nat.pow_le_pow_right (by omega) hw
  simp only [getsN, List.mem_map] at hx
  obtain ⟨i, _, rfl⟩ := hx
  simp only [inU64, Bool.and_eq_true, decide_eq_true_eq]
  omega
end Go.Proofs.Ytnndeogbncadbaa.F
