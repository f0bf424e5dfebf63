/- Bytes that are unpacked are packed as the very bytes; with a byte more they are refused: for every row of bytes that can be read, every uint16 and every uint8. -/
import Derived.Test.YtnndeogbncadbaaF37
import Derived.Test.YtnndeogbncadbaaShown1
namespace Go.Proofs.Ytnndeogbncadbaa.Pure
open Go.RowKit Go.Proofs.Ytnndeogbncadbaa.F Go.Proofs.YtnndeogbncadbaaW.PrintWords Go.Proofs.YtnndeogbncadbaaW.PrintLast Go.Proofs.YtnndeogbncadbaaW.PrintMore
set_option linter.unusedVariables false

theorem on_u8 {l : List Int} (h : ∀ x ∈ l, (Lit.int .u8 x).wf = true) : l.all inU8 = true := List.all_eq_true.2 fun x hx => by
  have : 0 ≤ x ∧ x ≤ 255 := by simpa [Lit.wf, IntKind.min, IntKind.max, IntKind.signed, IntKind.bits] using h x hx
  simp only [inU8, Bool.and_eq_true, decide_eq_true_eq]
  omega
theorem falses (l : List Bool) (h : l.all (fun b => !b) = true) : l = List.replicate l.length false := by
  apply List.eq_replicate_of_mem
  intro b hb
  have := List.all_eq_true.1 h b hb
  simpa using this
/-- Unpacked: the numbers, and that they are laid down as the very bytes; or refused. -/
theorem unpack_ones (l : List Int) (n w : Nat) (hu : l.all inU8 = true) (hl : l.length ≤ 2000) (hn : n ≤ 65535) (hw : w ≤ 64) :
    (∃ e, bits_Unpack.f l (n : Int) (w : Int) = some ([], e) ∧ e ≠ 0) ∨
    (∃ x, bits_Unpack.f l (n : Int) (w : Int) = some (x, 0) ∧ x.length = n ∧ bits_Pack.f x (w : Int) = some (l, 0) ∧ bits_Unpack.f (l ++ [0]) (n : Int) (w : Int) = some ([], 4)) := by
  obtain ⟨m, hm⟩ : ∃ m, m = n * w := ⟨_, rfl⟩
  have hm2 : (n : Int) * (w : Int) = (m : Int) := by rw [hm]; push_cast; rfl
  have hmb : m ≤ 65535 * 64 := by rw [hm]; exact Nat.mul_le_mul hn hw
  have hu0 : (l ++ [0]).all inU8 = true := by rw [List.all_append, hu]; decide
  have hf : ∀ q : List Int, q.all inU8 = true → q.length ≤ 2001 → bits_Unpack.f q (n : Int) (w : Int) = (if 8 * (q.length : Int) < m then some ([], 3) else if 8 * (q.length : Int) - m ≥ 8 then some ([], 4) else if ((bitsB q).drop m).all (fun b => !b) = true then some (getsN w n (bitsB q), 0) else some ([], 4)) := by
    intro q hq hl
    unfold bits_Unpack.f
    rw [if_pos ⟨by omega, hq⟩, if_neg (by omega), hm2, Int.toNat_natCast, Int.toNat_natCast, Int.toNat_natCast]
  rw [hf l hu (by omega), hf (l ++ [0]) hu0 (by rw [List.length_append, List.length_singleton]; omega)]
  by_cases h1 : 8 * (l.length : Int) < m
  · rw [if_pos h1]
    exact .inl ⟨3, rfl, by omega⟩
  by_cases h2 : 8 * (l.length : Int) - m ≥ 8
  · rw [if_neg h1, if_pos h2]
    exact .inl ⟨4, rfl, by omega⟩
  rw [if_neg h1, if_neg h2]
  by_cases h3 : ((bitsB l).drop m).all (fun b => !b) = true
  · rw [if_pos h3]
    refine .inr ⟨_, rfl, getsN_length _ _ _, ?_, ?_⟩
    · unfold bits_Pack.f
      rw [if_pos ⟨by rw [getsN_length]; omega, getsN_u64 w n hw _⟩, if_neg (by omega), Int.toNat_natCast, if_pos ((all_fit_iff _ w).2 (getsN_fit w n _)), flat_getsN w n _ (by rw [bitsB_length, ← hm]; omega), ← hm]
      have hf := falses _ h3
      rw [List.length_drop, bitsB_length] at hf
      have hsplit : (bitsB l).take m ++ List.replicate (8 * l.length - m) false = bitsB l := by
        rw [← hf, List.take_append_drop]
      have ht : ((bitsB l).take m).length = m := by rw [List.length_take, bitsB_length]; omega
      have hp := packN_pad ((bitsB l).take m) (8 * l.length - m) (by rw [ht]; omega)
      rw [← hp, hsplit, packN_bitsB l hu]
    · rw [if_neg (by rw [List.length_append, List.length_singleton]; omega), if_pos (by rw [List.length_append, List.length_singleton]; omega)]
  · rw [if_neg h3]
    exact .inl ⟨4, rfl, by omega⟩
theorem BitsOnes : astragallaw01_BitsOnes.Pure := by
  intro l a c _ _ hl ha hc
  have hu := on_u8 hl
  have ha2 : 0 ≤ a ∧ a ≤ 65535 := by simpa [Lit.wf, IntKind.min, IntKind.max, IntKind.signed, IntKind.bits] using ha
  have hc2 : 0 ≤ c ∧ c ≤ 255 := by simpa [Lit.wf, IntKind.min, IntKind.max, IntKind.signed, IntKind.bits] using hc
  by_cases h1 : l.length > 2000
  · refine Ev.rounds (Ev.congr (f := fun k => (astragallaw01_shown.f k).bind fun t => some t) (fun k => ?_) (Ev.bind Shown1.sem (Ev.now _)))
    unfold astragallaw01_BitsOnes.f
    congr 1
    funext t
    rw [if_pos (by omega)]
  obtain ⟨n, hn⟩ := Int.eq_ofNat_of_zero_le ha2.1
  have hwa : wrap64 a = (n : Int) := by rw [hn, wrap_le (by omega) (by omega)]
  obtain ⟨w, hw⟩ : ∃ w : Nat, wrap64 (Int.tmod c 65) = (w : Int) := ⟨(c % 65).toNat, by rw [Int.tmod_eq_emod_of_nonneg hc2.1, wrap_le (by omega) (by omega)]; omega⟩
  have hw64 : w ≤ 64 := by
    have : wrap64 (Int.tmod c 65) = c % 65 := by rw [Int.tmod_eq_emod_of_nonneg hc2.1, wrap_le (by omega) (by omega)]
    omega
  rcases unpack_ones l n w hu (by omega) (by omega) hw64 with ⟨e, he, hne⟩ | ⟨x, hx, hxl, hp, hq⟩
  · refine Ev.rounds (Ev.congr (f := fun k => (astragallaw01_shown.f k).bind fun t => if t = true then some true else some false) (fun k => ?_) (Ev.bind Shown1.sem ?_))
    · unfold astragallaw01_BitsOnes.f
      congr 1
      funext t
      rw [if_neg (by omega), hwa, hw, he, Option.bind_some, if_neg hne]
      rfl
    · simp only [if_true]
      exact Ev.now _
  · refine Ev.rounds (Ev.congr (f := fun k => (astragallaw01_shown.f k).bind fun t => if t = true then some true else some false) (fun k => ?_) (Ev.bind Shown1.sem ?_))
    · unfold astragallaw01_BitsOnes.f
      congr 1
      funext t
      rw [if_neg (by omega), hwa, hw, hx]
      simp only [Option.bind_some, if_true, hp]
      rw [if_pos (by simp; omega)]
      simp only [List.nil_append, hq, Option.bind_some, if_true]
      rw [if_pos (by omega), hxl, beq_self_eq_true]
    · simp only [if_true]
      exact Ev.now _
end Go.Proofs.Ytnndeogbncadbaa.Pure
