/- What was packed is unpacked, with the width that the numbers need, and with any greater one; with a lesser one it is refused: for every row of uint64 that can be read, and every uint8. -/
import Derived.Test.YtnndeogbncadbaaF36
import Derived.Test.YtnndeogbncadbaaShown1
namespace Go.Proofs.Ytnndeogbncadbaa.Pure
open Go.RowKit Go.Proofs.Ytnndeogbncadbaa.F Go.Proofs.YtnndeogbncadbaaW.PrintWords Go.Proofs.YtnndeogbncadbaaW.PrintLast Go.Proofs.YtnndeogbncadbaaW.PrintMore
set_option linter.unusedVariables false

theorem bk_u64 {l : List Int} (h : ∀ x ∈ l, (Lit.int .u64 x).wf = true) : l.all inU64 = true := List.all_eq_true.2 fun x hx => by
  have : 0 ≤ x ∧ x ≤ 18446744073709551615 := by simpa [Lit.wf, IntKind.min, IntKind.max, IntKind.signed, IntKind.bits] using h x hx
  simp only [inU64, Bool.and_eq_true, decide_eq_true_eq]
  omega
/-- Packed and unpacked. -/
theorem pack_back (l : List Int) (w : Nat) (hu : l.all inU64 = true) (hl : l.length ≤ 1000) (hw : widthN l ≤ w) (hw2 : w ≤ 64) :
    ∃ b, bits_Pack.f l (w : Int) = some (b, 0) ∧ bits_Unpack.f b (l.length : Int) (w : Int) = some (l, 0) ∧ b.length = (l.length * w + 7) / 8 := by
  obtain ⟨bs, hbs⟩ : ∃ bs, bs = l.flatMap fun x => bitsN w x.toNat := ⟨_, rfl⟩
  have hlen : bs.length = l.length * w := by rw [hbs, flatN_length]
  have hsmall : l.length * w ≤ 1000 * 64 := Nat.mul_le_mul hl hw2
  have hbl : (packN bs).length = (l.length * w + 7) / 8 := by rw [packN_length, hlen]
  refine ⟨packN bs, ?_, ?_, hbl⟩
  · unfold bits_Pack.f
    rw [if_pos ⟨by omega, hu⟩, if_neg (by omega), Int.toNat_natCast, if_pos ((all_fit_iff l w).2 hw), hbs]
  · unfold bits_Unpack.f
    rw [hbl]
    obtain ⟨m, hm⟩ : ∃ m, m = l.length * w := ⟨_, rfl⟩
    have hm2 : (l.length : Int) * (w : Int) = (m : Int) := by rw [hm]; push_cast; rfl
    rw [← hm, hm2, if_pos ⟨by omega, packN_u8 bs⟩, if_neg (by omega), if_neg (by omega), if_neg (by omega), Int.toNat_natCast, Int.toNat_natCast, Int.toNat_natCast]
    have hb := bitsB_packN bs
    rw [hb, List.drop_left' (by rw [hlen, hm]), if_pos (by simp), hbs]
    rw [getsN_flat l w _ (fun x hx => (u64_of (List.all_eq_true.1 hu x hx)).1) hw]
/-- With a lesser width nothing is packed. -/
theorem pack_less (l : List Int) (hu : l.all inU64 = true) (hl : l.length ≤ 1000) : bits_Pack.f l ((widthN l : Int) - 1) = some ([], 1) := by
  have h64 := widthN_64 l hu
  unfold bits_Pack.f
  rw [if_pos ⟨by omega, hu⟩]
  by_cases h0 : widthN l = 0
  · rw [if_pos (by omega)]
  · rw [if_neg (by omega), if_neg]
    intro h
    have := (all_fit_iff l _).1 h
    omega
theorem BitsBack : astragallaw01_BitsBack.Pure := by
  intro l a _ _ hl ha
  have hu := bk_u64 hl
  have ha2 : 0 ≤ a ∧ a ≤ 255 := by simpa [Lit.wf, IntKind.min, IntKind.max, IntKind.signed, IntKind.bits] using ha
  by_cases h1 : l.length > 1000
  · refine Ev.rounds (Ev.congr (f := fun k => (astragallaw01_shown.f k).bind fun t362 => some t362) (fun k => ?_) (Ev.bind Shown1.sem (Ev.now _)))
    unfold astragallaw01_BitsBack.f
    congr 1
    funext t
    rw [if_pos (by omega)]
  have h64 := widthN_64 l hu
  have hw := Width.sem l hu (by omega)
  obtain ⟨w, hw1, hw2, hw3⟩ : ∃ w : Nat, mn 64 (wrap64 ((widthN l : Int) + (wrap64 (Int.tmod a 70)))) = (w : Int) ∧ widthN l ≤ w ∧ w ≤ 64 := by
    have ht : Int.tmod a 70 = a % 70 := Int.tmod_eq_emod_of_nonneg ha2.1
    have hb : 0 ≤ a % 70 ∧ a % 70 < 70 := by omega
    rw [ht, wrap_le (x := a % 70) (by omega) (by omega), wrap_le (by omega) (by omega)]
    unfold mn
    split
    · exact ⟨((widthN l : Int) + a % 70).toNat, by omega, by omega, by omega⟩
    · exact ⟨64, rfl, h64, by omega⟩
  obtain ⟨b, hp, hq, hbl⟩ := pack_back l w hu (by omega) hw2 hw3
  have hs := RSame.sem l l (by omega)
  rw [decide_eq_true rfl] at hs
  have hless := pack_less l hu (by omega)
  refine Ev.rounds (Ev.congr (f := fun k => (astragallaw01_shown.f k).bind fun t362 => (bits_Width.f k l).bind fun t363 => ((bits_Pack.f l (mn 64 (wrap64 (t363 + (wrap64 (Int.tmod a 70)))))).bind fun bt364 => ((bits_Unpack.f bt364.1 (l.length : Int) (mn 64 (wrap64 (t363 + (wrap64 (Int.tmod a 70)))))).bind fun bt368 => (if bt364.2 = 0 then (if bt368.2 = 0 then ((astragalref01_Same.f k l bt368.1).bind fun t372 => (if t372 = true then (if (bt364.1.length : Int) = (wrap64 (Int.tdiv (wrap64 ((wrap64 ((l.length : Int) * (mn 64 (wrap64 (t363 + (wrap64 (Int.tmod a 70))))))) + 7)) 8)) then ((bits_Pack.f l (wrap64 (t363 - 1))).bind fun bt373 => (if t362 = true then (some (bt373.2 == 1)) else (some false))) else (some false)) else (some false))) else (some false)) else (some false))))) (fun k => ?_) (Ev.bind Shown1.sem (Ev.bind hw ?_)))
  · unfold astragallaw01_BitsBack.f
    congr 1
    funext t
    rw [if_neg (by omega)]
  · simp only [hw1, hp, hq, Option.bind_some, if_true]
    refine Ev.bind hs ?_
    have hsmall : l.length * w ≤ 1000 * 64 := Nat.mul_le_mul (by omega) hw3
    obtain ⟨m, hm⟩ : ∃ m, m = l.length * w := ⟨_, rfl⟩
    have hm2 : (l.length : Int) * (w : Int) = (m : Int) := by rw [hm]; push_cast; rfl
    have h5 : (b.length : Int) = wrap64 (Int.tdiv (wrap64 ((wrap64 ((l.length : Int) * (w : Int))) + 7)) 8) := by
      rw [hm2, wrap_le (x := (m : Int)) (by omega) (by omega), wrap_le (x := (m : Int) + 7) (by omega) (by omega), Int.tdiv_eq_ediv_of_nonneg (by omega), wrap_le (by omega) (by omega), hbl, ← hm]
      omega
    simp only [← h5, if_true]
    rw [wrap_le (by omega) (by omega), hless]
    simp only [Option.bind_some, beq_self_eq_true]
    exact Ev.now _
end Go.Proofs.Ytnndeogbncadbaa.Pure
