/- What the reference's Bits tells: bytes as bits. -/
import Derived.Test.YtnndeogbncadbaaPlain
import Derived.Test.YtnndeogbncadbaaF28
namespace Go.Proofs.Ytnndeogbncadbaa.F
open Go.RowKit Go.Proofs.YtnndeogbncadbaaW.PrintWords Go.Proofs.YtnndeogbncadbaaW.PrintLast Go.Proofs.YtnndeogbncadbaaW.PrintMore

theorem wrap_le {x : Int} (h0 : -9223372036854775808 ≤ x) (h1 : x ≤ 9223372036854775807) : wrap64 x = x := IntWalk.wrap64_in x ⟨h0, h1⟩
theorem bitsN_step (w n : Nat) : bitsN (w + 1) n = (n % 2 == 1) :: bitsN w (n / 2) := by
  simp only [bitsN, List.range_succ_eq_map, List.map_cons, List.map_map]
  congr 1
  · simp only [Nat.testBit_zero]; rfl
  · apply List.map_congr_left
    intro i _
    simp [Nat.testBit_succ]

/-- The inner loop: the bits of a byte that are left. -/
theorem Bits.inner (x0 : List Int) (i : Int) (r : List Bool) (d : Nat) : ∀ (bs : List Bool) (c : Nat) (j : Int), j = 8 - (d : Int) → d ≤ 8 → c < 256 → bs.length + d ≤ 8000000000 →
    Ev (fun k => astragalref01_Bits.l0 k x0 (bs ++ bitsN d c) (wrap64 (i + 1))) r → Ev (fun k => astragalref01_Bits.l1 k x0 bs i c j) r := by
  induction d with
  | zero =>
    intro bs c j hj _ _ _ h
    refine Ev.step (f := fun k => astragalref01_Bits.l0 k x0 bs (wrap64 (i + 1))) (fun k => ?_) (by simpa [bitsN] using h)
    simp only [astragalref01_Bits.l1]
    rw [if_neg (by omega)]
  | succ d ih =>
    intro bs c j hj hd hc hl h
    refine Ev.step (f := fun k => astragalref01_Bits.l1 k x0 (bs ++ [(c % 2 == 1)]) i ((c / 2 : Nat) : Int) (j + 1)) (fun k => ?_) (ih _ _ _ (by omega) (by omega) (by omega) (by rw [List.length_append, List.length_singleton]; omega) ?_)
    · simp only [astragalref01_Bits.l1]
      rw [if_pos (by omega), if_pos (by omega), wrap_le (by omega) (by omega), Int.tmod_eq_emod_of_nonneg (by omega), Int.tdiv_eq_ediv_of_nonneg (by omega)]
      have h1 : (((c : Int) % 2 == 1) : Bool) = (c % 2 == 1) := by
        rw [Bool.eq_iff_iff]; simp; omega
      have h2 : ((c : Int) / 2 % 256) = ((c / 2 : Nat) : Int) := by omega
      rw [h1, h2]
    · rw [List.append_assoc]
      rw [bitsN_step] at h
      exact h
theorem Bits.outer (x0 : List Int) (hu : x0.all inU8 = true) (hl : x0.length ≤ 1000000000) (d : Nat) : ∀ (i : Nat), x0.length = i + d →
    Ev (fun k => astragalref01_Bits.l0 k x0 (bitsB (x0.take i)) (i : Int)) (bitsB x0) := by
  induction d with
  | zero =>
    intro i hi
    refine Ev.step (f := fun _ => some (bitsB x0)) (fun k => ?_) (Ev.now _)
    simp only [astragalref01_Bits.l0]
    rw [if_neg (by omega), List.take_of_length_le (by omega)]
  | succ d ih =>
    intro i hi
    have hlt : i < x0.length := by omega
    have hin : inU8 x0[i] = true := List.all_eq_true.1 hu _ (List.getElem_mem _)
    have hin2 : 0 ≤ x0[i] ∧ x0[i] < 256 := by simpa [inU8] using hin
    have hrd : rd x0 (i : Int) = ((x0[i].toNat : Nat) : Int) := by
      simp [rd, List.getD_eq_getElem?_getD, List.getElem?_eq_getElem hlt]; omega
    have hb : bitsB (x0.take (i + 1)) = bitsB (x0.take i) ++ bitsN 8 x0[i].toNat := by
      unfold bitsB
      rw [List.take_succ_eq_append_getElem hlt, List.flatMap_append]
      simp
    refine Ev.step (f := fun k => astragalref01_Bits.l1 k x0 (bitsB (x0.take i)) i (rd x0 i) 0) (fun k => ?_) ?_
    · simp only [astragalref01_Bits.l0]
      rw [if_pos (by omega), if_pos (by omega)]
    · rw [hrd]
      refine Bits.inner x0 i _ 8 _ _ 0 (by omega) (by omega) (by omega) (by rw [bitsB_length, List.length_take]; omega) ?_
      rw [← hb, wrap_le (by omega) (by omega)]
      exact ih (i + 1) (by omega)
theorem Bits.sem (l : List Int) (hu : l.all inU8 = true) (hl : l.length ≤ 1000000000) : Ev (fun k => astragalref01_Bits.f k l) (bitsB l) := Bits.outer l hu hl l.length 0 (by omega)
end Go.Proofs.Ytnndeogbncadbaa.F
