/- bits.Unpack: what it comes to, by a walk of its code. -/
import Derived.Test.YtnndeogbncadbaaPack
namespace Go.Proofs.Ytnndeogbncadbaa.F
open Go.RowKit Go.Proofs.YtnndeogbncadbaaW.PrintWords Go.Proofs.YtnndeogbncadbaaW.PrintLast Go.Proofs.YtnndeogbncadbaaW.PrintMore
set_option linter.unusedVariables false

theorem u64_ne92 : ∀ q, q ∈ 40 :: (Kd.int .u64).E → q ≠ 92 := by
  intro q hq
  rcases List.mem_cons.1 hq with rfl | h
  · decide
  · cases h
theorem u8_ne40 : ∀ q, q ∈ 5 :: (Kd.int .u8).E → q ≠ 40 := by
  intro q hq
  rcases List.mem_cons.1 hq with rfl | h
  · decide
  · cases h
theorem IsRd.grown {W w1 : World} {base base' g : Nat} {l : List Int} {p : Int} {ok : Nat → Prop} {v : Value} {xs : List Int} (h : IsRd W base g l p) (hr : Kd.R (Kd.int .u64) 40 W base' ok v xs) (hg : W.grownBy w1 v.ownBlock) : IsRd w1 base g l p := by
  obtain ⟨u, h1, h2, h3⟩ := h
  exact ⟨u, blk_grown h1 hg (Kd.R_ne hr h1 (by decide)), h2, Kd.R_over' h3 (Kd.R_typed hr) u8_ne40 hg⟩
theorem row_kept {W w1 : World} {base base' g : Nat} {l : List Int} {p : Int} {v : Value} {xs : List Int} (h : IsRd W base g l p) (hr : Kd.R (Kd.int .u64) 40 W base' (fun _ => True) v xs) (hk : KeepBut W w1 g none) : Kd.R (Kd.int .u64) 40 w1 base' (fun _ => True) v xs := by
  obtain ⟨u, h1, h2, h3⟩ := h
  exact Kd.R_mono (Kd.R_keep (Kd.R_types hr h1 u64_ne92) hk (fun _ hk => hk.2)) (fun _ _ => trivial)
theorem Unpack.bad (A0 : Option Addr) (n0 c0 : Nat) (a1 a2 : Int) (h : a1 < 0 ∨ 1048576 < a1 ∨ a2 < 0 ∨ 64 < a2) (w : World) :
    Calls Try.prog 39 #[.slice A0 n0 c0, .int .i64 a1, .int .i64 a2] w fun e w' => e = .returned (.tuple #[.slice none 0 0, .int .i64 1]) ∧ w = w' := by
  by_cases h1 : a1 < 0
  · go_enter Try.func39, Try.ntmps39
    go_wp2_with fail
    go_ret2
    exact ⟨rfl, rfl⟩
  by_cases h2 : 1048576 < a1
  · go_enter Try.func39, Try.ntmps39
    go_wp2_with fail
    go_ret2
    exact ⟨rfl, rfl⟩
  by_cases h3 : a2 < 0
  · go_enter Try.func39, Try.ntmps39
    go_wp2_with fail
    go_ret2
    exact ⟨rfl, rfl⟩
  · have h4 : 64 < a2 := by omega
    go_enter Try.func39, Try.ntmps39
    go_wp2_with fail
    go_ret2
    exact ⟨rfl, rfl⟩

set_option maxHeartbeats 4000000 in
set_option maxRecDepth 100000 in
theorem Unpack.good (A0 : Option Addr) (c0 : Nat) (l0 : List Int) (a1 a2 : Int) (w : World) (hr0 : Kd.C (Kd.int .u8) w A0 l0.length l0) (h1 : 0 ≤ a1) (h2 : a1 ≤ 1048576) (h3 : 0 ≤ a2) (h4 : a2 ≤ 64) (hl : l0.length ≤ 1000000000) (hu : l0.all inU8 = true) :
    Calls Try.prog 39 #[.slice A0 l0.length c0, .int .i64 a1, .int .i64 a2] w fun e w' => ∃ (v0_ : Value) (r1 : List Int) (r2 : Int), e = .returned (.tuple #[v0_, .int .i64 r2]) ∧ bits_Unpack.f l0 a1 a2 = some (r1, r2) ∧ Kd.R (Kd.int .u64) 40 w' w.heap.size (fun _ => True) v0_ r1 ∧ Below w.heap.size w w' := by
  have HR := Aside0.mk hr0
  have HU := Aside0.mk hu
  have HF : Aside0 (bits_Unpack.f l0 a1 a2 = if 8 * (l0.length : Int) < a1 * a2 then some ([], 3) else if 8 * (l0.length : Int) - a1 * a2 ≥ 8 then some ([], 4) else if ((bitsB l0).drop (a1 * a2).toNat).all (fun b => !b) = true then some (getsN a2.toNat a1.toNat (bitsB l0), 0) else some ([], 4)) := ⟨by
    unfold bits_Unpack.f
    rw [if_pos ⟨hl, hu⟩, if_neg (by omega)]⟩
  have hP := mul_bound a1 a2 h1 h2 h3 h4
  have HS := Aside0.mk (fun K => mul_step K a1 a2 h3)
  obtain ⟨P, hPe⟩ : ∃ P, a1 * a2 = P := ⟨_, rfl⟩
  rw [hPe] at hP
  have HP := Aside0.mk hPe
  have wP : wrap64 P = P := IntWalk.wrap64_in P (by omega)
  obtain ⟨hP0, hP1⟩ := hP
  have HB := Aside0.mk (Below.refl w.heap.size w)
  clear hr0 hu
  by_cases hr1 : 8 * (l0.length : Int) < P
  · go_enter Try.func39, Try.ntmps39
    go_wp2_with (first | (go_at_call 34; refine (from_any w.heap.size A0 c0 l0 (by omega) _ HR.out (Nat.le_refl _)).mono ?_; rintro e w1 ⟨g, rfl, hI, hg, hB⟩; have HI := Aside0.mk hI; have HB1 := Aside0.mk hB; clear hI hg hB) | (go_at_call 30; refine (left_any w.heap.size g l0 0 (by omega) (by omega) (by omega) _ HI.out).mono ?_; rintro e w' ⟨rfl, ⟨nd, rfl⟩⟩))
    go_ret2
    refine ⟨_, [], 3, rfl, ?_, Kd.R_nil _ _ _ _ _, pw_below_drewN HB1.out _⟩
    rw [HF.out, HP.out, if_pos hr1]
  by_cases hr2 : 8 * (l0.length : Int) - P ≥ 8
  · go_enter Try.func39, Try.ntmps39
    go_wp2_with (first | (go_at_call 34; refine (from_any w.heap.size A0 c0 l0 (by omega) _ HR.out (Nat.le_refl _)).mono ?_; rintro e w1 ⟨g, rfl, hI, hg, hB⟩; have HI := Aside0.mk hI; have HB1 := Aside0.mk hB; clear hI hg hB) | (go_at_call 30; refine (left_any w.heap.size g l0 0 (by omega) (by omega) (by omega) _ HI.out).mono ?_; rintro e w' ⟨rfl, ⟨nd, rfl⟩⟩))
    go_ret2
    refine ⟨_, [], 4, rfl, ?_, Kd.R_nil _ _ _ _ _, pw_below_drewN HB1.out _⟩
    rw [HF.out, HP.out, if_neg (by omega), if_pos hr2]
  · go_enter Try.func39, Try.ntmps39
    go_wp2_with (first | (go_at_call 34; refine (from_any w.heap.size A0 c0 l0 (by omega) _ HR.out (Nat.le_refl _)).mono ?_; rintro e w1 ⟨g, rfl, hI, hg, hB⟩; have HI := Aside0.mk hI; have HB1 := Aside0.mk hB; clear hI hg hB) | (go_at_call 30; refine (left_any w.heap.size g l0 0 (by omega) (by omega) (by omega) _ HI.out).mono ?_; rintro e w' ⟨rfl, ⟨nd, rfl⟩⟩))
    have HI0 : Aside0 (IsRd (w1.drewN nd) w.heap.size g l0 0) := ⟨HI.out⟩
    have HB0 : Aside0 (Below w.heap.size w (w1.drewN nd)) := ⟨pw_below_drewN HB1.out _⟩
    clear HI HB1 HB
    go_loopw [44, 10] (fun i v wr => ∃ K : Nat, K ≤ a1.toNat ∧ i = .int .i64 K ∧ Aside0 (IsRd wr w.heap.size g l0 ((K : Int) * a2)) ∧ Aside0 (Kd.R (Kd.int .u64) 40 wr w.heap.size (fun _ => True) v (getsN a2.toNat K (bitsB l0))) ∧ Aside0 (Below w.heap.size w wr)) (fun i _ _ => (a1 - intOf i).toNat)
    case atStart => exact ⟨0, Nat.zero_le _, rfl, ⟨by simpa using HI0.out⟩, ⟨Kd.R_nil _ _ _ _ _⟩, HB0⟩
    case round =>
      clear HI0 HB0
      obtain ⟨K, hK, rfl, HI, HO, HB⟩ := hrel
      by_cases hlt : (K : Int) < a1
      · have hst := HS.out K hlt
        rw [HP.out] at hst
        obtain ⟨T, hT⟩ : ∃ T, (K : Int) * a2 = T := ⟨_, rfl⟩
        have hT0 : 0 ≤ T := by rw [← hT]; exact Int.mul_nonneg (by omega) h3
        rw [hT] at hst HI
        have HT : Aside0 ((K : Int) * a2 = T) := ⟨hT⟩
        have HG : Aside0 (getsN a2.toNat (K + 1) (bitsB l0) = getsN a2.toNat K (bitsB l0) ++ [((numN (((bitsB l0).drop T.toNat).take a2.toNat) : Nat) : Int)]) := ⟨by
          rw [getsN_succ, ← hT, Int.toNat_mul (by omega) h3, Int.toNat_natCast]⟩
        clear hT
        obtain ⟨X, hX⟩ : ∃ X : Int, ((numN (((bitsB l0).drop T.toNat).take a2.toNat) : Nat) : Int) = X := ⟨_, rfl⟩
        have hge := get_any w.heap.size g l0 T a2 hT0 (by omega) HU.out h3 h4 (by omega) wr HI.out HB.out.size
        rw [hX] at hge HG
        have HGE := Aside0.mk hge
        clear hge hX
        go_wp2_with (first | (go_at_call 27; refine HGE.out.mono ?_; rintro e w2 ⟨rfl, hI2, hB2, hK2⟩; have HI2 := Aside0.mk hI2; have HB2 := Aside0.mk (HB.out.trans hB2); have HO2 := Aside0.mk (row_kept HI.out HO.out hK2); clear HI HB HO hI2 hB2 hK2) | ((with_reducible refine gate_builtin (b := .append) (xs := #[.tmp 52, .tmp 54]) rfl ?_); at_builtin; refine Kd.R_append (Kd.int .u64) (w0 := w) w.heap.size rfl (.tmp 52) (.tmp 54) 39 40 (.int .u64 0) 8 rfl Try.underlying39 info40 rfl (by decide) (by omega) u10 (getsN a2.toNat K (bitsB l0)) X [.int .u64 X] (fun _ => True) (fun _ => False) rfl rfl rfl (fun _ hk => hk.elim) (fun _ _ => trivial) HO2.out HB2.out HB2.out.size (by rw [getsN_length]; omega) ?_; intro v3 w3 ho3 hb3 hg3 hat3; have HI3 := Aside0.mk (show IsRd w3 w.heap.size g l0 (T + a2) from HI2.out.grown HO2.out hg3); have HO3 := Aside0.mk ho3; have HB3 := Aside0.mk hb3; clear HI2 HO2 HB2 ho3 hb3 hg3 hat3))
        go_roundw
        case rel => exact ⟨K + 1, by omega, by go_num, ⟨by rw [Int.natCast_add, Int.natCast_one, Int.add_mul, Int.one_mul, HT.out]; exact HI3.out⟩, ⟨by rw [HG.out]; exact HO3.out⟩, HB3⟩
        case measure => simp [intOf]; omega
      · have hKe : (K : Int) = a1 := by omega
        have hKn : K = a1.toNat := by omega
        subst hKn
        rw [hKe, HP.out] at HI
        have hge := get_any w.heap.size g l0 P (8 * l0.length - P) hP0 (by omega) HU.out (by omega) (by omega) (by omega) wr HI.out HB.out.size
        have hrest : ((bitsB l0).drop P.toNat).take (8 * (l0.length : Int) - P).toNat = (bitsB l0).drop P.toNat := List.take_of_length_le (by rw [List.length_drop, bitsB_length]; omega)
        rw [hrest] at hge
        obtain ⟨X, hX⟩ : ∃ X : Int, ((numN ((bitsB l0).drop P.toNat) : Nat) : Int) = X := ⟨_, rfl⟩
        rw [hX] at hge
        have HX := Aside0.mk hX
        have HGE := Aside0.mk hge
        clear hge hX hrest hKe
        by_cases h0 : X = 0
        · have h0b : (X == 0) = true := beq_iff_eq.mpr h0
          have h0c : (X != 0) = false := bne_eq_false_iff_eq.mpr h0
          have HZ := Aside0.mk h0
          clear h0
          go_wp2_with (first | (go_at_call 27; refine HGE.out.mono ?_; rintro e w2 ⟨rfl, hI2, hB2, hK2⟩; have HB2 := Aside0.mk (HB.out.trans hB2); have HO2 := Aside0.mk (row_kept HI.out HO.out hK2); clear HI HB HO hI2 hB2 hK2))
          go_ret2
          refine ⟨_, _, 0, rfl, ?_, HO2.out, HB2.out⟩
          rw [HF.out, HP.out, if_neg (by omega), if_neg (by omega), if_pos]
          have := HX.out
          rw [HZ.out] at this
          exact (numN_zero _).1 (by omega)
        · have h0b : (X == 0) = false := beq_eq_false_iff_ne.mpr h0
          have h0c : (X != 0) = true := bne_iff_ne.mpr h0
          have HZ := Aside0.mk h0
          clear h0
          go_wp2_with (first | (go_at_call 27; refine HGE.out.mono ?_; rintro e w2 ⟨rfl, hI2, hB2, hK2⟩; have HB2 := Aside0.mk (HB.out.trans hB2); have HO2 := Aside0.mk (row_kept HI.out HO.out hK2); clear HI HB HO hI2 hB2 hK2))
          go_ret2
          refine ⟨_, [], 4, rfl, ?_, Kd.R_nil _ _ _ _ _, HB2.out⟩
          rw [HF.out, HP.out, if_neg (by omega), if_neg (by omega), if_neg]
          intro hz
          have h1 := (numN_zero _).2 hz
          have := HX.out
          rw [h1] at this
          exact HZ.out this.symm
theorem bits_Unpack.calls (A0 : Option Addr) (c0 : Nat) (l0 : List Int) (a1 a2 : Int) (r1 : List Int) (r2 : Int) (w : World) (hr0 : Kd.C (Kd.int .u8) w A0 l0.length l0) (hc0 : l0.length ≤ c0) (h : bits_Unpack.f l0 a1 a2 = some (r1, r2)) :
    Calls Try.prog 39 #[.slice A0 l0.length c0, .int .i64 a1, .int .i64 a2] w fun e w' => ∃ v0_ : Value, e = .returned (.tuple #[v0_, .int .i64 r2]) ∧ Kd.R (Kd.int .u64) 40 w' w.heap.size (fun _ => True) v0_ r1 ∧ Below w.heap.size w w' := by
  have hg : l0.length ≤ 1000000000 ∧ l0.all inU8 = true := by
    rcases Decidable.em (l0.length ≤ 1000000000 ∧ l0.all inU8 = true) with hg | hg
    · exact hg
    · unfold bits_Unpack.f at h; rw [if_neg hg] at h; cases h
  by_cases hw : a1 < 0 ∨ 1048576 < a1 ∨ a2 < 0 ∨ 64 < a2
  · refine (Unpack.bad A0 l0.length c0 a1 a2 hw w).mono fun e w' ⟨he, hb⟩ => ?_
    unfold bits_Unpack.f at h
    rw [if_pos hg, if_pos hw] at h
    cases h
    subst hb
    exact ⟨_, he, Kd.R_nil _ _ _ _ _, Below.refl _ _⟩
  · refine (Unpack.good A0 c0 l0 a1 a2 w hr0 (by omega) (by omega) (by omega) (by omega) hg.1 hg.2).mono fun e w' ⟨v, q1, q2, he, hf, hr, hb⟩ => ?_
    rw [h] at hf
    cases hf
    exact ⟨v, he, hr, hb⟩
end Go.Proofs.Ytnndeogbncadbaa.F
