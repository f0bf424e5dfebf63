/- bits.Pack, null.Bytes: what they come to, by a walk of their code. -/
import Derived.Test.YtnndeogbncadbaaRead
namespace Go.Proofs.Ytnndeogbncadbaa.F
open Go.RowKit Go.Proofs.YtnndeogbncadbaaW.PrintWords Go.Proofs.YtnndeogbncadbaaW.PrintLast Go.Proofs.YtnndeogbncadbaaW.PrintMore
set_option linter.unusedVariables false

/-- A number read off a list. -/
theorem rd_nat (l : List Int) (K : Nat) (h : K < l.length) : rd l (K : Int) = l[K] := by
  simp [rd, List.getD_eq_getElem?_getD, List.getElem?_eq_getElem h]
theorem all_take {α : Type} (l : List α) (f : α → Bool) (K : Nat) (h : K < l.length) (h1 : (l.take K).all f = true) (h2 : f l[K] = true) : (l.take (K + 1)).all f = true := by
  rw [List.take_succ_eq_append_getElem h, List.all_append, h1]
  simp [h2]
theorem flat_take (l : List Int) (f : Int → List Bool) (K : Nat) (h : K < l.length) : (l.take (K + 1)).flatMap f = (l.take K).flatMap f ++ f l[K] := by
  rw [List.take_succ_eq_append_getElem h, List.flatMap_append]
  simp
theorem flat_len (l : List Int) (f : Int → List Bool) (w : Nat) (h : ∀ x, (f x).length = w) : (l.flatMap f).length = l.length * w := by
  induction l with
  | nil => simp
  | cons x l ih => rw [List.flatMap_cons, List.length_append, ih, h, List.length_cons, Nat.succ_mul]; omega

theorem bits_Pack.width (A0 : Option Addr) (n0 c0 : Nat) (a1 : Int) (h : a1 < 0 ∨ 64 < a1) (w : World) :
    Calls Try.prog 37 #[.slice A0 n0 c0, .int .i64 a1] w fun e w' => e = .returned (.tuple #[.slice none 0 0, .int .i64 1]) ∧ Below w.heap.size w w' := by
  have HB := Aside0.mk (Below.refl w.heap.size w)
  have hu55 := Try.underlying55
  go_enter Try.func37, Try.ntmps37
  go_wp2_with (go_at_call 28; refine (put_width _ _ _ h _).mono ?_; rintro e w' ⟨rfl, rfl⟩)
  go_ret2
  exact ⟨rfl, HB.out.alloc (Nat.le_refl _) _⟩

set_option maxHeartbeats 2000000 in
set_option maxRecDepth 100000 in
theorem bits_Pack.numbers (A0 : Option Addr) (c0 : Nat) (l0 : List Int) (a1 : Int) (w : World) (hr0 : Kd.C (Kd.int .u64) w A0 l0.length l0) (h1 : 0 ≤ a1) (h2 : a1 ≤ 64) (hl : l0.length ≤ 1000000000) (hu : l0.all inU64 = true) :
    Calls Try.prog 37 #[.slice A0 l0.length c0, .int .i64 a1] w fun e w' => ∃ (v0_ : Value) (r1 : List Int) (r2 : Int), e = .returned (.tuple #[v0_, .int .i64 r2]) ∧ bits_Pack.f l0 a1 = some (r1, r2) ∧ Kd.R (Kd.int .u8) 5 w' w.heap.size (fun _ => True) v0_ r1 ∧ Below w.heap.size w w' := by
  have HR := Aside0.mk hr0
  have HU := Aside0.mk hu
  have HF : Aside0 (bits_Pack.f l0 a1 = if l0.all (fun x => decide (lenN x.toNat ≤ a1.toNat)) = true then some (packN (l0.flatMap fun x => bitsN a1.toNat x.toNat), 0) else some ([], 1)) := ⟨by
    unfold bits_Pack.f
    rw [if_pos ⟨hl, hu⟩, if_neg (by omega)]⟩
  have HB := Aside0.mk (Below.refl w.heap.size w)
  have hu55 := Try.underlying55
  clear hr0 hu
  go_enter Try.func37, Try.ntmps37
  go_wp2_with (go_at_call 28; refine (put_any w.heap.size _ [] 0 a1 (by decide) h1 h2 (by simp [lenN]; omega) (by simp) _ (IsW.new w w.heap.size (Nat.le_refl _)) (by simp)).mono ?_; rintro e w1 ⟨rfl, hI1, hB1, hT1⟩; have HB1 := Aside0.mk (hB1.size); have HB2 := Aside0.mk (((Below.refl w.heap.size w).alloc (Nat.le_refl _) _).trans hB1); clear HB hI1 hB1 hT1)
  have HI0 := Aside0.mk (IsW.new w1 w.heap.size (Nat.le_trans HB2.out.size (Nat.le_refl _)))
  have HB3 : Aside0 (Below w.heap.size w (w1.alloc (.cells #[.slice none 0 0, .int .i64 0] 55))) := ⟨HB2.out.alloc HB2.out.size _⟩
  go_loopw [23] (fun i wr => ∃ K : Nat, K ≤ l0.length ∧ i = .int .i64 K ∧ Aside0 (IsW wr w.heap.size w1.heap.size ((l0.take K).flatMap fun x => bitsN a1.toNat x.toNat)) ∧ Aside0 ((l0.take K).all (fun x => decide (lenN x.toNat ≤ a1.toNat)) = true) ∧ Aside0 (Below w.heap.size w wr)) (fun i _ => l0.length - (intOf i).toNat)
  case atStart => exact ⟨0, Nat.zero_le _, rfl, ⟨by simpa using HI0.out⟩, ⟨by simp⟩, HB3⟩
  case round =>
    clear HI0 HB3 HB2 HB1
    obtain ⟨K, hK, rfl, HI, HA, HB⟩ := hrel
    by_cases hlt : K < l0.length
    · obtain ⟨ad, e0, hx⟩ := Kd.at_int (Kd.C_below HR.out HB.out) (K : Int) (by omega) (by omega)
      subst e0
      rw [rd_nat l0 K hlt, Int.toNat_natCast] at hx
      have hin : inU64 l0[K] = true := List.all_eq_true.1 HU.out _ (List.getElem_mem _)
      obtain ⟨x, hxx⟩ : ∃ x, x = l0[K] := ⟨_, rfl⟩
      rw [← hxx] at hx hin
      have HX := Aside0.mk hxx
      clear hxx
      by_cases hf : lenN x.toNat ≤ a1.toNat
      · have hlen : ((l0.take K).flatMap fun x => bitsN a1.toNat x.toNat).length ≤ 1125899906842000 := by
          rw [flat_len _ _ a1.toNat (fun x => bitsN_length _ _), List.length_take]
          have : min K l0.length * a1.toNat ≤ 1000000000 * 64 := Nat.mul_le_mul (by omega) (by omega)
          omega
        go_wp2_with (go_at_call 28; refine (put_any w.heap.size w1.heap.size _ x a1 hin h1 h2 (by omega) hlen _ HI.out HB.out.size).mono ?_; rintro e w2 ⟨rfl, hI2, hB2, hT2⟩; have HI2 := Aside0.mk hI2; have HB2 := Aside0.mk (HB.out.trans hB2); clear HI HB hI2 hB2 hT2)
        go_roundw
        case rel => exact ⟨K + 1, by omega, by go_num, ⟨by rw [flat_take _ _ _ hlt, ← HX.out]; exact HI2.out⟩, ⟨all_take _ _ _ hlt HA.out (by rw [← HX.out]; simpa using hf)⟩, HB2⟩
        case measure => simp [intOf]; omega
      · go_wp2_with (go_at_call 28; refine (put_long _ x a1 hin h1 h2 (by omega) _).mono ?_; rintro e w2 ⟨rfl, rfl⟩)
        go_ret2
        refine ⟨_, [], 1, rfl, ?_, Kd.R_nil _ _ _ _ _, HB.out⟩
        rw [HF.out, if_neg]
        intro hall
        have := List.all_eq_true.1 hall l0[K] (List.getElem_mem _)
        rw [← HX.out] at this
        simp at this
        omega
    · have hlen : (packN ((l0.take K).flatMap fun x => bitsN a1.toNat x.toNat)).length ≤ 140737488355328 := by
        rw [packN_length, flat_len _ _ a1.toNat (fun x => bitsN_length _ _), List.length_take]
        have : min K l0.length * a1.toNat ≤ 1000000000 * 64 := Nat.mul_le_mul (by omega) (by omega)
        omega
      go_wp2_with (go_at_call 31; refine (bytes_any w.heap.size w1.heap.size _ hlen _ HI.out).mono ?_; rintro e w2 ⟨v, rfl, hR2, hB2⟩; have HR2 := Aside0.mk (Kd.R_lower hR2 HB.out.size); have HB2 := Aside0.mk (HB.out.trans (hB2.mono HB.out.size)); clear HI HB hR2 hB2)
      go_ret2
      rw [List.take_of_length_le (by omega)] at HA HR2
      refine ⟨_, _, 0, rfl, ?_, HR2.out, HB2.out⟩
      rw [HF.out, if_pos HA.out]
theorem bits_Pack.calls (A0 : Option Addr) (c0 : Nat) (l0 : List Int) (a1 : Int) (r1 : List Int) (r2 : Int) (w : World) (hr0 : Kd.C (Kd.int .u64) w A0 l0.length l0) (hc0 : l0.length ≤ c0) (h : bits_Pack.f l0 a1 = some (r1, r2)) :
    Calls Try.prog 37 #[.slice A0 l0.length c0, .int .i64 a1] w fun e w' => ∃ v0_ : Value, e = .returned (.tuple #[v0_, .int .i64 r2]) ∧ Kd.R (Kd.int .u8) 5 w' w.heap.size (fun _ => True) v0_ r1 ∧ Below w.heap.size w w' := by
  have hg : l0.length ≤ 1000000000 ∧ l0.all inU64 = true := by
    rcases Decidable.em (l0.length ≤ 1000000000 ∧ l0.all inU64 = true) with hg | hg
    · exact hg
    · unfold bits_Pack.f at h; rw [if_neg hg] at h; cases h
  by_cases hw : a1 < 0 ∨ 64 < a1
  · refine (bits_Pack.width A0 l0.length c0 a1 hw w).mono fun e w' ⟨he, hb⟩ => ?_
    unfold bits_Pack.f at h
    rw [if_pos hg, if_pos hw] at h
    cases h
    exact ⟨_, he, Kd.R_nil _ _ _ _ _, hb⟩
  · refine (bits_Pack.numbers A0 c0 l0 a1 w hr0 (by omega) (by omega) hg.1 hg.2).mono fun e w' ⟨v, q1, q2, he, hf, hr, hb⟩ => ?_
    rw [h] at hf
    cases hf
    exact ⟨v, he, hr, hb⟩

theorem lenN_one : (lenN (1 : Int).toNat : Int) ≤ 1 := by decide
theorem bits_one (b : Bool) : bitsN (1 : Int).toNat (if b = true then (1 : Int) else 0).toNat = [b] := by cases b <;> decide
theorem list_take_succ {α : Type} (l : List α) (K : Nat) (h : K < l.length) : l.take (K + 1) = l.take K ++ [l[K]] := List.take_succ_eq_append_getElem h
set_option maxHeartbeats 2000000 in
set_option maxRecDepth 100000 in
theorem null_Bytes.calls (A0 : Option Addr) (c0 : Nat) (l0 : List Bool) (r : List Int) (w : World) (hr0 : Kd.C Kd.bool w A0 l0.length l0) (hc0 : l0.length ≤ c0) (h : null_Bytes.f l0 = some r) :
    Calls Try.prog 45 #[.slice A0 l0.length c0] w fun e w' => ∃ v0_ : Value, e = .returned v0_ ∧ Kd.R (Kd.int .u8) 5 w' w.heap.size (fun _ => True) v0_ r ∧ Below w.heap.size w w' := by
  have hl : l0.length ≤ 1000000000 := by
    rcases Decidable.em (l0.length ≤ 1000000000) with hg | hg
    · exact hg
    · unfold null_Bytes.f at h; rw [if_neg hg] at h; cases h
  obtain rfl : packN l0 = r := by unfold null_Bytes.f at h; rw [if_pos hl] at h; exact Option.some.inj h
  clear h hc0
  have HR := Aside0.mk hr0
  have HB := Aside0.mk (Below.refl w.heap.size w)
  have hu55 := Try.underlying55
  clear hr0
  go_enter Try.func45, Try.ntmps45
  go_wp2
  have HI0 := Aside0.mk (IsW.new w w.heap.size (Nat.le_refl _))
  have HB3 : Aside0 (Below w.heap.size w (w.alloc (.cells #[.slice none 0 0, .int .i64 0] 55))) := ⟨HB.out.alloc (Nat.le_refl _) _⟩
  go_loopw [11] (fun i wr => ∃ K : Nat, K ≤ l0.length ∧ i = .int .i64 K ∧ Aside0 (IsW wr w.heap.size w.heap.size (l0.take K)) ∧ Aside0 (Below w.heap.size w wr)) (fun i _ => l0.length - (intOf i).toNat)
  case atStart => exact ⟨0, Nat.zero_le _, rfl, ⟨by simpa using HI0.out⟩, HB3⟩
  case round =>
    clear HI0 HB3 HB
    obtain ⟨K, hK, rfl, HI, HB⟩ := hrel
    by_cases hlt : K < l0.length
    · obtain ⟨ad, e0, hx⟩ := Kd.at_bool (Kd.C_below HR.out HB.out) (K : Int) (by omega) (by omega)
      subst e0
      have hrd : rdOf false l0 (K : Int) = l0[K] := by simp [rdOf, List.getD_eq_getElem?_getD, List.getElem?_eq_getElem hlt]
      rw [hrd, Int.toNat_natCast] at hx
      obtain ⟨x, hxx⟩ : ∃ x, x = l0[K] := ⟨_, rfl⟩
      rw [← hxx] at hx
      have HX := Aside0.mk hxx
      have hlen : (l0.take K).length ≤ 1125899906842000 := by rw [List.length_take]; omega
      clear hxx hrd
      cases x with
      | true =>
        go_wp2_with (go_at_call 28; refine (put_any w.heap.size w.heap.size _ 1 1 (by decide) (by omega) (by omega) lenN_one hlen _ HI.out HB.out.size).mono ?_; rintro e w2 ⟨rfl, hI2, hB2, hT2⟩; have HI2 := Aside0.mk hI2; have HB2 := Aside0.mk (HB.out.trans hB2); clear HI HB hI2 hB2 hT2)
        go_roundw
        case rel => exact ⟨K + 1, by omega, by go_num, ⟨by rw [list_take_succ _ _ hlt, ← HX.out]; exact HI2.out⟩, HB2⟩
        case measure => simp [intOf]; omega
      | false =>
        go_wp2_with (go_at_call 28; refine (put_any w.heap.size w.heap.size _ 0 1 (by decide) (by omega) (by omega) (by decide) hlen _ HI.out HB.out.size).mono ?_; rintro e w2 ⟨rfl, hI2, hB2, hT2⟩; have HI2 := Aside0.mk hI2; have HB2 := Aside0.mk (HB.out.trans hB2); clear HI HB hI2 hB2 hT2)
        go_roundw
        case rel => exact ⟨K + 1, by omega, by go_num, ⟨by rw [list_take_succ _ _ hlt, ← HX.out]; exact HI2.out⟩, HB2⟩
        case measure => simp [intOf]; omega
    · have hlen : (packN (l0.take K)).length ≤ 140737488355328 := by
        rw [packN_length, List.length_take]
        omega
      go_wp2_with (go_at_call 31; refine (bytes_any w.heap.size w.heap.size _ hlen _ HI.out).mono ?_; rintro e w2 ⟨v, rfl, hR2, hB2⟩; have HR2 := Aside0.mk (Kd.R_lower hR2 HB.out.size); have HB2 := Aside0.mk (HB.out.trans (hB2.mono HB.out.size)); clear HI HB hR2 hB2)
      go_ret
      rw [List.take_of_length_le (by omega)] at HR2
      exact ⟨_, rfl, HR2.out, HB2.out⟩
end Go.Proofs.Ytnndeogbncadbaa.F
