/- The reference's Get and Unpack: what they come to, by a walk of their code. -/
import Derived.Test.YtnndeogbncadbaaUnpack
import Derived.Test.YtnndeogbncadbaaSem1
namespace Go.Proofs.Ytnndeogbncadbaa.F
open Go.RowKit Go.Proofs.YtnndeogbncadbaaW.PrintWords Go.Proofs.YtnndeogbncadbaaW.PrintLast Go.Proofs.YtnndeogbncadbaaW.PrintMore
set_option linter.unusedVariables false

theorem info4_parts : ∃ i, Try.prog.info? 4 = some i ∧ i.size = 1 := by
  obtain ⟨i, hi, hz⟩ := Option.map_eq_some_iff.1 info4
  simp only [Prod.mk.injEq] at hz
  exact ⟨i, hi, hz.2.1⟩
theorem numN_drop (l : List Bool) (K : Nat) (h : K < l.length) : numN (l.drop K) = l[K].toNat + 2 * numN (l.drop (K + 1)) := by
  rw [List.drop_eq_getElem_cons h, numN]

theorem rget_width (A : Option Addr) (n c : Nat) (width : Int) (h : width < 0 ∨ 64 < width) (w : World) :
    Calls Try.prog 36 #[.slice A n c, .int .i64 width] w fun e w' => e = .returned (.tuple #[.int .u64 0, .slice A n c, .int .i64 1]) ∧ w = w' := by
  by_cases h1 : width < 0
  · go_enter Try.func36, Try.ntmps36
    go_wp2_with fail
    go_ret3
    exact ⟨rfl, rfl⟩
  · have h2 : 64 < width := by omega
    go_enter Try.func36, Try.ntmps36
    go_wp2_with fail
    go_ret3
    exact ⟨rfl, rfl⟩
theorem rget_short (A : Option Addr) (n c : Nat) (width : Int) (h1 : 0 ≤ width) (h2 : width ≤ 64) (h3 : (n : Int) < width) (w : World) :
    Calls Try.prog 36 #[.slice A n c, .int .i64 width] w fun e w' => e = .returned (.tuple #[.int .u64 0, .slice A n c, .int .i64 3]) ∧ w = w' := by
  go_enter Try.func36, Try.ntmps36
  go_wp2_with fail
  go_ret3
  exact ⟨rfl, rfl⟩
set_option maxHeartbeats 2000000 in
set_option maxRecDepth 100000 in
theorem rget_any (A : Option Addr) (c : Nat) (l : List Bool) (width : Int) (h1 : 0 ≤ width) (h2 : width ≤ 64) (h3 : width ≤ (l.length : Int)) (hc : l.length ≤ c) (w : World) (hr : Kd.C Kd.bool w A l.length l) :
    Calls Try.prog 36 #[.slice A l.length c, .int .i64 width] w fun e w' => ∃ A', e = .returned (.tuple #[.int .u64 (numN (l.take width.toNat) : Nat), .slice A' (l.drop width.toNat).length (c - width.toNat), .int .i64 0]) ∧ Kd.C Kd.bool w A' (l.drop width.toNat).length (l.drop width.toNat) ∧ (l.drop width.toNat).length ≤ c - width.toNat ∧ Drawn0 w w' := by
  obtain ⟨i4, hi4, hz4⟩ := info4_parts
  obtain ⟨A', hcut, hA', hle⟩ := print_drop_of (P := Try.prog) Value.bool false 24 4 .i64 Try.underlying24 hi4 hz4 A c l width h1 h3 hc
  have HA := Aside0.mk (hA' w (Kd.reads_of_C (enc := Value.bool) (d := false) (h1 := fun _ => rfl) hr))
  have HLE := Aside0.mk hle
  have HR := Aside0.mk hr
  have wW : IntKind.i64.wrap (width - 1) = width - 1 := by have := IntWalk.i64_in (width - 1) (by omega); exact this
  clear hr hA' hle hi4 hz4 hc
  go_enter Try.func36, Try.ntmps36
  go_wp2_with fail
  go_loop [7, 8] (fun n i => ∃ I : Int, -1 ≤ I ∧ I < width ∧ i = .int .i64 I ∧ n = .int .u64 (numN ((l.take width.toNat).drop (I + 1).toNat) : Nat)) (fun _ i => (intOf i + 1).toNat)
  case atStart =>
    refine ⟨width - 1, by omega, by omega, rfl, ?_⟩
    rw [List.drop_eq_nil_of_le (by rw [List.length_take]; omega)]
    rfl
  case round =>
    obtain ⟨I, hI0, hI1, rfl, rfl⟩ := hrel
    by_cases hlt : 0 ≤ I
    · obtain ⟨ad, e0, hx⟩ := Kd.at_bool HR.out I hlt (by omega)
      subst e0
      obtain ⟨N, hN⟩ : ∃ N : Int, ((numN ((l.take width.toNat).drop (I + 1).toNat) : Nat) : Int) = N := ⟨_, rfl⟩
      have hlt2 := numN_lt ((l.take width.toNat).drop (I + 1).toNat)
      rw [List.length_drop, List.length_take] at hlt2
      have hp : 2 ^ (min width.toNat l.length - (I + 1).toNat) ≤ 2 ^ 63 := Nat.pow_le_pow_right (by omega) (by omega)
      have hN0 : 0 ≤ N := by rw [← hN]; omega
      have hN1 : N ≤ 9223372036854775807 := by
        have : (2 : Nat) ^ 63 = 9223372036854775808 := by decide
        rw [← hN]; omega
      have hst : ∀ b : Bool, rdOf false l I = b → ((numN ((l.take width.toNat).drop I.toNat) : Nat) : Int) = (b.toNat : Int) + 2 * N := by
        intro b hb
        have hIl : I.toNat < l.length := by omega
        have hb2 : (l.take width.toNat)[I.toNat]'(by rw [List.length_take]; omega) = b := by
          rw [List.getElem_take, ← hb]
          simp [rdOf, List.getD_eq_getElem?_getD, List.getElem?_eq_getElem hIl]
        rw [numN_drop _ _ (by rw [List.length_take]; omega), hb2, ← hN, show (I + 1).toNat = I.toNat + 1 by omega]
        push_cast
        rfl
      have HST := Aside0.mk hst
      rw [hN]
      clear hN hlt2 hp hst
      obtain ⟨b, hb⟩ : ∃ b, rdOf false l I = b := ⟨_, rfl⟩
      rw [hb] at hx
      have HST2 := Aside0.mk (HST.out b hb)
      clear HST hb
      cases b with
      | true =>
        go_wp2_with fail
        go_round
        case rel => exact ⟨I - 1, by omega, by omega, rfl, by rw [show (I - 1 + 1).toNat = I.toNat by omega, HST2.out]; simp; omega⟩
        case measure => simp [intOf]; omega
      | false =>
        go_wp2_with fail
        go_round
        case rel => exact ⟨I - 1, by omega, by omega, rfl, by rw [show (I - 1 + 1).toNat = I.toNat by omega, HST2.out]; simp⟩
        case measure => simp [intOf]; omega
    · go_wp2_with fail
      go_quiet (fail)
      go_wp2_with fail
      go_ret3
      refine ⟨A', ?_, Kd.C_of_reads (d := false) HA.out, HLE.out, (Drawn0.refl _).step _⟩
      rw [show (I + 1).toNat = 0 by omega, List.drop_zero, List.length_drop]
      rfl

theorem runpack_bad (A0 : Option Addr) (n0 c0 : Nat) (a1 a2 : Int) (h : a1 < 0 ∨ 1048576 < a1 ∨ a2 < 0 ∨ 64 < a2) (w : World) :
    Calls Try.prog 40 #[.slice A0 n0 c0, .int .i64 a1, .int .i64 a2] w fun e w' => e = .returned (.tuple #[.slice none 0 0, .int .i64 1]) ∧ w = w' := by
  by_cases h1 : a1 < 0
  · go_enter Try.func40, Try.ntmps40
    go_wp2_with fail
    go_ret2
    exact ⟨rfl, rfl⟩
  by_cases h2 : 1048576 < a1
  · go_enter Try.func40, Try.ntmps40
    go_wp2_with fail
    go_ret2
    exact ⟨rfl, rfl⟩
  by_cases h3 : a2 < 0
  · go_enter Try.func40, Try.ntmps40
    go_wp2_with fail
    go_ret2
    exact ⟨rfl, rfl⟩
  · have h4 : 64 < a2 := by omega
    go_enter Try.func40, Try.ntmps40
    go_wp2_with fail
    go_ret2
    exact ⟨rfl, rfl⟩
theorem bool_ne40 : ∀ q, q ∈ 4 :: Kd.bool.E → q ≠ 40 := by
  intro q hq
  rcases List.mem_cons.1 hq with rfl | h
  · decide
  · cases h
theorem rest_all (l : List Bool) (P : Nat) (h : ∀ i, P ≤ i → ∀ hi : i < l.length, l[i] = false) : (l.drop P).all (fun b => !b) = true := by
  rw [List.all_eq_true]
  intro x hx
  obtain ⟨i, hi, rfl⟩ := List.mem_iff_getElem.1 hx
  rw [List.getElem_drop]
  rw [List.length_drop] at hi
  rw [h (P + i) (by omega) (by omega)]
  rfl
theorem rest_not (l : List Bool) (P i : Nat) (hP : P ≤ i) (hi : i < l.length) (h : l[i] = true) : ¬ (l.drop P).all (fun b => !b) = true := by
  rw [List.all_eq_true]
  intro ha
  have h1 : (l.drop P)[i - P]'(by rw [List.length_drop]; omega) = l[i] := by
    rw [List.getElem_drop]
    congr 1
    omega
  have := ha _ (List.getElem_mem (l := l.drop P) (n := i - P) (by rw [List.length_drop]; omega))
  rw [h1, h] at this
  cases this
theorem C_bool_below {w w1 : World} {A : Option Addr} {n : Nat} {xs : List Bool} (h : Kd.C Kd.bool w A n xs) (hb : Below w.heap.size w w1) : Kd.C Kd.bool w1 A n xs := Kd.C_below h hb
set_option maxHeartbeats 2000000 in
set_option maxRecDepth 100000 in
theorem runpack_good (A0 : Option Addr) (c0 : Nat) (l0 : List Int) (a1 a2 : Int) (w : World) (hr0 : Kd.C (Kd.int .u8) w A0 l0.length l0) (hc0 : l0.length ≤ c0) (h1 : 0 ≤ a1) (h2 : a1 ≤ 1048576) (h3 : 0 ≤ a2) (h4 : a2 ≤ 64) (hl : l0.length ≤ 1000000000) (hu : l0.all inU8 = true) :
    Calls Try.prog 40 #[.slice A0 l0.length c0, .int .i64 a1, .int .i64 a2] w fun e w' => ∃ (v0_ : Value) (r1 : List Int) (r2 : Int), e = .returned (.tuple #[v0_, .int .i64 r2]) ∧ bits_Unpack.f l0 a1 a2 = some (r1, r2) ∧ Kd.R (Kd.int .u64) 40 w' w.heap.size (fun _ => True) v0_ r1 ∧ Below w.heap.size w w' := by
  obtain ⟨kk, hk⟩ := (Bits.sem l0 hu hl).rounds
  have HK := Aside0.mk hk
  have HR := Aside0.mk hr0
  have HC := Aside0.mk hc0
  have HU := Aside0.mk hu
  have HF : Aside0 (bits_Unpack.f l0 a1 a2 = if 8 * (l0.length : Int) < a1 * a2 then some ([], 3) else if 8 * (l0.length : Int) - a1 * a2 ≥ 8 then some ([], 4) else if ((bitsB l0).drop (a1 * a2).toNat).all (fun b => !b) = true then some (getsN a2.toNat a1.toNat (bitsB l0), 0) else some ([], 4)) := ⟨by
    unfold bits_Unpack.f
    rw [if_pos ⟨hl, hu⟩, if_neg (by omega)]⟩
  have hP := mul_bound a1 a2 h1 h2 h3 h4
  have HS := Aside0.mk (fun K => mul_step K a1 a2 h3)
  obtain ⟨P, hPe⟩ : ∃ P, a1 * a2 = P := ⟨_, rfl⟩
  rw [hPe] at hP
  have HP := Aside0.mk hPe
  have wP : wrap64 P = P := IntWalk.wrap64_in P (by omega)
  obtain ⟨hP0, hP1⟩ := hP
  have HB := Aside0.mk (Below.refl w.heap.size w)
  clear hr0 hu hk hc0
  by_cases hr1 : 8 * (l0.length : Int) < P
  · go_enter Try.func40, Try.ntmps40
    go_wp2_with fail
    go_ret2
    refine ⟨_, [], 3, rfl, ?_, Kd.R_nil _ _ _ _ _, HB.out⟩
    rw [HF.out, HP.out, if_pos hr1]
  by_cases hr2 : 8 * (l0.length : Int) - P ≥ 8
  · go_enter Try.func40, Try.ntmps40
    go_wp2_with fail
    go_ret2
    refine ⟨_, [], 4, rfl, ?_, Kd.R_nil _ _ _ _ _, HB.out⟩
    rw [HF.out, HP.out, if_neg (by omega), if_pos hr2]
  · obtain ⟨i4, hi4, hz4⟩ := info4_parts
    have HI4 := Aside0.mk (And.intro hi4 hz4)
    clear hi4 hz4
    have HLB : Aside0 ((bitsB l0).length = 8 * l0.length) := ⟨bitsB_length l0⟩
    go_enter Try.func40, Try.ntmps40
    go_wp2_with (first | (go_at_call 35; refine (astragalref01_Bits.calls kk A0 c0 l0 (bitsB l0) _ HR.out HC.out HK.out).mono ?_; rintro e w1 ⟨v, rfl, hO, hB⟩; have HO := Aside0.mk hO; have HB1 := Aside0.mk hB; clear hO hB; obtain ⟨Ab, cb, rfl⟩ := Kd.R_slice HO.out))
    clear HB HK
    go_loopw [10, 9] (fun i v wr => ∃ K : Nat, K ≤ a1.toNat ∧ i = .int .i64 K ∧ Aside0 (Kd.R Kd.bool 4 wr w.heap.size (fun _ => True) (.slice Ab (bitsB l0).length cb) (bitsB l0)) ∧ Aside0 (Kd.R (Kd.int .u64) 40 wr w.heap.size (fun _ => True) v (getsN a2.toNat K (bitsB l0))) ∧ Aside0 (Below w.heap.size w wr)) (fun i _ _ => (a1 - intOf i).toNat)
    case atStart => exact ⟨0, Nat.zero_le _, rfl, HO, ⟨Kd.R_nil _ _ _ _ _⟩, HB1⟩
    case round =>
      clear HO HB1
      obtain ⟨K, hK, rfl, HO, HV, HB⟩ := hrel
      have hrd := Kd.R_reads' HO.out
      by_cases hlt : (K : Int) < a1
      · have hst := HS.out K hlt
        rw [HP.out] at hst
        obtain ⟨T, hT⟩ : ∃ T, (K : Int) * a2 = T := ⟨_, rfl⟩
        have hT0 : 0 ≤ T := by rw [← hT]; exact Int.mul_nonneg (by omega) h3
        rw [hT] at hst
        have hlb := HLB.out
        have HT : Aside0 (a2.toNat * K = T.toNat) := ⟨by rw [← hT, Int.toNat_mul (by omega) h3, Int.toNat_natCast, Nat.mul_comm]⟩
        have wT : wrap64 ((K : Int) * a2) = T := by rw [hT]; exact IntWalk.wrap64_in T (by omega)
        have HG : Aside0 (getsN a2.toNat (K + 1) (bitsB l0) = getsN a2.toNat K (bitsB l0) ++ [((numN (((bitsB l0).drop T.toNat).take a2.toNat) : Nat) : Int)]) := ⟨by
          rw [getsN_succ, ← HT.out, Nat.mul_comm]⟩
        obtain ⟨A', hcut, hA', hle⟩ := print_drop_of (P := Try.prog) Value.bool false 24 4 .i64 Try.underlying24 HI4.out.1 HI4.out.2 Ab cb (bitsB l0) T hT0 (by omega) hrd.2.1
        have hC2 : Kd.C Kd.bool wr A' ((bitsB l0).drop T.toNat).length ((bitsB l0).drop T.toNat) := Kd.C_of_reads (d := false) (hA' wr (Kd.reads_of_C (enc := Value.bool) (d := false) (h1 := fun _ => rfl) hrd.2.2))
        have hge := rget_any A' (cb - T.toNat) ((bitsB l0).drop T.toNat) a2 h3 h4 (by rw [List.length_drop]; omega) hle wr hC2
        obtain ⟨X, hX⟩ : ∃ X : Int, ((numN (((bitsB l0).drop T.toNat).take a2.toNat) : Nat) : Int) = X := ⟨_, rfl⟩
        rw [hX] at hge HG
        simp only [List.length_drop] at hge
        have HGE := Aside0.mk hge
        clear hge hX hC2 hA' hle hrd hlb hT
        go_wp2_with (first | (go_at_call 36; ((with_reducible refine HGE.out.mono ?_)); rintro e w2 ⟨A2, rfl, hc2, hl2, ⟨nd, rfl⟩⟩; have n0_ := Aside0.mk (Kd.R_drewN HO.out nd); have n1_ := Aside0.mk (Kd.R_drewN HV.out nd); have n2_ := Aside0.mk (pw_below_drewN HB.out nd); clear hc2 hl2 HO HV HB; have HO := n0_; have HV := n1_; have HB := n2_; clear n0_ n1_ n2_) | ((with_reducible refine gate_builtin (b := .append) (xs := #[.tmp 62, .tmp 64]) rfl ?_); at_builtin; refine Kd.R_append (Kd.int .u64) (w0 := w) w.heap.size rfl (.tmp 62) (.tmp 64) 39 40 (.int .u64 0) 8 rfl Try.underlying39 info40 rfl (by decide) (by omega) u9 (getsN a2.toNat K (bitsB l0)) X [.int .u64 X] (fun _ => True) (fun _ => False) rfl rfl rfl (fun _ hk => hk.elim) (fun _ _ => trivial) HV.out HB.out HB.out.size (by rw [getsN_length]; omega) ?_; intro v3 w3 ho3 hb3 hg3 hat3; have HO3 := Aside0.mk (Kd.R_over' HO.out (Kd.R_typed HV.out) bool_ne40 hg3); have HV3 := Aside0.mk ho3; have HB3 := Aside0.mk hb3; clear HO HV HB ho3 hb3 hg3 hat3))
        go_roundw
        case rel => exact ⟨K + 1, by omega, by go_num, HO3, ⟨by rw [HG.out]; exact HV3.out⟩, HB3⟩
        case measure => simp [intOf]; omega
      · have hKe : (K : Int) = a1 := by omega
        have hKn : K = a1.toNat := by omega
        subst hKn
        have HC2 := Aside0.mk hrd.2.2
        have hlb := HLB.out
        have hlb2 : ((bitsB l0).length : Int) ≤ 8000000000 := by omega
        clear hrd hlb
        go_wp2_with fail
        go_loop [14] (fun i => ∃ I : Int, P ≤ I ∧ I ≤ ((bitsB l0).length : Int) ∧ i = .int .i64 I ∧ Aside0 (∀ i, P.toNat ≤ i → i < I.toNat → ∀ hi : i < (bitsB l0).length, (bitsB l0)[i] = false)) (fun i => ((bitsB l0).length - intOf i).toNat)
        case atStart => exact ⟨P, by omega, by have := HLB.out; omega, rfl, ⟨fun i h5 h6 => by omega⟩⟩
        case round =>
          obtain ⟨I, hI0, hI1, rfl, HA⟩ := hrel
          by_cases hlt2 : I < ((bitsB l0).length : Int)
          · obtain ⟨ad, e0, hx⟩ := Kd.at_bool HC2.out I (by omega) hlt2
            subst e0
            have hrdI : rdOf false (bitsB l0) I = (bitsB l0)[I.toNat]'(by omega) := by
              simp [rdOf, List.getD_eq_getElem?_getD, List.getElem?_eq_getElem (show I.toNat < (bitsB l0).length by omega)]
            obtain ⟨b, hb⟩ : ∃ b, rdOf false (bitsB l0) I = b := ⟨_, rfl⟩
            rw [hb] at hx hrdI
            have HRD := Aside0.mk hrdI
            clear hb hrdI
            cases b with
            | true =>
              go_wp2_with fail
              go_ret2
              refine ⟨_, [], 4, rfl, ?_, Kd.R_nil _ _ _ _ _, HB.out⟩
              rw [HF.out, HP.out, if_neg (by omega), if_neg (by omega), if_neg (rest_not _ _ I.toNat (by omega) (by omega) HRD.out.symm)]
            | false =>
              go_wp2_with fail
              go_round
              case rel =>
                refine ⟨I + 1, by omega, by omega, rfl, ⟨fun i h5 h6 hi => ?_⟩⟩
                by_cases h7 : i < I.toNat
                · exact HA.out i h5 h7 hi
                · obtain rfl : i = I.toNat := by omega
                  exact HRD.out.symm
              case measure => simp [intOf]; omega
          · go_wp2_with fail
            go_ret2
            refine ⟨_, _, 0, rfl, ?_, HV.out, HB.out⟩
            rw [HF.out, HP.out, if_neg (by omega), if_neg (by omega), if_pos (rest_all _ _ (fun i h5 hi => HA.out i h5 (by omega) hi))]
theorem astragalref01_Unpack.calls (A0 : Option Addr) (c0 : Nat) (l0 : List Int) (a1 a2 : Int) (r1 : List Int) (r2 : Int) (w : World) (hr0 : Kd.C (Kd.int .u8) w A0 l0.length l0) (hc0 : l0.length ≤ c0) (h : astragalref01_Unpack.f l0 a1 a2 = some (r1, r2)) :
    Calls Try.prog 40 #[.slice A0 l0.length c0, .int .i64 a1, .int .i64 a2] w fun e w' => ∃ v0_ : Value, e = .returned (.tuple #[v0_, .int .i64 r2]) ∧ Kd.R (Kd.int .u64) 40 w' w.heap.size (fun _ => True) v0_ r1 ∧ Below w.heap.size w w' := by
  have h : bits_Unpack.f l0 a1 a2 = some (r1, r2) := h
  have hg : l0.length ≤ 1000000000 ∧ l0.all inU8 = true := by
    rcases Decidable.em (l0.length ≤ 1000000000 ∧ l0.all inU8 = true) with hg | hg
    · exact hg
    · unfold bits_Unpack.f at h; rw [if_neg hg] at h; cases h
  by_cases hw : a1 < 0 ∨ 1048576 < a1 ∨ a2 < 0 ∨ 64 < a2
  · refine (runpack_bad A0 l0.length c0 a1 a2 hw w).mono fun e w' ⟨he, hb⟩ => ?_
    unfold bits_Unpack.f at h
    rw [if_pos hg, if_pos hw] at h
    cases h
    subst hb
    exact ⟨_, he, Kd.R_nil _ _ _ _ _, Below.refl _ _⟩
  · refine (runpack_good A0 c0 l0 a1 a2 w hr0 hc0 (by omega) (by omega) (by omega) (by omega) hg.1 hg.2).mono fun e w' ⟨v, q1, q2, he, hf, hr, hb⟩ => ?_
    rw [h] at hf
    cases hf
    exact ⟨v, he, hr, hb⟩
end Go.Proofs.Ytnndeogbncadbaa.F
