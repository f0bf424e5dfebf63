/- One number put, one number got: the writer's and the reader's answer beside the reference's, in one form each. -/
import Derived.Test.YtnndeogbncadbaaRefs
import Derived.Test.YtnndeogbncadbaaSem2
import Derived.Test.YtnndeogbncadbaaF25
namespace Go.Proofs.Ytnndeogbncadbaa.F
open Go.RowKit Go.Proofs.YtnndeogbncadbaaW.PrintWords Go.Proofs.YtnndeogbncadbaaW.PrintLast Go.Proofs.YtnndeogbncadbaaW.PrintMore
set_option linter.unusedVariables false

/-- A number put behind bits: the bits then, and the answer. -/
def putR (b : List Bool) (n width : Int) : List Bool × Int :=
  if width < 0 ∨ 64 < width ∨ width < (lenN n.toNat : Int) then (b, 1) else (b ++ bitsN width.toNat n.toNat, 0)
/-- A number got off bits: the number, the bits then, and the answer. -/
def getR (bs : List Bool) (width : Int) : Int × List Bool × Int :=
  if width < 0 ∨ 64 < width then (0, bs, 1) else if (bs.length : Int) < width then (0, bs, 3)
  else (((numN (bs.take width.toNat) : Nat) : Int), bs.drop width.toNat, 0)
theorem putR_length (b : List Bool) (n width : Int) : (putR b n width).1.length ≤ b.length + 64 := by
  unfold putR
  split
  · show b.length ≤ _; omega
  · simp only [List.length_append, bitsN_length]; omega
theorem put_one (base g : Nat) (b : List Bool) (n width : Int) (h0 : inU64 n = true) (hs : b.length ≤ 1125899906842000) (w : World) (hI : IsW w base g b) (hle : base ≤ w.heap.size) :
    Calls Try.prog 28 #[.pointer (some ⟨g, 0, none⟩), .int .u64 n, .int .i64 width] w fun e w' => e = .returned (.int .i64 (putR b n width).2) ∧ IsW w' base g (putR b n width).1 ∧ Below base w w' ∧ KeepT w w' := by
  unfold putR
  by_cases h1 : width < 0 ∨ 64 < width
  · rw [if_pos (by omega)]
    refine (put_width g n width h1 w).mono ?_
    rintro e w' ⟨rfl, rfl⟩
    exact ⟨rfl, hI, Below.refl _ _, KeepT.refl _⟩
  by_cases h2 : width < (lenN n.toNat : Int)
  · rw [if_pos (.inr (.inr h2))]
    refine (put_long g n width h0 (by omega) (by omega) h2 w).mono ?_
    rintro e w' ⟨rfl, rfl⟩
    exact ⟨rfl, hI, Below.refl _ _, KeepT.refl _⟩
  · rw [if_neg (by omega)]
    exact put_any base g b n width h0 (by omega) (by omega) (by omega) hs w hI hle
theorem get_one (base g : Nat) (l : List Int) (p width : Int) (hp0 : 0 ≤ p) (hp1 : p ≤ 8 * l.length) (hl : l.length ≤ 1000000000) (hu : l.all inU8 = true) (w : World) (h : IsRd w base g l p) (hle : base ≤ w.heap.size) :
    Calls Try.prog 27 #[.pointer (some ⟨g, 0, none⟩), .int .i64 width] w fun e w' => ∃ p' : Int, e = .returned (.tuple #[.int .u64 (getR ((bitsB l).drop p.toNat) width).1, .int .i64 (getR ((bitsB l).drop p.toNat) width).2.2]) ∧ IsRd w' base g l p' ∧ (getR ((bitsB l).drop p.toNat) width).2.1 = (bitsB l).drop p'.toNat ∧ 0 ≤ p' ∧ p' ≤ 8 * l.length ∧ Below base w w' ∧ KeepBut w w' g none := by
  unfold getR
  have hlb := bitsB_length l
  by_cases h1 : width < 0 ∨ 64 < width
  · rw [if_pos h1]
    refine (get_width g width h1 w).mono ?_
    rintro e w' ⟨rfl, rfl⟩
    exact ⟨p, rfl, h, rfl, hp0, hp1, Below.refl _ _, KeepBut.refl _ _ _⟩
  rw [if_neg h1]
  by_cases h2 : 8 * (l.length : Int) - p < width
  · rw [if_pos (by rw [List.length_drop]; omega)]
    refine (get_short base g l p width hp0 hp1 (by omega) (by omega) (by omega) h2 w h).mono ?_
    rintro e w' ⟨rfl, ⟨nd, rfl⟩⟩
    exact ⟨p, rfl, h.below (pw_below_drewN (Below.refl _ _) _), rfl, hp0, hp1, pw_below_drewN (Below.refl _ _) _, KeepBut.refl _ _ _⟩
  · rw [if_neg (by rw [List.length_drop]; omega)]
    refine (get_any base g l p width hp0 (by omega) hu (by omega) (by omega) (by omega) w h hle).mono ?_
    rintro e w' ⟨rfl, hI, hB, hK⟩
    refine ⟨p + width, rfl, hI, ?_, by omega, by omega, hB, hK⟩
    show List.drop width.toNat (List.drop p.toNat (bitsB l)) = _
    rw [List.drop_drop]
    congr 1
    omega

theorem PutR.loop (w : Nat) (hw : w ≤ 64) (d : Nat) : ∀ (i n : Nat) (bs : List Bool), w = i + d → n < 18446744073709551616 → bs.length + d ≤ 1000000000000 →
    Ev (fun k => astragalref01_Put.l0 k (n : Int) (w : Int) bs (i : Int)) (bs ++ bitsN d n, 0) := by
  induction d with
  | zero =>
    intro i n bs hi hn hb
    refine Ev.step (f := fun k => some (bs, 0)) (fun k => ?_) (by simpa [bitsN] using Ev.now _)
    simp only [astragalref01_Put.l0]
    rw [if_neg (by omega)]
  | succ d ih =>
    intro i n bs hi hn hb
    have h := ih (i + 1) (n / 2) (bs ++ [(n % 2 == 1)]) (by omega) (by omega) (by rw [List.length_append, List.length_singleton]; omega)
    rw [List.append_assoc] at h
    rw [bitsN_step]
    refine Ev.step (f := fun k => astragalref01_Put.l0 k ((n / 2 : Nat) : Int) (w : Int) (bs ++ [(n % 2 == 1)]) ((i + 1 : Nat) : Int)) (fun k => ?_) h
    simp only [astragalref01_Put.l0]
    rw [if_pos (by omega), if_pos (by omega), wrap_le (by omega) (by omega), Int.tmod_eq_emod_of_nonneg (by omega), Int.tdiv_eq_ediv_of_nonneg (by omega), IntKind.wrap_u64]
    have h1 : (((n : Int) % 2 == 1) : Bool) = (n % 2 == 1) := by
      rw [Bool.eq_iff_iff]; simp; omega
    have h2 : ((n : Int) / 2 % 18446744073709551616) = ((n / 2 : Nat) : Int) := by omega
    rw [h1, h2]
    rfl
theorem PutR.sem (b : List Bool) (n width : Int) (h0 : inU64 n = true) (hb : b.length ≤ 100000000) : Ev (fun k => astragalref01_Put.f k b n width) (putR b n width) := by
  have hn := u64_of h0
  unfold putR
  have hj1 : Ev (fun k => astragalref01_Put.j0 k b n width true) (b, 1) := Ev.step (f := fun _ => some (b, 1)) (fun k => by simp only [astragalref01_Put.j0]; rw [if_pos trivial]) (Ev.now _)
  by_cases h1 : width < 0
  · rw [if_pos (.inl h1)]
    refine Ev.congr (fun k => ?_) hj1
    unfold astragalref01_Put.f
    rw [if_pos h1]
  by_cases h2 : 64 < width
  · rw [if_pos (.inr (.inl h2))]
    refine Ev.congr (fun k => ?_) hj1
    unfold astragalref01_Put.f
    rw [if_neg h1, if_pos h2]
  have hf := Fits.sem n width h0 (by omega) (by omega)
  by_cases h3 : width < (lenN n.toNat : Int)
  · rw [if_pos (.inr (.inr h3))]
    rw [show decide (lenN n.toNat ≤ width.toNat) = false from decide_eq_false (by omega)] at hf
    refine Ev.congr (fun k => ?_) (Ev.bind hf (f := fun k t => astragalref01_Put.j0 k b n width (!t)) hj1)
    unfold astragalref01_Put.f
    rw [if_neg h1, if_neg (by omega)]
  · rw [if_neg (by omega)]
    rw [show decide (lenN n.toNat ≤ width.toNat) = true from decide_eq_true (by omega)] at hf
    have hl := PutR.loop width.toNat (by omega) width.toNat 0 n.toNat ([] ++ b) (by omega) (by omega) (by rw [List.nil_append]; omega)
    rw [List.nil_append, Int.toNat_of_nonneg (by omega), Int.toNat_of_nonneg (by omega)] at hl
    refine Ev.congr (fun k => ?_) (Ev.bind hf (f := fun k t => astragalref01_Put.j0 k b n width (!t)) (Ev.step (f := fun k => astragalref01_Put.l0 k n width b 0) (fun k => ?_) hl))
    · unfold astragalref01_Put.f
      rw [if_neg h1, if_neg (by omega)]
    · simp only [astragalref01_Put.j0]
      rw [if_neg (by decide)]
      simp only [Option.bind_some]
      rw [if_pos (by simp; omega), List.nil_append]

/-- The bits of a call's own, of type 4: they keep when a writer writes. -/
theorem R_bool_keepT {w w' : World} {base : Nat} {ok : Nat → Prop} {v : Value} {xs : List Bool} (h : Kd.R Kd.bool 4 w base ok v xs) (hk : KeepT w w') : Kd.R Kd.bool 4 w' base ok v xs := by
  refine Kd.R_mono (Kd.R_step (Kd.R_bound h) ?_) (fun _ hk => hk.1)
  rintro k ⟨_, _, _, q, hq, cells, hc⟩ _
  have hq4 : q = 4 := by
    rcases List.mem_cons.1 hq with rfl | h
    · rfl
    · cases h
  subst hq4
  rw [hc]
  exact hk.2 k cells 4 (0, 0) hc (by decide) (by decide)
/-- Blocks of bits. -/
def IsBits (w : World) (k : Nat) : Prop := ∃ cells, w.heap[k]? = some (.cells cells 4 (0, 0))
theorem R_bool_isBits {w : World} {base : Nat} {ok : Nat → Prop} {v : Value} {xs : List Bool} (h : Kd.R Kd.bool 4 w base ok v xs) : Kd.R Kd.bool 4 w base (IsBits w) v xs := by
  refine Kd.R_mono (Kd.R_bound h) ?_
  rintro k ⟨_, _, _, q, hq, cells, hc⟩
  have hq4 : q = 4 := by
    rcases List.mem_cons.1 hq with rfl | h
    · rfl
    · cases h
  subst hq4
  exact ⟨cells, hc⟩
theorem R_u8_kept {w w' : World} {base : Nat} {v : Value} {xs : List Int} (h : Kd.R (Kd.int .u8) 5 w base (fun _ => True) v xs) (hk : Kept w w' (IsBits w)) : Kd.R (Kd.int .u8) 5 w' base (fun _ => True) v xs := by
  refine Kd.R_mono (Kd.R_step (Kd.R_bound h) ?_) (fun _ hk => hk.1)
  rintro k ⟨_, _, _, q, hq, cells, hc⟩ hlt
  have hq5 : q = 5 := by
    rcases List.mem_cons.1 hq with rfl | h
    · rfl
    · cases h
  subst hq5
  refine hk.2 k hlt ?_
  rintro ⟨cs, he⟩
  rw [hc] at he
  simp at he
theorem IsW.kept {w w' : World} {base g : Nat} {b : List Bool} (h : IsW w base g b) (hk : Kept w w' (IsBits w)) : IsW w' base g b := by
  obtain ⟨v, h1, h2, h3⟩ := h
  refine ⟨v, blk_kept h1 hk ?_, h2, R_u8_kept h3 hk⟩
  rintro ⟨cs, he⟩
  rw [h1] at he
  simp at he
theorem R_bool_keepBut {w w' : World} {base g : Nat} {ok : Nat → Prop} {v : Value} {xs : List Bool} {cs : Array Value} (h : Kd.R Kd.bool 4 w base ok v xs) (hg : w.heap[g]? = some (.cells cs 92 (0, 0))) (hk : KeepBut w w' g none) : Kd.R Kd.bool 4 w' base ok v xs := by
  refine Kd.R_mono (Kd.R_step (Kd.R_bound h) ?_) (fun _ hk => hk.1)
  rintro k ⟨_, _, _, q, hq, cells, hc⟩ hlt
  have hq4 : q = 4 := by
    rcases List.mem_cons.1 hq with rfl | h
    · rfl
    · cases h
  subst hq4
  refine hk.2 k hlt ?_ (by simp)
  rintro rfl
  rw [hg] at hc
  simp at hc

set_option maxHeartbeats 2000000 in
set_option maxRecDepth 100000 in
theorem rget_drop (A : Option Addr) (c : Nat) (l : List Bool) (width : Int) (h1 : 0 ≤ width) (h2 : width ≤ 64) (h3 : width ≤ (l.length : Int)) (hc : l.length ≤ c) (w : World) (hr : Kd.C Kd.bool w A l.length l) :
    Calls Try.prog 36 #[.slice A l.length c, .int .i64 width] w fun e w' => ∃ A', e = .returned (.tuple #[.int .u64 (numN (l.take width.toNat) : Nat), .slice A' (l.drop width.toNat).length (c - width.toNat), .int .i64 0]) ∧ (∀ W, Kd.C Kd.bool W A l.length l → Kd.C Kd.bool W A' (l.drop width.toNat).length (l.drop width.toNat)) ∧ (l.drop width.toNat).length ≤ c - width.toNat ∧ Drawn0 w w' := by
  obtain ⟨i4, hi4, hz4⟩ := info4_parts
  obtain ⟨A', hcut, hA', hle⟩ := print_drop_of (P := Try.prog) Value.bool false 24 4 .i64 Try.underlying24 hi4 hz4 A c l width h1 h3 hc
  have HA := Aside0.mk (p := ∀ W, Kd.C Kd.bool W A l.length l → Kd.C Kd.bool W A' (l.drop width.toNat).length (l.drop width.toNat)) (fun W hr => Kd.C_of_reads (d := false) (hA' W (Kd.reads_of_C (enc := Value.bool) (d := false) (h1 := fun _ => rfl) hr)))
  have HLE := Aside0.mk hle
  have HR := Aside0.mk hr
  have wW : IntKind.i64.wrap (width - 1) = width - 1 := by have := IntWalk.i64_in (width - 1) (by omega); exact this
  clear hr hA' hle hi4 hz4 hc
  go_enter Try.func36, Try.ntmps36
  go_wp2_with fail
  go_loop [7, 8] (fun n i => ∃ I : Int, -1 ≤ I ∧ I < width ∧ i = .int .i64 I ∧ n = .int .u64 (numN ((l.take width.toNat).drop (I + 1).toNat) : Nat)) (fun _ i => (intOf i + 1).toNat)
  case atStart =>
    refine ⟨width - 1, by omega, by omega, rfl, ?_⟩
    rw [List.drop_eq_nil_of_le (by rw [List.length_take]; omega)]
    rfl
  case round =>
    obtain ⟨I, hI0, hI1, rfl, rfl⟩ := hrel
    by_cases hlt : 0 ≤ I
    · obtain ⟨ad, e0, hx⟩ := Kd.at_bool HR.out I hlt (by omega)
      subst e0
      obtain ⟨N, hN⟩ : ∃ N : Int, ((numN ((l.take width.toNat).drop (I + 1).toNat) : Nat) : Int) = N := ⟨_, rfl⟩
      have hlt2 := numN_lt ((l.take width.toNat).drop (I + 1).toNat)
      rw [List.length_drop, List.length_take] at hlt2
      have hp : 2 ^ (min width.toNat l.length - (I + 1).toNat) ≤ 2 ^ 63 := Nat.pow_le_pow_right (by omega) (by omega)
      have hN0 : 0 ≤ N := by rw [← hN]; omega
      have hN1 : N ≤ 9223372036854775807 := by
        have : (2 : Nat) ^ 63 = 9223372036854775808 := by decide
        rw [← hN]; omega
      have hst : ∀ b : Bool, rdOf false l I = b → ((numN ((l.take width.toNat).drop I.toNat) : Nat) : Int) = (b.toNat : Int) + 2 * N := by
        intro b hb
        have hIl : I.toNat < l.length := by omega
        have hb2 : (l.take width.toNat)[I.toNat]'(by rw [List.length_take]; omega) = b := by
          rw [List.getElem_take, ← hb]
          simp [rdOf, List.getD_eq_getElem?_getD, List.getElem?_eq_getElem hIl]
        rw [numN_drop _ _ (by rw [List.length_take]; omega), hb2, ← hN, show (I + 1).toNat = I.toNat + 1 by omega]
        push_cast
        rfl
      have HST := Aside0.mk hst
      rw [hN]
      clear hN hlt2 hp hst
      obtain ⟨b, hb⟩ : ∃ b, rdOf false l I = b := ⟨_, rfl⟩
      rw [hb] at hx
      have HST2 := Aside0.mk (HST.out b hb)
      clear HST hb
      cases b with
      | true =>
        go_wp2_with fail
        go_round
        case rel => exact ⟨I - 1, by omega, by omega, rfl, by rw [show (I - 1 + 1).toNat = I.toNat by omega, HST2.out]; simp; omega⟩
        case measure => simp [intOf]; omega
      | false =>
        go_wp2_with fail
        go_round
        case rel => exact ⟨I - 1, by omega, by omega, rfl, by rw [show (I - 1 + 1).toNat = I.toNat by omega, HST2.out]; simp⟩
        case measure => simp [intOf]; omega
    · go_wp2_with fail
      go_quiet (fail)
      go_wp2_with fail
      go_ret3
      refine ⟨A', ?_, HA.out, HLE.out, (Drawn0.refl _).step _⟩
      rw [show (I + 1).toNat = 0 by omega, List.drop_zero, List.length_drop]
      rfl
/-- One number got by the reference, of bits that lie wherever. -/
theorem rget_one (A : Option Addr) (c : Nat) (l : List Bool) (width : Int) (hc : l.length ≤ c) (w : World) (hr : Kd.C Kd.bool w A l.length l) :
    Calls Try.prog 36 #[.slice A l.length c, .int .i64 width] w fun e w' => ∃ A' c', e = .returned (.tuple #[.int .u64 (getR l width).1, .slice A' (getR l width).2.1.length c', .int .i64 (getR l width).2.2]) ∧ (∀ W, Kd.C Kd.bool W A l.length l → Kd.C Kd.bool W A' (getR l width).2.1.length (getR l width).2.1) ∧ (getR l width).2.1.length ≤ c' ∧ Drawn0 w w' := by
  unfold getR
  by_cases h1 : width < 0 ∨ 64 < width
  · rw [if_pos h1]
    refine (rget_width A l.length c width h1 w).mono ?_
    rintro e w' ⟨rfl, rfl⟩
    exact ⟨A, c, rfl, fun _ h => h, hc, Drawn0.refl _⟩
  rw [if_neg h1]
  by_cases h2 : (l.length : Int) < width
  · rw [if_pos h2]
    refine (rget_short A l.length c width (by omega) (by omega) h2 w).mono ?_
    rintro e w' ⟨rfl, rfl⟩
    exact ⟨A, c, rfl, fun _ h => h, hc, Drawn0.refl _⟩
  · rw [if_neg h2]
    refine (rget_drop A c l width (by omega) (by omega) (by omega) hc w hr).mono ?_
    rintro e w' ⟨A', rfl, h3, h4, h5⟩
    exact ⟨A', _, rfl, h3, h4, h5⟩
end Go.Proofs.Ytnndeogbncadbaa.F
