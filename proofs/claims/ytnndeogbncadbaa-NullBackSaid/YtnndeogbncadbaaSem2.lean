/- What the printed functions of bits and its reference tell. -/
import Derived.Test.YtnndeogbncadbaaBitsLaws
import Derived.Test.YtnndeogbncadbaaSem1
import Derived.Test.YtnndeogbncadbaaPack
import Derived.Test.YtnndeogbncadbaaF15
import Derived.Test.YtnndeogbncadbaaF24
import Derived.Test.YtnndeogbncadbaaF26
import Derived.Test.YtnndeogbncadbaaF32
import Derived.Test.YtnndeogbncadbaaF33
import Derived.Test.YtnndeogbncadbaaF34
namespace Go.Proofs.Ytnndeogbncadbaa.F
open Go.RowKit Go.Proofs.YtnndeogbncadbaaW.PrintWords Go.Proofs.YtnndeogbncadbaaW.PrintLast Go.Proofs.YtnndeogbncadbaaW.PrintMore
set_option linter.unusedVariables false

theorem u64_of {x : Int} (h : inU64 x = true) : 0 ≤ x ∧ x < 18446744073709551616 := by simpa [inU64] using h
theorem u8_of {x : Int} (h : inU8 x = true) : 0 ≤ x ∧ x < 256 := by simpa [inU8] using h
theorem all_at {l : List Int} {f : Int → Bool} (h : l.all f = true) (i : Nat) (hi : i < l.length) : f l[i] = true := List.all_eq_true.1 h _ (List.getElem_mem _)

theorem Width.loop (l : List Int) (hu : l.all inU64 = true) (hl : l.length ≤ 17592186044416) (d : Nat) : ∀ (i : Nat) (a : Nat), l.length = i + d → a < 18446744073709551616 → lenN a = widthN (l.take i) →
    Ev (fun k => bits_Width.l0 k (a : Int) l (l.length : Int) (i : Int)) (widthN l : Int) := by
  induction d with
  | zero =>
    intro i a hi ha hw
    refine Ev.step (f := fun _ => some (widthN l : Int)) (fun k => ?_) (Ev.now _)
    simp only [bits_Width.l0]
    rw [if_neg (by omega)]
    unfold bits_Len64.f
    rw [if_pos (by simp [inU64]; omega), Int.toNat_natCast, hw, List.take_of_length_le (by omega)]
    rfl
  | succ d ih =>
    intro i a hi ha hw
    have hlt : i < l.length := by omega
    have hx := u64_of (all_at hu i hlt)
    refine Ev.step (f := fun k => bits_Width.l0 k ((a ||| l[i].toNat : Nat) : Int) l (l.length : Int) ((i + 1 : Nat) : Int)) (fun k => ?_) (ih (i + 1) _ (by omega) ?_ ?_)
    · simp only [bits_Width.l0]
      rw [if_pos (by omega), if_pos (by omega), if_pos (by omega), rd_nat l i hlt, wrap_le (by omega) (by omega)]
      have := u64_or (a : Int) l[i] (by omega) (by omega) hx.1 hx.2
      rw [this, Int.toNat_natCast]
      rfl
    · exact Nat.or_lt_two_pow (n := 64) (by simpa using ha) (by simp; omega)
    · rw [lenN_or, hw, List.take_succ_eq_append_getElem hlt, widthN_append]
      simp [widthN]
theorem Width.sem (l : List Int) (hu : l.all inU64 = true) (hl : l.length ≤ 17592186044416) : Ev (fun k => bits_Width.f k l) (widthN l : Int) :=
  Width.loop l hu hl l.length 0 0 (by omega) (by omega) (by simp [widthN, lenN])

theorem Fits.loop (w : Nat) (hw : w ≤ 64) (d : Nat) : ∀ (i n : Nat), w = i + d → n < 18446744073709551616 → Ev (fun k => astragalref01_Fits.l0 k (n : Int) (w : Int) (i : Int)) (decide (lenN n ≤ d)) := by
  induction d with
  | zero =>
    intro i n hi hn
    refine Ev.step (f := fun _ => some (decide (lenN n ≤ 0))) (fun k => ?_) (Ev.now _)
    simp only [astragalref01_Fits.l0]
    rw [if_neg (by omega)]
    have h1 := lenN_le_iff n 0
    congr 1
    rw [Bool.eq_iff_iff]
    simp only [beq_iff_eq, decide_eq_true_eq]
    rw [h1]
    simp
  | succ d ih =>
    intro i n hi hn
    refine Ev.step (f := fun k => astragalref01_Fits.l0 k ((n / 2 : Nat) : Int) (w : Int) ((i + 1 : Nat) : Int)) (fun k => ?_) ?_
    · simp only [astragalref01_Fits.l0]
      rw [if_pos (by omega), wrap_le (by omega) (by omega), Int.tdiv_eq_ediv_of_nonneg (by omega), IntKind.wrap_u64, show ((n : Int) / 2) % 18446744073709551616 = ((n / 2 : Nat) : Int) by omega]
      rfl
    · have h := ih (i + 1) (n / 2) (by omega) (by omega)
      have h2 : (lenN (n / 2) ≤ d) ↔ (lenN n ≤ d + 1) := by
        rw [lenN_le_iff, lenN_le_iff, Nat.pow_succ]
        omega
      rw [decide_eq_decide.2 h2] at h
      exact h
theorem Fits.sem (n w : Int) (hn : inU64 n = true) (h0 : 0 ≤ w) (h1 : w ≤ 64) : Ev (fun k => astragalref01_Fits.f k n w) (decide (lenN n.toNat ≤ w.toNat)) := by
  obtain ⟨m, rfl⟩ := Int.eq_ofNat_of_zero_le (u64_of hn).1
  obtain ⟨v, rfl⟩ := Int.eq_ofNat_of_zero_le h0
  have := u64_of hn
  exact Fits.loop v (by omega) v 0 m (by omega) (by omega)

theorem RSame.loop (a b : List Int) (hab : a.length = b.length) (hl : a.length ≤ 17592186044416) (d : Nat) : ∀ (i : Nat), a.length = i + d → a.take i = b.take i → Ev (fun k => astragalref01_Same.l0 k a b (i : Int)) (decide (a = b)) := by
  induction d with
  | zero =>
    intro i hi he
    refine Ev.step (f := fun _ => some (decide (a = b))) (fun k => ?_) (Ev.now _)
    simp only [astragalref01_Same.l0]
    rw [if_neg (by omega), decide_eq_true]
    rw [List.take_of_length_le (by omega), List.take_of_length_le (by omega)] at he
    exact he
  | succ d ih =>
    intro i hi he
    have hlt : i < a.length := by omega
    have hlt2 : i < b.length := by omega
    by_cases h : a[i] = b[i]
    · refine Ev.step (f := fun k => astragalref01_Same.l0 k a b ((i + 1 : Nat) : Int)) (fun k => ?_) (ih (i + 1) (by omega) ?_)
      · simp only [astragalref01_Same.l0]
        rw [if_pos (by omega), if_pos (by omega), if_pos (by omega), rd_nat a i hlt, rd_nat b i hlt2, if_pos h, wrap_le (by omega) (by omega)]
        rfl
      · rw [List.take_succ_eq_append_getElem hlt, List.take_succ_eq_append_getElem hlt2, he, h]
    · refine Ev.step (f := fun _ => some (decide (a = b))) (fun k => ?_) (Ev.now _)
      simp only [astragalref01_Same.l0]
      rw [if_pos (by omega), if_pos (by omega), if_pos (by omega), rd_nat a i hlt, rd_nat b i hlt2, if_neg h, decide_eq_false]
      rintro rfl
      exact h rfl
theorem RSame.sem (a b : List Int) (hl : a.length ≤ 17592186044416) : Ev (fun k => astragalref01_Same.f k a b) (decide (a = b)) := by
  unfold astragalref01_Same.f
  by_cases hab : a.length = b.length
  · simp only [if_pos (show (a.length : Int) = (b.length : Int) by omega)]
    exact RSame.loop a b hab hl a.length 0 (by omega) (by simp)
  · simp only [if_neg (show ¬ (a.length : Int) = (b.length : Int) by omega)]
    rw [decide_eq_false (by rintro rfl; exact hab rfl)]
    exact Ev.now _

theorem RWidth.inner (l : List Int) (hu : l.all inU64 = true) (hl : l.length ≤ 17592186044416) (w : Nat) (hw : w < 64) (d : Nat) (r : Int) : ∀ (i : Nat) (x4 : Bool), l.length = i + d → x4 = decide (widthN (l.take i) ≤ w) →
    (widthN l ≤ w → r = w) → (¬ widthN l ≤ w → Ev (fun k => astragalref01_Width.l0 k l ((w + 1 : Nat) : Int)) r) → Ev (fun k => astragalref01_Width.l1 k l (w : Int) x4 (i : Int)) r := by
  induction d with
  | zero =>
    intro i x4 hi hx h1 h2
    rw [List.take_of_length_le (by omega)] at hx
    by_cases hc : widthN l ≤ w
    · refine Ev.step (f := fun _ => some r) (fun k => ?_) (Ev.now _)
      simp only [astragalref01_Width.l1]
      rw [if_neg (by omega), hx, if_pos (by simpa using hc), h1 hc]
    · refine Ev.step (fun k => ?_) (h2 hc)
      simp only [astragalref01_Width.l1]
      rw [if_neg (by omega), hx, if_neg (by simpa using hc), wrap_le (by omega) (by omega)]
      rfl
  | succ d ih =>
    intro i x4 hi hx h1 h2
    have hlt : i < l.length := by omega
    have hin := all_at hu i hlt
    have hn : widthN (l.take (i + 1)) = max (widthN (l.take i)) (lenN l[i].toNat) := by
      rw [List.take_succ_eq_append_getElem hlt, widthN_append]; simp [widthN]
    have hih := ih (i + 1) (decide (widthN (l.take (i + 1)) ≤ w)) (by omega) rfl h1 h2
    have hf := Fits.sem l[i] (w : Int) hin (by omega) (by omega)
    rw [Int.toNat_natCast] at hf
    refine Ev.step (f := fun k => (astragalref01_Fits.f k l[i] (w : Int)).bind fun t => if x4 = true then astragalref01_Width.l1 k l (w : Int) t ((i + 1 : Nat) : Int) else astragalref01_Width.l1 k l (w : Int) false ((i + 1 : Nat) : Int)) (fun k => ?_) (Ev.bind hf ?_)
    · simp only [astragalref01_Width.l1]
      rw [if_pos (by omega), if_pos (by omega), rd_nat l i hlt, wrap_le (by omega) (by omega)]
      rfl
    · by_cases hc : widthN (l.take i) ≤ w
      · have hx' : x4 = true := by rw [hx]; simpa using hc
        have h5 : decide (lenN l[i].toNat ≤ w) = decide (widthN (l.take (i + 1)) ≤ w) := by
          rw [decide_eq_decide, hn]; omega
        simp only [hx', if_true]
        rw [h5]
        exact hih
      · have hx' : x4 = false := by rw [hx]; simpa using hc
        have h5 : decide (widthN (l.take (i + 1)) ≤ w) = false := by
          rw [decide_eq_false_iff_not, hn]; omega
        rw [h5] at hih
        simp only [hx', Bool.false_eq_true, if_false]
        exact hih
theorem RWidth.loop (l : List Int) (hu : l.all inU64 = true) (hl : l.length ≤ 17592186044416) (d : Nat) : ∀ (w : Nat), 64 = w + d → w ≤ widthN l → Ev (fun k => astragalref01_Width.l0 k l (w : Int)) (widthN l : Int) := by
  have h64 := widthN_64 l hu
  induction d with
  | zero =>
    intro w hw hle
    refine Ev.step (f := fun _ => some (widthN l : Int)) (fun k => ?_) (Ev.now _)
    simp only [astragalref01_Width.l0]
    rw [if_neg (by omega), show widthN l = 64 by omega]
    rfl
  | succ d ih =>
    intro w hw hle
    refine Ev.step (f := fun k => astragalref01_Width.l1 k l (w : Int) true 0) (fun k => ?_) ?_
    · simp only [astragalref01_Width.l0]
      rw [if_pos (by omega)]
    · exact RWidth.inner l hu hl w (by omega) l.length _ 0 true (by omega) (by simp [widthN]) (fun h => by omega) (fun h => ih (w + 1) (by omega) (by omega))
theorem RWidth.sem (l : List Int) (hu : l.all inU64 = true) (hl : l.length ≤ 17592186044416) : Ev (fun k => astragalref01_Width.f k l) (widthN l : Int) := RWidth.loop l hu hl 64 0 (by omega) (by omega)

theorem set_same (L : List Int) (j : Nat) (h : j < L.length) : L.set j (rd L (j : Int) + (((false).toNat * 2 ^ 0 : Nat) : Int)) = L := by
  simp only [rd_nat L j h, Bool.toNat_false, Nat.zero_mul, Int.natCast_zero, Int.add_zero]
  exact List.set_getElem_self h
theorem rdb_nat (l : List Bool) (i : Nat) (h : i < l.length) : rdOf false l (i : Int) = l[i] := by
  simp [rdOf, List.getD_eq_getElem?_getD, List.getElem?_eq_getElem h]
theorem roomN_put0 (c : List Bool) : packN (c ++ [false]) = roomN c := by
  rw [← put_step c false]
  have hl : c.length / 8 < (roomN c).length := by rw [roomN_length]; omega
  simp only [rd_nat (roomN c) (c.length / 8) hl, Bool.toNat_false, Nat.zero_mul, Int.natCast_zero, Int.add_zero]
  exact List.set_getElem_self hl
/-- A bit's weight. -/
def pw (m : Nat) : Int := ((2 ^ m : Nat) : Int)
theorem roomN_put1 (c : List Bool) : packN (c ++ [true]) = (roomN c).set (c.length / 8) ((rd (roomN c) ((c.length / 8 : Nat) : Int) + pw (c.length % 8)) % 256) := by
  unfold pw
  rw [← put_step c true]
  have h := roomN_lt c
  obtain ⟨v, hv⟩ : ∃ v : Nat, rd (roomN c) ((c.length / 8 : Nat) : Int) = v := ⟨_, (Int.toNat_of_nonneg h.1).symm⟩
  have h1 : v < 2 ^ (c.length % 8) := by have := h.2; rw [hv] at this; exact_mod_cast this
  have h2 : 2 ^ (c.length % 8) ≤ 128 := Nat.le_trans (Nat.pow_le_pow_right (by omega) (show c.length % 8 ≤ 7 by omega)) (by decide)
  congr 1
  rw [hv, Bool.toNat_true, Nat.one_mul, Int.emod_eq_of_lt (by omega) (by omega)]
theorem weight_next (m : Nat) (h : m % 8 ≠ 0) (h2 : (m + 1) % 8 ≠ 0) : pw (m % 8) * 2 % 256 = pw ((m + 1) % 8) := by
  unfold pw
  have h3 : (m + 1) % 8 = m % 8 + 1 := by omega
  have h4 : 2 ^ (m % 8 + 1) ≤ 128 := Nat.le_trans (Nat.pow_le_pow_right (by omega) (show m % 8 + 1 ≤ 7 by omega)) (by decide)
  have h5 : 2 ^ (m % 8 + 1) = 2 ^ (m % 8) * 2 := Nat.pow_succ ..
  rw [h3, Int.emod_eq_of_lt (by omega) (by omega)]
  omega
theorem roomN_room (c : List Bool) (i : Nat) (h : c.length = i) : ((i / 8 : Nat) : Int) < ((roomN c).length : Int) := by
  subst h
  rw [roomN_length]
  omega
theorem packN_small (c : List Bool) (h : c.length ≤ 1000000000000) : (packN c).length < 140737488355328 := by
  rw [packN_length]
  omega
theorem tdiv8 (i : Nat) (h : i ≤ 1000000000000) : wrap64 (Int.tdiv (i : Int) 8) = ((i / 8 : Nat) : Int) := by
  rw [Int.tdiv_eq_ediv_of_nonneg (by omega), wrap_le (by omega) (by omega)]; omega
theorem tmod8 (i : Nat) : Int.tmod (i : Int) 8 = ((i % 8 : Nat) : Int) := by
  rw [Int.tmod_eq_emod_of_nonneg (by omega)]; omega
theorem wrap_succ (i : Nat) (h : i ≤ 1000000000000) : wrap64 ((i : Int) + 1) = ((i + 1 : Nat) : Int) := by rw [wrap_le (by omega) (by omega)]; rfl
theorem RBytes.loop (l : List Bool) (hl : l.length ≤ 1000000000000) (d : Nat) : ∀ (i : Nat) (x4 : Int), l.length = i + d → (i % 8 ≠ 0 → x4 = pw (i % 8)) →
    Ev (fun k => astragalref01_Bytes.l0 k l (packN (l.take i)) x4 (i : Int)) (packN l) := by
  induction d with
  | zero =>
    intro i x4 hi hx
    refine Ev.step (f := fun _ => some (packN l)) (fun k => ?_) (Ev.now _)
    simp only [astragalref01_Bytes.l0]
    rw [if_neg (by omega), List.take_of_length_le (by omega)]
  | succ d ih =>
    intro i x4 hi hx
    have hlt : i < l.length := by omega
    obtain ⟨c, hc⟩ : ∃ c, c = l.take i := ⟨_, rfl⟩
    have hcl : c.length = i := by rw [hc, List.length_take]; omega
    have hs : l.take (i + 1) = c ++ [l[i]] := by rw [List.take_succ_eq_append_getElem hlt, hc]
    have hroomlt := roomN_room c i hcl
    have hsmall := packN_small c (by omega)
    rw [← hc]
    have hd8 := tdiv8 i (by omega)
    have hm8 := tmod8 i
    have hw1 := wrap_succ i (by omega)
    have h0i : (0 : Int) ≤ (i : Int) := Int.natCast_nonneg _
    have h0j : (0 : Int) ≤ ((i / 8 : Nat) : Int) := Int.natCast_nonneg _
    have hil : (i : Int) < (l.length : Int) := by omega
    have h1n : l.length = i + 1 + d := by omega
    clear hi hl
    by_cases h8 : i % 8 = 0
    · have hroom : packN c ++ [0] = roomN c := (if_pos (hcl.symm ▸ h8)).symm
      cases hb : l[i] with
      | true =>
        refine Ev.step (f := fun k => astragalref01_Bytes.l0 k l (packN (l.take (i + 1))) (1 * 2) ((i + 1 : Nat) : Int)) (fun k => ?_) (ih (i + 1) _ h1n (fun h => ?_))
        · simp only [astragalref01_Bytes.l0]
          rw [if_pos hil, hm8, if_pos (by rw [h8]; rfl), if_pos hsmall, hroom, Option.bind_some, if_pos h0i, rdb_nat l i hlt, hb, if_pos rfl, hd8, if_pos h0j, if_pos hroomlt, hw1, hs, hb, roomN_put1 c, hcl, h8, Int.toNat_natCast, show pw 0 = 1 from rfl]
        · rw [show (i + 1) % 8 = 1 from by rw [Nat.add_mod, h8]]; rfl
      | false =>
        refine Ev.step (f := fun k => astragalref01_Bytes.l0 k l (packN (l.take (i + 1))) (1 * 2) ((i + 1 : Nat) : Int)) (fun k => ?_) (ih (i + 1) _ h1n (fun h => ?_))
        · simp only [astragalref01_Bytes.l0]
          rw [if_pos hil, hm8, if_pos (by rw [h8]; rfl), if_pos hsmall, hroom, Option.bind_some, if_pos h0i, rdb_nat l i hlt, hb, if_neg (by simp), hw1, hs, hb, roomN_put0 c]
        · rw [show (i + 1) % 8 = 1 from by rw [Nat.add_mod, h8]]; rfl
    · have hroom : packN c = roomN c := (if_neg (hcl.symm ▸ h8)).symm
      have hx4 := hx h8
      cases hb : l[i] with
      | true =>
        refine Ev.step (f := fun k => astragalref01_Bytes.l0 k l (packN (l.take (i + 1))) (x4 * 2 % 256) ((i + 1 : Nat) : Int)) (fun k => ?_) (ih (i + 1) _ h1n (fun h => ?_))
        · simp only [astragalref01_Bytes.l0]
          rw [if_pos hil, hm8, if_neg (show ¬ ((i % 8 : Nat) : Int) = 0 from fun h => h8 (Int.ofNat.inj h)), if_pos h0i, rdb_nat l i hlt, hb, if_pos rfl, hd8, if_pos h0j, if_pos (hroom ▸ hroomlt), hw1, hs, hb, roomN_put1 c, hcl, hroom, hx4, Int.toNat_natCast]
        · rw [hx4]; exact weight_next i h8 h
      | false =>
        refine Ev.step (f := fun k => astragalref01_Bytes.l0 k l (packN (l.take (i + 1))) (x4 * 2 % 256) ((i + 1 : Nat) : Int)) (fun k => ?_) (ih (i + 1) _ h1n (fun h => ?_))
        · simp only [astragalref01_Bytes.l0]
          rw [if_pos hil, hm8, if_neg (show ¬ ((i % 8 : Nat) : Int) = 0 from fun h => h8 (Int.ofNat.inj h)), if_pos h0i, rdb_nat l i hlt, hb, if_neg (by simp), hw1, hs, hb, roomN_put0 c, hroom]
        · rw [hx4]; exact weight_next i h8 h
theorem RBytes.sem (l : List Bool) (hl : l.length ≤ 1000000000000) : Ev (fun k => astragalref01_Bytes.f k l) (packN l) := by
  have h := RBytes.loop l hl l.length 0 1 (by omega) (fun h => by omega)
  rw [List.take_zero, show packN [] = [] from by simp [packN]] at h
  exact h

theorem RPack.inner (x0 : List Int) (w : Nat) (hw : w ≤ 64) (i : Int) (r : List Int × Int) (d : Nat) : ∀ (j n : Nat) (bs : List Bool), w = j + d → n < 18446744073709551616 → bs.length + d ≤ 1000000000000 →
    Ev (fun k => astragalref01_Pack.l0 k x0 (w : Int) (bs ++ bitsN d n) (wrap64 (i + 1))) r → Ev (fun k => astragalref01_Pack.l1 k x0 (w : Int) bs i (n : Int) (j : Int)) r := by
  induction d with
  | zero =>
    intro j n bs hj hn hl h
    refine Ev.step (f := fun k => astragalref01_Pack.l0 k x0 (w : Int) bs (wrap64 (i + 1))) (fun k => ?_) (by simpa [bitsN] using h)
    simp only [astragalref01_Pack.l1]
    rw [if_neg (by omega)]
  | succ d ih =>
    intro j n bs hj hn hl h
    refine Ev.step (f := fun k => astragalref01_Pack.l1 k x0 (w : Int) (bs ++ [(n % 2 == 1)]) i ((n / 2 : Nat) : Int) ((j + 1 : Nat) : Int)) (fun k => ?_) (ih _ _ _ (by omega) (by omega) (by rw [List.length_append, List.length_singleton]; omega) ?_)
    · simp only [astragalref01_Pack.l1]
      rw [if_pos (by omega), if_pos (by omega), wrap_le (by omega) (by omega), Int.tmod_eq_emod_of_nonneg (by omega), Int.tdiv_eq_ediv_of_nonneg (by omega), IntKind.wrap_u64]
      have h1 : (((n : Int) % 2 == 1) : Bool) = (n % 2 == 1) := by
        rw [Bool.eq_iff_iff]; simp; omega
      have h2 : ((n : Int) / 2 % 18446744073709551616) = ((n / 2 : Nat) : Int) := by omega
      rw [h1, h2]
      rfl
    · rw [List.append_assoc]
      rw [bitsN_step] at h
      exact h
theorem RPack.loop (l : List Int) (w : Nat) (hw : w ≤ 64) (hu : l.all inU64 = true) (hl : l.length ≤ 1000000000) (d : Nat) : ∀ (i : Nat), l.length = i + d → (l.take i).all (fun x => decide (lenN x.toNat ≤ w)) = true →
    Ev (fun k => astragalref01_Pack.l0 k l (w : Int) ((l.take i).flatMap fun x => bitsN w x.toNat) (i : Int)) (if l.all (fun x => decide (lenN x.toNat ≤ w)) = true then (packN (l.flatMap fun x => bitsN w x.toNat), 0) else ([], 1)) := by
  induction d with
  | zero =>
    intro i hi ha
    rw [List.take_of_length_le (by omega)] at ha ⊢
    rw [if_pos ha]
    have hlen : (l.flatMap fun x => bitsN w x.toNat).length ≤ 1000000000000 := by
      rw [flatN_length]
      have : l.length * w ≤ 1000000000 * 64 := Nat.mul_le_mul hl hw
      omega
    refine Ev.step (f := fun k => (astragalref01_Bytes.f k (l.flatMap fun x => bitsN w x.toNat)).bind fun t => some (t, 0)) (fun k => ?_) (Ev.bind (RBytes.sem _ hlen) (Ev.now _))
    simp only [astragalref01_Pack.l0]
    rw [if_neg (by omega)]
  | succ d ih =>
    intro i hi ha
    have hlt : i < l.length := by omega
    have hin := all_at hu i hlt
    have hin2 := u64_of hin
    have hf := Fits.sem l[i] (w : Int) hin (by omega) (by omega)
    rw [Int.toNat_natCast] at hf
    have hlen : ((l.take i).flatMap fun x => bitsN w x.toNat).length ≤ 64000000000 := by
      rw [flatN_length, List.length_take]
      have : min i l.length * w ≤ 1000000000 * 64 := Nat.mul_le_mul (by omega) hw
      omega
    by_cases hfit : lenN l[i].toNat ≤ w
    · refine Ev.step (f := fun k => (astragalref01_Fits.f k l[i] (w : Int)).bind fun t => if t = true then astragalref01_Pack.l1 k l (w : Int) ((l.take i).flatMap fun x => bitsN w x.toNat) (i : Int) l[i] 0 else some ([], 1)) (fun k => ?_) (Ev.bind hf ?_)
      · simp only [astragalref01_Pack.l0]
        rw [if_pos (by omega), if_pos (by omega), rd_nat l i hlt]
      · simp only [decide_eq_true hfit, if_true]
        obtain ⟨n, hn⟩ := Int.eq_ofNat_of_zero_le hin2.1
        rw [hn]
        refine RPack.inner l w hw i _ w 0 n _ (by omega) (by omega) (by omega) ?_
        rw [wrap_le (by omega) (by omega)]
        have h := ih (i + 1) (by omega) (all_take l _ i hlt ha (by simpa using hfit))
        rw [flat_take l _ i hlt, hn, Int.toNat_natCast] at h
        exact h
    · rw [if_neg (by
        intro hall
        have := all_at hall i hlt
        simp at this
        omega)]
      refine Ev.step (f := fun k => (astragalref01_Fits.f k l[i] (w : Int)).bind fun t => if t = true then astragalref01_Pack.l1 k l (w : Int) ((l.take i).flatMap fun x => bitsN w x.toNat) (i : Int) l[i] 0 else some ([], 1)) (fun k => ?_) (Ev.bind hf ?_)
      · simp only [astragalref01_Pack.l0]
        rw [if_pos (by omega), if_pos (by omega), rd_nat l i hlt]
      · simp only [decide_eq_false hfit, Bool.false_eq_true, if_false]
        exact Ev.now _
/-- The reference's Pack is the program's. -/
theorem RPack.sem (l : List Int) (a : Int) (hu : l.all inU64 = true) (hl : l.length ≤ 1000000000) : ∃ r, bits_Pack.f l a = some r ∧ Ev (fun k => astragalref01_Pack.f k l a) r := by
  unfold bits_Pack.f
  rw [if_pos ⟨hl, hu⟩]
  by_cases h0 : a < 0
  · rw [if_pos (.inl h0)]
    refine ⟨_, rfl, ?_⟩
    simp only [astragalref01_Pack.f, if_pos h0]
    refine Ev.step (f := fun _ => some ([], 1)) (fun k => ?_) (Ev.now _)
    simp only [astragalref01_Pack.j0, if_true]
  · by_cases h1 : 64 < a
    · rw [if_pos (.inr h1)]
      refine ⟨_, rfl, ?_⟩
      simp only [astragalref01_Pack.f, if_neg h0, gt_iff_lt, decide_eq_true h1]
      refine Ev.step (f := fun _ => some ([], 1)) (fun k => ?_) (Ev.now _)
      simp only [astragalref01_Pack.j0, if_true]
    · obtain ⟨w, rfl⟩ := Int.eq_ofNat_of_zero_le (show 0 ≤ a by omega)
      rw [if_neg (by omega), Int.toNat_natCast]
      have h := RPack.loop l w (by omega) hu hl l.length 0 (by omega) (by simp)
      refine ⟨_, (apply_ite some _ _ _).symm, ?_⟩
      simp only [astragalref01_Pack.f, if_neg h0, gt_iff_lt, decide_eq_false h1]
      refine Ev.step (fun k => ?_) h
      simp only [astragalref01_Pack.j0, Bool.false_eq_true, if_false]
      rfl
end Go.Proofs.Ytnndeogbncadbaa.F
