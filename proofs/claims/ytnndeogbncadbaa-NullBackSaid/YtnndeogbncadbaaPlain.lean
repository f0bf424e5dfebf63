/- Plain facts on bits and bytes: what a bit more does to bytes. -/
import Derived.Test.YtnndeogbncadbaaGdef
import Derived.Laws.BitsAllLaws
namespace Go.Proofs.Ytnndeogbncadbaa.F
open Go.RowKit Go.Proofs.YtnndeogbncadbaaW.PrintWords Go.Proofs.YtnndeogbncadbaaW.PrintLast Go.Proofs.YtnndeogbncadbaaW.PrintMore

theorem packN_length (bs : List Bool) : (packN bs).length = (bs.length + 7) / 8 := by simp [packN]
theorem packN_get (bs : List Bool) (i : Nat) (h : i < (bs.length + 7) / 8) : (packN bs)[i]? = some ((numN ((bs.drop (8 * i)).take 8) : Nat) : Int) := by
  simp [packN, List.getElem?_map, List.getElem?_range h]
theorem numN_snoc (l : List Bool) (b : Bool) : numN (l ++ [b]) = numN l + 2 ^ l.length * b.toNat := by
  induction l with
  | nil => simp [numN]
  | cons x l ih => simp only [List.cons_append, numN, ih, List.length_cons, Nat.pow_succ, Nat.mul_add]; rw [Nat.mul_comm (2 ^ l.length) 2, Nat.mul_assoc]; omega
theorem numN_lt (l : List Bool) : numN l < 2 ^ l.length := by
  induction l with
  | nil => simp [numN]
  | cons x l ih =>
    have : x.toNat ≤ 1 := by cases x <;> simp
    simp only [numN, List.length_cons, Nat.pow_succ]; omega
theorem bitsN_length (w n : Nat) : (bitsN w n).length = w := by simp [bitsN]
theorem bitsN_take (w n K : Nat) (h : K < w) : (bitsN w n).take (K + 1) = (bitsN w n).take K ++ [n.testBit K] := by
  rw [List.take_succ_eq_append_getElem (by rw [bitsN_length]; exact h)]
  simp [bitsN]

/-- The bytes before the bit is laid: a new one where the bits fill bytes. -/
def roomN (c : List Bool) : List Int := if c.length % 8 = 0 then packN c ++ [0] else packN c
theorem roomN_length (c : List Bool) : (roomN c).length = c.length / 8 + 1 := by
  unfold roomN
  split
  · rw [List.length_append, packN_length, List.length_singleton]; omega
  · rw [packN_length]; omega
theorem roomN_at (c : List Bool) : rd (roomN c) ((c.length / 8 : Nat) : Int) = ((numN (c.drop (8 * (c.length / 8))) : Nat) : Int) := by
  unfold rd roomN
  rw [Int.toNat_natCast]
  split
  · rename_i h
    have h1 : (packN c).length = c.length / 8 := by rw [packN_length]; omega
    rw [List.getD_eq_getElem?_getD, List.getElem?_append_right (by omega), h1, Nat.sub_self, List.drop_eq_nil_of_le (by omega)]
    rfl
  · rename_i h
    rw [List.getD_eq_getElem?_getD, packN_get _ _ (by omega), Option.getD_some, List.take_of_length_le (by rw [List.length_drop]; omega)]
theorem roomN_lt (c : List Bool) : 0 ≤ rd (roomN c) ((c.length / 8 : Nat) : Int) ∧ rd (roomN c) ((c.length / 8 : Nat) : Int) < 2 ^ (c.length % 8) := by
  rw [roomN_at]
  have h := numN_lt (c.drop (8 * (c.length / 8)))
  rw [List.length_drop, show c.length - 8 * (c.length / 8) = c.length % 8 by omega] at h
  refine ⟨Int.natCast_nonneg _, ?_⟩
  exact_mod_cast h
theorem put_step (c : List Bool) (b : Bool) :
    (roomN c).set (c.length / 8) (rd (roomN c) ((c.length / 8 : Nat) : Int) + ((b.toNat * 2 ^ (c.length % 8) : Nat) : Int)) = packN (c ++ [b]) := by
  have hl : (c ++ [b]).length = c.length + 1 := by simp
  apply List.ext_getElem?
  intro i
  rcases Nat.lt_trichotomy i (c.length / 8) with h | h | h
  · rw [List.getElem?_set_ne (by omega), packN_get _ _ (by omega), List.drop_append_of_le_length (by omega), List.take_append_of_le_length (by rw [List.length_drop]; omega)]
    have : (roomN c)[i]? = (packN c)[i]? := by
      unfold roomN
      split
      · rw [List.getElem?_append_left (by rw [packN_length]; omega)]
      · rfl
    rw [this, packN_get _ _ (by omega)]
  · subst h
    rw [List.getElem?_set_self (by rw [roomN_length]; omega), packN_get _ _ (by omega), roomN_at, List.drop_append_of_le_length (by omega), List.take_of_length_le (by rw [List.length_append, List.length_drop, List.length_singleton]; omega), numN_snoc, List.length_drop, show c.length - 8 * (c.length / 8) = c.length % 8 by omega, Nat.mul_comm b.toNat]
    push_cast
    rfl
  · rw [List.getElem?_eq_none (by rw [List.length_set, roomN_length]; omega), List.getElem?_eq_none (by rw [packN_length]; omega)]

theorem and_one_u64' (x : Int) (h0 : 0 ≤ x) (h1 : x < 18446744073709551616) : bits .and .u64 x 1 = x % 2 := by
  have h := u64_and x 1 h0 h1 (by omega) (by omega)
  rw [h]
  have : x.toNat &&& (1 : Int).toNat = x.toNat % 2 := Nat.and_one_is_mod _
  rw [this]; omega
theorem shr_bit (n : Nat) (K : Nat) : ((n / 2 ^ K) % 2 : Nat) = (n.testBit K).toNat := by
  rw [Nat.testBit_eq_decide_div_mod_eq]
  rcases Nat.mod_two_eq_zero_or_one (n / 2 ^ K) with h | h <;> simp [h]
theorem put_value_nat (q p b M : Nat) (hq : q < 18446744073709551616) (hb : q % 2 = b) (hM : M < 8) (hp : p < 2 ^ M) :
    bits .or .u8 (p : Int) (bits .and .u64 (q : Int) 1 % 256 * 2 ^ M % 256) = ((p + b * 2 ^ M : Nat) : Int) := by
  have hM2 : 2 ^ M ≤ 128 := Nat.le_trans (Nat.pow_le_pow_right (by omega) (show M ≤ 7 by omega)) (by decide)
  rw [and_one_u64' _ (by omega) (by omega)]
  have h3 : ((q : Int) % 2) = (b : Int) := by omega
  rw [h3]
  have hb1 : b ≤ 1 := by omega
  have h5 : b * 2 ^ M ≤ 128 := Nat.le_trans (Nat.mul_le_mul hb1 hM2) (by decide)
  have h4 : (b : Int) % 256 * 2 ^ M % 256 = ((b * 2 ^ M : Nat) : Int) := by
    rw [Int.emod_eq_of_lt (a := (b : Int)) (b := 256) (by omega) (by omega)]
    have : (b : Int) * 2 ^ M = ((b * 2 ^ M : Nat) : Int) := by push_cast; rfl
    rw [this, Int.emod_eq_of_lt (by omega) (by omega)]
  rw [h4, u8_or_nat p _ (by omega) (by omega)]
  have h6 : p ||| b * 2 ^ M = p + b * 2 ^ M := by
    rw [Nat.mul_comm, Nat.or_comm, ← Nat.two_pow_add_eq_or_of_lt hp, Nat.add_comm]
  rw [h6]
/-- The byte that Put writes. -/
theorem put_value (n o : Int) (K M : Nat) (hn0 : 0 ≤ n) (hn1 : n < 18446744073709551616) (hM : M < 8) (ho0 : 0 ≤ o) (ho1 : o < 2 ^ M) :
    bits .or .u8 o (bits .and .u64 (n / 2 ^ K) 1 % 256 * 2 ^ M % 256) = o + (((n.toNat.testBit K).toNat * 2 ^ M : Nat) : Int) := by
  obtain ⟨m, rfl⟩ := Int.eq_ofNat_of_zero_le hn0
  obtain ⟨p, rfl⟩ := Int.eq_ofNat_of_zero_le ho0
  have hp : p < 2 ^ M := by exact_mod_cast ho1
  have h1 : ((m : Int) / 2 ^ K) = ((m / 2 ^ K : Nat) : Int) := by push_cast; rfl
  have hm : m < 18446744073709551616 := by omega
  have h2 : m / 2 ^ K < 18446744073709551616 := Nat.lt_of_le_of_lt (Nat.div_le_self _ _) hm
  rw [h1, put_value_nat _ p _ M h2 (shr_bit m K) hM hp, Int.toNat_natCast, Int.natCast_add]

theorem bitsB_length (l : List Int) : (bitsB l).length = 8 * l.length := by
  unfold bitsB
  induction l with
  | nil => rfl
  | cons x l ih => rw [List.flatMap_cons, List.length_append, ih, bitsN_length, List.length_cons]; omega
theorem bitsB_get (l : List Int) : ∀ (p : Nat), p < 8 * l.length → (bitsB l)[p]? = some ((l.getD (p / 8) 0).toNat.testBit (p % 8)) := by
  unfold bitsB
  induction l with
  | nil => intro p h; simp at h
  | cons x l ih =>
    intro p h
    rw [List.length_cons] at h
    rw [List.flatMap_cons]
    by_cases h8 : p < 8
    · rw [List.getElem?_append_left (by rw [bitsN_length]; exact h8), show p / 8 = 0 by omega, show p % 8 = p by omega]
      simp [bitsN, h8]
    · rw [List.getElem?_append_right (by rw [bitsN_length]; omega), bitsN_length, ih _ (by omega), show p / 8 = (p - 8) / 8 + 1 by omega, show (p - 8) % 8 = p % 8 by omega]
      simp
theorem numN_take (bs : List Bool) (p K : Nat) (b : Bool) (h : bs[p + K]? = some b) : numN ((bs.drop p).take (K + 1)) = numN ((bs.drop p).take K) + 2 ^ K * b.toNat := by
  have hl : p + K < bs.length := (List.getElem?_eq_some_iff.1 h).1
  have h2 : (bs.drop p)[K]'(by rw [List.length_drop]; omega) = b := by
    rw [List.getElem_drop]
    exact (List.getElem?_eq_some_iff.1 h).2
  have h4 : ((bs.drop p).take K).length = K := by rw [List.length_take, List.length_drop]; omega
  rw [List.take_succ_eq_append_getElem (by rw [List.length_drop]; omega), numN_snoc, h4, h2]
theorem and_one_u8 (x : Int) (h0 : 0 ≤ x) (h1 : x < 256) : bits .and .u8 x 1 = x % 2 := by
  have h := u8_and x 1 h0 h1 (by omega) (by omega)
  rw [h]
  have : x.toNat &&& (1 : Int).toNat = x.toNat % 2 := Nat.and_one_is_mod _
  rw [this]; omega
/-- The number that Get has when one more bit is read. -/
theorem get_value (o x : Int) (K M : Nat) (hx0 : 0 ≤ x) (hx1 : x < 256) (hK : K < 64) (ho0 : 0 ≤ o) (ho1 : o < 2 ^ K) :
    bits .or .u64 o (bits .and .u8 (x / 2 ^ M) 1 * 2 ^ K % 18446744073709551616) = o + ((2 ^ K * (x.toNat.testBit M).toNat : Nat) : Int) := by
  obtain ⟨m, rfl⟩ := Int.eq_ofNat_of_zero_le hx0
  obtain ⟨p, rfl⟩ := Int.eq_ofNat_of_zero_le ho0
  have hp : p < 2 ^ K := by exact_mod_cast ho1
  have hK2 : 2 ^ K ≤ 9223372036854775808 := Nat.le_trans (Nat.pow_le_pow_right (by omega) (show K ≤ 63 by omega)) (by decide)
  have h1 : ((m : Int) / 2 ^ M) = ((m / 2 ^ M : Nat) : Int) := by push_cast; rfl
  have hm : m < 256 := by omega
  obtain ⟨q, hq⟩ : ∃ q, q = m / 2 ^ M := ⟨_, rfl⟩
  have h2 : q < 256 := by rw [hq]; exact Nat.lt_of_le_of_lt (Nat.div_le_self _ _) hm
  have h3 : q % 2 = (m.testBit M).toNat := by rw [hq]; exact shr_bit m M
  obtain ⟨b, hb⟩ : ∃ b, b = (m.testBit M).toNat := ⟨_, rfl⟩
  rw [h1, ← hq, and_one_u8 _ (by omega) (by omega), Int.toNat_natCast, ← hb]
  have h4 : ((q : Int) % 2) = (b : Int) := by omega
  have hb1 : b ≤ 1 := by omega
  have h5 : b * 2 ^ K ≤ 9223372036854775808 := Nat.le_trans (Nat.mul_le_mul hb1 hK2) (by omega)
  rw [h4]
  have h6 : (b : Int) * 2 ^ K = ((b * 2 ^ K : Nat) : Int) := by push_cast; rfl
  rw [h6, Int.emod_eq_of_lt (by omega) (by omega), u64_or_nat p _ (by omega) (by omega)]
  have h7 : p ||| b * 2 ^ K = p + 2 ^ K * b := by
    rw [Nat.mul_comm, Nat.or_comm, ← Nat.two_pow_add_eq_or_of_lt hp, Nat.add_comm]
  rw [h7, Int.natCast_add]

theorem getsN_succ (w n : Nat) (bs : List Bool) : getsN w (n + 1) bs = getsN w n bs ++ [((numN ((bs.drop (n * w)).take w) : Nat) : Int)] := by
  simp [getsN, List.range_succ]
theorem getsN_length (w n : Nat) (bs : List Bool) : (getsN w n bs).length = n := by simp [getsN]
theorem numN_zero (l : List Bool) : numN l = 0 ↔ l.all (fun b => !b) = true := by
  induction l with
  | nil => simp [numN]
  | cons x l ih =>
    cases x with
    | true => simp [numN]
    | false => simp only [numN, List.all_cons, Bool.not_false, Bool.true_and, ← ih, Bool.toNat_false]; omega
/-- A product of two small numbers, for linear arithmetic. -/
theorem mul_bound (a b : Int) (h0 : 0 ≤ a) (h1 : a ≤ 1048576) (h2 : 0 ≤ b) (h3 : b ≤ 64) : 0 ≤ a * b ∧ a * b ≤ 67108864 := by
  constructor
  · exact Int.mul_nonneg h0 h2
  · have := Int.mul_le_mul h1 h3 h2 (by omega)
    omega
theorem mul_step (K n w : Int) (hw : 0 ≤ w) (h : K < n) : K * w + w ≤ n * w := by
  have h1 : (K + 1) * w ≤ n * w := Int.mul_le_mul_of_nonneg_right (by omega) hw
  rw [Int.add_mul, Int.one_mul] at h1
  exact h1
end Go.Proofs.Ytnndeogbncadbaa.F
