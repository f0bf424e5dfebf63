/- null.Join: plain lemmas, and the calls that it makes. -/
import Derived.Test.YtnndeogbncadbaaSplit
import Derived.Test.YtnndeogbncadbaaF4
import Derived.Test.YtnndeogbncadbaaSem1
namespace Go.Proofs.Ytnndeogbncadbaa.F
open Go.RowKit Go.Shelf Go.Proofs.YtnndeogbncadbaaW.PrintWords
set_option linter.unusedVariables false
theorem Count.loop (l : List Bool) (hl : l.length ≤ 1000000000) (d : Nat) : ∀ (i : Nat), l.length = i + d → Ev (fun k => null_Count.l0 k ((l.take i).count true : Nat) l (l.length : Int) (i : Int)) ((l.count true : Nat) : Int) := by
  induction d with
  | zero =>
    intro i hi
    refine Ev.step (f := fun k => some ((l.count true : Nat) : Int)) (fun k => ?_) (Ev.now _)
    simp only [null_Count.l0]
    rw [if_neg (by omega), List.take_of_length_le (by omega)]
  | succ d ih =>
    intro i hi
    have h := ih (i + 1) (by omega)
    have hlt : i < l.length := by omega
    have hrd : rdOf false l (i : Int) = l[i] := by
      unfold rdOf
      rw [Int.toNat_natCast, List.getD_eq_getElem?_getD, List.getElem?_eq_getElem hlt]
      rfl
    have htk : l.take (i + 1) = l.take i ++ [l[i]] := List.take_succ_eq_append_getElem hlt
    have hcl : (l.take i).count true ≤ l.length := Nat.le_trans List.count_le_length (by rw [List.length_take]; omega)
    rw [htk, List.count_append] at h
    have hw : wrap64 ((i : Int) + 1) = ((i + 1 : Nat) : Int) := by rw [wrap_le (by omega) (by omega)]; rfl
    cases hb : l[i] with
    | true =>
      rw [hb] at h hrd
      refine Ev.step (f := fun k => null_Count.l0 k (((l.take i).count true + [true].count true : Nat) : Int) l (l.length : Int) ((i + 1 : Nat) : Int)) (fun k => ?_) h
      simp only [null_Count.l0]
      rw [if_pos (by omega), if_pos (by omega), if_pos (by omega), if_pos hrd, hw, wrap_le (by omega) (by omega)]
      rfl
    | false =>
      rw [hb] at h hrd
      refine Ev.step (f := fun k => null_Count.l0 k (((l.take i).count true + [false].count true : Nat) : Int) l (l.length : Int) ((i + 1 : Nat) : Int)) (fun k => ?_) h
      simp only [null_Count.l0]
      rw [if_pos (by omega), if_pos (by omega), if_pos (by omega), if_neg (by rw [hrd]; decide), hw]
      rfl
theorem Count.sem (l : List Bool) (hl : l.length ≤ 1000000000) : Ev (fun k => null_Count.f k l) ((l.count true : Nat) : Int) := Count.loop l hl l.length 0 (by omega)
theorem some_calls (a : Option Addr) (len cap : Nat) (w : World) : Calls Try.prog 47 #[.slice a len cap] w fun e w' => e = .returned (.func (.func 51) #[] #[.pointer (some ⟨w.heap.size, 0, none⟩)]) ∧ w' = w.alloc (.cells #[.slice a len cap] 22) :=
  (callsIn_wide (n := 4)).1 (some_in Fence.wide 4 trivial rfl a len cap w)
theorem collect_calls (A : Option Addr) (cap : Nat) (zs : List S37) (hlen : zs.length ≤ 1000000000000) (w : World) (hC : Kd.C k37 w A zs.length zs) :
    Calls Try.prog 48 #[.func (.func 51) #[] #[.pointer (some ⟨w.heap.size, 0, none⟩)]] (w.alloc (.cells #[.slice A zs.length cap] 22)) fun e W' => ∃ v, e = .returned v ∧ Kd.R k37 37 W' w.heap.size (fun _ => True) v (zs.filter isSome) ∧ Below w.heap.size w W' := by
  refine (callsIn_wide (n := 4)).1 ?_
  have hB : Below w.heap.size w (w.alloc (.cells #[.slice A zs.length cap] 22)) := (Below.refl _ w).alloc (Nat.le_refl _) _
  refine (collect_in Fence.wide 4 trivial trivial trivial rfl (by omega) w.heap.size A cap zs hlen _ (by simp) (Boxed.new w 22 _).cell (fun hn ad e => by have := C37_lt hC hn ad e; simp; omega) (C37_below hC (C37_lt hC) hB)).mono ?_
  rintro e W' ⟨v, rfl, hr, hb⟩
  exact ⟨v, rfl, Kd.R_lower (R37_of_own hr) (by simp), hB.trans (hb.mono (by simp))⟩
theorem collect_calls2 (A : Option Addr) (cap : Nat) (zs : List S37) (hlen : zs.length ≤ 1000000000000) (w : World) (B : Nat) (hB : B = w.heap.size) (hC : Kd.C k37 w A zs.length zs) :
    Calls Try.prog 48 #[.func (.func 51) #[] #[.pointer (some ⟨B, 0, none⟩)]] (w.alloc (.cells #[.slice A zs.length cap] 22)) fun e W' => ∃ v, e = .returned v ∧ Kd.R k37 37 W' w.heap.size (fun _ => True) v (zs.filter isSome) ∧ Below w.heap.size w W' := by
  subst hB
  exact collect_calls A cap zs hlen w hC
theorem all_filter (zs : List S37) : (zs.all (fun v => v.f0 != 0) = true) ↔ (zs.filter isSome).length = zs.length := by
  constructor
  · intro h
    exact List.length_filter_eq_length_iff.2 (List.all_eq_true.1 h)
  · intro h
    exact List.all_eq_true.2 (List.length_filter_eq_length_iff.1 h)
theorem joinN_true (r : List Bool) (l : List S37) : joinN (true :: r) l = z37 :: joinN r l := by
  cases l <;> rfl
theorem join_true (l : List Bool) (rest : List S37) (I : Nat) (h : I < l.length) (hb : l[I] = true) : joinN (l.drop I) rest = z37 :: joinN (l.drop (I + 1)) rest := by
  rw [List.drop_eq_getElem_cons h, hb, joinN_true]
theorem join_false (l : List Bool) (v : S37) (rest : List S37) (I : Nat) (h : I < l.length) (hb : l[I] = false) : joinN (l.drop I) (v :: rest) = v :: joinN (l.drop (I + 1)) rest := by
  rw [List.drop_eq_getElem_cons h, hb, joinN]
theorem count_drop (l : List Bool) (I : Nat) (h : I < l.length) : (l.drop I).count true = (if l[I] = true then 1 else 0) + (l.drop (I + 1)).count true := by
  rw [List.drop_eq_getElem_cons h, List.count_cons]
  cases l[I] <;> simp <;> omega
theorem joinN_length (l : List Bool) : ∀ rest : List S37, (joinN l rest).length = l.length := by
  induction l with
  | nil => intro rest; rfl
  | cons b r ih =>
    intro rest
    cases b with
    | true => rw [joinN_true, List.length_cons, ih, List.length_cons]
    | false => cases rest <;> rw [joinN, List.length_cons, ih, List.length_cons]
end Go.Proofs.Ytnndeogbncadbaa.F
