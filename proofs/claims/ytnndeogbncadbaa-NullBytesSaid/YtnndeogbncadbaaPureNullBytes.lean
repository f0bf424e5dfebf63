/- Any places' bytes, any bytes as places: the plain law. -/
import Derived.Test.YtnndeogbncadbaaSem3
import Derived.Test.YtnndeogbncadbaaF41
namespace Go.Proofs.Ytnndeogbncadbaa.F
open Go.RowKit Go.Proofs.YtnndeogbncadbaaW.PrintWords Go.Proofs.YtnndeogbncadbaaW.PrintLast Go.Proofs.YtnndeogbncadbaaW.PrintMore
set_option linter.unusedVariables false
theorem unpack_any (l : List Int) (n w : Int) (hu : l.all inU8 = true) (hl : l.length ≤ 1000000000) : ∃ xs e, bits_Unpack.f l n w = some (xs, e) ∧ xs.length ≤ 1048576 := by
  unfold bits_Unpack.f
  rw [if_pos ⟨hl, hu⟩]
  split
  · exact ⟨_, _, rfl, by simp⟩
  split
  · exact ⟨_, _, rfl, by simp⟩
  split
  · exact ⟨_, _, rfl, by simp⟩
  split
  · exact ⟨_, _, rfl, by rw [getsN_length]; omega⟩
  · exact ⟨_, _, rfl, by simp⟩
theorem ROf.loop (xs : List Int) (hl : xs.length ≤ 1048576) (d : Nat) : ∀ (i : Nat), xs.length = i + d → Ev (fun k => astragalref06_Of.l0 k xs ((xs.take i).map fun x => x == 1) (i : Int)) (xs.map (fun x => x == 1), 0) := by
  induction d with
  | zero =>
    intro i hi
    refine Ev.step (f := fun k => some (xs.map (fun x => x == 1), 0)) (fun k => ?_) (Ev.now _)
    simp only [astragalref06_Of.l0]
    rw [if_neg (by omega), List.take_of_length_le (by omega)]
  | succ d ih =>
    intro i hi
    have hix : i < xs.length := by omega
    have h := ih (i + 1) (by omega)
    rw [List.take_succ_eq_append_getElem hix, List.map_append] at h
    have hrd : rd xs (i : Int) = xs[i] := by
      unfold rd
      rw [Int.toNat_natCast, List.getD_eq_getElem?_getD, List.getElem?_eq_getElem hix]
      rfl
    refine Ev.step (f := fun k => astragalref06_Of.l0 k xs ((xs.take i).map (fun x => x == 1) ++ [xs[i]].map (fun x => x == 1)) ((i + 1 : Nat) : Int)) (fun k => ?_) h
    simp only [astragalref06_Of.l0]
    rw [if_pos (by omega), if_pos (by omega), if_pos (by rw [List.length_map, List.length_take]; omega), hrd, wrap_le (by omega) (by omega)]
    rfl
/-- Of, and the reference's: the same. -/
theorem Of.both (l : List Int) (n : Int) (hu : l.all inU8 = true) (hl : l.length ≤ 1000000000) : ∃ r : List Bool × Int, r.1.length ≤ 1048576 ∧ Ev (fun k => null_Of.f k l n) r ∧ Ev (fun k => astragalref06_Of.f k l n) r := by
  obtain ⟨xs, e, h, hx⟩ := unpack_any l n 1 hu hl
  by_cases he : e = 0
  · subst he
    refine ⟨_, by rw [List.length_map]; exact hx, Of.good l n xs hx h, ?_⟩
    refine Ev.congr (fun k => ?_) (ROf.loop xs hx xs.length 0 (by omega))
    unfold astragalref06_Of.f astragalref01_Unpack.f
    rw [h, Option.bind_some, if_pos rfl]
    rfl
  · refine ⟨([], e), by simp, Of.bad l n xs e he h, ?_⟩
    refine Ev.congr (fun k => ?_) (Ev.now ([], e))
    unfold astragalref06_Of.f astragalref01_Unpack.f
    rw [h, Option.bind_some, if_neg he]
theorem R6Bytes.sem (l : List Bool) (hl : l.length ≤ 1000000000) : Ev (fun k => astragalref06_Bytes.f k l) (packN l) := by
  refine Ev.congr (fun k => ?_) (Ev.bind (RBytes.sem l (by omega)) (f := fun k t => some t) (Ev.now _))
  rfl
theorem NullBytes.sem (l : List Bool) (b : List Int) (n : Int) (hu : b.all inU8 = true) : Ev (fun k => astragallaw06_NullBytes.f k l b n) true := by
  have hfar : Ev (fun k => astragallaw06_NullBytes.j0 k l b n true true) true := Ev.step (f := fun _ => some true) (fun k => by simp only [astragallaw06_NullBytes.j0]; rw [if_pos trivial]) (Ev.now _)
  by_cases hl : (l.length : Int) > 5000
  · refine Ev.congr (fun k => ?_) (Ev.bind Shown6.sem (f := fun k t => astragallaw06_NullBytes.j0 k l b n t true) hfar)
    unfold astragallaw06_NullBytes.f
    simp only [if_pos hl]
  by_cases hb : (b.length : Int) > 5000
  · refine Ev.congr (fun k => ?_) (Ev.bind Shown6.sem (f := fun k t => astragallaw06_NullBytes.j0 k l b n t true) hfar)
    unfold astragallaw06_NullBytes.f
    simp only [if_neg hl, decide_eq_true hb]
  · have h2 : null_Bytes.f l = some (packN l) := by unfold null_Bytes.f; rw [if_pos (by omega)]
    obtain ⟨r, hr, h3, h4⟩ := Of.both b n hu (by omega)
    have h5 := R6Bytes.sem l (by omega)
    have h6 := Same6.sem r.1 r.1 (by omega)
    rw [show decide (r.1 = r.1) = true from decide_eq_true rfl] at h6
    have hlast : Ev (fun k => (astragalref06_Same.f k r.1 r.1).bind fun t433 => if t433 = true then some (r.2 == r.2) else some false) true := by
      refine Ev.bind h6 (f := fun k t433 => if t433 = true then some (r.2 == r.2) else some false) ?_
      simp only [if_true, beq_self_eq_true]
      exact Ev.now true
    have hbytes : Ev (fun k => (null_Bytes.f l).bind fun t427 => (astragalref06_Bytes.f k l).bind fun t430 => if (strOfNums t427).toList = (strOfNums t430).toList then ((astragalref06_Same.f k r.1 r.1).bind fun t433 => if t433 = true then some (r.2 == r.2) else some false) else some false) true := by
      refine Ev.congr (fun k => ?_) (Ev.bind h5 (f := fun k t430 => if (strOfNums (packN l)).toList = (strOfNums t430).toList then ((astragalref06_Same.f k r.1 r.1).bind fun t433 => if t433 = true then some (r.2 == r.2) else some false) else some false) ?_)
      · rw [h2, Option.bind_some]
      · simp only [if_true]
        exact hlast
    have hj : Ev (fun k => astragallaw06_NullBytes.j0 k l b n true false) true := by
      refine Ev.step (f := fun k => (null_Of.f k b n).bind fun bt419 => (astragalref06_Of.f k b n).bind fun bt423 => (null_Bytes.f l).bind fun t427 => (astragalref06_Bytes.f k l).bind fun t430 => if (strOfNums t427).toList = (strOfNums t430).toList then ((astragalref06_Same.f k bt419.1 bt423.1).bind fun t433 => if t433 = true then some (bt419.2 == bt423.2) else some false) else some false) (fun k => ?_) ?_
      · simp only [astragallaw06_NullBytes.j0, if_true]
        rw [if_neg (by decide)]
      · refine Ev.bind h3 (f := fun k bt419 => (astragalref06_Of.f k b n).bind fun bt423 => (null_Bytes.f l).bind fun t427 => (astragalref06_Bytes.f k l).bind fun t430 => if (strOfNums t427).toList = (strOfNums t430).toList then ((astragalref06_Same.f k bt419.1 bt423.1).bind fun t433 => if t433 = true then some (bt419.2 == bt423.2) else some false) else some false) ?_
        exact Ev.bind h4 (f := fun k bt423 => (null_Bytes.f l).bind fun t427 => (astragalref06_Bytes.f k l).bind fun t430 => if (strOfNums t427).toList = (strOfNums t430).toList then ((astragalref06_Same.f k r.1 bt423.1).bind fun t433 => if t433 = true then some (r.2 == bt423.2) else some false) else some false) hbytes
    refine Ev.congr (fun k => ?_) (Ev.bind Shown6.sem (f := fun k t => astragallaw06_NullBytes.j0 k l b n t false) hj)
    unfold astragallaw06_NullBytes.f
    simp only [if_neg hl, decide_eq_false hb]
theorem nullBytes_walk {w : World} (A0 : Option Addr) (c0 : Nat) (l0 : List Bool) (hr0 : Kd.C Kd.bool w A0 l0.length l0) (hc0 : l0.length ≤ c0) (A1 : Option Addr) (c1 : Nat) (l1 : List Int) (hr1 : Kd.C (Kd.int .u8) w A1 l1.length l1) (hc1 : l1.length ≤ c1) (hu : l1.all inU8 = true) (n : Int) :
    Calls Try.prog 13 #[.slice A0 l0.length c0, .slice A1 l1.length c1, .int .i64 n] w fun e w' => e = .returned (.bool true) ∧ Below w.heap.size w w' := by
  obtain ⟨k, h⟩ := (NullBytes.sem l0 l1 n hu).rounds
  exact astragallaw06_NullBytes.calls k A0 c0 l0 A1 c1 l1 n true w hr0 hc0 hr1 hc1 h
end Go.Proofs.Ytnndeogbncadbaa.F
