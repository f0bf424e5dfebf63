/- The bytes of places: the plain law. -/
import Derived.Test.YtnndeogbncadbaaSem3
import Derived.Test.YtnndeogbncadbaaF42
namespace Go.Proofs.Ytnndeogbncadbaa.F
open Go.RowKit Go.Proofs.YtnndeogbncadbaaW.PrintWords Go.Proofs.YtnndeogbncadbaaW.PrintLast Go.Proofs.YtnndeogbncadbaaW.PrintMore
set_option linter.unusedVariables false
theorem NullBits.sem (l : List Bool) : Ev (fun k => astragallaw06_NullBits.f k l) true := by
  by_cases hl : (l.length : Int) > 3000
  · refine Ev.congr (fun k => ?_) (Ev.bind Shown6.sem (f := fun k t => some t) (Ev.now true))
    unfold astragallaw06_NullBits.f
    simp only [if_pos hl]
  · have hb : null_Bytes.f l = some (packN l) := by unfold null_Bytes.f; rw [if_pos (by omega)]
    have hlen := packN_length l
    have hu : bits_Unpack.f (packN l) ((l.length : Int) + 8) 1 = some ([], 3) := by
      unfold bits_Unpack.f
      rw [if_pos ⟨by omega, packN_u8 l⟩, if_neg (by omega), if_pos (by omega)]
    have h2 := Of.bad (packN l) ((l.length : Int) + 8) [] 3 (by decide) hu
    have e1 : wrap64 ((l.length : Int) + 8) = (l.length : Int) + 8 := wrap_le (by omega) (by omega)
    have e2 : wrap64 (Int.tdiv (wrap64 ((l.length : Int) + 7)) 8) = ((packN l).length : Int) := by
      have e3 : wrap64 ((l.length : Int) + 7) = (l.length : Int) + 7 := wrap_le (by omega) (by omega)
      rw [e3, Int.tdiv_eq_ediv_of_nonneg (by omega), wrap_le (by omega) (by omega), hlen]
      omega
    refine Ev.congr (fun k => ?_) (Ev.bind Shown6.sem (f := fun k t => (null_Of.f k (packN l) ((l.length : Int) + 8)).bind fun bt => if t = true then some (bt.2 == 3) else some false) (Ev.bind h2 (f := fun k bt => if true = true then some (bt.2 == 3) else some false) ?_))
    · unfold astragallaw06_NullBits.f
      simp only [if_neg hl, hb, Option.bind_some, e1, e2, if_true]
    · exact Ev.now true
theorem nullBits_walk {w : World} (A0 : Option Addr) (c0 : Nat) (l0 : List Bool) (hr0 : Kd.C Kd.bool w A0 l0.length l0) (hc0 : l0.length ≤ c0) :
    Calls Try.prog 14 #[.slice A0 l0.length c0] w fun e w' => e = .returned (.bool true) ∧ Below w.heap.size w w' := by
  obtain ⟨k, h⟩ := (NullBits.sem l0).rounds
  exact astragallaw06_NullBits.calls k A0 c0 l0 true w hr0 hc0 h
end Go.Proofs.Ytnndeogbncadbaa.F
