-- Written by a program of this session (wip/mkprint.py over the kit's print): functions of the cut as plain Lean functions, and that the calls come to them. Lean checks it.
import Derived.Test.YtnndeogbncadbaaF0
import Derived.Test.YtnndeogbncadbaaF1
import Derived.Test.YtnndeogbncadbaaF3
import Derived.Test.YtnndeogbncadbaaF4
import Derived.Test.YtnndeogbncadbaaF5
import Derived.Test.YtnndeogbncadbaaF38
import Derived.Test.YtnndeogbncadbaaJoin
import Derived.Test.YtnndeogbncadbaaPack
import Derived.Test.YtnndeogbncadbaaSplit
namespace Go.Proofs.Ytnndeogbncadbaa.F
open Go.RowKit Go.Proofs.YtnndeogbncadbaaW.PrintWords Go.Proofs.YtnndeogbncadbaaW.PrintLast Go.Proofs.YtnndeogbncadbaaW.PrintMore
attribute [local go_sem] max2_int min2_int max_two min_two max_three min_three max_four min_four   -- for this text's walks alone
set_option linter.unusedVariables false
set_option linter.unusedSimpArgs false

attribute [local go_sem high] eqA37
theorem isE (l : List UInt8) : (l == []) = l.isEmpty := by cases l <;> rfl
/-! ### astragallaw06_NullBack: function 15 -/
mutual
def astragallaw06_NullBack.j0 : Nat → List (S37) → Bool → List (S37) → Bool → Option (Bool)
  | 0, _, _, _, _ => none
  | k + 1, x0, x3, x6, x63 => if x63 = true then (some false) else (astragallaw06_NullBack.l0 k x0 x3 x6 0)
def astragallaw06_NullBack.l0 : Nat → List (S37) → Bool → List (S37) → Int → Option (Bool)
  | 0, _, _, _, _ => none
  | k + 1, x0, x3, x6, x10 => if x10 < (x0.length : Int) then (if 0 ≤ x10 then (if ((rd_T37 x0 x10).f0) = 0 then (if x10 < (x6.length : Int) then (if (!(((rd_T37 x6 x10).f0) == 0) || (!(((rd_T37 x6 x10).f1) == 0) || (!((((rd_T37 x6 x10).f2).toList) == ([] : List UInt8))))) = true then (some false) else (astragallaw06_NullBack.l0 k x0 x3 x6 (wrap64 (x10 + 1)))) else (none)) else (if x10 < (x6.length : Int) then (if (!(((rd_T37 x6 x10).f0) == ((rd_T37 x0 x10).f0)) || (!(((rd_T37 x6 x10).f1) == ((rd_T37 x0 x10).f1)) || (!((((rd_T37 x6 x10).f2).toList) == (((rd_T37 x0 x10).f2).toList))))) = true then (some false) else (astragallaw06_NullBack.l0 k x0 x3 x6 (wrap64 (x10 + 1)))) else (none))) else (none)) else (some x3)
end
def astragallaw06_NullBack.f (k : Nat) (l0 : List (S37)) : Option (Bool) := (astragallaw06_shown.f k).bind fun t442 => (if (l0.length : Int) > 5000 then (some t442) else ((null_Split.f l0).bind fun bt443 => ((null_Join.f bt443.1 bt443.2).bind fun bt449 => ((null_Bytes.f bt443.1).bind fun t453 => ((null_Of.f k t453 (l0.length : Int)).bind fun bt456 => (if bt449.2 = 0 then (if bt456.2 = 0 then (if (bt449.1.length : Int) = (l0.length : Int) then ((astragalref06_Same.f k bt443.1 bt456.1).bind fun t460 => (if t460 = true then ((null_Count.f k bt443.1).bind fun t461 => (astragallaw06_NullBack.j0 k l0 t442 bt449.1 ((wrap64 ((bt443.2.length : Int) + t461)) != (l0.length : Int)))) else (astragallaw06_NullBack.j0 k l0 t442 bt449.1 true))) else (astragallaw06_NullBack.j0 k l0 t442 bt449.1 true)) else (astragallaw06_NullBack.j0 k l0 t442 bt449.1 true)) else (astragallaw06_NullBack.j0 k l0 t442 bt449.1 true)))))))
theorem astragallaw06_NullBack.mono_l : ∀ k, (∀ y0 y1 y2 y3, LeO (astragallaw06_NullBack.j0 k y0 y1 y2 y3) (astragallaw06_NullBack.j0 (k + 1) y0 y1 y2 y3)) ∧ (∀ y0 y1 y2 y3, LeO (astragallaw06_NullBack.l0 k y0 y1 y2 y3) (astragallaw06_NullBack.l0 (k + 1) y0 y1 y2 y3))
  | 0 => ⟨fun _ _ _ _ r h => by simp [astragallaw06_NullBack.j0] at h, fun _ _ _ _ r h => by simp [astragallaw06_NullBack.l0] at h⟩
  | k + 1 => by
    obtain ⟨ih0, ih1⟩ := astragallaw06_NullBack.mono_l k
    refine ⟨?_, ?_⟩
    · intro y0 y1 y2 y3
      unfold astragallaw06_NullBack.j0
      repeat' first
      | (with_reducible exact ih0 _ _ _ _)
      | (with_reducible exact ih1 _ _ _ _)
      | (with_reducible exact astragallaw06_shown.mono _)
      | (with_reducible exact astragalref06_Same.mono _ _ _)
      | (with_reducible exact null_Count.mono _ _)
      | (with_reducible exact null_Of.mono _ _ _)
      | (with_reducible exact LeO.refl _)
      | (with_reducible exact LeO.none _)
      | (with_reducible refine LeO.ite ?_ ?_)
      | (with_reducible refine LeO.bind ?_ (fun _ => ?_))
      | exact ih0 _ _ _ _
      | exact ih1 _ _ _ _
      | exact astragallaw06_shown.mono _
      | exact astragalref06_Same.mono _ _ _
      | exact null_Count.mono _ _
      | exact null_Of.mono _ _ _
      | exact LeO.none _
      | refine LeO.ite ?_ ?_
      | refine LeO.bind ?_ (fun _ => ?_)
    · intro y0 y1 y2 y3
      unfold astragallaw06_NullBack.l0
      repeat' first
      | (with_reducible exact ih0 _ _ _ _)
      | (with_reducible exact ih1 _ _ _ _)
      | (with_reducible exact astragallaw06_shown.mono _)
      | (with_reducible exact astragalref06_Same.mono _ _ _)
      | (with_reducible exact null_Count.mono _ _)
      | (with_reducible exact null_Of.mono _ _ _)
      | (with_reducible exact LeO.refl _)
      | (with_reducible exact LeO.none _)
      | (with_reducible refine LeO.ite ?_ ?_)
      | (with_reducible refine LeO.bind ?_ (fun _ => ?_))
      | exact ih0 _ _ _ _
      | exact ih1 _ _ _ _
      | exact astragallaw06_shown.mono _
      | exact astragalref06_Same.mono _ _ _
      | exact null_Count.mono _ _
      | exact null_Of.mono _ _ _
      | exact LeO.none _
      | refine LeO.ite ?_ ?_
      | refine LeO.bind ?_ (fun _ => ?_)
theorem astragallaw06_NullBack.mono : ∀ a0 k, LeO (astragallaw06_NullBack.f k a0) (astragallaw06_NullBack.f (k + 1) a0) := by
  intro a0 k
  obtain ⟨ih0, ih1⟩ := astragallaw06_NullBack.mono_l k
  unfold astragallaw06_NullBack.f
  repeat' first
      | (with_reducible exact ih0 _ _ _ _)
      | (with_reducible exact ih1 _ _ _ _)
      | (with_reducible exact astragallaw06_shown.mono _)
      | (with_reducible exact astragalref06_Same.mono _ _ _)
      | (with_reducible exact null_Count.mono _ _)
      | (with_reducible exact null_Of.mono _ _ _)
      | (with_reducible exact LeO.refl _)
      | (with_reducible exact LeO.none _)
      | (with_reducible refine LeO.ite ?_ ?_)
      | (with_reducible refine LeO.bind ?_ (fun _ => ?_))
      | exact ih0 _ _ _ _
      | exact ih1 _ _ _ _
      | exact astragallaw06_shown.mono _
      | exact astragalref06_Same.mono _ _ _
      | exact null_Count.mono _ _
      | exact null_Of.mono _ _ _
      | exact LeO.none _
      | refine LeO.ite ?_ ?_
      | refine LeO.bind ?_ (fun _ => ?_)
set_option maxHeartbeats 8000000 in
set_option maxRecDepth 100000 in
theorem astragallaw06_NullBack.calls (k : Nat) (A0 : Option Addr) (c0 : Nat) (l0 : List (S37)) (r : Bool) (w : World) (hr0 : Kd.C k37 w A0 l0.length l0) (hc0 : l0.length ≤ c0) (h : astragallaw06_NullBack.f k l0 = some r) :
    Calls Try.prog 15 #[.slice A0 l0.length c0] w fun e w' => e = .returned (.bool r) ∧ Below w.heap.size w w' := by
  have hu37 := Try.underlying37
  have HR0 := Aside0.mk hr0
  have HC0 := Aside0.mk hc0
  clear hr0 hc0
  have HB := Aside0.mk (Below.refl w.heap.size w)
  have H : ((astragallaw06_shown.f k).bind fun t442 => (if (l0.length : Int) > 5000 then (some t442) else ((null_Split.f l0).bind fun bt443 => ((null_Join.f bt443.1 bt443.2).bind fun bt449 => ((null_Bytes.f bt443.1).bind fun t453 => ((null_Of.f k t453 (l0.length : Int)).bind fun bt456 => (if bt449.2 = 0 then (if bt456.2 = 0 then (if (bt449.1.length : Int) = (l0.length : Int) then ((astragalref06_Same.f k bt443.1 bt456.1).bind fun t460 => (if t460 = true then ((null_Count.f k bt443.1).bind fun t461 => (astragallaw06_NullBack.j0 k l0 t442 bt449.1 ((wrap64 ((bt443.2.length : Int) + t461)) != (l0.length : Int)))) else (astragallaw06_NullBack.j0 k l0 t442 bt449.1 true))) else (astragallaw06_NullBack.j0 k l0 t442 bt449.1 true)) else (astragallaw06_NullBack.j0 k l0 t442 bt449.1 true)) else (astragallaw06_NullBack.j0 k l0 t442 bt449.1 true)))))))) = some r := h
  clear h
  replace H := Option.bind_eq_some_iff.mp H
  obtain ⟨t442, A20, H⟩ := H
  replace H : (if (l0.length : Int) > 5000 then (some t442) else ((null_Split.f l0).bind fun bt443 => ((null_Join.f bt443.1 bt443.2).bind fun bt449 => ((null_Bytes.f bt443.1).bind fun t453 => ((null_Of.f k t453 (l0.length : Int)).bind fun bt456 => (if bt449.2 = 0 then (if bt456.2 = 0 then (if (bt449.1.length : Int) = (l0.length : Int) then ((astragalref06_Same.f k bt443.1 bt456.1).bind fun t460 => (if t460 = true then ((null_Count.f k bt443.1).bind fun t461 => (astragallaw06_NullBack.j0 k l0 t442 bt449.1 ((wrap64 ((bt443.2.length : Int) + t461)) != (l0.length : Int)))) else (astragallaw06_NullBack.j0 k l0 t442 bt449.1 true))) else (astragallaw06_NullBack.j0 k l0 t442 bt449.1 true)) else (astragallaw06_NullBack.j0 k l0 t442 bt449.1 true)) else (astragallaw06_NullBack.j0 k l0 t442 bt449.1 true))))))) = some r := H
  have A2 := Aside0.mk A20
  clear A20
  by_cases c3 : (l0.length : Int) > 5000
  · rw [if_pos c3] at H
    have c3b0 : decide (5000 < (l0.length : Int)) = true := decide_eq_true c3
    have c3b1 : decide (5000 < l0.length) = true := decide_eq_true (by omega)
    clear c3
    obtain rfl := Option.some.inj H
    go_enter Try.func15, Try.ntmps15
    go_wp2_with (first | (go_at_call 16; (with_reducible refine (astragallaw06_shown.calls k  t442 _ A2.out).mono ?_); rintro e w4 ⟨rfl, hb⟩; have n0_ := Aside0.mk (below_step (by repeat (first | (with_reducible first | exact HB.out | apply below_alloc | apply pw_below_drewN | apply below_drew1) | exact HB.out)) hb); clear HB; have HB := n0_; clear n0_; (try clear hb); (try clear hb2); (try clear hk); (try clear hi)))
    repeat (go_quiet (first | (go_at_call 16; (with_reducible refine (astragallaw06_shown.calls k  t442 _ A2.out).mono ?_); rintro e w4 ⟨rfl, hb⟩; have n0_ := Aside0.mk (below_step (by repeat (first | (with_reducible first | exact HB.out | apply below_alloc | apply pw_below_drewN | apply below_drew1) | exact HB.out)) hb); clear HB; have HB := n0_; clear n0_; (try clear hb); (try clear hb2); (try clear hk); (try clear hi))); try go_wp2_with (first | (go_at_call 16; (with_reducible refine (astragallaw06_shown.calls k  t442 _ A2.out).mono ?_); rintro e w4 ⟨rfl, hb⟩; have n0_ := Aside0.mk (below_step (by repeat (first | (with_reducible first | exact HB.out | apply below_alloc | apply pw_below_drewN | apply below_drew1) | exact HB.out)) hb); clear HB; have HB := n0_; clear n0_; (try clear hb); (try clear hb2); (try clear hk); (try clear hi))))
    go_ret
    exact ⟨by first | rfl | (simp [errW_none, errW_some] <;> rfl) | (simp [*, errW_none, errW_some] <;> rfl), by repeat (first | (with_reducible first | exact HB.out | apply below_alloc | apply pw_below_drewN | apply below_drew1) | exact HB.out)⟩
  · rw [if_neg c3] at H
    have c3b0 : decide (5000 < (l0.length : Int)) = false := decide_eq_false c3
    have c3b1 : decide (5000 < l0.length) = false := decide_eq_false (by omega)
    clear c3
    replace H := Option.bind_eq_some_iff.mp H
    obtain ⟨⟨t443, t444⟩, A50, H⟩ := H
    replace H : ((null_Join.f t443 t444).bind fun bt449 => ((null_Bytes.f t443).bind fun t453 => ((null_Of.f k t453 (l0.length : Int)).bind fun bt456 => (if bt449.2 = 0 then (if bt456.2 = 0 then (if (bt449.1.length : Int) = (l0.length : Int) then ((astragalref06_Same.f k t443 bt456.1).bind fun t460 => (if t460 = true then ((null_Count.f k t443).bind fun t461 => (astragallaw06_NullBack.j0 k l0 t442 bt449.1 ((wrap64 ((t444.length : Int) + t461)) != (l0.length : Int)))) else (astragallaw06_NullBack.j0 k l0 t442 bt449.1 true))) else (astragallaw06_NullBack.j0 k l0 t442 bt449.1 true)) else (astragallaw06_NullBack.j0 k l0 t442 bt449.1 true)) else (astragallaw06_NullBack.j0 k l0 t442 bt449.1 true))))) = some r := H
    have A5 := Aside0.mk A50
    clear A50
    replace H := Option.bind_eq_some_iff.mp H
    obtain ⟨⟨t449, t450⟩, A60, H⟩ := H
    replace H : ((null_Bytes.f t443).bind fun t453 => ((null_Of.f k t453 (l0.length : Int)).bind fun bt456 => (if t450 = 0 then (if bt456.2 = 0 then (if (t449.length : Int) = (l0.length : Int) then ((astragalref06_Same.f k t443 bt456.1).bind fun t460 => (if t460 = true then ((null_Count.f k t443).bind fun t461 => (astragallaw06_NullBack.j0 k l0 t442 t449 ((wrap64 ((t444.length : Int) + t461)) != (l0.length : Int)))) else (astragallaw06_NullBack.j0 k l0 t442 t449 true))) else (astragallaw06_NullBack.j0 k l0 t442 t449 true)) else (astragallaw06_NullBack.j0 k l0 t442 t449 true)) else (astragallaw06_NullBack.j0 k l0 t442 t449 true)))) = some r := H
    have A6 := Aside0.mk A60
    clear A60
    replace H := Option.bind_eq_some_iff.mp H
    obtain ⟨t453, A70, H⟩ := H
    replace H : ((null_Of.f k t453 (l0.length : Int)).bind fun bt456 => (if t450 = 0 then (if bt456.2 = 0 then (if (t449.length : Int) = (l0.length : Int) then ((astragalref06_Same.f k t443 bt456.1).bind fun t460 => (if t460 = true then ((null_Count.f k t443).bind fun t461 => (astragallaw06_NullBack.j0 k l0 t442 t449 ((wrap64 ((t444.length : Int) + t461)) != (l0.length : Int)))) else (astragallaw06_NullBack.j0 k l0 t442 t449 true))) else (astragallaw06_NullBack.j0 k l0 t442 t449 true)) else (astragallaw06_NullBack.j0 k l0 t442 t449 true)) else (astragallaw06_NullBack.j0 k l0 t442 t449 true))) = some r := H
    have A7 := Aside0.mk A70
    clear A70
    replace H := Option.bind_eq_some_iff.mp H
    obtain ⟨⟨t456, t457⟩, A80, H⟩ := H
    replace H : (if t450 = 0 then (if t457 = 0 then (if (t449.length : Int) = (l0.length : Int) then ((astragalref06_Same.f k t443 t456).bind fun t460 => (if t460 = true then ((null_Count.f k t443).bind fun t461 => (astragallaw06_NullBack.j0 k l0 t442 t449 ((wrap64 ((t444.length : Int) + t461)) != (l0.length : Int)))) else (astragallaw06_NullBack.j0 k l0 t442 t449 true))) else (astragallaw06_NullBack.j0 k l0 t442 t449 true)) else (astragallaw06_NullBack.j0 k l0 t442 t449 true)) else (astragallaw06_NullBack.j0 k l0 t442 t449 true)) = some r := H
    have A8 := Aside0.mk A80
    clear A80
    have HC9 := Aside0.mk H
    clear H
    go_enter Try.func15, Try.ntmps15
    go_upto_region 7 with (first | (go_at_call 16; (with_reducible refine (astragallaw06_shown.calls k  t442 _ A2.out).mono ?_); rintro e w10 ⟨rfl, hb⟩; have n0_ := Aside0.mk (below_step (by repeat (first | (with_reducible first | exact HB.out | apply below_alloc | apply pw_below_drewN | apply below_drew1) | exact HB.out)) hb); clear HB; have HB := n0_; clear n0_; (try clear hb); (try clear hb2); (try clear hk); (try clear hi)) | (go_at_call 17; (with_reducible refine (null_Split.calls _ _ l0 t443 t444 _ ?side1 ?side2 A5.out).mono ?_); (case side1 => repeat (first | exact (Kd.C_below HR0.out HB.out) | (with_reducible refine Kd.C_alloc ?_ _) | (with_reducible refine Kd.C_drewN ?_ _) | (with_reducible refine Kd.C_drew ?_))); (case side2 => exact HC0.out); rintro e w11 ⟨v445, v447, rfl, ho0, ho1, hb⟩; have n0_ := Aside0.mk (Kd.R_lower ho0 (below_size (by repeat (first | (with_reducible first | exact HB.out | apply below_alloc | apply pw_below_drewN | apply below_drew1) | exact HB.out)))); have n1_ := Aside0.mk (Kd.R_lower ho1 (below_size (by repeat (first | (with_reducible first | exact HB.out | apply below_alloc | apply pw_below_drewN | apply below_drew1) | exact HB.out)))); have n2_ := Aside0.mk (below_step (by repeat (first | (with_reducible first | exact HB.out | apply below_alloc | apply pw_below_drewN | apply below_drew1) | exact HB.out)) hb); clear HB; have HO446 := n0_; have HO448 := n1_; have HB := n2_; clear n0_ n1_ n2_; (try clear hb); (try clear hb2); (try clear hk); (try clear hi); (try clear ho0); (try clear ho1); obtain ⟨Ao12, co12, eo12⟩ := Kd.R_slice HO446.out; subst eo12; obtain ⟨Ao13, co13, eo13⟩ := Kd.R_slice HO448.out; subst eo13) | (go_at_call 21; (with_reducible refine (null_Join.calls _ _ t443 _ _ t444 t449 t450 _ ?side1 ?side2 ?side3 ?side4 A6.out).mono ?_); (case side1 => repeat (first | exact (Kd.R_reads' HO446.out).2.2 | (with_reducible refine Kd.C_alloc ?_ _) | (with_reducible refine Kd.C_drewN ?_ _) | (with_reducible refine Kd.C_drew ?_))); (case side2 => exact (Kd.R_reads' HO446.out).2.1); (case side3 => repeat (first | exact (Kd.R_reads' HO448.out).2.2 | (with_reducible refine Kd.C_alloc ?_ _) | (with_reducible refine Kd.C_drewN ?_ _) | (with_reducible refine Kd.C_drew ?_))); (case side4 => exact (Kd.R_reads' HO448.out).2.1); rintro e w14 ⟨v451, rfl, ho0, hb⟩; have n0_ := Aside0.mk (Kd.R_below (by (with_reducible repeat (first | apply Kd.R_alloc | apply Kd.R_drewN | apply Kd.R_drew)); exact HO446.out) hb); have n1_ := Aside0.mk (Kd.R_elder' (by (with_reducible repeat (first | apply Kd.R_alloc | apply Kd.R_drewN | apply Kd.R_drew)); exact HO448.out) (Kd.R_base ho0) hb); have n2_ := Aside0.mk (Kd.R_lower (Kd.R_new' ho0 (Kd.R_lt (by (with_reducible repeat (first | apply Kd.R_alloc | apply Kd.R_drewN | apply Kd.R_drew)); exact HO448.out))) (below_size (by repeat (first | (with_reducible first | exact HB.out | apply below_alloc | apply pw_below_drewN | apply below_drew1) | exact HB.out)))); have n3_ := Aside0.mk (below_step (by repeat (first | (with_reducible first | exact HB.out | apply below_alloc | apply pw_below_drewN | apply below_drew1) | exact HB.out)) hb); clear HO446; clear HO448; clear HB; have HO446 := n0_; have HO448 := n1_; have HO452 := n2_; have HB := n3_; clear n0_ n1_ n2_ n3_; (try clear hb); (try clear hb2); (try clear hk); (try clear hi); (try clear ho0)) | (go_at_call 45; (with_reducible refine (null_Bytes.calls _ _ t443 t453 _ ?side1 ?side2 A7.out).mono ?_); (case side1 => repeat (first | exact (Kd.R_reads' HO446.out).2.2 | (with_reducible refine Kd.C_alloc ?_ _) | (with_reducible refine Kd.C_drewN ?_ _) | (with_reducible refine Kd.C_drew ?_))); (case side2 => exact (Kd.R_reads' HO446.out).2.1); rintro e w15 ⟨v454, rfl, ho0, hb⟩; have n0_ := Aside0.mk (Kd.R_below (by (with_reducible repeat (first | apply Kd.R_alloc | apply Kd.R_drewN | apply Kd.R_drew)); exact HO446.out) hb); have n1_ := Aside0.mk (Kd.R_below (by (with_reducible repeat (first | apply Kd.R_alloc | apply Kd.R_drewN | apply Kd.R_drew)); exact HO448.out) hb); have n2_ := Aside0.mk (Kd.R_below (by (with_reducible repeat (first | apply Kd.R_alloc | apply Kd.R_drewN | apply Kd.R_drew)); exact HO452.out) hb); have n3_ := Aside0.mk (Kd.R_lower ho0 (below_size (by repeat (first | (with_reducible first | exact HB.out | apply below_alloc | apply pw_below_drewN | apply below_drew1) | exact HB.out)))); have n4_ := Aside0.mk (below_step (by repeat (first | (with_reducible first | exact HB.out | apply below_alloc | apply pw_below_drewN | apply below_drew1) | exact HB.out)) hb); clear HO446; clear HO448; clear HO452; clear HB; have HO446 := n0_; have HO448 := n1_; have HO452 := n2_; have HO455 := n3_; have HB := n4_; clear n0_ n1_ n2_ n3_ n4_; (try clear hb); (try clear hb2); (try clear hk); (try clear hi); (try clear ho0); obtain ⟨Ao16, co16, eo16⟩ := Kd.R_slice HO455.out; subst eo16) | (go_at_call 43; (with_reducible refine (null_Of.calls k _ _ t453 (l0.length : Int) t456 t457 _ ?side1 ?side2 A8.out).mono ?_); (case side1 => repeat (first | exact (Kd.R_reads' HO455.out).2.2 | (with_reducible refine Kd.C_alloc ?_ _) | (with_reducible refine Kd.C_drewN ?_ _) | (with_reducible refine Kd.C_drew ?_))); (case side2 => exact (Kd.R_reads' HO455.out).2.1); rintro e w17 ⟨v458, rfl, ho0, hb⟩; have n0_ := Aside0.mk (Kd.R_elder' (by (with_reducible repeat (first | apply Kd.R_alloc | apply Kd.R_drewN | apply Kd.R_drew)); exact HO446.out) (Kd.R_base ho0) hb); have n1_ := Aside0.mk (Kd.R_below (by (with_reducible repeat (first | apply Kd.R_alloc | apply Kd.R_drewN | apply Kd.R_drew)); exact HO448.out) hb); have n2_ := Aside0.mk (Kd.R_below (by (with_reducible repeat (first | apply Kd.R_alloc | apply Kd.R_drewN | apply Kd.R_drew)); exact HO452.out) hb); have n3_ := Aside0.mk (Kd.R_below (by (with_reducible repeat (first | apply Kd.R_alloc | apply Kd.R_drewN | apply Kd.R_drew)); exact HO455.out) hb); have n4_ := Aside0.mk (Kd.R_lower (Kd.R_new' ho0 (Kd.R_lt (by (with_reducible repeat (first | apply Kd.R_alloc | apply Kd.R_drewN | apply Kd.R_drew)); exact HO446.out))) (below_size (by repeat (first | (with_reducible first | exact HB.out | apply below_alloc | apply pw_below_drewN | apply below_drew1) | exact HB.out)))); have n5_ := Aside0.mk (below_step (by repeat (first | (with_reducible first | exact HB.out | apply below_alloc | apply pw_below_drewN | apply below_drew1) | exact HB.out)) hb); clear HO446; clear HO448; clear HO452; clear HO455; clear HB; have HO446 := n0_; have HO448 := n1_; have HO452 := n2_; have HO455 := n3_; have HO459 := n4_; have HB := n5_; clear n0_ n1_ n2_ n3_ n4_ n5_; (try clear hb); (try clear hb2); (try clear hk); (try clear hi); (try clear ho0)))
    repeat (go_quiet (first | (go_at_call 16; (with_reducible refine (astragallaw06_shown.calls k  t442 _ A2.out).mono ?_); rintro e w10 ⟨rfl, hb⟩; have n0_ := Aside0.mk (below_step (by repeat (first | (with_reducible first | exact HB.out | apply below_alloc | apply pw_below_drewN | apply below_drew1) | exact HB.out)) hb); clear HB; have HB := n0_; clear n0_; (try clear hb); (try clear hb2); (try clear hk); (try clear hi)) | (go_at_call 17; (with_reducible refine (null_Split.calls _ _ l0 t443 t444 _ ?side1 ?side2 A5.out).mono ?_); (case side1 => repeat (first | exact (Kd.C_below HR0.out HB.out) | (with_reducible refine Kd.C_alloc ?_ _) | (with_reducible refine Kd.C_drewN ?_ _) | (with_reducible refine Kd.C_drew ?_))); (case side2 => exact HC0.out); rintro e w11 ⟨v445, v447, rfl, ho0, ho1, hb⟩; have n0_ := Aside0.mk (Kd.R_lower ho0 (below_size (by repeat (first | (with_reducible first | exact HB.out | apply below_alloc | apply pw_below_drewN | apply below_drew1) | exact HB.out)))); have n1_ := Aside0.mk (Kd.R_lower ho1 (below_size (by repeat (first | (with_reducible first | exact HB.out | apply below_alloc | apply pw_below_drewN | apply below_drew1) | exact HB.out)))); have n2_ := Aside0.mk (below_step (by repeat (first | (with_reducible first | exact HB.out | apply below_alloc | apply pw_below_drewN | apply below_drew1) | exact HB.out)) hb); clear HB; have HO446 := n0_; have HO448 := n1_; have HB := n2_; clear n0_ n1_ n2_; (try clear hb); (try clear hb2); (try clear hk); (try clear hi); (try clear ho0); (try clear ho1); obtain ⟨Ao12, co12, eo12⟩ := Kd.R_slice HO446.out; subst eo12; obtain ⟨Ao13, co13, eo13⟩ := Kd.R_slice HO448.out; subst eo13) | (go_at_call 21; (with_reducible refine (null_Join.calls _ _ t443 _ _ t444 t449 t450 _ ?side1 ?side2 ?side3 ?side4 A6.out).mono ?_); (case side1 => repeat (first | exact (Kd.R_reads' HO446.out).2.2 | (with_reducible refine Kd.C_alloc ?_ _) | (with_reducible refine Kd.C_drewN ?_ _) | (with_reducible refine Kd.C_drew ?_))); (case side2 => exact (Kd.R_reads' HO446.out).2.1); (case side3 => repeat (first | exact (Kd.R_reads' HO448.out).2.2 | (with_reducible refine Kd.C_alloc ?_ _) | (with_reducible refine Kd.C_drewN ?_ _) | (with_reducible refine Kd.C_drew ?_))); (case side4 => exact (Kd.R_reads' HO448.out).2.1); rintro e w14 ⟨v451, rfl, ho0, hb⟩; have n0_ := Aside0.mk (Kd.R_below (by (with_reducible repeat (first | apply Kd.R_alloc | apply Kd.R_drewN | apply Kd.R_drew)); exact HO446.out) hb); have n1_ := Aside0.mk (Kd.R_elder' (by (with_reducible repeat (first | apply Kd.R_alloc | apply Kd.R_drewN | apply Kd.R_drew)); exact HO448.out) (Kd.R_base ho0) hb); have n2_ := Aside0.mk (Kd.R_lower (Kd.R_new' ho0 (Kd.R_lt (by (with_reducible repeat (first | apply Kd.R_alloc | apply Kd.R_drewN | apply Kd.R_drew)); exact HO448.out))) (below_size (by repeat (first | (with_reducible first | exact HB.out | apply below_alloc | apply pw_below_drewN | apply below_drew1) | exact HB.out)))); have n3_ := Aside0.mk (below_step (by repeat (first | (with_reducible first | exact HB.out | apply below_alloc | apply pw_below_drewN | apply below_drew1) | exact HB.out)) hb); clear HO446; clear HO448; clear HB; have HO446 := n0_; have HO448 := n1_; have HO452 := n2_; have HB := n3_; clear n0_ n1_ n2_ n3_; (try clear hb); (try clear hb2); (try clear hk); (try clear hi); (try clear ho0)) | (go_at_call 45; (with_reducible refine (null_Bytes.calls _ _ t443 t453 _ ?side1 ?side2 A7.out).mono ?_); (case side1 => repeat (first | exact (Kd.R_reads' HO446.out).2.2 | (with_reducible refine Kd.C_alloc ?_ _) | (with_reducible refine Kd.C_drewN ?_ _) | (with_reducible refine Kd.C_drew ?_))); (case side2 => exact (Kd.R_reads' HO446.out).2.1); rintro e w15 ⟨v454, rfl, ho0, hb⟩; have n0_ := Aside0.mk (Kd.R_below (by (with_reducible repeat (first | apply Kd.R_alloc | apply Kd.R_drewN | apply Kd.R_drew)); exact HO446.out) hb); have n1_ := Aside0.mk (Kd.R_below (by (with_reducible repeat (first | apply Kd.R_alloc | apply Kd.R_drewN | apply Kd.R_drew)); exact HO448.out) hb); have n2_ := Aside0.mk (Kd.R_below (by (with_reducible repeat (first | apply Kd.R_alloc | apply Kd.R_drewN | apply Kd.R_drew)); exact HO452.out) hb); have n3_ := Aside0.mk (Kd.R_lower ho0 (below_size (by repeat (first | (with_reducible first | exact HB.out | apply below_alloc | apply pw_below_drewN | apply below_drew1) | exact HB.out)))); have n4_ := Aside0.mk (below_step (by repeat (first | (with_reducible first | exact HB.out | apply below_alloc | apply pw_below_drewN | apply below_drew1) | exact HB.out)) hb); clear HO446; clear HO448; clear HO452; clear HB; have HO446 := n0_; have HO448 := n1_; have HO452 := n2_; have HO455 := n3_; have HB := n4_; clear n0_ n1_ n2_ n3_ n4_; (try clear hb); (try clear hb2); (try clear hk); (try clear hi); (try clear ho0); obtain ⟨Ao16, co16, eo16⟩ := Kd.R_slice HO455.out; subst eo16) | (go_at_call 43; (with_reducible refine (null_Of.calls k _ _ t453 (l0.length : Int) t456 t457 _ ?side1 ?side2 A8.out).mono ?_); (case side1 => repeat (first | exact (Kd.R_reads' HO455.out).2.2 | (with_reducible refine Kd.C_alloc ?_ _) | (with_reducible refine Kd.C_drewN ?_ _) | (with_reducible refine Kd.C_drew ?_))); (case side2 => exact (Kd.R_reads' HO455.out).2.1); rintro e w17 ⟨v458, rfl, ho0, hb⟩; have n0_ := Aside0.mk (Kd.R_elder' (by (with_reducible repeat (first | apply Kd.R_alloc | apply Kd.R_drewN | apply Kd.R_drew)); exact HO446.out) (Kd.R_base ho0) hb); have n1_ := Aside0.mk (Kd.R_below (by (with_reducible repeat (first | apply Kd.R_alloc | apply Kd.R_drewN | apply Kd.R_drew)); exact HO448.out) hb); have n2_ := Aside0.mk (Kd.R_below (by (with_reducible repeat (first | apply Kd.R_alloc | apply Kd.R_drewN | apply Kd.R_drew)); exact HO452.out) hb); have n3_ := Aside0.mk (Kd.R_below (by (with_reducible repeat (first | apply Kd.R_alloc | apply Kd.R_drewN | apply Kd.R_drew)); exact HO455.out) hb); have n4_ := Aside0.mk (Kd.R_lower (Kd.R_new' ho0 (Kd.R_lt (by (with_reducible repeat (first | apply Kd.R_alloc | apply Kd.R_drewN | apply Kd.R_drew)); exact HO446.out))) (below_size (by repeat (first | (with_reducible first | exact HB.out | apply below_alloc | apply pw_below_drewN | apply below_drew1) | exact HB.out)))); have n5_ := Aside0.mk (below_step (by repeat (first | (with_reducible first | exact HB.out | apply below_alloc | apply pw_below_drewN | apply below_drew1) | exact HB.out)) hb); clear HO446; clear HO448; clear HO452; clear HO455; clear HB; have HO446 := n0_; have HO448 := n1_; have HO452 := n2_; have HO455 := n3_; have HO459 := n4_; have HB := n5_; clear n0_ n1_ n2_ n3_ n4_ n5_; (try clear hb); (try clear hb2); (try clear hk); (try clear hi); (try clear ho0))); go_upto_region 7 with (first | (go_at_call 16; (with_reducible refine (astragallaw06_shown.calls k  t442 _ A2.out).mono ?_); rintro e w10 ⟨rfl, hb⟩; have n0_ := Aside0.mk (below_step (by repeat (first | (with_reducible first | exact HB.out | apply below_alloc | apply pw_below_drewN | apply below_drew1) | exact HB.out)) hb); clear HB; have HB := n0_; clear n0_; (try clear hb); (try clear hb2); (try clear hk); (try clear hi)) | (go_at_call 17; (with_reducible refine (null_Split.calls _ _ l0 t443 t444 _ ?side1 ?side2 A5.out).mono ?_); (case side1 => repeat (first | exact (Kd.C_below HR0.out HB.out) | (with_reducible refine Kd.C_alloc ?_ _) | (with_reducible refine Kd.C_drewN ?_ _) | (with_reducible refine Kd.C_drew ?_))); (case side2 => exact HC0.out); rintro e w11 ⟨v445, v447, rfl, ho0, ho1, hb⟩; have n0_ := Aside0.mk (Kd.R_lower ho0 (below_size (by repeat (first | (with_reducible first | exact HB.out | apply below_alloc | apply pw_below_drewN | apply below_drew1) | exact HB.out)))); have n1_ := Aside0.mk (Kd.R_lower ho1 (below_size (by repeat (first | (with_reducible first | exact HB.out | apply below_alloc | apply pw_below_drewN | apply below_drew1) | exact HB.out)))); have n2_ := Aside0.mk (below_step (by repeat (first | (with_reducible first | exact HB.out | apply below_alloc | apply pw_below_drewN | apply below_drew1) | exact HB.out)) hb); clear HB; have HO446 := n0_; have HO448 := n1_; have HB := n2_; clear n0_ n1_ n2_; (try clear hb); (try clear hb2); (try clear hk); (try clear hi); (try clear ho0); (try clear ho1); obtain ⟨Ao12, co12, eo12⟩ := Kd.R_slice HO446.out; subst eo12; obtain ⟨Ao13, co13, eo13⟩ := Kd.R_slice HO448.out; subst eo13) | (go_at_call 21; (with_reducible refine (null_Join.calls _ _ t443 _ _ t444 t449 t450 _ ?side1 ?side2 ?side3 ?side4 A6.out).mono ?_); (case side1 => repeat (first | exact (Kd.R_reads' HO446.out).2.2 | (with_reducible refine Kd.C_alloc ?_ _) | (with_reducible refine Kd.C_drewN ?_ _) | (with_reducible refine Kd.C_drew ?_))); (case side2 => exact (Kd.R_reads' HO446.out).2.1); (case side3 => repeat (first | exact (Kd.R_reads' HO448.out).2.2 | (with_reducible refine Kd.C_alloc ?_ _) | (with_reducible refine Kd.C_drewN ?_ _) | (with_reducible refine Kd.C_drew ?_))); (case side4 => exact (Kd.R_reads' HO448.out).2.1); rintro e w14 ⟨v451, rfl, ho0, hb⟩; have n0_ := Aside0.mk (Kd.R_below (by (with_reducible repeat (first | apply Kd.R_alloc | apply Kd.R_drewN | apply Kd.R_drew)); exact HO446.out) hb); have n1_ := Aside0.mk (Kd.R_elder' (by (with_reducible repeat (first | apply Kd.R_alloc | apply Kd.R_drewN | apply Kd.R_drew)); exact HO448.out) (Kd.R_base ho0) hb); have n2_ := Aside0.mk (Kd.R_lower (Kd.R_new' ho0 (Kd.R_lt (by (with_reducible repeat (first | apply Kd.R_alloc | apply Kd.R_drewN | apply Kd.R_drew)); exact HO448.out))) (below_size (by repeat (first | (with_reducible first | exact HB.out | apply below_alloc | apply pw_below_drewN | apply below_drew1) | exact HB.out)))); have n3_ := Aside0.mk (below_step (by repeat (first | (with_reducible first | exact HB.out | apply below_alloc | apply pw_below_drewN | apply below_drew1) | exact HB.out)) hb); clear HO446; clear HO448; clear HB; have HO446 := n0_; have HO448 := n1_; have HO452 := n2_; have HB := n3_; clear n0_ n1_ n2_ n3_; (try clear hb); (try clear hb2); (try clear hk); (try clear hi); (try clear ho0)) | (go_at_call 45; (with_reducible refine (null_Bytes.calls _ _ t443 t453 _ ?side1 ?side2 A7.out).mono ?_); (case side1 => repeat (first | exact (Kd.R_reads' HO446.out).2.2 | (with_reducible refine Kd.C_alloc ?_ _) | (with_reducible refine Kd.C_drewN ?_ _) | (with_reducible refine Kd.C_drew ?_))); (case side2 => exact (Kd.R_reads' HO446.out).2.1); rintro e w15 ⟨v454, rfl, ho0, hb⟩; have n0_ := Aside0.mk (Kd.R_below (by (with_reducible repeat (first | apply Kd.R_alloc | apply Kd.R_drewN | apply Kd.R_drew)); exact HO446.out) hb); have n1_ := Aside0.mk (Kd.R_below (by (with_reducible repeat (first | apply Kd.R_alloc | apply Kd.R_drewN | apply Kd.R_drew)); exact HO448.out) hb); have n2_ := Aside0.mk (Kd.R_below (by (with_reducible repeat (first | apply Kd.R_alloc | apply Kd.R_drewN | apply Kd.R_drew)); exact HO452.out) hb); have n3_ := Aside0.mk (Kd.R_lower ho0 (below_size (by repeat (first | (with_reducible first | exact HB.out | apply below_alloc | apply pw_below_drewN | apply below_drew1) | exact HB.out)))); have n4_ := Aside0.mk (below_step (by repeat (first | (with_reducible first | exact HB.out | apply below_alloc | apply pw_below_drewN | apply below_drew1) | exact HB.out)) hb); clear HO446; clear HO448; clear HO452; clear HB; have HO446 := n0_; have HO448 := n1_; have HO452 := n2_; have HO455 := n3_; have HB := n4_; clear n0_ n1_ n2_ n3_ n4_; (try clear hb); (try clear hb2); (try clear hk); (try clear hi); (try clear ho0); obtain ⟨Ao16, co16, eo16⟩ := Kd.R_slice HO455.out; subst eo16) | (go_at_call 43; (with_reducible refine (null_Of.calls k _ _ t453 (l0.length : Int) t456 t457 _ ?side1 ?side2 A8.out).mono ?_); (case side1 => repeat (first | exact (Kd.R_reads' HO455.out).2.2 | (with_reducible refine Kd.C_alloc ?_ _) | (with_reducible refine Kd.C_drewN ?_ _) | (with_reducible refine Kd.C_drew ?_))); (case side2 => exact (Kd.R_reads' HO455.out).2.1); rintro e w17 ⟨v458, rfl, ho0, hb⟩; have n0_ := Aside0.mk (Kd.R_elder' (by (with_reducible repeat (first | apply Kd.R_alloc | apply Kd.R_drewN | apply Kd.R_drew)); exact HO446.out) (Kd.R_base ho0) hb); have n1_ := Aside0.mk (Kd.R_below (by (with_reducible repeat (first | apply Kd.R_alloc | apply Kd.R_drewN | apply Kd.R_drew)); exact HO448.out) hb); have n2_ := Aside0.mk (Kd.R_below (by (with_reducible repeat (first | apply Kd.R_alloc | apply Kd.R_drewN | apply Kd.R_drew)); exact HO452.out) hb); have n3_ := Aside0.mk (Kd.R_below (by (with_reducible repeat (first | apply Kd.R_alloc | apply Kd.R_drewN | apply Kd.R_drew)); exact HO455.out) hb); have n4_ := Aside0.mk (Kd.R_lower (Kd.R_new' ho0 (Kd.R_lt (by (with_reducible repeat (first | apply Kd.R_alloc | apply Kd.R_drewN | apply Kd.R_drew)); exact HO446.out))) (below_size (by repeat (first | (with_reducible first | exact HB.out | apply below_alloc | apply pw_below_drewN | apply below_drew1) | exact HB.out)))); have n5_ := Aside0.mk (below_step (by repeat (first | (with_reducible first | exact HB.out | apply below_alloc | apply pw_below_drewN | apply below_drew1) | exact HB.out)) hb); clear HO446; clear HO448; clear HO452; clear HO455; clear HB; have HO446 := n0_; have HO448 := n1_; have HO452 := n2_; have HO455 := n3_; have HO459 := n4_; have HB := n5_; clear n0_ n1_ n2_ n3_ n4_ n5_; (try clear hb); (try clear hb2); (try clear hk); (try clear hi); (try clear ho0))))
    (try simp only [Act.put, List.setIfInBounds_toArray, List.set_cons_zero, List.set_cons_succ])
    go_cut [63] (fun v63 wc => ∃ (kq : Nat) (x63_8 : Bool), v63 = .bool x63_8 ∧ Aside0 (astragallaw06_NullBack.j0 kq l0 t442 t449 x63_8 = some r) ∧ Aside0 (kq ≤ k) ∧ Aside0 (Kd.R k37 37 wc w.heap.size (fun _ => True) v451 t449) ∧ Aside0 (Below w.heap.size w wc))
    case first =>
      have H := HC9.out
      clear HC9
      by_cases c18 : t450 = 0
      · rw [if_pos c18] at H
        have c18b0 : (t450 == 0) = true := beq_iff_eq.mpr c18
        have c18b1 : (t450 != 0) = false := bne_eq_false_iff_eq.mpr c18
        clear c18
        (first | rw [c18b0] | (simp only [i64_w, i32_w]; rw [c18b0]) | skip)
        by_cases c19 : t457 = 0
        · rw [if_pos c19] at H
          have c19b0 : (t457 == 0) = true := beq_iff_eq.mpr c19
          have c19b1 : (t457 != 0) = false := bne_eq_false_iff_eq.mpr c19
          clear c19
          by_cases c20 : (t449.length : Int) = (l0.length : Int)
          · rw [if_pos c20] at H
            have c20b0 : ((t449.length : Int) == (l0.length : Int)) = true := beq_iff_eq.mpr c20
            have c20b1 : ((t449.length : Int) != (l0.length : Int)) = false := bne_eq_false_iff_eq.mpr c20
            have c20b2 : (t449.length == l0.length) = true := by first | simpa using c20 | (simp at c20 ⊢; omega)
            clear c20
            replace H := Option.bind_eq_some_iff.mp H
            obtain ⟨t460, A210, H⟩ := H
            replace H : (if t460 = true then ((null_Count.f k t443).bind fun t461 => (astragallaw06_NullBack.j0 k l0 t442 t449 ((wrap64 ((t444.length : Int) + t461)) != (l0.length : Int)))) else (astragallaw06_NullBack.j0 k l0 t442 t449 true)) = some r := H
            have A21 := Aside0.mk A210
            clear A210
            by_cases c22 : t460 = true
            · subst c22
              have H1 : ((null_Count.f k t443).bind fun t461 => (astragallaw06_NullBack.j0 k l0 t442 t449 ((wrap64 ((t444.length : Int) + t461)) != (l0.length : Int)))) = some r := by rw [if_pos rfl] at H; exact H
              clear H
              have H := H1
              clear H1
              replace H := Option.bind_eq_some_iff.mp H
              obtain ⟨t461, A230, H⟩ := H
              replace H : (astragallaw06_NullBack.j0 k l0 t442 t449 ((wrap64 ((t444.length : Int) + t461)) != (l0.length : Int))) = some r := H
              have A23 := Aside0.mk A230
              clear A230
              have H' := Aside0.mk H
              clear H
              obtain ⟨Ao24, co24, eo24⟩ := Kd.R_slice HO452.out
              subst eo24
              obtain ⟨Ao25, co25, eo25⟩ := Kd.R_slice HO459.out
              subst eo25
              go_wp2_with (first | (go_at_call 18; (with_reducible refine (astragalref06_Same.calls k _ _ t443 _ _ t456 true _ ?side1 ?side2 ?side3 ?side4 A21.out).mono ?_); (case side1 => repeat (first | exact (Kd.R_reads' HO446.out).2.2 | (with_reducible refine Kd.C_alloc ?_ _) | (with_reducible refine Kd.C_drewN ?_ _) | (with_reducible refine Kd.C_drew ?_))); (case side2 => exact (Kd.R_reads' HO446.out).2.1); (case side3 => repeat (first | exact (Kd.R_reads' HO459.out).2.2 | (with_reducible refine Kd.C_alloc ?_ _) | (with_reducible refine Kd.C_drewN ?_ _) | (with_reducible refine Kd.C_drew ?_))); (case side4 => exact (Kd.R_reads' HO459.out).2.1); rintro e w' ⟨rfl, ⟨nd, rfl⟩⟩; (try first | exact ⟨rfl, _, World.drewN_drewN _ _ _⟩ | exact ⟨rfl, _, Eq.trans (World.drewN_drewN _ _ _) (congrArg (World.drewN _) (Nat.add_assoc _ _ _))⟩)) | (go_at_call 19; (with_reducible refine (null_Count.calls k _ _ t443 t461 _ ?side1 ?side2 A23.out).mono ?_); (case side1 => repeat (first | exact (Kd.R_reads' HO446.out).2.2 | (with_reducible refine Kd.C_alloc ?_ _) | (with_reducible refine Kd.C_drewN ?_ _) | (with_reducible refine Kd.C_drew ?_))); (case side2 => exact (Kd.R_reads' HO446.out).2.1); rintro e w' ⟨rfl, ⟨nd, rfl⟩⟩; (try first | exact ⟨rfl, _, World.drewN_drewN _ _ _⟩ | exact ⟨rfl, _, Eq.trans (World.drewN_drewN _ _ _) (congrArg (World.drewN _) (Nat.add_assoc _ _ _))⟩)))
              repeat (go_quiet (first | (go_at_call 18; (with_reducible refine (astragalref06_Same.calls k _ _ t443 _ _ t456 true _ ?side1 ?side2 ?side3 ?side4 A21.out).mono ?_); (case side1 => repeat (first | exact (Kd.R_reads' HO446.out).2.2 | (with_reducible refine Kd.C_alloc ?_ _) | (with_reducible refine Kd.C_drewN ?_ _) | (with_reducible refine Kd.C_drew ?_))); (case side2 => exact (Kd.R_reads' HO446.out).2.1); (case side3 => repeat (first | exact (Kd.R_reads' HO459.out).2.2 | (with_reducible refine Kd.C_alloc ?_ _) | (with_reducible refine Kd.C_drewN ?_ _) | (with_reducible refine Kd.C_drew ?_))); (case side4 => exact (Kd.R_reads' HO459.out).2.1); rintro e w' ⟨rfl, ⟨nd, rfl⟩⟩; (try first | exact ⟨rfl, _, World.drewN_drewN _ _ _⟩ | exact ⟨rfl, _, Eq.trans (World.drewN_drewN _ _ _) (congrArg (World.drewN _) (Nat.add_assoc _ _ _))⟩)) | (go_at_call 19; (with_reducible refine (null_Count.calls k _ _ t443 t461 _ ?side1 ?side2 A23.out).mono ?_); (case side1 => repeat (first | exact (Kd.R_reads' HO446.out).2.2 | (with_reducible refine Kd.C_alloc ?_ _) | (with_reducible refine Kd.C_drewN ?_ _) | (with_reducible refine Kd.C_drew ?_))); (case side2 => exact (Kd.R_reads' HO446.out).2.1); rintro e w' ⟨rfl, ⟨nd, rfl⟩⟩; (try first | exact ⟨rfl, _, World.drewN_drewN _ _ _⟩ | exact ⟨rfl, _, Eq.trans (World.drewN_drewN _ _ _) (congrArg (World.drewN _) (Nat.add_assoc _ _ _))⟩))); try go_wp2_with (first | (go_at_call 18; (with_reducible refine (astragalref06_Same.calls k _ _ t443 _ _ t456 true _ ?side1 ?side2 ?side3 ?side4 A21.out).mono ?_); (case side1 => repeat (first | exact (Kd.R_reads' HO446.out).2.2 | (with_reducible refine Kd.C_alloc ?_ _) | (with_reducible refine Kd.C_drewN ?_ _) | (with_reducible refine Kd.C_drew ?_))); (case side2 => exact (Kd.R_reads' HO446.out).2.1); (case side3 => repeat (first | exact (Kd.R_reads' HO459.out).2.2 | (with_reducible refine Kd.C_alloc ?_ _) | (with_reducible refine Kd.C_drewN ?_ _) | (with_reducible refine Kd.C_drew ?_))); (case side4 => exact (Kd.R_reads' HO459.out).2.1); rintro e w' ⟨rfl, ⟨nd, rfl⟩⟩; (try first | exact ⟨rfl, _, World.drewN_drewN _ _ _⟩ | exact ⟨rfl, _, Eq.trans (World.drewN_drewN _ _ _) (congrArg (World.drewN _) (Nat.add_assoc _ _ _))⟩)) | (go_at_call 19; (with_reducible refine (null_Count.calls k _ _ t443 t461 _ ?side1 ?side2 A23.out).mono ?_); (case side1 => repeat (first | exact (Kd.R_reads' HO446.out).2.2 | (with_reducible refine Kd.C_alloc ?_ _) | (with_reducible refine Kd.C_drewN ?_ _) | (with_reducible refine Kd.C_drew ?_))); (case side2 => exact (Kd.R_reads' HO446.out).2.1); rintro e w' ⟨rfl, ⟨nd, rfl⟩⟩; (try first | exact ⟨rfl, _, World.drewN_drewN _ _ _⟩ | exact ⟨rfl, _, Eq.trans (World.drewN_drewN _ _ _) (congrArg (World.drewN _) (Nat.add_assoc _ _ _))⟩))))
              go_meet
              case rel => exact ⟨_, (((wrap64 ((t444.length : Int) + t461)) != (l0.length : Int))), (by first | rfl | (simp; done) | (simp [*]; done)), H', ⟨by first | omega | exact Nat.le_refl _⟩, ⟨by (with_reducible repeat (first | apply Kd.R_alloc | apply Kd.R_drewN | apply Kd.R_drew)); exact Kd.R_mono HO452.out (fun _ hk => trivial)⟩, ⟨by repeat (first | (with_reducible first | exact HB.out | apply below_alloc | apply pw_below_drewN | apply below_drew1) | exact HB.out)⟩⟩
            · replace c22 := Bool.eq_false_iff.mpr c22
              subst c22
              have H1 : (astragallaw06_NullBack.j0 k l0 t442 t449 true) = some r := by rw [if_neg (show ¬ (false = true) by decide)] at H; exact H
              clear H
              have H := H1
              clear H1
              have H' := Aside0.mk H
              clear H
              obtain ⟨Ao26, co26, eo26⟩ := Kd.R_slice HO452.out
              subst eo26
              obtain ⟨Ao27, co27, eo27⟩ := Kd.R_slice HO459.out
              subst eo27
              go_wp2_with (first | (go_at_call 18; (with_reducible refine (astragalref06_Same.calls k _ _ t443 _ _ t456 false _ ?side1 ?side2 ?side3 ?side4 A21.out).mono ?_); (case side1 => repeat (first | exact (Kd.R_reads' HO446.out).2.2 | (with_reducible refine Kd.C_alloc ?_ _) | (with_reducible refine Kd.C_drewN ?_ _) | (with_reducible refine Kd.C_drew ?_))); (case side2 => exact (Kd.R_reads' HO446.out).2.1); (case side3 => repeat (first | exact (Kd.R_reads' HO459.out).2.2 | (with_reducible refine Kd.C_alloc ?_ _) | (with_reducible refine Kd.C_drewN ?_ _) | (with_reducible refine Kd.C_drew ?_))); (case side4 => exact (Kd.R_reads' HO459.out).2.1); rintro e w' ⟨rfl, ⟨nd, rfl⟩⟩; (try first | exact ⟨rfl, _, World.drewN_drewN _ _ _⟩ | exact ⟨rfl, _, Eq.trans (World.drewN_drewN _ _ _) (congrArg (World.drewN _) (Nat.add_assoc _ _ _))⟩)))
              repeat (go_quiet (first | (go_at_call 18; (with_reducible refine (astragalref06_Same.calls k _ _ t443 _ _ t456 false _ ?side1 ?side2 ?side3 ?side4 A21.out).mono ?_); (case side1 => repeat (first | exact (Kd.R_reads' HO446.out).2.2 | (with_reducible refine Kd.C_alloc ?_ _) | (with_reducible refine Kd.C_drewN ?_ _) | (with_reducible refine Kd.C_drew ?_))); (case side2 => exact (Kd.R_reads' HO446.out).2.1); (case side3 => repeat (first | exact (Kd.R_reads' HO459.out).2.2 | (with_reducible refine Kd.C_alloc ?_ _) | (with_reducible refine Kd.C_drewN ?_ _) | (with_reducible refine Kd.C_drew ?_))); (case side4 => exact (Kd.R_reads' HO459.out).2.1); rintro e w' ⟨rfl, ⟨nd, rfl⟩⟩; (try first | exact ⟨rfl, _, World.drewN_drewN _ _ _⟩ | exact ⟨rfl, _, Eq.trans (World.drewN_drewN _ _ _) (congrArg (World.drewN _) (Nat.add_assoc _ _ _))⟩))); try go_wp2_with (first | (go_at_call 18; (with_reducible refine (astragalref06_Same.calls k _ _ t443 _ _ t456 false _ ?side1 ?side2 ?side3 ?side4 A21.out).mono ?_); (case side1 => repeat (first | exact (Kd.R_reads' HO446.out).2.2 | (with_reducible refine Kd.C_alloc ?_ _) | (with_reducible refine Kd.C_drewN ?_ _) | (with_reducible refine Kd.C_drew ?_))); (case side2 => exact (Kd.R_reads' HO446.out).2.1); (case side3 => repeat (first | exact (Kd.R_reads' HO459.out).2.2 | (with_reducible refine Kd.C_alloc ?_ _) | (with_reducible refine Kd.C_drewN ?_ _) | (with_reducible refine Kd.C_drew ?_))); (case side4 => exact (Kd.R_reads' HO459.out).2.1); rintro e w' ⟨rfl, ⟨nd, rfl⟩⟩; (try first | exact ⟨rfl, _, World.drewN_drewN _ _ _⟩ | exact ⟨rfl, _, Eq.trans (World.drewN_drewN _ _ _) (congrArg (World.drewN _) (Nat.add_assoc _ _ _))⟩))))
              go_meet
              case rel => exact ⟨_, (true), (by first | rfl | (simp; done) | (simp [*]; done)), H', ⟨by first | omega | exact Nat.le_refl _⟩, ⟨by (with_reducible repeat (first | apply Kd.R_alloc | apply Kd.R_drewN | apply Kd.R_drew)); exact Kd.R_mono HO452.out (fun _ hk => trivial)⟩, ⟨by repeat (first | (with_reducible first | exact HB.out | apply below_alloc | apply pw_below_drewN | apply below_drew1) | exact HB.out)⟩⟩
          · rw [if_neg c20] at H
            have c20b0 : ((t449.length : Int) == (l0.length : Int)) = false := beq_eq_false_iff_ne.mpr c20
            have c20b1 : ((t449.length : Int) != (l0.length : Int)) = true := bne_iff_ne.mpr c20
            have c20b2 : (t449.length == l0.length) = false := by first | simpa using c20 | (simp at c20 ⊢; omega)
            have H' := Aside0.mk H
            clear H
            obtain ⟨Ao28, co28, eo28⟩ := Kd.R_slice HO452.out
            subst eo28
            go_wp2
            repeat (go_quiet (fail); try go_wp2)
            go_meet
            case rel => exact ⟨_, (true), (by first | rfl | (simp; done) | (simp [*]; done)), H', ⟨by first | omega | exact Nat.le_refl _⟩, ⟨by (with_reducible repeat (first | apply Kd.R_alloc | apply Kd.R_drewN | apply Kd.R_drew)); exact Kd.R_mono HO452.out (fun _ hk => trivial)⟩, ⟨by repeat (first | (with_reducible first | exact HB.out | apply below_alloc | apply pw_below_drewN | apply below_drew1) | exact HB.out)⟩⟩
        · rw [if_neg c19] at H
          have c19b0 : (t457 == 0) = false := beq_eq_false_iff_ne.mpr c19
          have c19b1 : (t457 != 0) = true := bne_iff_ne.mpr c19
          have H' := Aside0.mk H
          clear H
          go_wp2
          repeat (go_quiet (fail); try go_wp2)
          go_meet
          case rel => exact ⟨_, (true), (by first | rfl | (simp; done) | (simp [*]; done)), H', ⟨by first | omega | exact Nat.le_refl _⟩, ⟨by (with_reducible repeat (first | apply Kd.R_alloc | apply Kd.R_drewN | apply Kd.R_drew)); exact Kd.R_mono HO452.out (fun _ hk => trivial)⟩, ⟨by repeat (first | (with_reducible first | exact HB.out | apply below_alloc | apply pw_below_drewN | apply below_drew1) | exact HB.out)⟩⟩
      · rw [if_neg c18] at H
        have c18b0 : (t450 == 0) = false := beq_eq_false_iff_ne.mpr c18
        have c18b1 : (t450 != 0) = true := bne_iff_ne.mpr c18
        (first | rw [c18b0] | (simp only [i64_w, i32_w]; rw [c18b0]) | skip)
        have H' := Aside0.mk H
        clear H
        go_wp2
        repeat (go_quiet (fail); try go_wp2)
        go_meet
        case rel => exact ⟨_, (true), (by first | rfl | (simp; done) | (simp [*]; done)), H', ⟨by first | omega | exact Nat.le_refl _⟩, ⟨by (with_reducible repeat (first | apply Kd.R_alloc | apply Kd.R_drewN | apply Kd.R_drew)); exact Kd.R_mono HO452.out (fun _ hk => trivial)⟩, ⟨by repeat (first | (with_reducible first | exact HB.out | apply below_alloc | apply pw_below_drewN | apply below_drew1) | exact HB.out)⟩⟩
    case rest =>
      clear HC9
      try clear c1
      try clear c2
      try clear p2
      try clear c3
      try clear c3b0
      try clear c3b1
      try clear p6
      try clear c15
      try clear c18
      try clear c18b0
      try clear c18b1
      try clear c19
      try clear c19b0
      try clear c19b1
      try clear c20
      try clear c20b0
      try clear c20b1
      try clear c20b2
      try clear c22
      obtain ⟨kq, x63_8, rfl, HA, HJ8, HO_6, HB⟩ := hcut
      cases kq with
      | zero => exact absurd HA.out (by simp [astragallaw06_NullBack.j0])
      | succ kj8 =>
        have H := HA.out
        clear HA
        simp only [astragallaw06_NullBack.j0] at H
        by_cases c29 : x63_8 = true
        · subst c29
          have H1 : (some false) = some r := by rw [if_pos rfl] at H; exact H
          clear H
          have H := H1
          clear H1
          obtain rfl := Option.some.inj H
          go_wp2
          repeat (go_quiet (fail); try go_wp2)
          go_ret
          exact ⟨by first | rfl | (simp [errW_none, errW_some] <;> rfl) | (simp [*, errW_none, errW_some] <;> rfl), by repeat (first | (with_reducible first | exact HB.out | apply below_alloc | apply pw_below_drewN | apply below_drew1) | exact HB.out)⟩
        · replace c29 := Bool.eq_false_iff.mpr c29
          subst c29
          have H1 : (astragallaw06_NullBack.l0 kj8 l0 t442 t449 0) = some r := by rw [if_neg (show ¬ (false = true) by decide)] at H; exact H
          clear H
          have H := H1
          clear H1
          have H' := Aside0.mk H
          clear H
          go_wp2
          repeat (go_quiet (fail); try go_wp2)
          go_loopg [10] kj8 (fun kq v10 w' => ∃ (x10_2 : Int), v10 = .int .i64 x10_2 ∧ Aside0 (astragallaw06_NullBack.l0 kq l0 t442 t449 x10_2 = some r) ∧ Aside0 (kq ≤ kj8) ∧ Aside0 (Kd.R k37 37 w' w.heap.size (fun _ => True) v451 t449) ∧ Aside0 (Below w.heap.size w w'))
          case atStart => exact ⟨(0), (by first | rfl | (simp; done) | (simp [*]; done)), H', ⟨Nat.le_refl _⟩, ⟨by (with_reducible repeat (first | apply Kd.R_alloc | apply Kd.R_drewN | apply Kd.R_drew)); exact HO_6.out⟩, ⟨by repeat (first | (with_reducible first | exact HB.out | apply below_alloc | apply pw_below_drewN | apply below_drew1) | exact HB.out)⟩⟩
          case round =>
            clear H'
            try clear c1
            try clear c2
            try clear p2
            try clear c3
            try clear c3b0
            try clear c3b1
            try clear p6
            try clear c15
            try clear c18
            try clear c18b0
            try clear c18b1
            try clear c19
            try clear c19b0
            try clear c19b1
            try clear c20
            try clear c20b0
            try clear c20b1
            try clear c20b2
            try clear c22
            try clear c29
            try clear p2
            try clear p6
            obtain ⟨x10_2, rfl, HA, HK2, HO_6, HB⟩ := hrel
            cases gk with
            | zero => exact absurd HA.out (by simp [astragallaw06_NullBack.l0])
            | succ k2 =>
              have H := HA.out
              clear HA
              simp only [astragallaw06_NullBack.l0] at H
              by_cases c30 : x10_2 < (l0.length : Int)
              · rw [if_pos c30] at H
                have c30b0 : decide (x10_2 < (l0.length : Int)) = true := decide_eq_true c30
                clear c30
                by_cases c31 : 0 ≤ x10_2
                · rw [if_pos c31] at H
                  have c31b0 : decide (0 ≤ x10_2) = true := decide_eq_true c31
                  clear c31
                  by_cases c32 : ((rd_T37 l0 x10_2).f0) = 0
                  · rw [if_pos c32] at H
                    have c32b0 : (((rd_T37 l0 x10_2).f0) == 0) = true := beq_iff_eq.mpr c32
                    have c32b1 : (((rd_T37 l0 x10_2).f0) != 0) = false := bne_eq_false_iff_eq.mpr c32
                    clear c32
                    by_cases c33 : x10_2 < (t449.length : Int)
                    · rw [if_pos c33] at H
                      have c33b0 : decide (x10_2 < (t449.length : Int)) = true := decide_eq_true c33
                      clear c33
                      by_cases c34 : (!(((rd_T37 t449 x10_2).f0) == 0) || (!(((rd_T37 t449 x10_2).f1) == 0) || (!((((rd_T37 t449 x10_2).f2).toList) == ([] : List UInt8))))) = true
                      · rw [if_pos c34] at H
                        have c34b0 : (!(((rd_T37 t449 x10_2).f0) == 0) || (!(((rd_T37 t449 x10_2).f1) == 0) || (!((((rd_T37 t449 x10_2).f2).toList) == ([] : List UInt8))))) = true := c34
                        have c34b1 : (!(((rd_T37 t449 x10_2).f0) == 0) || (!(((rd_T37 t449 x10_2).f1) == 0) || (!((((rd_T37 t449 x10_2).f2).toList).isEmpty)))) = true := by have h := c34b0; rw [isE] at h; exact h
                        clear c34
                        obtain rfl := Option.some.inj H
                        have p462 : 0 ≤ (x10_2 : Int) := of_decide_eq_true (by first | (with_reducible assumption) | assumption)
                        have q462 : x10_2 < (l0.length : Int) := of_decide_eq_true (by first | (with_reducible assumption) | assumption)
                        obtain ⟨ad462, e462, hx462_0, hx462_1, hx462_2⟩ := at_T37 HR0.out x10_2 p462 q462
                        cases e462
                        replace hx462_0 := (HB.out.cell (World.block_lt_of_cell? w _ hx462_0)).trans hx462_0
                        replace hx462_1 := (HB.out.cell (World.block_lt_of_cell? w _ hx462_1)).trans hx462_1
                        replace hx462_2 := (HB.out.cell (World.block_lt_of_cell? w _ hx462_2)).trans hx462_2
                        replace p462 := eq_true p462
                        replace q462 := eq_true q462
                        obtain ⟨Ao35, co35, eo35⟩ := Kd.R_slice HO_6.out
                        subst eo35
                        have p463 : 0 ≤ (x10_2 : Int) := of_decide_eq_true (by first | (with_reducible assumption) | assumption)
                        have q463 : x10_2 < (t449.length : Int) := of_decide_eq_true (by first | (with_reducible assumption) | assumption)
                        obtain ⟨ad463, e463, hx463_0, hx463_1, hx463_2⟩ := at_T37 (Kd.R_reads' HO_6.out).2.2 x10_2 p463 q463
                        cases e463
                        replace p463 := eq_true p463
                        replace q463 := eq_true q463
                        go_wp2
                        repeat (go_quiet (fail); try go_wp2)
                        go_ret
                        exact ⟨by first | rfl | (simp [errW_none, errW_some] <;> rfl) | (simp [*, errW_none, errW_some] <;> rfl), by repeat (first | (with_reducible first | exact HB.out | apply below_alloc | apply pw_below_drewN | apply below_drew1) | exact HB.out)⟩
                      · rw [if_neg c34] at H
                        have c34b0 : (!(((rd_T37 t449 x10_2).f0) == 0) || (!(((rd_T37 t449 x10_2).f1) == 0) || (!((((rd_T37 t449 x10_2).f2).toList) == ([] : List UInt8))))) = false := by simpa using c34
                        have c34b1 : (!(((rd_T37 t449 x10_2).f0) == 0) || (!(((rd_T37 t449 x10_2).f1) == 0) || (!((((rd_T37 t449 x10_2).f2).toList).isEmpty)))) = false := by have h := c34b0; rw [isE] at h; exact h
                        clear c34
                        have H' := Aside0.mk H
                        clear H
                        have p462 : 0 ≤ (x10_2 : Int) := of_decide_eq_true (by first | (with_reducible assumption) | assumption)
                        have q462 : x10_2 < (l0.length : Int) := of_decide_eq_true (by first | (with_reducible assumption) | assumption)
                        obtain ⟨ad462, e462, hx462_0, hx462_1, hx462_2⟩ := at_T37 HR0.out x10_2 p462 q462
                        cases e462
                        replace hx462_0 := (HB.out.cell (World.block_lt_of_cell? w _ hx462_0)).trans hx462_0
                        replace hx462_1 := (HB.out.cell (World.block_lt_of_cell? w _ hx462_1)).trans hx462_1
                        replace hx462_2 := (HB.out.cell (World.block_lt_of_cell? w _ hx462_2)).trans hx462_2
                        replace p462 := eq_true p462
                        replace q462 := eq_true q462
                        obtain ⟨Ao36, co36, eo36⟩ := Kd.R_slice HO_6.out
                        subst eo36
                        have p463 : 0 ≤ (x10_2 : Int) := of_decide_eq_true (by first | (with_reducible assumption) | assumption)
                        have q463 : x10_2 < (t449.length : Int) := of_decide_eq_true (by first | (with_reducible assumption) | assumption)
                        obtain ⟨ad463, e463, hx463_0, hx463_1, hx463_2⟩ := at_T37 (Kd.R_reads' HO_6.out).2.2 x10_2 p463 q463
                        cases e463
                        replace p463 := eq_true p463
                        replace q463 := eq_true q463
                        have p464 : 0 ≤ (x10_2 : Int) := of_decide_eq_true (by first | (with_reducible assumption) | assumption)
                        have q464 : x10_2 < (l0.length : Int) := of_decide_eq_true (by first | (with_reducible assumption) | assumption)
                        obtain ⟨ad464, e464, hx464_0, hx464_1, hx464_2⟩ := at_T37 HR0.out x10_2 p464 q464
                        obtain rfl : ad462 = ad464 := (by injection e464)
                        replace hx464_0 := (HB.out.cell (World.block_lt_of_cell? w _ hx464_0)).trans hx464_0
                        replace hx464_1 := (HB.out.cell (World.block_lt_of_cell? w _ hx464_1)).trans hx464_1
                        replace hx464_2 := (HB.out.cell (World.block_lt_of_cell? w _ hx464_2)).trans hx464_2
                        replace p464 := eq_true p464
                        replace q464 := eq_true q464
                        go_wp2
                        repeat (go_quiet (fail); try go_wp2)
                        go_roundg k2
                        case measure => have := HJ8.out; have := HK2.out; omega
                        case rel => exact ⟨(wrap64 (x10_2 + 1)), (by first | rfl | (simp; done) | (simp [*]; done)), H', ⟨by have := HJ8.out; have := HK2.out; omega⟩, ⟨by (with_reducible repeat (first | apply Kd.R_alloc | apply Kd.R_drewN | apply Kd.R_drew)); exact HO_6.out⟩, ⟨by repeat (first | (with_reducible first | exact HB.out | apply below_alloc | apply pw_below_drewN | apply below_drew1) | exact HB.out)⟩⟩
                    · rw [if_neg c33] at H
                      exact absurd H (by simp)
                  · rw [if_neg c32] at H
                    have c32b0 : (((rd_T37 l0 x10_2).f0) == 0) = false := beq_eq_false_iff_ne.mpr c32
                    have c32b1 : (((rd_T37 l0 x10_2).f0) != 0) = true := bne_iff_ne.mpr c32
                    by_cases c37 : x10_2 < (t449.length : Int)
                    · rw [if_pos c37] at H
                      have c37b0 : decide (x10_2 < (t449.length : Int)) = true := decide_eq_true c37
                      clear c37
                      by_cases c38 : (!(((rd_T37 t449 x10_2).f0) == ((rd_T37 l0 x10_2).f0)) || (!(((rd_T37 t449 x10_2).f1) == ((rd_T37 l0 x10_2).f1)) || (!((((rd_T37 t449 x10_2).f2).toList) == (((rd_T37 l0 x10_2).f2).toList))))) = true
                      · rw [if_pos c38] at H
                        have c38b0 : (!(((rd_T37 t449 x10_2).f0) == ((rd_T37 l0 x10_2).f0)) || (!(((rd_T37 t449 x10_2).f1) == ((rd_T37 l0 x10_2).f1)) || (!((((rd_T37 t449 x10_2).f2).toList) == (((rd_T37 l0 x10_2).f2).toList))))) = true := c38
                        clear c38
                        obtain rfl := Option.some.inj H
                        have p462 : 0 ≤ (x10_2 : Int) := of_decide_eq_true (by first | (with_reducible assumption) | assumption)
                        have q462 : x10_2 < (l0.length : Int) := of_decide_eq_true (by first | (with_reducible assumption) | assumption)
                        obtain ⟨ad462, e462, hx462_0, hx462_1, hx462_2⟩ := at_T37 HR0.out x10_2 p462 q462
                        cases e462
                        replace hx462_0 := (HB.out.cell (World.block_lt_of_cell? w _ hx462_0)).trans hx462_0
                        replace hx462_1 := (HB.out.cell (World.block_lt_of_cell? w _ hx462_1)).trans hx462_1
                        replace hx462_2 := (HB.out.cell (World.block_lt_of_cell? w _ hx462_2)).trans hx462_2
                        replace p462 := eq_true p462
                        replace q462 := eq_true q462
                        have p465 : 0 ≤ (x10_2 : Int) := of_decide_eq_true (by first | (with_reducible assumption) | assumption)
                        have q465 : x10_2 < (l0.length : Int) := of_decide_eq_true (by first | (with_reducible assumption) | assumption)
                        obtain ⟨ad465, e465, hx465_0, hx465_1, hx465_2⟩ := at_T37 HR0.out x10_2 p465 q465
                        obtain rfl : ad462 = ad465 := (by injection e465)
                        replace hx465_0 := (HB.out.cell (World.block_lt_of_cell? w _ hx465_0)).trans hx465_0
                        replace hx465_1 := (HB.out.cell (World.block_lt_of_cell? w _ hx465_1)).trans hx465_1
                        replace hx465_2 := (HB.out.cell (World.block_lt_of_cell? w _ hx465_2)).trans hx465_2
                        replace p465 := eq_true p465
                        replace q465 := eq_true q465
                        obtain ⟨Ao39, co39, eo39⟩ := Kd.R_slice HO_6.out
                        subst eo39
                        have p466 : 0 ≤ (x10_2 : Int) := of_decide_eq_true (by first | (with_reducible assumption) | assumption)
                        have q466 : x10_2 < (t449.length : Int) := of_decide_eq_true (by first | (with_reducible assumption) | assumption)
                        obtain ⟨ad466, e466, hx466_0, hx466_1, hx466_2⟩ := at_T37 (Kd.R_reads' HO_6.out).2.2 x10_2 p466 q466
                        cases e466
                        replace p466 := eq_true p466
                        replace q466 := eq_true q466
                        have p467 : 0 ≤ (x10_2 : Int) := of_decide_eq_true (by first | (with_reducible assumption) | assumption)
                        have q467 : x10_2 < (l0.length : Int) := of_decide_eq_true (by first | (with_reducible assumption) | assumption)
                        obtain ⟨ad467, e467, hx467_0, hx467_1, hx467_2⟩ := at_T37 HR0.out x10_2 p467 q467
                        obtain rfl : ad462 = ad467 := (by injection e467)
                        replace hx467_0 := (HB.out.cell (World.block_lt_of_cell? w _ hx467_0)).trans hx467_0
                        replace hx467_1 := (HB.out.cell (World.block_lt_of_cell? w _ hx467_1)).trans hx467_1
                        replace hx467_2 := (HB.out.cell (World.block_lt_of_cell? w _ hx467_2)).trans hx467_2
                        replace p467 := eq_true p467
                        replace q467 := eq_true q467
                        go_wp2
                        repeat (go_quiet (fail); try go_wp2)
                        go_ret
                        exact ⟨by first | rfl | (simp [errW_none, errW_some] <;> rfl) | (simp [*, errW_none, errW_some] <;> rfl), by repeat (first | (with_reducible first | exact HB.out | apply below_alloc | apply pw_below_drewN | apply below_drew1) | exact HB.out)⟩
                      · rw [if_neg c38] at H
                        have c38b0 : (!(((rd_T37 t449 x10_2).f0) == ((rd_T37 l0 x10_2).f0)) || (!(((rd_T37 t449 x10_2).f1) == ((rd_T37 l0 x10_2).f1)) || (!((((rd_T37 t449 x10_2).f2).toList) == (((rd_T37 l0 x10_2).f2).toList))))) = false := by simpa using c38
                        clear c38
                        have H' := Aside0.mk H
                        clear H
                        have p462 : 0 ≤ (x10_2 : Int) := of_decide_eq_true (by first | (with_reducible assumption) | assumption)
                        have q462 : x10_2 < (l0.length : Int) := of_decide_eq_true (by first | (with_reducible assumption) | assumption)
                        obtain ⟨ad462, e462, hx462_0, hx462_1, hx462_2⟩ := at_T37 HR0.out x10_2 p462 q462
                        cases e462
                        replace hx462_0 := (HB.out.cell (World.block_lt_of_cell? w _ hx462_0)).trans hx462_0
                        replace hx462_1 := (HB.out.cell (World.block_lt_of_cell? w _ hx462_1)).trans hx462_1
                        replace hx462_2 := (HB.out.cell (World.block_lt_of_cell? w _ hx462_2)).trans hx462_2
                        replace p462 := eq_true p462
                        replace q462 := eq_true q462
                        have p465 : 0 ≤ (x10_2 : Int) := of_decide_eq_true (by first | (with_reducible assumption) | assumption)
                        have q465 : x10_2 < (l0.length : Int) := of_decide_eq_true (by first | (with_reducible assumption) | assumption)
                        obtain ⟨ad465, e465, hx465_0, hx465_1, hx465_2⟩ := at_T37 HR0.out x10_2 p465 q465
                        obtain rfl : ad462 = ad465 := (by injection e465)
                        replace hx465_0 := (HB.out.cell (World.block_lt_of_cell? w _ hx465_0)).trans hx465_0
                        replace hx465_1 := (HB.out.cell (World.block_lt_of_cell? w _ hx465_1)).trans hx465_1
                        replace hx465_2 := (HB.out.cell (World.block_lt_of_cell? w _ hx465_2)).trans hx465_2
                        replace p465 := eq_true p465
                        replace q465 := eq_true q465
                        obtain ⟨Ao40, co40, eo40⟩ := Kd.R_slice HO_6.out
                        subst eo40
                        have p466 : 0 ≤ (x10_2 : Int) := of_decide_eq_true (by first | (with_reducible assumption) | assumption)
                        have q466 : x10_2 < (t449.length : Int) := of_decide_eq_true (by first | (with_reducible assumption) | assumption)
                        obtain ⟨ad466, e466, hx466_0, hx466_1, hx466_2⟩ := at_T37 (Kd.R_reads' HO_6.out).2.2 x10_2 p466 q466
                        cases e466
                        replace p466 := eq_true p466
                        replace q466 := eq_true q466
                        have p467 : 0 ≤ (x10_2 : Int) := of_decide_eq_true (by first | (with_reducible assumption) | assumption)
                        have q467 : x10_2 < (l0.length : Int) := of_decide_eq_true (by first | (with_reducible assumption) | assumption)
                        obtain ⟨ad467, e467, hx467_0, hx467_1, hx467_2⟩ := at_T37 HR0.out x10_2 p467 q467
                        obtain rfl : ad462 = ad467 := (by injection e467)
                        replace hx467_0 := (HB.out.cell (World.block_lt_of_cell? w _ hx467_0)).trans hx467_0
                        replace hx467_1 := (HB.out.cell (World.block_lt_of_cell? w _ hx467_1)).trans hx467_1
                        replace hx467_2 := (HB.out.cell (World.block_lt_of_cell? w _ hx467_2)).trans hx467_2
                        replace p467 := eq_true p467
                        replace q467 := eq_true q467
                        go_wp2
                        repeat (go_quiet (fail); try go_wp2)
                        go_roundg k2
                        case measure => have := HJ8.out; have := HK2.out; omega
                        case rel => exact ⟨(wrap64 (x10_2 + 1)), (by first | rfl | (simp; done) | (simp [*]; done)), H', ⟨by have := HJ8.out; have := HK2.out; omega⟩, ⟨by (with_reducible repeat (first | apply Kd.R_alloc | apply Kd.R_drewN | apply Kd.R_drew)); exact HO_6.out⟩, ⟨by repeat (first | (with_reducible first | exact HB.out | apply below_alloc | apply pw_below_drewN | apply below_drew1) | exact HB.out)⟩⟩
                    · rw [if_neg c37] at H
                      exact absurd H (by simp)
                · rw [if_neg c31] at H
                  exact absurd H (by simp)
              · rw [if_neg c30] at H
                have c30b0 : decide (x10_2 < (l0.length : Int)) = false := decide_eq_false c30
                clear c30
                obtain rfl := Option.some.inj H
                go_wp2
                repeat (go_quiet (fail); try go_wp2)
                go_ret
                exact ⟨by first | rfl | (simp [errW_none, errW_some] <;> rfl) | (simp [*, errW_none, errW_some] <;> rfl), by repeat (first | (with_reducible first | exact HB.out | apply below_alloc | apply pw_below_drewN | apply below_drew1) | exact HB.out)⟩

end Go.Proofs.Ytnndeogbncadbaa.F
