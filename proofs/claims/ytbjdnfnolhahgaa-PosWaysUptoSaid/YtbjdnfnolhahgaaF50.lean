-- Written by a program of this session (wip/mkprint.py over the kit's print): functions of the cut as plain Lean functions, and that the calls come to them. Lean checks it.
import Derived.Test.YtbjdnfnolhahgaaF0
import Derived.Test.YtbjdnfnolhahgaaF49
namespace Go.Proofs.Ytbjdnfnolhahgaa.F
open Go.RowKit Go.Proofs.YtbjdnfnolhahgaaW.PrintWords Go.Proofs.YtbjdnfnolhahgaaW.PrintLast Go.Proofs.YtbjdnfnolhahgaaW.PrintMore
attribute [local go_sem] max2_int min2_int max_two min_two max_three min_three max_four min_four   -- for this text's walks alone
set_option linter.unusedVariables false
set_option linter.unusedSimpArgs false

/-! ### astragalref12_Of: function 22 -/
mutual
def astragalref12_Of.j0 : Nat → Int → List Int → Int → Bool → Option (List Bool × Int × Int)
  | 0, _, _, _, _ => none
  | k + 1, x0, x1, x2, x20 => if x20 = true then (some (([] : List Bool), 0, 1)) else (if 0 ≤ x0 then (if (x0 : Int).toNat ≤ 281474976710656 then (astragalref12_Of.l0 k x0 x1 0 (List.replicate (x0 : Int).toNat false) x2) else (none)) else (none))
def astragalref12_Of.l0 : Nat → Int → List Int → Int → List Bool → Int → Option (List Bool × Int × Int)
  | 0, _, _, _, _, _ => none
  | k + 1, x0, x1, x9, x249000, x249001 => if x9 < (x1.length : Int) then (if 0 ≤ x9 then (if (rd x1 x9) < 0 then (some (([] : List Bool), 0, 2)) else (if (rd x1 x9) ≥ x0 then (some (([] : List Bool), 0, 2)) else (if 0 ≤ (rd x1 x9) then (if (rd x1 x9) < (x249000.length : Int) then (astragalref12_Of.l0 k x0 x1 (wrap64 (x9 + 1)) (x249000.set ((rd x1 x9) : Int).toNat true) x249001) else (none)) else (none)))) else (none)) else (some (x249000, x249001, 0))
end
def astragalref12_Of.f (k : Nat) (a0 : Int) (l1 : List Int) (a2 : Int) : Option (List Bool × Int × Int) := (astragalref12_may.f a2).bind fun t244 => (if t244 = true then (if a0 < 0 then (astragalref12_Of.j0 k a0 l1 a2 true) else (astragalref12_Of.j0 k a0 l1 a2 (decide (a0 > 4096)))) else (astragalref12_Of.j0 k a0 l1 a2 true))
theorem astragalref12_Of.mono_l : ∀ k, (∀ y0 y1 y2 y3, LeO (astragalref12_Of.j0 k y0 y1 y2 y3) (astragalref12_Of.j0 (k + 1) y0 y1 y2 y3)) ∧ (∀ y0 y1 y2 y3 y4, LeO (astragalref12_Of.l0 k y0 y1 y2 y3 y4) (astragalref12_Of.l0 (k + 1) y0 y1 y2 y3 y4))
  | 0 => ⟨fun _ _ _ _ r h => by simp [astragalref12_Of.j0] at h, fun _ _ _ _ _ r h => by simp [astragalref12_Of.l0] at h⟩
  | k + 1 => by
    obtain ⟨ih0, ih1⟩ := astragalref12_Of.mono_l k
    refine ⟨?_, ?_⟩
    · intro y0 y1 y2 y3
      unfold astragalref12_Of.j0
      repeat' first
      | (with_reducible exact ih0 _ _ _ _)
      | (with_reducible exact ih1 _ _ _ _ _)
      | (with_reducible exact LeO.refl _)
      | (with_reducible exact LeO.none _)
      | (with_reducible refine LeO.ite ?_ ?_)
      | (with_reducible refine LeO.bind ?_ (fun _ => ?_))
      | exact ih0 _ _ _ _
      | exact ih1 _ _ _ _ _
      | exact LeO.none _
      | refine LeO.ite ?_ ?_
      | refine LeO.bind ?_ (fun _ => ?_)
    · intro y0 y1 y2 y3 y4
      unfold astragalref12_Of.l0
      repeat' first
      | (with_reducible exact ih0 _ _ _ _)
      | (with_reducible exact ih1 _ _ _ _ _)
      | (with_reducible exact LeO.refl _)
      | (with_reducible exact LeO.none _)
      | (with_reducible refine LeO.ite ?_ ?_)
      | (with_reducible refine LeO.bind ?_ (fun _ => ?_))
      | exact ih0 _ _ _ _
      | exact ih1 _ _ _ _ _
      | exact LeO.none _
      | refine LeO.ite ?_ ?_
      | refine LeO.bind ?_ (fun _ => ?_)
theorem astragalref12_Of.mono : ∀ a0 a1 a2 k, LeO (astragalref12_Of.f k a0 a1 a2) (astragalref12_Of.f (k + 1) a0 a1 a2) := by
  intro a0 a1 a2 k
  obtain ⟨ih0, ih1⟩ := astragalref12_Of.mono_l k
  unfold astragalref12_Of.f
  repeat' first
      | (with_reducible exact ih0 _ _ _ _)
      | (with_reducible exact ih1 _ _ _ _ _)
      | (with_reducible exact LeO.refl _)
      | (with_reducible exact LeO.none _)
      | (with_reducible refine LeO.ite ?_ ?_)
      | (with_reducible refine LeO.bind ?_ (fun _ => ?_))
      | exact ih0 _ _ _ _
      | exact ih1 _ _ _ _ _
      | exact LeO.none _
      | refine LeO.ite ?_ ?_
      | refine LeO.bind ?_ (fun _ => ?_)
def astragalref12_Of.T9 : Bool × List (List Nat × List Nat) := (true, [([], []), ([0], [0]), ([], []), ([], []), ([2, 3], [2, 3]), ([4], [4]), ([1, 5, 0, 1, 2, 3, 4, 5], [1, 5]), ([6, 0, 1, 2, 3, 4, 5], [6])])
def astragalref12_Of.B9 : List Nat := [0, 1, 0, 0, 12, 28, 63, 127]
theorem astragalref12_Of.tab9 : rtab .any (opsOf Try.f22 9) = astragalref12_Of.T9 := by kernel_rfl
theorem astragalref12_Of.bits9 : waitsOk astragalref12_Of.T9.2 astragalref12_Of.B9 = true := by kernel_rfl
set_option maxHeartbeats 8000000 in
set_option maxRecDepth 100000 in
theorem astragalref12_Of.calls (k : Nat) (a0 : Int) (A1 : Option Addr) (c1 : Nat) (l1 : List Int) (a2 : Int) (r1 : List Bool) (r2 : Int) (r3 : Int) (w : World) (hr1 : Kd.C (Kd.int .i64) w A1 l1.length l1) (hc1 : l1.length ≤ c1) (h : astragalref12_Of.f k a0 l1 a2 = some (r1, r2, r3)) :
    Calls Try.prog 22 #[.int .i64 a0, .slice A1 l1.length c1, .int .i64 a2] w fun e w' => ∃ v0_ : Value, e = .returned (.tuple #[.agg #[v0_, .int .i64 r2], .int .i64 r3]) ∧ Kd.R Kd.bool 4 w' w.heap.size (fun _ => True) v0_ r1 ∧ Below w.heap.size w w' := by
  have hu48 := Try.underlying48
  have HR1 := Aside0.mk hr1
  have HC1 := Aside0.mk hc1
  clear hr1 hc1
  have HB := Aside0.mk (Below.refl w.heap.size w)
  have H : ((astragalref12_may.f a2).bind fun t244 => (if t244 = true then (if a0 < 0 then (astragalref12_Of.j0 k a0 l1 a2 true) else (astragalref12_Of.j0 k a0 l1 a2 (decide (a0 > 4096)))) else (astragalref12_Of.j0 k a0 l1 a2 true))) = some (r1, r2, r3) := h
  clear h
  have HC4 := Aside0.mk H
  clear H
  go_enter Try.func22, Try.ntmps22
  go_upto_region 1 with (first | ((with_reducible refine gate_dst (N := 6) rfl ?_); refine box_event ?hg (N := 6) ?hd (cs := #[.slice none 0 0, .int .i64 0]) (t := 48) ?hr ?_; (case hd => rfl); (case hg => rfl); (case hr => first | (go_simp; done) | (go_simp; rfl)); intro gb243 hg w5 hbox hb; have n0_ := Aside0.mk (below_step (by repeat (first | (with_reducible first | exact HB.out | apply below_alloc | apply pw_below_drewN | apply below_drew1) | exact HB.out)) hb); have n1_ := Aside0.mk (hbox); have n2_ := Aside0.mk ((by rw [hg]; exact (below_size (by repeat (first | (with_reducible first | exact HB.out | apply below_alloc | apply pw_below_drewN | apply below_drew1) | exact HB.out))) : w.heap.size ≤ gb243)); have n3_ := Aside0.mk ((by rw [hg]; exact (below_size (by repeat (first | (with_reducible first | exact HB.out | apply below_alloc | apply pw_below_drewN | apply below_drew1) | exact HB.out))) : w.heap.size ≤ gb243)); clear HB; have HB := n0_; have BK243 := n1_; have GW243 := n2_; have GE243 := n3_; clear n0_ n1_ n2_ n3_; clear hb hbox hg))
  (try simp only [Act.put, List.setIfInBounds_toArray, List.set_cons_zero, List.set_cons_succ])
  go_cut [20] (fun v20 wc => ∃ (kq : Nat) (x20_3 : Bool), v20 = .bool x20_3 ∧ Aside0 (astragalref12_Of.j0 kq a0 l1 a2 x20_3 = some (r1, r2, r3)) ∧ Aside0 (kq ≤ k) ∧ Aside0 (wc.heap[gb243]? = some (.cells #[(.slice none 0 0), .int .i64 0] 48 (0, 0))) ∧ Aside0 (Below w.heap.size w wc))
  case first =>
    have H := HC4.out
    clear HC4
    replace H := Option.bind_eq_some_iff.mp H
    obtain ⟨t244, A60, H⟩ := H
    replace H : (if t244 = true then (if a0 < 0 then (astragalref12_Of.j0 k a0 l1 a2 true) else (astragalref12_Of.j0 k a0 l1 a2 (decide (a0 > 4096)))) else (astragalref12_Of.j0 k a0 l1 a2 true)) = some (r1, r2, r3) := H
    have A6 := Aside0.mk A60
    clear A60
    by_cases c7 : t244 = true
    · subst c7
      have H1 : (if a0 < 0 then (astragalref12_Of.j0 k a0 l1 a2 true) else (astragalref12_Of.j0 k a0 l1 a2 (decide (a0 > 4096)))) = some (r1, r2, r3) := by rw [if_pos rfl] at H; exact H
      clear H
      have H := H1
      clear H1
      by_cases c8 : a0 < 0
      · rw [if_pos c8] at H
        have c8b0 : decide (a0 < 0) = true := decide_eq_true c8
        clear c8
        (first | rw [c8b0] | (simp only [i64_w, i32_w]; rw [c8b0]) | skip)
        have H' := Aside0.mk H
        clear H
        go_wp2_with (first | ((with_reducible refine gate_callee (f := 44) rfl ?_); refine goesL_ (some 11) rfl rfl Try.func44 (by kernel_rfl) rfl #[.int .i64 a2] rfl (by (try simp only [List.map_toArray, List.map_cons, List.map_nil]); first | done | rfl | (simp only [List.length_drop, List.length_take]; rfl)) ?_; (with_reducible refine (astragalref12_may.calls a2 true _ A6.out).mono ?_); rintro e w' ⟨rfl, ⟨nd, rfl⟩⟩; refine ⟨_, rfl, ?_⟩))
        go_meet
        case rel => exact ⟨_, (true), (by first | rfl | (simp; done) | (simp [*]; done)), H', ⟨by first | omega | exact Nat.le_refl _⟩, ⟨by (with_reducible repeat (first | refine blk_drewN ?_ _ | refine blk_drew ?_ | refine blk_alloc ?_ _)); exact BK243.out⟩, ⟨by repeat (first | (with_reducible first | exact HB.out | apply below_alloc | apply pw_below_drewN | apply below_drew1 | refine below_set ?_ GE243.out) | exact HB.out)⟩⟩
      · rw [if_neg c8] at H
        have c8b0 : decide (a0 < 0) = false := decide_eq_false c8
        clear c8
        (first | rw [c8b0] | (simp only [i64_w, i32_w]; rw [c8b0]) | skip)
        have H' := Aside0.mk H
        clear H
        go_wp2_with (first | ((with_reducible refine gate_callee (f := 44) rfl ?_); refine goesL_ (some 11) rfl rfl Try.func44 (by kernel_rfl) rfl #[.int .i64 a2] rfl (by (try simp only [List.map_toArray, List.map_cons, List.map_nil]); first | done | rfl | (simp only [List.length_drop, List.length_take]; rfl)) ?_; (with_reducible refine (astragalref12_may.calls a2 true _ A6.out).mono ?_); rintro e w' ⟨rfl, ⟨nd, rfl⟩⟩; refine ⟨_, rfl, ?_⟩))
        go_meet
        case rel => exact ⟨_, (decide (a0 > 4096)), (by first | rfl | (simp; done) | (simp [*]; done)), H', ⟨by first | omega | exact Nat.le_refl _⟩, ⟨by (with_reducible repeat (first | refine blk_drewN ?_ _ | refine blk_drew ?_ | refine blk_alloc ?_ _)); exact BK243.out⟩, ⟨by repeat (first | (with_reducible first | exact HB.out | apply below_alloc | apply pw_below_drewN | apply below_drew1 | refine below_set ?_ GE243.out) | exact HB.out)⟩⟩
    · replace c7 := Bool.eq_false_iff.mpr c7
      subst c7
      have H1 : (astragalref12_Of.j0 k a0 l1 a2 true) = some (r1, r2, r3) := by rw [if_neg (show ¬ (false = true) by decide)] at H; exact H
      clear H
      have H := H1
      clear H1
      have H' := Aside0.mk H
      clear H
      go_wp2_with (first | ((with_reducible refine gate_callee (f := 44) rfl ?_); refine goesL_ (some 11) rfl rfl Try.func44 (by kernel_rfl) rfl #[.int .i64 a2] rfl (by (try simp only [List.map_toArray, List.map_cons, List.map_nil]); first | done | rfl | (simp only [List.length_drop, List.length_take]; rfl)) ?_; (with_reducible refine (astragalref12_may.calls a2 false _ A6.out).mono ?_); rintro e w' ⟨rfl, ⟨nd, rfl⟩⟩; refine ⟨_, rfl, ?_⟩))
      go_meet
      case rel => exact ⟨_, (true), (by first | rfl | (simp; done) | (simp [*]; done)), H', ⟨by first | omega | exact Nat.le_refl _⟩, ⟨by (with_reducible repeat (first | refine blk_drewN ?_ _ | refine blk_drew ?_ | refine blk_alloc ?_ _)); exact BK243.out⟩, ⟨by repeat (first | (with_reducible first | exact HB.out | apply below_alloc | apply pw_below_drewN | apply below_drew1 | refine below_set ?_ GE243.out) | exact HB.out)⟩⟩
  case rest =>
    clear HC4
    try clear c1
    try clear c2
    try clear p2
    try clear c4
    try clear c7
    try clear c8
    try clear c8b0
    obtain ⟨kq, x20_3, rfl, HA, HJ3, BK243, HB⟩ := hcut
    cases kq with
    | zero => exact absurd HA.out (by simp [astragalref12_Of.j0])
    | succ kj3 =>
      have H := HA.out
      clear HA
      simp only [astragalref12_Of.j0] at H
      by_cases c9 : x20_3 = true
      · subst c9
        have H1 : (some (([] : List Bool), 0, 1)) = some (r1, r2, r3) := by rw [if_pos rfl] at H; exact H
        clear H
        have H := H1
        clear H1
        simp only [Option.some.injEq, Prod.mk.injEq] at H
        obtain ⟨rfl, rfl, rfl⟩ := H
        have hcz10_0 : wc.cell? ⟨gb243, 0, none⟩ = some (.slice none 0 0) := (blk_cell BK243.out 0).trans rfl
        have hcz10_1 : wc.cell? ⟨gb243, 1, none⟩ = some (.int .i64 0) := (blk_cell BK243.out 1).trans rfl
        have hfz10_0 := blk_frozen BK243.out 0
        have hfz10_1 := blk_frozen BK243.out 1
        go_wp2
        refine bodyPost_ret (results_ct rfl _ _ gb243 48 #[.slice none 0 0, .int .i64 0] (0, 0) _ rfl (by (with_reducible repeat (first | refine blk_drewN ?_ _ | refine blk_drew ?_ | refine blk_alloc ?_ _)); refine blk_put (cs := #[.slice none 0 0, .int .i64 0]) ?_ 1 _ rfl; (with_reducible repeat (first | refine blk_drewN ?_ _ | refine blk_drew ?_ | refine blk_alloc ?_ _)); refine blk_put (cs := #[.slice none 0 0, .int .i64 0]) ?_ 0 _ rfl; (with_reducible repeat (first | refine blk_drewN ?_ _ | refine blk_drew ?_ | refine blk_alloc ?_ _)); exact BK243.out) Try.underlying48 rfl (by kernel_rfl)) rfl ?_
        exact ⟨_, by first | rfl | (simp [errW_none, errW_some] <;> rfl) | (simp [*, errW_none, errW_some] <;> rfl), by first | exact Kd.R_nil _ _ _ _ _ | exact Kd.N_nil _ _ _ _ _ | exact Kd.V_nil _ _ _ _ _ | exact Kd.Q_nil _ _ _ _ _ | exact Kd.S_nil _ _ _ _ _, by repeat (first | (with_reducible first | exact HB.out | apply below_alloc | apply pw_below_drewN | apply below_drew1 | refine below_set ?_ GE243.out) | exact HB.out)⟩
      · replace c9 := Bool.eq_false_iff.mpr c9
        subst c9
        have H1 : (if 0 ≤ a0 then (if (a0 : Int).toNat ≤ 281474976710656 then (astragalref12_Of.l0 kj3 a0 l1 0 (List.replicate (a0 : Int).toNat false) a2) else (none)) else (none)) = some (r1, r2, r3) := by rw [if_neg (show ¬ (false = true) by decide)] at H; exact H
        clear H
        have H := H1
        clear H1
        by_cases c11 : 0 ≤ a0
        · rw [if_pos c11] at H
          have c11b0 := eq_true c11
          have c11b1 : decide (0 ≤ a0) = true := decide_eq_true c11
          clear c11
          by_cases c12 : (a0 : Int).toNat ≤ 281474976710656
          · rw [if_pos c12] at H
            have c12b0 := eq_true c12
            have c12b1 : decide ((a0 : Int).toNat ≤ 281474976710656) = true := decide_eq_true c12
            clear c12
            obtain ⟨y245, hy245⟩ : ∃ y_ : List Bool, y_ = (List.replicate (a0 : Int).toNat false) := ⟨_, rfl⟩
            replace H : (astragalref12_Of.l0 kj3 a0 l1 0 y245 a2) = some (r1, r2, r3) := by first | (rw [hy245]; with_reducible exact H) | (have H2_ := (Option.bind_some _ _).symm.trans H; rw [hy245]; with_reducible exact H2_) | (have H2_ := (Option.bind_some _ _).symm.trans H; with_reducible exact H2_) | with_reducible exact H | (rw [hy245]; exact H) | exact H
            have Ny245 := Aside0.mk hy245
            clear hy245
            have H' := Aside0.mk H
            clear H
            go_wp2_with (first | ((with_reducible refine gate_dst (N := 23) rfl ?_); refine Kd.R_make Kd.bool _ 4 rfl (N := 23) rfl 46 _ _ rfl a0 rfl rfl Try.underlying46 (.bool false) 1 info4 rfl (by decide) (by omega) false (ok := fun _ => True) (okp := fun _ => True) rfl (fun _ hk => hk) trivial (of_decide_eq_true (by first | (with_reducible assumption) | assumption)) (Nat.le_trans (Nat.mul_le_mul_right _ (of_decide_eq_true (by first | (with_reducible assumption) | assumption) : a0.toNat ≤ 281474976710656)) (by omega)) (Below.refl _ _) (Nat.le_refl _) ?_; intro v246 w13 ho14 hb hg_ hnew_; clear hg_ hnew_; (first | rw [← Ny245.out] at ho14 | (simp only [Int.reduceToNat] at ho14; rw [← Ny245.out] at ho14)); have n0_ := Aside0.mk (Kd.R_lower ho14 (below_size (by repeat (first | (with_reducible first | exact HB.out | apply below_alloc | apply pw_below_drewN | apply below_drew1 | refine below_set ?_ GE243.out) | exact HB.out)))); have n1_ := Aside0.mk (blk_below (g := gb243) (o := .cells #[.slice none 0 0, .int .i64 0] 48 (0, 0)) (by (with_reducible repeat (first | refine blk_drewN ?_ _ | refine blk_drew ?_ | refine blk_alloc ?_ _)); exact BK243.out) hb); have n2_ := Aside0.mk (below_step (by repeat (first | (with_reducible first | exact HB.out | apply below_alloc | apply pw_below_drewN | apply below_drew1 | refine below_set ?_ GE243.out) | exact HB.out)) hb); clear BK243; clear HB; have HO247 := n0_; have BK243 := n1_; have HB := n2_; clear n0_ n1_ n2_; clear hb ho14; obtain ⟨Ao15, co15, eo15⟩ := Kd.R_slice HO247.out; subst eo15) | ((with_reducible refine gate_dst (N := 8) rfl ?_); refine box_event ?hg (N := 8) ?hd (cs := #[.slice none 0 0, .int .i64 0]) (t := 48) ?hr ?_; (case hd => rfl); (case hg => rfl); (case hr => first | (go_simp; done) | (go_simp; rfl)); intro gb248 hg w16 hbox hb; have n0_ := Aside0.mk (Kd.R_below (by (with_reducible repeat (first | apply Kd.R_alloc | apply Kd.R_drewN | apply Kd.R_drew)); exact HO247.out) hb); have n1_ := Aside0.mk (blk_below (g := gb243) (o := .cells #[.slice none 0 0, .int .i64 0] 48 (0, 0)) (by (with_reducible repeat (first | refine blk_drewN ?_ _ | refine blk_drew ?_ | refine blk_alloc ?_ _)); exact BK243.out) hb); have n2_ := Aside0.mk (below_step (by repeat (first | (with_reducible first | exact HB.out | apply below_alloc | apply pw_below_drewN | apply below_drew1 | refine below_set ?_ GE243.out) | exact HB.out)) hb); have n3_ := Aside0.mk (hbox); have n4_ := Aside0.mk ((by rw [hg]; exact (below_size (by repeat (first | (with_reducible first | exact HB.out | apply below_alloc | apply pw_below_drewN | apply below_drew1 | refine below_set ?_ GE243.out) | exact HB.out))) : w.heap.size ≤ gb248)); have n5_ := Aside0.mk ((by rw [hg]; exact (below_size (by repeat (first | (with_reducible first | exact HB.out | apply below_alloc | apply pw_below_drewN | apply below_drew1 | refine below_set ?_ GE243.out) | exact HB.out))) : w.heap.size ≤ gb248)); have n6_ := Aside0.mk ((by rw [hg]; exact Nat.ne_of_lt (blk_lt (g := gb243) (o := .cells #[.slice none 0 0, .int .i64 0] 48 (0, 0)) (by (with_reducible repeat (first | refine blk_drewN ?_ _ | refine blk_drew ?_ | refine blk_alloc ?_ _)); exact BK243.out)) : gb243 ≠ gb248)); have n7_ := Aside0.mk ((by rw [hg]; exact Nat.ne_of_gt (blk_lt (g := gb243) (o := .cells #[.slice none 0 0, .int .i64 0] 48 (0, 0)) (by (with_reducible repeat (first | refine blk_drewN ?_ _ | refine blk_drew ?_ | refine blk_alloc ?_ _)); exact BK243.out)) : gb248 ≠ gb243)); clear HO247; clear BK243; clear HB; have HO247 := n0_; have BK243 := n1_; have HB := n2_; have BK248 := n3_; have GW248 := n4_; have GE248 := n5_; have NB243_248 := n6_; have NB248_243 := n7_; clear n0_ n1_ n2_ n3_ n4_ n5_ n6_ n7_; clear hb hbox hg; have hnb17 := NB248_243.out; have hnc17 := NB243_248.out; have hcz18_0 : w16.cell? ⟨gb248, 0, none⟩ = some (.slice none 0 0) := (blk_cell BK248.out 0).trans rfl; have hcz18_1 : w16.cell? ⟨gb248, 1, none⟩ = some (.int .i64 0) := (blk_cell BK248.out 1).trans rfl; have hfz18_0 := blk_frozen BK248.out 0; have hfz18_1 := blk_frozen BK248.out 1))
            go_loopg [9] kj3 (fun kq v9 w' => ∃ (x9_2 : Int) (x244001_2 : Int) (x249000_2 : List Bool) (u249000 : Value), v9 = .int .i64 x9_2 ∧ Aside0 (astragalref12_Of.l0 kq a0 l1 x9_2 x249000_2 a2 = some (r1, r2, r3)) ∧ Aside0 (kq ≤ kj3) ∧ Aside0 (Kd.R Kd.bool 4 w' w.heap.size (fun _ => True) u249000 x249000_2) ∧ Aside0 (w'.heap[gb243]? = some (.cells #[(.slice none 0 0), .int .i64 x244001_2] 48 (0, 0))) ∧ Aside0 (w'.heap[gb248]? = some (.cells #[u249000, .int .i64 a2] 48 (0, 0))) ∧ Aside0 (Below w.heap.size w w'))
            case atStart => exact ⟨(0), (0), (y245), (.slice Ao15 y245.length co15), (by first | rfl | (simp; done) | (simp [*]; done)), H', ⟨Nat.le_refl _⟩, ⟨by (with_reducible repeat (first | apply Kd.R_alloc | apply Kd.R_drewN | apply Kd.R_drew)); exact Kd.R_mono (Kd.R_far (p := ⟨gb248, 1, none⟩) (Kd.R_far (p := ⟨gb248, 0, none⟩) (Kd.R_types HO247.out BK248.out (by decide)) (fun _ hk => hk.2) (.slice Ao15 y245.length co15)) (fun _ hk => hk.2) (.int .i64 a2)) (fun _ hk => trivial)⟩, ⟨by (with_reducible repeat (first | refine blk_drewN ?_ _ | refine blk_drew ?_ | refine blk_alloc ?_ _)); refine blk_far ?_ NB243_248.out _; (with_reducible repeat (first | refine blk_drewN ?_ _ | refine blk_drew ?_ | refine blk_alloc ?_ _)); refine blk_far ?_ NB243_248.out _; (with_reducible repeat (first | refine blk_drewN ?_ _ | refine blk_drew ?_ | refine blk_alloc ?_ _)); exact BK243.out⟩, ⟨by (with_reducible repeat (first | refine blk_drewN ?_ _ | refine blk_drew ?_ | refine blk_alloc ?_ _)); refine blk_put (cs := #[.slice Ao15 y245.length co15, .int .i64 0]) ?_ 1 _ rfl; (with_reducible repeat (first | refine blk_drewN ?_ _ | refine blk_drew ?_ | refine blk_alloc ?_ _)); refine blk_put (cs := #[.slice none 0 0, .int .i64 0]) ?_ 0 _ rfl; (with_reducible repeat (first | refine blk_drewN ?_ _ | refine blk_drew ?_ | refine blk_alloc ?_ _)); exact BK248.out⟩, ⟨by repeat (first | (with_reducible first | exact HB.out | apply below_alloc | apply pw_below_drewN | apply below_drew1 | refine below_set ?_ GE243.out | refine below_set ?_ GE248.out) | exact HB.out)⟩⟩
            case round =>
              clear H'
              try clear c1
              try clear c2
              try clear p2
              try clear c4
              try clear c7
              try clear c8
              try clear c8b0
              try clear c9
              try clear c11
              try clear c11b0
              try clear c11b1
              try clear c12
              try clear c12b0
              try clear c12b1
              try clear c17
              try clear hcz10_0
              try clear hcz10_1
              try clear hcz18_0
              try clear hcz18_1
              try clear hfz10_0
              try clear hfz10_1
              try clear hfz18_0
              try clear hfz18_1
              try clear p2
              obtain ⟨x9_2, x244001_2, x249000_2, u249000, rfl, HA, HK2, HO_249000, BK243, BK248, HB⟩ := hrel
              cases gk with
              | zero => exact absurd HA.out (by simp [astragalref12_Of.l0])
              | succ k2 =>
                have H := HA.out
                clear HA
                simp only [astragalref12_Of.l0] at H
                by_cases c19 : x9_2 < (l1.length : Int)
                · rw [if_pos c19] at H
                  have c19b0 : decide (x9_2 < (l1.length : Int)) = true := decide_eq_true c19
                  clear c19
                  by_cases c20 : 0 ≤ x9_2
                  · rw [if_pos c20] at H
                    have c20b0 : decide (0 ≤ x9_2) = true := decide_eq_true c20
                    clear c20
                    by_cases c21 : (rd l1 x9_2) < 0
                    · rw [if_pos c21] at H
                      have c21b0 : decide ((rd l1 x9_2) < 0) = true := decide_eq_true c21
                      clear c21
                      simp only [Option.some.injEq, Prod.mk.injEq] at H
                      obtain ⟨rfl, rfl, rfl⟩ := H
                      have p249 : 0 ≤ (x9_2 : Int) := of_decide_eq_true (by first | (with_reducible assumption) | assumption)
                      have q249 : x9_2 < (l1.length : Int) := of_decide_eq_true (by first | (with_reducible assumption) | assumption)
                      obtain ⟨ad249, e249, hx249_0⟩ := Kd.at_int HR1.out x9_2 p249 q249
                      cases e249
                      replace hx249_0 := (HB.out.cell (World.block_lt_of_cell? w _ hx249_0)).trans hx249_0
                      replace p249 := eq_true p249
                      replace q249 := eq_true q249
                      have hnb22 := NB243_248.out
                      have hnc22 := NB248_243.out
                      have hcz23_0 : wr.cell? ⟨gb243, 0, none⟩ = some (.slice none 0 0) := (blk_cell BK243.out 0).trans rfl
                      have hcz23_1 : wr.cell? ⟨gb243, 1, none⟩ = some (.int .i64 x244001_2) := (blk_cell BK243.out 1).trans rfl
                      have hfz23_0 := blk_frozen BK243.out 0
                      have hfz23_1 := blk_frozen BK243.out 1
                      go_wp2
                      refine bodyPost_ret (results_ct rfl _ _ gb243 48 #[.slice none 0 0, .int .i64 0] (0, 0) _ rfl (by (with_reducible repeat (first | refine blk_drewN ?_ _ | refine blk_drew ?_ | refine blk_alloc ?_ _)); refine blk_put (cs := #[.slice none 0 0, .int .i64 x244001_2]) ?_ 1 _ rfl; (with_reducible repeat (first | refine blk_drewN ?_ _ | refine blk_drew ?_ | refine blk_alloc ?_ _)); refine blk_put (cs := #[.slice none 0 0, .int .i64 x244001_2]) ?_ 0 _ rfl; (with_reducible repeat (first | refine blk_drewN ?_ _ | refine blk_drew ?_ | refine blk_alloc ?_ _)); exact BK243.out) Try.underlying48 rfl (by kernel_rfl)) rfl ?_
                      exact ⟨_, by first | rfl | (simp [errW_none, errW_some] <;> rfl) | (simp [*, errW_none, errW_some] <;> rfl), by first | exact Kd.R_nil _ _ _ _ _ | exact Kd.N_nil _ _ _ _ _ | exact Kd.V_nil _ _ _ _ _ | exact Kd.Q_nil _ _ _ _ _ | exact Kd.S_nil _ _ _ _ _, by repeat (first | (with_reducible first | exact HB.out | apply below_alloc | apply pw_below_drewN | apply below_drew1 | refine below_set ?_ GE243.out | refine below_set ?_ GE248.out) | exact HB.out)⟩
                    · rw [if_neg c21] at H
                      have c21b0 : decide ((rd l1 x9_2) < 0) = false := decide_eq_false c21
                      clear c21
                      by_cases c24 : (rd l1 x9_2) ≥ a0
                      · rw [if_pos c24] at H
                        have c24b0 : decide (a0 ≤ (rd l1 x9_2)) = true := decide_eq_true c24
                        clear c24
                        simp only [Option.some.injEq, Prod.mk.injEq] at H
                        obtain ⟨rfl, rfl, rfl⟩ := H
                        have p249 : 0 ≤ (x9_2 : Int) := of_decide_eq_true (by first | (with_reducible assumption) | assumption)
                        have q249 : x9_2 < (l1.length : Int) := of_decide_eq_true (by first | (with_reducible assumption) | assumption)
                        obtain ⟨ad249, e249, hx249_0⟩ := Kd.at_int HR1.out x9_2 p249 q249
                        cases e249
                        replace hx249_0 := (HB.out.cell (World.block_lt_of_cell? w _ hx249_0)).trans hx249_0
                        replace p249 := eq_true p249
                        replace q249 := eq_true q249
                        have p250 : 0 ≤ (x9_2 : Int) := of_decide_eq_true (by first | (with_reducible assumption) | assumption)
                        have q250 : x9_2 < (l1.length : Int) := of_decide_eq_true (by first | (with_reducible assumption) | assumption)
                        obtain ⟨ad250, e250, hx250_0⟩ := Kd.at_int HR1.out x9_2 p250 q250
                        obtain rfl : ad249 = ad250 := (by injection e250)
                        replace hx250_0 := (HB.out.cell (World.block_lt_of_cell? w _ hx250_0)).trans hx250_0
                        replace p250 := eq_true p250
                        replace q250 := eq_true q250
                        have hnb25 := NB243_248.out
                        have hnc25 := NB248_243.out
                        have hcz26_0 : wr.cell? ⟨gb243, 0, none⟩ = some (.slice none 0 0) := (blk_cell BK243.out 0).trans rfl
                        have hcz26_1 : wr.cell? ⟨gb243, 1, none⟩ = some (.int .i64 x244001_2) := (blk_cell BK243.out 1).trans rfl
                        have hfz26_0 := blk_frozen BK243.out 0
                        have hfz26_1 := blk_frozen BK243.out 1
                        go_wp2
                        refine bodyPost_ret (results_ct rfl _ _ gb243 48 #[.slice none 0 0, .int .i64 0] (0, 0) _ rfl (by (with_reducible repeat (first | refine blk_drewN ?_ _ | refine blk_drew ?_ | refine blk_alloc ?_ _)); refine blk_put (cs := #[.slice none 0 0, .int .i64 x244001_2]) ?_ 1 _ rfl; (with_reducible repeat (first | refine blk_drewN ?_ _ | refine blk_drew ?_ | refine blk_alloc ?_ _)); refine blk_put (cs := #[.slice none 0 0, .int .i64 x244001_2]) ?_ 0 _ rfl; (with_reducible repeat (first | refine blk_drewN ?_ _ | refine blk_drew ?_ | refine blk_alloc ?_ _)); exact BK243.out) Try.underlying48 rfl (by kernel_rfl)) rfl ?_
                        exact ⟨_, by first | rfl | (simp [errW_none, errW_some] <;> rfl) | (simp [*, errW_none, errW_some] <;> rfl), by first | exact Kd.R_nil _ _ _ _ _ | exact Kd.N_nil _ _ _ _ _ | exact Kd.V_nil _ _ _ _ _ | exact Kd.Q_nil _ _ _ _ _ | exact Kd.S_nil _ _ _ _ _, by repeat (first | (with_reducible first | exact HB.out | apply below_alloc | apply pw_below_drewN | apply below_drew1 | refine below_set ?_ GE243.out | refine below_set ?_ GE248.out) | exact HB.out)⟩
                      · rw [if_neg c24] at H
                        have c24b0 : decide (a0 ≤ (rd l1 x9_2)) = false := decide_eq_false c24
                        clear c24
                        by_cases c27 : 0 ≤ (rd l1 x9_2)
                        · rw [if_pos c27] at H
                          have c27b0 : decide (0 ≤ (rd l1 x9_2)) = true := decide_eq_true c27
                          clear c27
                          by_cases c28 : (rd l1 x9_2) < (x249000_2.length : Int)
                          · rw [if_pos c28] at H
                            have c28b0 : decide ((rd l1 x9_2) < (x249000_2.length : Int)) = true := decide_eq_true c28
                            clear c28
                            obtain ⟨y252, hy252⟩ : ∃ y_ : List Bool, y_ = (x249000_2.set ((rd l1 x9_2) : Int).toNat true) := ⟨_, rfl⟩
                            replace H : (astragalref12_Of.l0 k2 a0 l1 (wrap64 (x9_2 + 1)) y252 a2) = some (r1, r2, r3) := by first | (rw [hy252]; with_reducible exact H) | (have H2_ := (Option.bind_some _ _).symm.trans H; rw [hy252]; with_reducible exact H2_) | (have H2_ := (Option.bind_some _ _).symm.trans H; with_reducible exact H2_) | with_reducible exact H | (rw [hy252]; exact H) | exact H
                            have Ny252 := Aside0.mk hy252
                            clear hy252
                            have H' := Aside0.mk H
                            clear H
                            have p249 : 0 ≤ (x9_2 : Int) := of_decide_eq_true (by first | (with_reducible assumption) | assumption)
                            have q249 : x9_2 < (l1.length : Int) := of_decide_eq_true (by first | (with_reducible assumption) | assumption)
                            obtain ⟨ad249, e249, hx249_0⟩ := Kd.at_int HR1.out x9_2 p249 q249
                            cases e249
                            replace hx249_0 := (HB.out.cell (World.block_lt_of_cell? w _ hx249_0)).trans hx249_0
                            replace p249 := eq_true p249
                            replace q249 := eq_true q249
                            have p250 : 0 ≤ (x9_2 : Int) := of_decide_eq_true (by first | (with_reducible assumption) | assumption)
                            have q250 : x9_2 < (l1.length : Int) := of_decide_eq_true (by first | (with_reducible assumption) | assumption)
                            obtain ⟨ad250, e250, hx250_0⟩ := Kd.at_int HR1.out x9_2 p250 q250
                            obtain rfl : ad249 = ad250 := (by injection e250)
                            replace hx250_0 := (HB.out.cell (World.block_lt_of_cell? w _ hx250_0)).trans hx250_0
                            replace p250 := eq_true p250
                            replace q250 := eq_true q250
                            try go_wp2
                            have n0_ := Aside0.mk (Kd.R_drew HO_249000.out)
                            have n1_ := Aside0.mk (blk_drew BK243.out)
                            have n2_ := Aside0.mk (blk_drew BK248.out)
                            have n3_ := Aside0.mk (below_drew1 HB.out)
                            clear HO_249000
                            clear BK243
                            clear BK248
                            clear HB
                            have HO_249000 := n0_
                            have BK243 := n1_
                            have BK248 := n2_
                            have HB := n3_
                            clear n0_ n1_ n2_ n3_
                            have p251 : 0 ≤ (x9_2 : Int) := of_decide_eq_true (by first | (with_reducible assumption) | assumption)
                            have q251 : x9_2 < (l1.length : Int) := of_decide_eq_true (by first | (with_reducible assumption) | assumption)
                            obtain ⟨ad251, e251, hx251_0⟩ := Kd.at_int HR1.out x9_2 p251 q251
                            have hw251_0 := hx251_0
                            obtain rfl : ad249 = ad251 := (by injection e251)
                            replace hx251_0 := (HB.out.cell (World.block_lt_of_cell? w _ hx251_0)).trans hx251_0
                            replace p251 := eq_true p251
                            replace q251 := eq_true q251
                            have p29 : 0 ≤ ((rd l1 x9_2) : Int) := of_decide_eq_true (by first | (with_reducible assumption) | assumption)
                            have q29 : ((rd l1 x9_2) : Int) < ((x249000_2.length : Int) : Int) := of_decide_eq_true (by first | (with_reducible assumption) | assumption)
                            obtain ⟨go29, co29, eo29, gb29, gl29, cl29, HG29⟩ := Kd.R_form HO_249000.out (by omega)
                            (first | cases eo29 | (injection eo29 with ea_ en_ ec_; (first | subst ea_ | (injection ea_ with ea_; subst ea_)); subst ec_; clear en_))
                            have GB29 := Aside0.mk gb29
                            have GG29 := Aside0.mk HG29
                            clear gb29 gl29 HG29
                            obtain ⟨hx29_0, hf29_0⟩ := Kd.R_celln false HO_249000.out ((rd l1 x9_2) : Int) p29 q29
                            replace p29 := eq_true p29
                            replace q29 := eq_true q29
                            have HP31 := Kd.R_putn HO_249000.out ((rd l1 x9_2) : Int) true
                            rw [← Ny252.out] at HP31
                            have HQ31 := Aside0.mk HP31
                            clear HP31
                            refine start_ (n := 8) (S := fun w' => w'.cell? ⟨gb248, 0, none⟩ = some (.slice (some ⟨go29, 0, none⟩) x249000_2.length co29) ∧ w'.cell? ⟨gb248, 1, none⟩ = some (.int .i64 a2) ∧ w'.cell? (ad249.add (x9_2).toNat) = some (.int .i64 (rd l1 x9_2))) (ds := [7]) #[false, false, false, false, false, false, false, false] (by kernel_rfl) rfl rfl ⟨(blk_cell BK248.out 0).trans rfl, (blk_cell BK248.out 1).trans rfl, ((HB.out.cell (World.block_lt_of_cell? w _ hw251_0)).trans hw251_0)⟩ (fun hHeld => ?_); refine with_tabW astragalref12_Of.tab9 astragalref12_Of.bits9 (fun HT_ HW_ => ?_)
                            generalize wr.drew = w30 at HO_249000 BK243 BK248 HB GG29 HQ31 hf29_0 hx251_0 hx29_0 hHeld ⊢
                            refine pure_ (i := 0) (N := some 46) (v := ?_) (a' := ?_) #[true, false, false, false, false, false, false, false] rfl rfl (any_of HT_.out (by kernel_rfl)) (fun _ _ _ h => h) (Or.inl ⟨by rfl, ?_⟩) ?_ ?_
                            rotate_left
                            · intro w'
                              go_simp
                              with_reducible rfl
                            rotate_left
                            · simp only [Act.put, List.setIfInBounds_toArray, List.set_cons_zero, List.set_cons_succ, i64_w, i32_w]
                              rfl
                            refine pure_ (i := 2) (N := some 48) (v := ?_) (a' := ?_) #[true, false, true, false, false, false, false, false] rfl rfl (any_of HT_.out (by kernel_rfl)) (fun _ _ _ h => h) (Or.inl ⟨by rfl, ?_⟩) ?_ ?_
                            rotate_left
                            · intro w'
                              go_simp
                              with_reducible rfl
                            rotate_left
                            · simp only [Act.put, List.setIfInBounds_toArray, List.set_cons_zero, List.set_cons_succ, i64_w, i32_w]
                              rfl
                            refine pure_ (i := 3) (N := some 49) (v := ?_) (a' := ?_) #[true, false, true, true, false, false, false, false] rfl rfl (any_of HT_.out (by kernel_rfl)) (fun _ _ _ h => h) (Or.inl ⟨by rfl, ?_⟩) ?_ ?_
                            rotate_left
                            · intro w'
                              go_simp
                              with_reducible rfl
                            rotate_left
                            · simp only [Act.put, List.setIfInBounds_toArray, List.set_cons_zero, List.set_cons_succ, i64_w, i32_w]
                              rfl
                            refine pure_ (i := 4) (N := some 50) (v := ?_) (a' := ?_) #[true, false, true, true, true, false, false, false] rfl rfl (any_of HT_.out (by kernel_rfl)) (fun _ _ _ h => h) (Or.inl ⟨by rfl, ?_⟩) ?_ ?_
                            rotate_left
                            · intro w'
                              go_simp
                              with_reducible rfl
                            rotate_left
                            · simp only [Act.put, List.setIfInBounds_toArray, List.set_cons_zero, List.set_cons_succ, i64_w, i32_w]
                              rfl
                            refine take_ (i := 1) (N := some 47) (v := ?_) (a' := ?_) #[true, true, true, true, true, false, false, false] rfl rfl (take_ofW HT_.out HW_.out (by kernel_rfl)) (fun _ _ _ h => h) (Or.inl ⟨by rfl, ?_⟩) hHeld ?_ ?_
                            rotate_left
                            · rintro w' ⟨s0, s1, s2⟩
                              go_simp
                              with_reducible rfl
                            rotate_left
                            · simp only [Act.put, List.setIfInBounds_toArray, List.set_cons_zero, List.set_cons_succ, i64_w, i32_w]
                              rfl
                            refine take_ (i := 5) (N := some 51) (v := ?_) (a' := ?_) #[true, true, true, true, true, true, false, false] rfl rfl (take_ofW HT_.out HW_.out (by kernel_rfl)) (fun _ _ _ h => h) (Or.inl ⟨by rfl, ?_⟩) hHeld ?_ ?_
                            rotate_left
                            · rintro w' ⟨s0, s1, s2⟩
                              go_simp
                              with_reducible rfl
                            rotate_left
                            · simp only [Act.put, List.setIfInBounds_toArray, List.set_cons_zero, List.set_cons_succ, i64_w, i32_w]
                              rfl
                            refine pure_ (i := 6) (N := some 52) (v := ?_) (a' := ?_) #[true, true, true, true, true, true, true, false] rfl rfl (any_of HT_.out (by kernel_rfl)) (fun _ _ _ h => h) (Or.inl ⟨by rfl, ?_⟩) ?_ ?_
                            rotate_left
                            · intro w'
                              go_simp
                              with_reducible rfl
                            rotate_left
                            · simp only [Act.put, List.setIfInBounds_toArray, List.set_cons_zero, List.set_cons_succ, i64_w, i32_w]
                              rfl
                            refine last_ (i := 7) (N := none) #[true, true, true, true, true, true, true, true] rfl rfl (one_of HT_.out (by kernel_rfl)) (by decide) (fun K hK => ?_)
                            refine skip_ (w1 := ?_) (by rfl) rfl ?_ ?_
                            rotate_left
                            · go_simp
                              rfl
                            refine hK.out _ _ ?_
                            clear hK K
                            refine done_ (done_of HT_.out (by kernel_rfl)) ?_
                            try go_wp2
                            go_roundg k2
                            case measure => have := HJ3.out; have := HK2.out; omega
                            case rel => exact ⟨(wrap64 (x9_2 + 1)), (x244001_2), (y252), (.slice (some ⟨go29, 0, none⟩) x249000_2.length co29), (by first | rfl | (simp; done) | (simp [*]; done)), H', ⟨by have := HJ3.out; have := HK2.out; omega⟩, ⟨by (with_reducible repeat (first | apply Kd.R_alloc | apply Kd.R_drewN | apply Kd.R_drew)); exact HQ31.out⟩, ⟨by (with_reducible repeat (first | refine blk_drewN ?_ _ | refine blk_drew ?_ | refine blk_alloc ?_ _)); refine blk_far ?_ (by have h_ := Kd.R_ne HO_249000.out BK243.out (by decide); intro e_; exact h_ (by rw [e_]; rfl)) _; (with_reducible repeat (first | refine blk_drewN ?_ _ | refine blk_drew ?_ | refine blk_alloc ?_ _)); exact BK243.out⟩, ⟨by (with_reducible repeat (first | refine blk_drewN ?_ _ | refine blk_drew ?_ | refine blk_alloc ?_ _)); refine blk_far ?_ (by have h_ := Kd.R_ne HO_249000.out BK248.out (by decide); intro e_; exact h_ (by rw [e_]; rfl)) _; (with_reducible repeat (first | refine blk_drewN ?_ _ | refine blk_drew ?_ | refine blk_alloc ?_ _)); exact BK248.out⟩, ⟨by repeat (first | (with_reducible first | exact HB.out | apply below_alloc | apply pw_below_drewN | apply below_drew1 | refine below_set ?_ GB29.out | refine below_set ?_ GE243.out | refine below_set ?_ GE248.out) | exact HB.out)⟩⟩
                          · rw [if_neg c28] at H
                            exact absurd H (by simp)
                        · rw [if_neg c27] at H
                          exact absurd H (by simp)
                  · rw [if_neg c20] at H
                    exact absurd H (by simp)
                · rw [if_neg c19] at H
                  have c19b0 : decide (x9_2 < (l1.length : Int)) = false := decide_eq_false c19
                  clear c19
                  simp only [Option.some.injEq, Prod.mk.injEq] at H
                  obtain ⟨rfl, rfl, rfl⟩ := H
                  have hnb32 := NB248_243.out
                  have hnc32 := NB243_248.out
                  have hcz33_0 : wr.cell? ⟨gb248, 0, none⟩ = some (u249000) := (blk_cell BK248.out 0).trans rfl
                  have hcz33_1 : wr.cell? ⟨gb248, 1, none⟩ = some (.int .i64 a2) := (blk_cell BK248.out 1).trans rfl
                  have hfz33_0 := blk_frozen BK248.out 0
                  have hfz33_1 := blk_frozen BK248.out 1
                  obtain ⟨Ao34, co34, eo34⟩ := Kd.R_slice HO_249000.out
                  subst eo34
                  have hcz35_0 : wr.cell? ⟨gb243, 0, none⟩ = some (.slice none 0 0) := (blk_cell BK243.out 0).trans rfl
                  have hcz35_1 : wr.cell? ⟨gb243, 1, none⟩ = some (.int .i64 x244001_2) := (blk_cell BK243.out 1).trans rfl
                  have hfz35_0 := blk_frozen BK243.out 0
                  have hfz35_1 := blk_frozen BK243.out 1
                  go_wp2
                  refine bodyPost_ret (results_ct rfl _ _ gb243 48 #[.slice Ao34 x249000_2.length co34, .int .i64 a2] (0, 0) _ rfl (by (with_reducible repeat (first | refine blk_drewN ?_ _ | refine blk_drew ?_ | refine blk_alloc ?_ _)); refine blk_put (cs := #[.slice Ao34 x249000_2.length co34, .int .i64 x244001_2]) ?_ 1 _ rfl; (with_reducible repeat (first | refine blk_drewN ?_ _ | refine blk_drew ?_ | refine blk_alloc ?_ _)); refine blk_put (cs := #[.slice none 0 0, .int .i64 x244001_2]) ?_ 0 _ rfl; (with_reducible repeat (first | refine blk_drewN ?_ _ | refine blk_drew ?_ | refine blk_alloc ?_ _)); exact BK243.out) Try.underlying48 rfl (by kernel_rfl)) rfl ?_
                  exact ⟨_, by first | rfl | (simp [errW_none, errW_some] <;> rfl) | (simp [*, errW_none, errW_some] <;> rfl), by (with_reducible repeat (first | apply Kd.R_alloc | apply Kd.R_drewN | apply Kd.R_drew)); exact Kd.R_mono (Kd.R_far (p := ⟨gb243, 1, none⟩) (Kd.R_far (p := ⟨gb243, 0, none⟩) (Kd.R_types HO_249000.out BK243.out (by decide)) (fun _ hk => hk.2) (.slice Ao34 x249000_2.length co34)) (fun _ hk => hk.2) (.int .i64 a2)) (fun _ hk => trivial), by repeat (first | (with_reducible first | exact HB.out | apply below_alloc | apply pw_below_drewN | apply below_drew1 | refine below_set ?_ GE243.out | refine below_set ?_ GE248.out) | exact HB.out)⟩
          · rw [if_neg c12] at H
            exact absurd H (by simp)
        · rw [if_neg c11] at H
          exact absurd H (by simp)

end Go.Proofs.Ytbjdnfnolhahgaa.F
