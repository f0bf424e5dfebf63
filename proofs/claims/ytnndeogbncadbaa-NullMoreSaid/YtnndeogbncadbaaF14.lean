-- Written by a program of this session (wip/mkprint.py over the kit's print): functions of the cut as plain Lean functions, and that the calls come to them. Lean checks it.
import Derived.Test.YtnndeogbncadbaaF0
import Derived.Test.YtnndeogbncadbaaF5
import Derived.Test.YtnndeogbncadbaaJoin
namespace Go.Proofs.Ytnndeogbncadbaa.F
open Go.RowKit Go.Proofs.YtnndeogbncadbaaW.PrintWords Go.Proofs.YtnndeogbncadbaaW.PrintLast Go.Proofs.YtnndeogbncadbaaW.PrintMore
attribute [local go_sem] max2_int min2_int max_two min_two max_three min_three max_four min_four   -- for this text's walks alone
set_option linter.unusedVariables false
set_option linter.unusedSimpArgs false

/-! ### astragallaw06_NullMore: function 5 -/
mutual
def astragallaw06_NullMore.j0 : Nat → List Bool → Bool → Bool → Int → Int → ByteArray → Option (Bool)
  | 0, _, _, _, _, _, _ => none
  | k + 1, x0, x5, x24, x210000, x210001, x210002 => if x24 = true then (some x5) else (astragallaw06_NullMore.l0 k x0 x5 ([] : List (S37)) 0 x210000 x210001 x210002)
def astragallaw06_NullMore.l0 : Nat → List Bool → Bool → List (S37) → Int → Int → Int → ByteArray → Option (Bool)
  | 0, _, _, _, _, _, _, _ => none
  | k + 1, x0, x5, x6, x7, x210000, x210001, x210002 => if x7 < (x0.length : Int) then (if 0 ≤ x7 then (if rdOf false x0 x7 = true then (astragallaw06_NullMore.l0 k x0 x5 x6 (wrap64 (x7 + 1)) x210000 x210001 x210002) else ((some (([(⟨x210000, x210001, x210002⟩ : S37)] : List (S37)) : List (S37))).bind fun y212 => (if x6.length + y212.length < 4398046511104 then (astragallaw06_NullMore.l0 k x0 x5 (x6 ++ y212) (wrap64 (x7 + 1)) x210000 x210001 x210002) else (none)))) else (none)) else ((null_Join.f x0 x6).bind fun bt218 => ((some (([] : List (S37)) : List (S37))).bind fun y222 => (if y222.length + x6.length < 4398046511104 then ((some (y222 ++ x6 : List (S37))).bind fun y225 => ((some (([(⟨x210000, x210001, x210002⟩ : S37)] : List (S37)) : List (S37))).bind fun y228 => (if y225.length + y228.length < 4398046511104 then ((null_Join.f x0 (y225 ++ y228)).bind fun bt234 => (if bt218.2 = 0 then (astragallaw06_NullMore.j2 k x0 x5 x6 (bt234.2 != 4)) else (astragallaw06_NullMore.j2 k x0 x5 x6 true))) else (none)))) else (none))))
def astragallaw06_NullMore.j2 : Nat → List Bool → Bool → List (S37) → Bool → Option (Bool)
  | 0, _, _, _, _ => none
  | k + 1, x0, x5, x6, x63 => if x63 = true then (some false) else (if (x6.length : Int) = 0 then (some x5) else (if 1 ≤ (x6.length : Int) then ((null_Join.f x0 (x6.drop 1)).bind fun bt242 => (if 0 < (x6.length : Int) then ((null_Join.f x0 (x6.set (0 : Int).toNat (⟨0, 0, (⟨#[]⟩ : ByteArray)⟩ : S37))).bind fun bt247 => (if x5 = true then (if bt242.2 = 4 then (some (bt247.2 == 4)) else (some false)) else (some false))) else (none))) else (none)))
end
def astragallaw06_NullMore.f (k : Nat) (l0 : List Bool) (a1_0 : Int) (a1_1 : Int) (a1_2 : ByteArray) : Option (Bool) := (astragallaw06_shown.f k).bind fun t210 => (if a1_0 = 0 then (astragallaw06_NullMore.j0 k l0 t210 true a1_0 a1_1 a1_2) else (astragallaw06_NullMore.j0 k l0 t210 (decide ((l0.length : Int) > 2000)) a1_0 a1_1 a1_2))
theorem astragallaw06_NullMore.mono_l : ∀ k, (∀ y0 y1 y2 y3 y4 y5, LeO (astragallaw06_NullMore.j0 k y0 y1 y2 y3 y4 y5) (astragallaw06_NullMore.j0 (k + 1) y0 y1 y2 y3 y4 y5)) ∧ (∀ y0 y1 y2 y3 y4 y5 y6, LeO (astragallaw06_NullMore.l0 k y0 y1 y2 y3 y4 y5 y6) (astragallaw06_NullMore.l0 (k + 1) y0 y1 y2 y3 y4 y5 y6)) ∧ (∀ y0 y1 y2 y3, LeO (astragallaw06_NullMore.j2 k y0 y1 y2 y3) (astragallaw06_NullMore.j2 (k + 1) y0 y1 y2 y3))
  | 0 => ⟨fun _ _ _ _ _ _ r h => by simp [astragallaw06_NullMore.j0] at h, fun _ _ _ _ _ _ _ r h => by simp [astragallaw06_NullMore.l0] at h, fun _ _ _ _ r h => by simp [astragallaw06_NullMore.j2] at h⟩
  | k + 1 => by
    obtain ⟨ih0, ih1, ih2⟩ := astragallaw06_NullMore.mono_l k
    refine ⟨?_, ?_, ?_⟩
    · intro y0 y1 y2 y3 y4 y5
      unfold astragallaw06_NullMore.j0
      repeat' first
      | (with_reducible exact ih0 _ _ _ _ _ _)
      | (with_reducible exact ih1 _ _ _ _ _ _ _)
      | (with_reducible exact ih2 _ _ _ _)
      | (with_reducible exact astragallaw06_shown.mono _)
      | (with_reducible exact LeO.refl _)
      | (with_reducible exact LeO.none _)
      | (with_reducible refine LeO.ite ?_ ?_)
      | (with_reducible refine LeO.bind ?_ (fun _ => ?_))
      | exact ih0 _ _ _ _ _ _
      | exact ih1 _ _ _ _ _ _ _
      | exact ih2 _ _ _ _
      | exact astragallaw06_shown.mono _
      | exact LeO.none _
      | refine LeO.ite ?_ ?_
      | refine LeO.bind ?_ (fun _ => ?_)
    · intro y0 y1 y2 y3 y4 y5 y6
      unfold astragallaw06_NullMore.l0
      repeat' first
      | (with_reducible exact ih0 _ _ _ _ _ _)
      | (with_reducible exact ih1 _ _ _ _ _ _ _)
      | (with_reducible exact ih2 _ _ _ _)
      | (with_reducible exact astragallaw06_shown.mono _)
      | (with_reducible exact LeO.refl _)
      | (with_reducible exact LeO.none _)
      | (with_reducible refine LeO.ite ?_ ?_)
      | (with_reducible refine LeO.bind ?_ (fun _ => ?_))
      | exact ih0 _ _ _ _ _ _
      | exact ih1 _ _ _ _ _ _ _
      | exact ih2 _ _ _ _
      | exact astragallaw06_shown.mono _
      | exact LeO.none _
      | refine LeO.ite ?_ ?_
      | refine LeO.bind ?_ (fun _ => ?_)
    · intro y0 y1 y2 y3
      unfold astragallaw06_NullMore.j2
      repeat' first
      | (with_reducible exact ih0 _ _ _ _ _ _)
      | (with_reducible exact ih1 _ _ _ _ _ _ _)
      | (with_reducible exact ih2 _ _ _ _)
      | (with_reducible exact astragallaw06_shown.mono _)
      | (with_reducible exact LeO.refl _)
      | (with_reducible exact LeO.none _)
      | (with_reducible refine LeO.ite ?_ ?_)
      | (with_reducible refine LeO.bind ?_ (fun _ => ?_))
      | exact ih0 _ _ _ _ _ _
      | exact ih1 _ _ _ _ _ _ _
      | exact ih2 _ _ _ _
      | exact astragallaw06_shown.mono _
      | exact LeO.none _
      | refine LeO.ite ?_ ?_
      | refine LeO.bind ?_ (fun _ => ?_)
theorem astragallaw06_NullMore.mono : ∀ a0 a1 a2 a3 k, LeO (astragallaw06_NullMore.f k a0 a1 a2 a3) (astragallaw06_NullMore.f (k + 1) a0 a1 a2 a3) := by
  intro a0 a1 a2 a3 k
  obtain ⟨ih0, ih1, ih2⟩ := astragallaw06_NullMore.mono_l k
  unfold astragallaw06_NullMore.f
  repeat' first
      | (with_reducible exact ih0 _ _ _ _ _ _)
      | (with_reducible exact ih1 _ _ _ _ _ _ _)
      | (with_reducible exact ih2 _ _ _ _)
      | (with_reducible exact astragallaw06_shown.mono _)
      | (with_reducible exact LeO.refl _)
      | (with_reducible exact LeO.none _)
      | (with_reducible refine LeO.ite ?_ ?_)
      | (with_reducible refine LeO.bind ?_ (fun _ => ?_))
      | exact ih0 _ _ _ _ _ _
      | exact ih1 _ _ _ _ _ _ _
      | exact ih2 _ _ _ _
      | exact astragallaw06_shown.mono _
      | exact LeO.none _
      | refine LeO.ite ?_ ?_
      | refine LeO.bind ?_ (fun _ => ?_)
def astragallaw06_NullMore.T11 : Bool × List (List Nat × List Nat) := (true, [([], []), ([], []), ([], []), ([1, 2], [1, 2]), ([], []), ([4], [4]), ([3, 5, 3], [3, 5]), ([0, 6, 6], [0, 6]), ([7], [7]), ([8], [8]), ([8], [8]), ([9, 7, 0, 1, 2, 3, 4, 5, 6, 7, 8, 9], [9]), ([10, 11, 0, 1, 2, 3, 4, 5, 6, 7, 8, 9, 10, 11], [10])])
def astragallaw06_NullMore.B11 : List Nat := [0, 0, 0, 6, 0, 16, 62, 127, 255, 511, 511, 1023, 4095]
theorem astragallaw06_NullMore.tab11 : rtab .any (opsOf Try.f5 11) = astragallaw06_NullMore.T11 := by kernel_rfl
theorem astragallaw06_NullMore.bits11 : waitsOk astragallaw06_NullMore.T11.2 astragallaw06_NullMore.B11 = true := by kernel_rfl
set_option maxHeartbeats 8000000 in
set_option maxRecDepth 100000 in
theorem astragallaw06_NullMore.calls (k : Nat) (A0 : Option Addr) (c0 : Nat) (l0 : List Bool) (a1_0 : Int) (a1_1 : Int) (a1_2 : ByteArray) (r : Bool) (w : World) (hr0 : Kd.C Kd.bool w A0 l0.length l0) (hc0 : l0.length ≤ c0) (h : astragallaw06_NullMore.f k l0 a1_0 a1_1 a1_2 = some r) :
    Calls Try.prog 5 #[.slice A0 l0.length c0, .agg #[.int .i64 a1_0, .int .i64 a1_1, .string a1_2]] w fun e w' => e = .returned (.bool r) ∧ Below w.heap.size w w' := by
  have hu37 := Try.underlying37
  have HR0 := Aside0.mk hr0
  have HC0 := Aside0.mk hc0
  clear hr0 hc0
  have HB := Aside0.mk (Below.refl w.heap.size w)
  have H : ((astragallaw06_shown.f k).bind fun t210 => (if a1_0 = 0 then (astragallaw06_NullMore.j0 k l0 t210 true a1_0 a1_1 a1_2) else (astragallaw06_NullMore.j0 k l0 t210 (decide ((l0.length : Int) > 2000)) a1_0 a1_1 a1_2))) = some r := h
  clear h
  replace H := Option.bind_eq_some_iff.mp H
  obtain ⟨t210, A30, H⟩ := H
  replace H : (if a1_0 = 0 then (astragallaw06_NullMore.j0 k l0 t210 true a1_0 a1_1 a1_2) else (astragallaw06_NullMore.j0 k l0 t210 (decide ((l0.length : Int) > 2000)) a1_0 a1_1 a1_2)) = some r := H
  have A3 := Aside0.mk A30
  clear A30
  have HC4 := Aside0.mk H
  clear H
  go_enter Try.func5, Try.ntmps5
  go_upto_region 2 with (first | ((with_reducible refine gate_dst (N := 3) rfl ?_); (try (refine gate_guard (by rfl) ?_; dsimp only)); refine box_event ?hg (N := 3) ?hd (cs := #[.int .i64 a1_0, .int .i64 a1_1, .string a1_2]) (t := 37) ?hr ?_; (case hd => rfl); (case hg => rfl); (case hr => first | (go_simp; done) | (go_simp; rfl)); intro gb209 hg w5 hbox hb; have n0_ := Aside0.mk (below_step (by repeat (first | (with_reducible first | exact HB.out | apply below_alloc | apply pw_below_drewN | apply below_drew1) | exact HB.out)) hb); have n1_ := Aside0.mk (hbox); have n2_ := Aside0.mk ((by rw [hg]; exact (below_size (by repeat (first | (with_reducible first | exact HB.out | apply below_alloc | apply pw_below_drewN | apply below_drew1) | exact HB.out))) : w.heap.size ≤ gb209)); have n3_ := Aside0.mk ((by rw [hg]; exact (below_size (by repeat (first | (with_reducible first | exact HB.out | apply below_alloc | apply pw_below_drewN | apply below_drew1) | exact HB.out))) : w.heap.size ≤ gb209)); clear HB; have HB := n0_; have BK209 := n1_; have GW209 := n2_; have GE209 := n3_; clear n0_ n1_ n2_ n3_; clear hb hbox hg) | ((with_reducible refine gate_callee (f := 16) rfl ?_); refine goesL_ (some 16) rfl rfl Try.func16 (by kernel_rfl) rfl #[] rfl (by (try simp only [List.map_toArray, List.map_cons, List.map_nil]); first | done | rfl | (simp only [List.length_drop, List.length_take]; rfl)) ?_; (with_reducible refine (astragallaw06_shown.calls k  t210 _ A3.out).mono ?_); rintro e w6 ⟨rfl, hb⟩; refine ⟨_, rfl, ?_⟩; have n0_ := Aside0.mk (blk_below (g := gb209) (o := .cells #[.int .i64 a1_0, .int .i64 a1_1, .string a1_2] 37 (0, 0)) (by (with_reducible repeat (first | refine blk_drewN ?_ _ | refine blk_drew ?_ | refine blk_alloc ?_ _)); exact BK209.out) hb); have n1_ := Aside0.mk (below_step (by repeat (first | (with_reducible first | exact HB.out | apply below_alloc | apply pw_below_drewN | apply below_drew1 | refine below_set ?_ GE209.out) | exact HB.out)) hb); clear BK209; clear HB; have BK209 := n0_; have HB := n1_; clear n0_ n1_; (try clear hb); (try clear hb2); (try clear hk); (try clear hi)))
  (try simp only [Act.put, List.setIfInBounds_toArray, List.set_cons_zero, List.set_cons_succ])
  go_cut [24] (fun v24 wc => ∃ (kq : Nat) (x24_3 : Bool), v24 = .bool x24_3 ∧ Aside0 (astragallaw06_NullMore.j0 kq l0 t210 x24_3 a1_0 a1_1 a1_2 = some r) ∧ Aside0 (kq ≤ k) ∧ Aside0 (wc.heap[gb209]? = some (.cells #[.int .i64 a1_0, .int .i64 a1_1, .string a1_2] 37 (0, 0))) ∧ Aside0 (Below w.heap.size w wc))
  case first =>
    have H := HC4.out
    clear HC4
    by_cases c7 : a1_0 = 0
    · rw [if_pos c7] at H
      have c7b0 : (a1_0 == 0) = true := beq_iff_eq.mpr c7
      have c7b1 : (a1_0 != 0) = false := bne_eq_false_iff_eq.mpr c7
      clear c7
      (first | rw [c7b0] | (simp only [i64_w, i32_w]; rw [c7b0]) | skip)
      have H' := Aside0.mk H
      clear H
      have hcz8_0 : w6.cell? ⟨gb209, 0, none⟩ = some (.int .i64 a1_0) := (blk_cell BK209.out 0).trans rfl
      have hcz8_1 : w6.cell? ⟨gb209, 1, none⟩ = some (.int .i64 a1_1) := (blk_cell BK209.out 1).trans rfl
      have hcz8_2 : w6.cell? ⟨gb209, 2, none⟩ = some (.string a1_2) := (blk_cell BK209.out 2).trans rfl
      have hfz8_0 := blk_frozen BK209.out 0
      have hfz8_1 := blk_frozen BK209.out 1
      have hfz8_2 := blk_frozen BK209.out 2
      go_wp2
      go_meet
      case rel => exact ⟨_, (true), (by first | rfl | (simp; done) | (simp [*]; done)), H', ⟨by first | omega | exact Nat.le_refl _⟩, ⟨by (with_reducible repeat (first | refine blk_drewN ?_ _ | refine blk_drew ?_ | refine blk_alloc ?_ _)); exact BK209.out⟩, ⟨by repeat (first | (with_reducible first | exact HB.out | apply below_alloc | apply pw_below_drewN | apply below_drew1 | refine below_set ?_ GE209.out) | exact HB.out)⟩⟩
    · rw [if_neg c7] at H
      have c7b0 : (a1_0 == 0) = false := beq_eq_false_iff_ne.mpr c7
      have c7b1 : (a1_0 != 0) = true := bne_iff_ne.mpr c7
      (first | rw [c7b0] | (simp only [i64_w, i32_w]; rw [c7b0]) | skip)
      have H' := Aside0.mk H
      clear H
      have hcz9_0 : w6.cell? ⟨gb209, 0, none⟩ = some (.int .i64 a1_0) := (blk_cell BK209.out 0).trans rfl
      have hcz9_1 : w6.cell? ⟨gb209, 1, none⟩ = some (.int .i64 a1_1) := (blk_cell BK209.out 1).trans rfl
      have hcz9_2 : w6.cell? ⟨gb209, 2, none⟩ = some (.string a1_2) := (blk_cell BK209.out 2).trans rfl
      have hfz9_0 := blk_frozen BK209.out 0
      have hfz9_1 := blk_frozen BK209.out 1
      have hfz9_2 := blk_frozen BK209.out 2
      go_wp2
      go_meet
      case rel => exact ⟨_, (decide ((l0.length : Int) > 2000)), (by first | rfl | (simp; done) | (simp [*]; done)), H', ⟨by first | omega | exact Nat.le_refl _⟩, ⟨by (with_reducible repeat (first | refine blk_drewN ?_ _ | refine blk_drew ?_ | refine blk_alloc ?_ _)); exact BK209.out⟩, ⟨by repeat (first | (with_reducible first | exact HB.out | apply below_alloc | apply pw_below_drewN | apply below_drew1 | refine below_set ?_ GE209.out) | exact HB.out)⟩⟩
  case rest =>
    clear HC4
    try clear c1
    try clear p2
    try clear c5
    try clear c7
    try clear c7b0
    try clear c7b1
    try clear hcz8_0
    try clear hcz8_1
    try clear hcz8_2
    try clear hcz9_0
    try clear hcz9_1
    try clear hcz9_2
    try clear hfz8_0
    try clear hfz8_1
    try clear hfz8_2
    try clear hfz9_0
    try clear hfz9_1
    try clear hfz9_2
    obtain ⟨kq, x24_3, rfl, HA, HJ3, BK209, HB⟩ := hcut
    cases kq with
    | zero => exact absurd HA.out (by simp [astragallaw06_NullMore.j0])
    | succ kj3 =>
      have H := HA.out
      clear HA
      simp only [astragallaw06_NullMore.j0] at H
      by_cases c10 : x24_3 = true
      · subst c10
        have H1 : (some t210) = some r := by rw [if_pos rfl] at H; exact H
        clear H
        have H := H1
        clear H1
        obtain rfl := Option.some.inj H
        go_wp2
        go_ret
        exact ⟨by first | rfl | (simp [errW_none, errW_some] <;> rfl) | (simp [*, errW_none, errW_some] <;> rfl), by repeat (first | (with_reducible first | exact HB.out | apply below_alloc | apply pw_below_drewN | apply below_drew1 | refine below_set ?_ GE209.out) | exact HB.out)⟩
      · replace c10 := Bool.eq_false_iff.mpr c10
        subst c10
        have H1 : (astragallaw06_NullMore.l0 kj3 l0 t210 ([] : List (S37)) 0 a1_0 a1_1 a1_2) = some r := by rw [if_neg (show ¬ (false = true) by decide)] at H; exact H
        clear H
        have H := H1
        clear H1
        have H' := Aside0.mk H
        clear H
        go_wp2
        go_loopg [6, 7] kj3 (fun kq v6 v7 w' => ∃ (x6_2 : List (S37)) (x7_2 : Int), v7 = .int .i64 x7_2 ∧ Aside0 (astragallaw06_NullMore.l0 kq l0 t210 x6_2 x7_2 a1_0 a1_1 a1_2 = some r) ∧ Aside0 (kq ≤ kj3) ∧ Aside0 (Kd.R k37 37 w' w.heap.size (fun k_ => k_ ≠ gb209) v6 x6_2) ∧ Aside0 (w'.heap[gb209]? = some (.cells #[.int .i64 a1_0, .int .i64 a1_1, .string a1_2] 37 (0, 0))) ∧ Aside0 (Below w.heap.size w w'))
        case atStart => exact ⟨(([] : List (S37))), (0), (by first | rfl | (simp; done) | (simp [*]; done)), H', ⟨Nat.le_refl _⟩, ⟨by first | exact Kd.R_nil _ _ _ _ _ | exact Kd.N_nil _ _ _ _ _ | exact Kd.V_nil _ _ _ _ _ | exact Kd.Q_nil _ _ _ _ _ | exact Kd.S_nil _ _ _ _ _⟩, ⟨by (with_reducible repeat (first | refine blk_drewN ?_ _ | refine blk_drew ?_ | refine blk_alloc ?_ _)); exact BK209.out⟩, ⟨by repeat (first | (with_reducible first | exact HB.out | apply below_alloc | apply pw_below_drewN | apply below_drew1 | refine below_set ?_ GE209.out) | exact HB.out)⟩⟩
        case round =>
          clear H'
          try clear c1
          try clear p2
          try clear c5
          try clear c7
          try clear c7b0
          try clear c7b1
          try clear c10
          try clear hcz8_0
          try clear hcz8_1
          try clear hcz8_2
          try clear hcz9_0
          try clear hcz9_1
          try clear hcz9_2
          try clear hfz8_0
          try clear hfz8_1
          try clear hfz8_2
          try clear hfz9_0
          try clear hfz9_1
          try clear hfz9_2
          try clear p2
          obtain ⟨x6_2, x7_2, rfl, HA, HK2, HO_6, BK209, HB⟩ := hrel
          cases gk with
          | zero => exact absurd HA.out (by simp [astragallaw06_NullMore.l0])
          | succ k2 =>
            have H := HA.out
            clear HA
            simp only [astragallaw06_NullMore.l0] at H
            by_cases c11 : x7_2 < (l0.length : Int)
            · rw [if_pos c11] at H
              have c11b0 : decide (x7_2 < (l0.length : Int)) = true := decide_eq_true c11
              clear c11
              by_cases c12 : 0 ≤ x7_2
              · rw [if_pos c12] at H
                have c12b0 : decide (0 ≤ x7_2) = true := decide_eq_true c12
                clear c12
                obtain ⟨bq13, hbq13⟩ : ∃ b_ : Bool, b_ = (rdOf false l0 x7_2) := ⟨_, rfl⟩
                replace H : (if bq13 = true then (astragallaw06_NullMore.l0 k2 l0 t210 x6_2 (wrap64 (x7_2 + 1)) a1_0 a1_1 a1_2) else ((some (([(⟨a1_0, a1_1, a1_2⟩ : S37)] : List (S37)) : List (S37))).bind fun y212 => (if x6_2.length + y212.length < 4398046511104 then (astragallaw06_NullMore.l0 k2 l0 t210 (x6_2 ++ y212) (wrap64 (x7_2 + 1)) a1_0 a1_1 a1_2) else (none)))) = some r := by rw [← hbq13] at H; exact H
                have Nbq13 := Aside0.mk hbq13
                clear hbq13
                by_cases c14 : bq13 = true
                · subst c14
                  have H1 : (astragallaw06_NullMore.l0 k2 l0 t210 x6_2 (wrap64 (x7_2 + 1)) a1_0 a1_1 a1_2) = some r := by rw [if_pos rfl] at H; exact H
                  clear H
                  have H := H1
                  clear H1
                  have H' := Aside0.mk H
                  clear H
                  have p211 : 0 ≤ (x7_2 : Int) := of_decide_eq_true (by first | (with_reducible assumption) | assumption)
                  have q211 : x7_2 < (l0.length : Int) := of_decide_eq_true (by first | (with_reducible assumption) | assumption)
                  obtain ⟨ad211, e211, hx211_0⟩ := Kd.at_bool HR0.out x7_2 p211 q211
                  (try rw [← Nbq13.out] at hx211_0)
                  cases e211
                  replace hx211_0 := (HB.out.cell (World.block_lt_of_cell? w _ hx211_0)).trans hx211_0
                  replace p211 := eq_true p211
                  replace q211 := eq_true q211
                  go_wp2
                  go_roundg k2
                  case measure => have := HJ3.out; have := HK2.out; omega
                  case rel => exact ⟨(x6_2), (wrap64 (x7_2 + 1)), (by first | rfl | (simp; done) | (simp [*]; done)), H', ⟨by have := HJ3.out; have := HK2.out; omega⟩, ⟨by (with_reducible repeat (first | apply Kd.R_alloc | apply Kd.R_drewN | apply Kd.R_drew)); exact HO_6.out⟩, ⟨by (with_reducible repeat (first | refine blk_drewN ?_ _ | refine blk_drew ?_ | refine blk_alloc ?_ _)); exact BK209.out⟩, ⟨by repeat (first | (with_reducible first | exact HB.out | apply below_alloc | apply pw_below_drewN | apply below_drew1 | refine below_set ?_ GE209.out) | exact HB.out)⟩⟩
                · replace c14 := Bool.eq_false_iff.mpr c14
                  subst c14
                  have H1 : ((some (([(⟨a1_0, a1_1, a1_2⟩ : S37)] : List (S37)) : List (S37))).bind fun y212 => (if x6_2.length + y212.length < 4398046511104 then (astragallaw06_NullMore.l0 k2 l0 t210 (x6_2 ++ y212) (wrap64 (x7_2 + 1)) a1_0 a1_1 a1_2) else (none))) = some r := by rw [if_neg (show ¬ (false = true) by decide)] at H; exact H
                  clear H
                  have H := H1
                  clear H1
                  obtain ⟨y212, hy212⟩ : ∃ y_ : List (S37), y_ = (([(⟨a1_0, a1_1, a1_2⟩ : S37)] : List (S37))) := ⟨_, rfl⟩
                  replace H : (if x6_2.length + y212.length < 4398046511104 then (astragallaw06_NullMore.l0 k2 l0 t210 (x6_2 ++ y212) (wrap64 (x7_2 + 1)) a1_0 a1_1 a1_2) else (none)) = some r := by first | (rw [hy212]; with_reducible exact H) | (have H2_ := (Option.bind_some _ _).symm.trans H; rw [hy212]; with_reducible exact H2_) | (have H2_ := (Option.bind_some _ _).symm.trans H; with_reducible exact H2_) | with_reducible exact H | (rw [hy212]; exact H) | exact H
                  have Ny212 := Aside0.mk hy212
                  clear hy212
                  by_cases c15 : x6_2.length + y212.length < 4398046511104
                  · rw [if_pos c15] at H
                    have LMc15 := Aside0.mk c15
                    clear c15
                    obtain ⟨y215, hy215⟩ : ∃ y_ : List (S37), y_ = (x6_2 ++ y212) := ⟨_, rfl⟩
                    replace H : (astragallaw06_NullMore.l0 k2 l0 t210 y215 (wrap64 (x7_2 + 1)) a1_0 a1_1 a1_2) = some r := by first | (rw [hy215]; with_reducible exact H) | (have H2_ := (Option.bind_some _ _).symm.trans H; rw [hy215]; with_reducible exact H2_) | (have H2_ := (Option.bind_some _ _).symm.trans H; with_reducible exact H2_) | with_reducible exact H | (rw [hy215]; exact H) | exact H
                    have Ny215 := Aside0.mk hy215
                    clear hy215
                    have H' := Aside0.mk H
                    clear H
                    have p211 : 0 ≤ (x7_2 : Int) := of_decide_eq_true (by first | (with_reducible assumption) | assumption)
                    have q211 : x7_2 < (l0.length : Int) := of_decide_eq_true (by first | (with_reducible assumption) | assumption)
                    obtain ⟨ad211, e211, hx211_0⟩ := Kd.at_bool HR0.out x7_2 p211 q211
                    (try rw [← Nbq13.out] at hx211_0)
                    cases e211
                    replace hx211_0 := (HB.out.cell (World.block_lt_of_cell? w _ hx211_0)).trans hx211_0
                    replace p211 := eq_true p211
                    replace q211 := eq_true q211
                    have hcz16_0 : wr.cell? ⟨gb209, 0, none⟩ = some (.int .i64 a1_0) := (blk_cell BK209.out 0).trans rfl
                    have hcz16_1 : wr.cell? ⟨gb209, 1, none⟩ = some (.int .i64 a1_1) := (blk_cell BK209.out 1).trans rfl
                    have hcz16_2 : wr.cell? ⟨gb209, 2, none⟩ = some (.string a1_2) := (blk_cell BK209.out 2).trans rfl
                    have hfz16_0 := blk_frozen BK209.out 0
                    have hfz16_1 := blk_frozen BK209.out 1
                    have hfz16_2 := blk_frozen BK209.out 2
                    go_wp2_with (first | ((with_reducible refine gate_dst (N := 39) rfl ?_); (try (refine gate_guard (by rfl) ?_; dsimp only)); refine Kd.R_lit k37 _ 37 ?hg (N := 39) ?hd (xs := ([(⟨a1_0, a1_1, a1_2⟩ : S37)] : List (S37))) (inner := [.int .i64 a1_0, .int .i64 a1_1, .string a1_2]) (ok := fun _ => True) (okp := fun _ => True) ?hr ?hp (fun _ hk => hk) trivial (Below.refl _ _) (Nat.le_refl _) (by simp) ?_; (case hd => rfl); (case hg => rfl); (case hr => first | (go_simp; done) | (go_simp; rfl)); (case hp => exact (Reps.c3 (show Kd.M k37 _ _ _ (⟨a1_0, a1_1, a1_2⟩ : S37) [.int .i64 a1_0, .int .i64 a1_1, .string a1_2] from (k37_mkM _ _ _ (⟨a1_0, a1_1, a1_2⟩ : S37) )) (Reps.none _ _))); intro v213 w17 ho18 hb hg_ hnew_; clear hg_ hnew_; (first | rw [← Ny212.out] at ho18 | (simp only [Int.reduceToNat] at ho18; rw [← Ny212.out] at ho18)); have n0_ := Aside0.mk (Kd.R_elder' (by (with_reducible repeat (first | apply Kd.R_alloc | apply Kd.R_drewN | apply Kd.R_drew)); exact HO_6.out) (Kd.R_base ho18) hb); have n1_ := Aside0.mk (Kd.R_lower (Kd.R_newB (Kd.R_new' ho18 (Kd.R_lt (by (with_reducible repeat (first | apply Kd.R_alloc | apply Kd.R_drewN | apply Kd.R_drew)); exact HO_6.out))) (g := gb209) (o := .cells #[.int .i64 a1_0, .int .i64 a1_1, .string a1_2] 37 (0, 0)) (by (with_reducible repeat (first | refine blk_drewN ?_ _ | refine blk_drew ?_ | refine blk_alloc ?_ _)); exact BK209.out)) (below_size (by repeat (first | (with_reducible first | exact HB.out | apply below_alloc | apply pw_below_drewN | apply below_drew1 | refine below_set ?_ GE209.out) | exact HB.out)))); have n2_ := Aside0.mk (blk_below (g := gb209) (o := .cells #[.int .i64 a1_0, .int .i64 a1_1, .string a1_2] 37 (0, 0)) (by (with_reducible repeat (first | refine blk_drewN ?_ _ | refine blk_drew ?_ | refine blk_alloc ?_ _)); exact BK209.out) hb); have n3_ := Aside0.mk (below_step (by repeat (first | (with_reducible first | exact HB.out | apply below_alloc | apply pw_below_drewN | apply below_drew1 | refine below_set ?_ GE209.out) | exact HB.out)) hb); clear HO_6; clear BK209; clear HB; have HO_6 := n0_; have HO214 := n1_; have BK209 := n2_; have HB := n3_; clear n0_ n1_ n2_ n3_; clear hb ho18; obtain ⟨Ao20, co20, eo20⟩ := Kd.R_slice HO214.out; subst eo20) | ((with_reducible refine gate_builtin (b := .append) (xs := #[.tmp 37, .tmp 39]) rfl ?_); (try (refine gate_guard (by rfl) ?_; dsimp only)); at_builtin; refine Kd.R_append_rows k37 (w0 := w) w.heap.size rfl (.tmp 37) (.tmp 39) 22 37 (.agg #[(.int .i64 0), (.int .i64 0), (.string ⟨#[]⟩)]) 32 rfl Try.underlying22 info37 rfl (by decide) (by omega) u6 x6_2 y212 _ _ _ (fun k_ => some k_ ≠ (.slice Ao20 y212.length co20 : Value).ownBlock ∧ k_ ≠ gb209) (fun _ => False) rfl rfl ?aO ?aR (fun _ _ h => h) (fun _ h => h.elim) ?aF ?aB ?aS ?aL ?_; (case aR => repeat (first | exact (Kd.R_reads' HO214.out).2.2 | (with_reducible refine Kd.C_alloc ?_ _) | (with_reducible refine Kd.C_drewN ?_ _) | (with_reducible refine Kd.C_drew ?_))); (case aB => exact (by repeat (first | (with_reducible first | exact HB.out | apply below_alloc | apply pw_below_drewN | apply below_drew1 | refine below_set ?_ GE209.out) | exact HB.out))); (case aF => exact (fun k_ hk => ⟨Kd.fresh' (Kd.R_lt (by (with_reducible repeat (first | apply Kd.R_alloc | apply Kd.R_drewN | apply Kd.R_drew)); exact HO214.out)) k_ hk, Kd.freshB (g := gb209) (o := .cells #[.int .i64 a1_0, .int .i64 a1_1, .string a1_2] 37 (0, 0)) (by (with_reducible repeat (first | refine blk_drewN ?_ _ | refine blk_drew ?_ | refine blk_alloc ?_ _)); exact BK209.out) k_ hk⟩)); (case aO => exact (by (with_reducible repeat (first | apply Kd.R_alloc | apply Kd.R_drewN | apply Kd.R_drew)); exact Kd.R_mono HO_6.out (fun _ hk => ⟨hk.2, hk.1⟩))); (case aS => exact (below_size (by repeat (first | (with_reducible first | exact HB.out | apply below_alloc | apply pw_below_drewN | apply below_drew1 | refine below_set ?_ GE209.out) | exact HB.out)))); (case aL => have := LMc15.out; omega); intro v216 w19 ho hb hg hat; rw [← Ny215.out] at ho; have n0_ := Aside0.mk (blk_grown (g := gb209) (o := .cells #[.int .i64 a1_0, .int .i64 a1_1, .string a1_2] 37 (0, 0)) (by (with_reducible repeat (first | refine blk_drewN ?_ _ | refine blk_drew ?_ | refine blk_alloc ?_ _)); exact BK209.out) hg (Kd.R_away HO_6.out (fun _ hk => hk.1))); have n1_ := Aside0.mk (Kd.R_after (ok := (fun k_ => k_ ≠ gb209)) (by (with_reducible repeat (first | apply Kd.R_alloc | apply Kd.R_drewN | apply Kd.R_drew)); exact Kd.R_mono HO214.out (fun _ hk => ⟨hk.2, hk.1.2⟩)) hg hat); have n2_ := Aside0.mk (hb); have n3_ := Aside0.mk (ho); clear BK209; clear HO214; clear HB; clear HO_6; have BK209 := n0_; have HO214 := n1_; have HB := n2_; have HO217 := n3_; clear n0_ n1_ n2_ n3_; clear ho hb hg hat))
                    go_roundg k2
                    case measure => have := HJ3.out; have := HK2.out; omega
                    case rel => exact ⟨(y215), (wrap64 (x7_2 + 1)), (by first | rfl | (simp; done) | (simp [*]; done)), H', ⟨by have := HJ3.out; have := HK2.out; omega⟩, ⟨by (with_reducible repeat (first | apply Kd.R_alloc | apply Kd.R_drewN | apply Kd.R_drew)); exact Kd.R_mono HO217.out (fun _ hk => hk.2)⟩, ⟨by (with_reducible repeat (first | refine blk_drewN ?_ _ | refine blk_drew ?_ | refine blk_alloc ?_ _)); exact BK209.out⟩, ⟨by repeat (first | (with_reducible first | exact HB.out | apply below_alloc | apply pw_below_drewN | apply below_drew1 | refine below_set ?_ GE209.out) | exact HB.out)⟩⟩
                  · rw [if_neg c15] at H
                    exact absurd H (by simp)
              · rw [if_neg c12] at H
                exact absurd H (by simp)
            · rw [if_neg c11] at H
              have c11b0 : decide (x7_2 < (l0.length : Int)) = false := decide_eq_false c11
              clear c11
              replace H := Option.bind_eq_some_iff.mp H
              obtain ⟨⟨t218, t219⟩, A210, H⟩ := H
              replace H : ((some (([] : List (S37)) : List (S37))).bind fun y222 => (if y222.length + x6_2.length < 4398046511104 then ((some (y222 ++ x6_2 : List (S37))).bind fun y225 => ((some (([(⟨a1_0, a1_1, a1_2⟩ : S37)] : List (S37)) : List (S37))).bind fun y228 => (if y225.length + y228.length < 4398046511104 then ((null_Join.f l0 (y225 ++ y228)).bind fun bt234 => (if t219 = 0 then (astragallaw06_NullMore.j2 k2 l0 t210 x6_2 (bt234.2 != 4)) else (astragallaw06_NullMore.j2 k2 l0 t210 x6_2 true))) else (none)))) else (none))) = some r := H
              have A21 := Aside0.mk A210
              clear A210
              obtain ⟨y222, hy222⟩ : ∃ y_ : List (S37), y_ = (([] : List (S37))) := ⟨_, rfl⟩
              replace H : (if y222.length + x6_2.length < 4398046511104 then ((some (y222 ++ x6_2 : List (S37))).bind fun y225 => ((some (([(⟨a1_0, a1_1, a1_2⟩ : S37)] : List (S37)) : List (S37))).bind fun y228 => (if y225.length + y228.length < 4398046511104 then ((null_Join.f l0 (y225 ++ y228)).bind fun bt234 => (if t219 = 0 then (astragallaw06_NullMore.j2 k2 l0 t210 x6_2 (bt234.2 != 4)) else (astragallaw06_NullMore.j2 k2 l0 t210 x6_2 true))) else (none)))) else (none)) = some r := by first | (rw [hy222]; with_reducible exact H) | (have H2_ := (Option.bind_some _ _).symm.trans H; rw [hy222]; with_reducible exact H2_) | (have H2_ := (Option.bind_some _ _).symm.trans H; with_reducible exact H2_) | with_reducible exact H | (rw [hy222]; exact H) | exact H
              have Ny222 := Aside0.mk hy222
              clear hy222
              by_cases c22 : y222.length + x6_2.length < 4398046511104
              · rw [if_pos c22] at H
                have LMc22 := Aside0.mk c22
                clear c22
                obtain ⟨y225, hy225⟩ : ∃ y_ : List (S37), y_ = (y222 ++ x6_2) := ⟨_, rfl⟩
                replace H : ((some (([(⟨a1_0, a1_1, a1_2⟩ : S37)] : List (S37)) : List (S37))).bind fun y228 => (if y225.length + y228.length < 4398046511104 then ((null_Join.f l0 (y225 ++ y228)).bind fun bt234 => (if t219 = 0 then (astragallaw06_NullMore.j2 k2 l0 t210 x6_2 (bt234.2 != 4)) else (astragallaw06_NullMore.j2 k2 l0 t210 x6_2 true))) else (none))) = some r := by first | (rw [hy225]; with_reducible exact H) | (have H2_ := (Option.bind_some _ _).symm.trans H; rw [hy225]; with_reducible exact H2_) | (have H2_ := (Option.bind_some _ _).symm.trans H; with_reducible exact H2_) | with_reducible exact H | (rw [hy225]; exact H) | exact H
                have Ny225 := Aside0.mk hy225
                clear hy225
                obtain ⟨y228, hy228⟩ : ∃ y_ : List (S37), y_ = (([(⟨a1_0, a1_1, a1_2⟩ : S37)] : List (S37))) := ⟨_, rfl⟩
                replace H : (if y225.length + y228.length < 4398046511104 then ((null_Join.f l0 (y225 ++ y228)).bind fun bt234 => (if t219 = 0 then (astragallaw06_NullMore.j2 k2 l0 t210 x6_2 (bt234.2 != 4)) else (astragallaw06_NullMore.j2 k2 l0 t210 x6_2 true))) else (none)) = some r := by first | (rw [hy228]; with_reducible exact H) | (have H2_ := (Option.bind_some _ _).symm.trans H; rw [hy228]; with_reducible exact H2_) | (have H2_ := (Option.bind_some _ _).symm.trans H; with_reducible exact H2_) | with_reducible exact H | (rw [hy228]; exact H) | exact H
                have Ny228 := Aside0.mk hy228
                clear hy228
                by_cases c23 : y225.length + y228.length < 4398046511104
                · rw [if_pos c23] at H
                  have LMc23 := Aside0.mk c23
                  clear c23
                  obtain ⟨y231, hy231⟩ : ∃ y_ : List (S37), y_ = (y225 ++ y228) := ⟨_, rfl⟩
                  replace H : ((null_Join.f l0 y231).bind fun bt234 => (if t219 = 0 then (astragallaw06_NullMore.j2 k2 l0 t210 x6_2 (bt234.2 != 4)) else (astragallaw06_NullMore.j2 k2 l0 t210 x6_2 true))) = some r := by first | (rw [hy231]; with_reducible exact H) | (have H2_ := (Option.bind_some _ _).symm.trans H; rw [hy231]; with_reducible exact H2_) | (have H2_ := (Option.bind_some _ _).symm.trans H; with_reducible exact H2_) | with_reducible exact H | (rw [hy231]; exact H) | exact H
                  have Ny231 := Aside0.mk hy231
                  clear hy231
                  replace H := Option.bind_eq_some_iff.mp H
                  obtain ⟨⟨t234, t235⟩, A240, H⟩ := H
                  replace H : (if t219 = 0 then (astragallaw06_NullMore.j2 k2 l0 t210 x6_2 (t235 != 4)) else (astragallaw06_NullMore.j2 k2 l0 t210 x6_2 true)) = some r := H
                  have A24 := Aside0.mk A240
                  clear A240
                  have HC25 := Aside0.mk H
                  clear H
                  obtain ⟨Ao26, co26, eo26⟩ := Kd.R_slice HO_6.out
                  subst eo26
                  try go_wp2_with (first | ((with_reducible refine gate_callee (f := 21) rfl ?_); refine goesL_ (some 44) rfl rfl Try.func21 (by kernel_rfl) rfl #[.slice A0 l0.length c0, .slice Ao26 x6_2.length co26] rfl (by (try simp only [List.map_toArray, List.map_cons, List.map_nil]); first | done | rfl | (simp only [List.length_drop, List.length_take]; rfl)) ?_; (with_reducible refine (null_Join.calls _ _ l0 _ _ x6_2 t218 t219 _ ?side1 ?side2 ?side3 ?side4 A21.out).mono ?_); (case side1 => repeat (first | exact (Kd.C_below HR0.out HB.out) | (with_reducible refine Kd.C_alloc ?_ _) | (with_reducible refine Kd.C_drewN ?_ _) | (with_reducible refine Kd.C_drew ?_))); (case side2 => exact HC0.out); (case side3 => repeat (first | exact (Kd.R_reads' HO_6.out).2.2 | (with_reducible refine Kd.C_alloc ?_ _) | (with_reducible refine Kd.C_drewN ?_ _) | (with_reducible refine Kd.C_drew ?_))); (case side4 => exact (Kd.R_reads' HO_6.out).2.1); rintro e w27 ⟨v220, rfl, ho0, hb⟩; refine ⟨_, rfl, ?_⟩; have n0_ := Aside0.mk (Kd.R_elder' (by (with_reducible repeat (first | apply Kd.R_alloc | apply Kd.R_drewN | apply Kd.R_drew)); exact HO_6.out) (Kd.R_base ho0) hb); have n1_ := Aside0.mk (Kd.R_lower (Kd.R_newB (Kd.R_new' ho0 (Kd.R_lt (by (with_reducible repeat (first | apply Kd.R_alloc | apply Kd.R_drewN | apply Kd.R_drew)); exact HO_6.out))) (g := gb209) (o := .cells #[.int .i64 a1_0, .int .i64 a1_1, .string a1_2] 37 (0, 0)) (by (with_reducible repeat (first | refine blk_drewN ?_ _ | refine blk_drew ?_ | refine blk_alloc ?_ _)); exact BK209.out)) (below_size (by repeat (first | (with_reducible first | exact HB.out | apply below_alloc | apply pw_below_drewN | apply below_drew1 | refine below_set ?_ GE209.out) | exact HB.out)))); have n2_ := Aside0.mk (blk_below (g := gb209) (o := .cells #[.int .i64 a1_0, .int .i64 a1_1, .string a1_2] 37 (0, 0)) (by (with_reducible repeat (first | refine blk_drewN ?_ _ | refine blk_drew ?_ | refine blk_alloc ?_ _)); exact BK209.out) hb); have n3_ := Aside0.mk (below_step (by repeat (first | (with_reducible first | exact HB.out | apply below_alloc | apply pw_below_drewN | apply below_drew1 | refine below_set ?_ GE209.out) | exact HB.out)) hb); clear HO_6; clear BK209; clear HB; have HO_6 := n0_; have HO221 := n1_; have BK209 := n2_; have HB := n3_; clear n0_ n1_ n2_ n3_; (try clear hb); (try clear hb2); (try clear hk); (try clear hi); (try clear ho0)))
                  have n0_ := Aside0.mk (Kd.R_drew HO_6.out)
                  have n1_ := Aside0.mk (Kd.R_drew HO221.out)
                  have n2_ := Aside0.mk (blk_drew BK209.out)
                  have n3_ := Aside0.mk (below_drew1 HB.out)
                  clear HO_6
                  clear HO221
                  clear BK209
                  clear HB
                  have HO_6 := n0_
                  have HO221 := n1_
                  have BK209 := n2_
                  have HB := n3_
                  clear n0_ n1_ n2_ n3_
                  refine start_ (n := 13) (S := fun w' => w'.cell? ⟨gb209, 0, none⟩ = some (.int .i64 a1_0) ∧ w'.cell? ⟨gb209, 1, none⟩ = some (.int .i64 a1_1) ∧ w'.cell? ⟨gb209, 2, none⟩ = some (.string a1_2)) (ds := []) #[false, false, false, false, false, false, false, false, false, false, false, false, false] (by kernel_rfl) rfl rfl ⟨(blk_cell BK209.out 0).trans rfl, (blk_cell BK209.out 1).trans rfl, (blk_cell BK209.out 2).trans rfl⟩ (fun hHeld => ?_); refine with_tabW astragallaw06_NullMore.tab11 astragallaw06_NullMore.bits11 (fun HT_ HW_ => ?_)
                  generalize w27.drew = w28 at HO_6 HO221 BK209 HB hHeld ⊢
                  refine pure_ (i := 0) (N := some 48) (v := ?_) (a' := ?_) #[true, false, false, false, false, false, false, false, false, false, false, false, false] rfl rfl (any_of HT_.out (by kernel_rfl)) (fun _ _ _ h => h) (Or.inl ⟨by rfl, ?_⟩) ?_ ?_
                  rotate_left
                  · intro w'
                    go_simp
                    with_reducible rfl
                  rotate_left
                  · simp only [Act.put, List.setIfInBounds_toArray, List.set_cons_zero, List.set_cons_succ, i64_w, i32_w]
                    rfl
                  refine pure_ (i := 2) (N := some 50) (v := ?_) (a' := ?_) #[true, false, true, false, false, false, false, false, false, false, false, false, false] rfl rfl (any_of HT_.out (by kernel_rfl)) (fun _ _ _ h => h) (Or.inl ⟨by rfl, ?_⟩) ?_ ?_
                  rotate_left
                  · intro w'
                    go_simp
                    with_reducible rfl
                  rotate_left
                  · simp only [Act.put, List.setIfInBounds_toArray, List.set_cons_zero, List.set_cons_succ, i64_w, i32_w]
                    rfl
                  refine take_ (i := 4) (N := some 52) (v := ?_) (a' := ?_) #[true, false, true, false, true, false, false, false, false, false, false, false, false] rfl rfl (take_ofW HT_.out HW_.out (by kernel_rfl)) (fun _ _ _ h => h) (Or.inl ⟨by rfl, ?_⟩) hHeld ?_ ?_
                  rotate_left
                  · rintro w' ⟨s0, s1, s2⟩
                    go_simp
                    with_reducible rfl
                  rotate_left
                  · simp only [Act.put, List.setIfInBounds_toArray, List.set_cons_zero, List.set_cons_succ, i64_w, i32_w]
                    rfl
                  refine join_ (σ := Value × Value × Value) 7 #[true, true, true, true, true, true, false, false, false, false, false, false, false] (fun s_ => [(49, s_.1), (51, s_.2.1), (53, s_.2.2)]) (fun s_ w' => (w'.cell? ⟨gb209, 0, none⟩ = some (.int .i64 a1_0) ∧ w'.cell? ⟨gb209, 1, none⟩ = some (.int .i64 a1_1) ∧ w'.cell? ⟨gb209, 2, none⟩ = some (.string a1_2)) ∧ (Kd.R k37 37 w' w.heap.size (fun k_ => some k_ ≠ (s_.2.1 : Value).ownBlock ∧ some k_ ≠ (s_.2.2 : Value).ownBlock ∧ some k_ ≠ (.slice Ao26 x6_2.length co26 : Value).ownBlock ∧ k_ ≠ gb209) v220 t218) ∧ (Kd.R k37 37 w' w.heap.size (fun k_ => some k_ ≠ (v220 : Value).ownBlock ∧ some k_ ≠ (s_.2.2 : Value).ownBlock ∧ some k_ ≠ (.slice Ao26 x6_2.length co26 : Value).ownBlock ∧ k_ ≠ gb209) s_.2.1 y225) ∧ (Kd.R k37 37 w' w.heap.size (fun k_ => some k_ ≠ (v220 : Value).ownBlock ∧ some k_ ≠ (s_.2.1 : Value).ownBlock ∧ some k_ ≠ (.slice Ao26 x6_2.length co26 : Value).ownBlock ∧ k_ ≠ gb209) s_.2.2 y228) ∧ (Kd.R k37 37 w' w.heap.size (fun k_ => some k_ ≠ (v220 : Value).ownBlock ∧ some k_ ≠ (s_.2.1 : Value).ownBlock ∧ some k_ ≠ (s_.2.2 : Value).ownBlock ∧ k_ ≠ gb209) (.slice Ao26 x6_2.length co26) x6_2) ∧ (w'.heap[gb209]? = some (.cells #[.int .i64 a1_0, .int .i64 a1_1, .string a1_2] 37 (0, 0))) ∧ (Below w.heap.size w w')) ?_ ?_
                  rotate_left
                  · intro hCont
                    refine two_ (i := 1) (j := 5) (Ni := some 49) (Nj := some 53) #[true, true, true, false, true, false, false, false, false, false, false, false, false] #[true, false, true, false, true, true, false, false, false, false, false, false, false] rfl rfl rfl rfl (two_of HT_.out (by kernel_rfl)) (by decide) (by decide) (fun K hK => ?_) (fun K hK => ?_)
                    · skip
                      refine Kd.R_lit_step k37 _ 37 ?hg (N := 49) ?hd (xs := ([] : List (S37))) (inner := []) (ok := fun _ => True) (okp := fun _ => True) ?hr ?hp (fun _ hk => hk) trivial (Below.refl _ _) (Nat.le_refl _) (by simp) ?_; (case hd => rfl); (case hg => rfl); (case hr => first | (go_simp; done) | (go_simp; rfl)); (case hp => exact (Reps.none _ _))
                      intro v223 w29 ho30 hb hg_ hnew_
                      clear hg_ hnew_
                      (first | rw [← Ny222.out] at ho30 | (simp only [Int.reduceToNat] at ho30; rw [← Ny222.out] at ho30))
                      have n0_ := Aside0.mk (Kd.R_elder' (by (with_reducible repeat (first | apply Kd.R_alloc | apply Kd.R_drewN | apply Kd.R_drew)); exact HO_6.out) (Kd.R_base ho30) hb)
                      have n1_ := Aside0.mk (Kd.R_elder' (by (with_reducible repeat (first | apply Kd.R_alloc | apply Kd.R_drewN | apply Kd.R_drew)); exact HO221.out) (Kd.R_base ho30) hb)
                      have n2_ := Aside0.mk (Kd.R_lower (Kd.R_newB (Kd.R_new' (Kd.R_new' ho30 (Kd.R_lt (by (with_reducible repeat (first | apply Kd.R_alloc | apply Kd.R_drewN | apply Kd.R_drew)); exact HO_6.out))) (Kd.R_lt (by (with_reducible repeat (first | apply Kd.R_alloc | apply Kd.R_drewN | apply Kd.R_drew)); exact HO221.out))) (g := gb209) (o := .cells #[.int .i64 a1_0, .int .i64 a1_1, .string a1_2] 37 (0, 0)) (by (with_reducible repeat (first | refine blk_drewN ?_ _ | refine blk_drew ?_ | refine blk_alloc ?_ _)); exact BK209.out)) (below_size (by repeat (first | (with_reducible first | exact HB.out | apply below_alloc | apply pw_below_drewN | apply below_drew1 | refine below_set ?_ GE209.out) | exact HB.out))))
                      have n3_ := Aside0.mk (blk_below (g := gb209) (o := .cells #[.int .i64 a1_0, .int .i64 a1_1, .string a1_2] 37 (0, 0)) (by (with_reducible repeat (first | refine blk_drewN ?_ _ | refine blk_drew ?_ | refine blk_alloc ?_ _)); exact BK209.out) hb)
                      have n4_ := Aside0.mk (below_step (by repeat (first | (with_reducible first | exact HB.out | apply below_alloc | apply pw_below_drewN | apply below_drew1 | refine below_set ?_ GE209.out) | exact HB.out)) hb)
                      clear HO_6
                      clear HO221
                      clear BK209
                      clear HB
                      have HO_6 := n0_
                      have HO221 := n1_
                      have HO224 := n2_
                      have BK209 := n3_
                      have HB := n4_
                      clear n0_ n1_ n2_ n3_ n4_
                      clear hb ho30
                      refine hK.out _ _ ⟨(blk_cell BK209.out 0).trans rfl, (blk_cell BK209.out 1).trans rfl, (blk_cell BK209.out 2).trans rfl⟩ (fun hHeld => ?_)
                      clear hK K
                      refine norm_ (a' := ?_) ?_ ?_
                      rotate_left
                      · show Act.put _ (some 49) _ = _
                        simp only [Act.put, List.setIfInBounds_toArray, List.set_cons_zero, List.set_cons_succ, i64_w, i32_w]
                        rfl
                      refine two_ (i := 3) (j := 5) (Ni := some 51) (Nj := some 53) #[true, true, true, true, true, false, false, false, false, false, false, false, false] #[true, true, true, false, true, true, false, false, false, false, false, false, false] rfl rfl rfl rfl (two_of HT_.out (by kernel_rfl)) (by decide) (by decide) (fun K hK => ?_) (fun K hK => ?_)
                      · skip
                        refine Kd.R_append_rows_step k37 (w0 := w) w.heap.size (by rfl) (.tmp 49) (.tmp 50) 22 37 (.agg #[(.int .i64 0), (.int .i64 0), (.string ⟨#[]⟩)]) 32 rfl Try.underlying22 info37 rfl (by decide) (by omega) v223 y222 x6_2 _ _ _ (fun k_ => some k_ ≠ (.slice Ao26 x6_2.length co26 : Value).ownBlock ∧ some k_ ≠ (v220 : Value).ownBlock ∧ k_ ≠ gb209) (fun _ => False) rfl rfl ?aO ?aR (fun _ _ h => h) (fun _ h => h.elim) ?aF ?aB ?aS ?aL ?_
                        (case aR => repeat (first | exact (Kd.R_reads' HO_6.out).2.2 | (with_reducible refine Kd.C_alloc ?_ _) | (with_reducible refine Kd.C_drewN ?_ _) | (with_reducible refine Kd.C_drew ?_)))
                        (case aB => exact (by repeat (first | (with_reducible first | exact HB.out | apply below_alloc | apply pw_below_drewN | apply below_drew1 | refine below_set ?_ GE209.out) | exact HB.out)))
                        (case aF => exact (fun k_ hk => ⟨Kd.fresh' (Kd.R_lt (by (with_reducible repeat (first | apply Kd.R_alloc | apply Kd.R_drewN | apply Kd.R_drew)); exact HO_6.out)) k_ hk, Kd.fresh' (Kd.R_lt (by (with_reducible repeat (first | apply Kd.R_alloc | apply Kd.R_drewN | apply Kd.R_drew)); exact HO221.out)) k_ hk, Kd.freshB (g := gb209) (o := .cells #[.int .i64 a1_0, .int .i64 a1_1, .string a1_2] 37 (0, 0)) (by (with_reducible repeat (first | refine blk_drewN ?_ _ | refine blk_drew ?_ | refine blk_alloc ?_ _)); exact BK209.out) k_ hk⟩))
                        (case aO => exact (by (with_reducible repeat (first | apply Kd.R_alloc | apply Kd.R_drewN | apply Kd.R_drew)); exact Kd.R_mono HO224.out (fun _ hk => ⟨hk.1.1.2, ⟨hk.1.2, hk.2⟩⟩)))
                        (case aS => exact (below_size (by repeat (first | (with_reducible first | exact HB.out | apply below_alloc | apply pw_below_drewN | apply below_drew1 | refine below_set ?_ GE209.out) | exact HB.out))))
                        (case aL => have := LMc22.out; omega)
                        intro v226 w31 ho hb hg hat
                        rw [← Ny225.out] at ho
                        have n0_ := Aside0.mk (Kd.R_after (ok := (fun k_ => some k_ ≠ (v220 : Value).ownBlock ∧ k_ ≠ gb209)) (by (with_reducible repeat (first | apply Kd.R_alloc | apply Kd.R_drewN | apply Kd.R_drew)); exact Kd.R_mono HO_6.out (fun _ hk => ⟨⟨hk.1.2, hk.1.1⟩, hk.2⟩)) hg hat)
                        have n1_ := Aside0.mk (blk_grown (g := gb209) (o := .cells #[.int .i64 a1_0, .int .i64 a1_1, .string a1_2] 37 (0, 0)) (by (with_reducible repeat (first | refine blk_drewN ?_ _ | refine blk_drew ?_ | refine blk_alloc ?_ _)); exact BK209.out) hg (Kd.R_away HO224.out (fun _ hk => hk.2)))
                        have n2_ := Aside0.mk (Kd.R_after (ok := (fun k_ => some k_ ≠ (.slice Ao26 x6_2.length co26 : Value).ownBlock ∧ k_ ≠ gb209)) (by (with_reducible repeat (first | apply Kd.R_alloc | apply Kd.R_drewN | apply Kd.R_drew)); exact Kd.R_mono HO221.out (fun _ hk => ⟨⟨hk.1.1.2, hk.1.2⟩, hk.2⟩)) hg hat)
                        have n3_ := Aside0.mk (hb)
                        have n4_ := Aside0.mk (ho)
                        clear HO_6
                        clear BK209
                        clear HO221
                        clear HB
                        clear HO224
                        have HO_6 := n0_
                        have BK209 := n1_
                        have HO221 := n2_
                        have HB := n3_
                        have HO227 := n4_
                        clear n0_ n1_ n2_ n3_ n4_
                        clear ho hb hg hat
                        refine hK.out _ _ ⟨(blk_cell BK209.out 0).trans rfl, (blk_cell BK209.out 1).trans rfl, (blk_cell BK209.out 2).trans rfl⟩ (fun hHeld => ?_)
                        clear hK K
                        refine norm_ (a' := ?_) ?_ ?_
                        rotate_left
                        · show Act.put _ (some 51) _ = _
                          simp only [Act.put, List.setIfInBounds_toArray, List.set_cons_zero, List.set_cons_succ, i64_w, i32_w]
                          rfl
                        refine one_ (i := 5) (N := some 53) #[true, true, true, true, true, true, false, false, false, false, false, false, false] rfl rfl (one_of HT_.out (by kernel_rfl)) (by decide) (fun K hK => ?_)
                        refine Kd.R_lit_step k37 _ 37 ?hg (N := 53) ?hd (xs := ([(⟨a1_0, a1_1, a1_2⟩ : S37)] : List (S37))) (inner := [.int .i64 a1_0, .int .i64 a1_1, .string a1_2]) (ok := fun _ => True) (okp := fun _ => True) ?hr ?hp (fun _ hk => hk) trivial (Below.refl _ _) (Nat.le_refl _) (by simp) ?_; (case hd => rfl); (case hg => rfl); (case hr => first | (go_simp; done) | (go_simp; rfl)); (case hp => exact (Reps.c3 (show Kd.M k37 _ _ _ (⟨a1_0, a1_1, a1_2⟩ : S37) [.int .i64 a1_0, .int .i64 a1_1, .string a1_2] from (k37_mkM _ _ _ (⟨a1_0, a1_1, a1_2⟩ : S37) )) (Reps.none _ _)))
                        intro v229 w32 ho33 hb hg_ hnew_
                        clear hg_ hnew_
                        (first | rw [← Ny228.out] at ho33 | (simp only [Int.reduceToNat] at ho33; rw [← Ny228.out] at ho33))
                        have n0_ := Aside0.mk (Kd.R_elder' (by (with_reducible repeat (first | apply Kd.R_alloc | apply Kd.R_drewN | apply Kd.R_drew)); exact HO_6.out) (Kd.R_base ho33) hb)
                        have n1_ := Aside0.mk (Kd.R_elder' (by (with_reducible repeat (first | apply Kd.R_alloc | apply Kd.R_drewN | apply Kd.R_drew)); exact HO221.out) (Kd.R_base ho33) hb)
                        have n2_ := Aside0.mk (Kd.R_elder' (by (with_reducible repeat (first | apply Kd.R_alloc | apply Kd.R_drewN | apply Kd.R_drew)); exact HO227.out) (Kd.R_base ho33) hb)
                        have n3_ := Aside0.mk (Kd.R_lower (Kd.R_newB (Kd.R_new' (Kd.R_new' (Kd.R_new' ho33 (Kd.R_lt (by (with_reducible repeat (first | apply Kd.R_alloc | apply Kd.R_drewN | apply Kd.R_drew)); exact HO_6.out))) (Kd.R_lt (by (with_reducible repeat (first | apply Kd.R_alloc | apply Kd.R_drewN | apply Kd.R_drew)); exact HO221.out))) (Kd.R_lt (by (with_reducible repeat (first | apply Kd.R_alloc | apply Kd.R_drewN | apply Kd.R_drew)); exact HO227.out))) (g := gb209) (o := .cells #[.int .i64 a1_0, .int .i64 a1_1, .string a1_2] 37 (0, 0)) (by (with_reducible repeat (first | refine blk_drewN ?_ _ | refine blk_drew ?_ | refine blk_alloc ?_ _)); exact BK209.out)) (below_size (by repeat (first | (with_reducible first | exact HB.out | apply below_alloc | apply pw_below_drewN | apply below_drew1 | refine below_set ?_ GE209.out) | exact HB.out))))
                        have n4_ := Aside0.mk (blk_below (g := gb209) (o := .cells #[.int .i64 a1_0, .int .i64 a1_1, .string a1_2] 37 (0, 0)) (by (with_reducible repeat (first | refine blk_drewN ?_ _ | refine blk_drew ?_ | refine blk_alloc ?_ _)); exact BK209.out) hb)
                        have n5_ := Aside0.mk (below_step (by repeat (first | (with_reducible first | exact HB.out | apply below_alloc | apply pw_below_drewN | apply below_drew1 | refine below_set ?_ GE209.out) | exact HB.out)) hb)
                        clear HO_6
                        clear HO221
                        clear HO227
                        clear BK209
                        clear HB
                        have HO_6 := n0_
                        have HO221 := n1_
                        have HO227 := n2_
                        have HO230 := n3_
                        have BK209 := n4_
                        have HB := n5_
                        clear n0_ n1_ n2_ n3_ n4_ n5_
                        clear hb ho33
                        refine hK.out _ _ ⟨(blk_cell BK209.out 0).trans rfl, (blk_cell BK209.out 1).trans rfl, (blk_cell BK209.out 2).trans rfl⟩ (fun hHeld => ?_)
                        clear hK K
                        refine norm_ (a' := ?_) ?_ ?_
                        rotate_left
                        · show Act.put _ (some 53) _ = _
                          simp only [Act.put, List.setIfInBounds_toArray, List.set_cons_zero, List.set_cons_succ, i64_w, i32_w]
                          rfl
                        exact norm_ (by simp only [putAll, Act.put, List.setIfInBounds_toArray, List.set_cons_zero, List.set_cons_succ]) (hCont (v223, v226, v229) _ ⟨hHeld, (by (with_reducible repeat (first | apply Kd.R_alloc | apply Kd.R_drewN | apply Kd.R_drew)); exact Kd.R_mono HO221.out (fun _ hk => ⟨hk.1.2, ⟨hk.2, ⟨hk.1.1.1, hk.1.1.2⟩⟩⟩)), (by (with_reducible repeat (first | apply Kd.R_alloc | apply Kd.R_drewN | apply Kd.R_drew)); exact Kd.R_mono HO227.out (fun _ hk => ⟨hk.1.2.1, ⟨hk.2, ⟨hk.1.1, hk.1.2.2⟩⟩⟩)), (by (with_reducible repeat (first | apply Kd.R_alloc | apply Kd.R_drewN | apply Kd.R_drew)); exact Kd.R_mono HO230.out (fun _ hk => ⟨hk.1.1.2, ⟨hk.1.2, ⟨hk.1.1.1.2, hk.2⟩⟩⟩)), (by (with_reducible repeat (first | apply Kd.R_alloc | apply Kd.R_drewN | apply Kd.R_drew)); exact Kd.R_mono HO_6.out (fun _ hk => ⟨hk.1.1.1, ⟨hk.1.2, ⟨hk.2, hk.1.1.2⟩⟩⟩)), (by (with_reducible repeat (first | refine blk_drewN ?_ _ | refine blk_drew ?_ | refine blk_alloc ?_ _)); exact BK209.out), (by repeat (first | (with_reducible first | exact HB.out | apply below_alloc | apply pw_below_drewN | apply below_drew1 | refine below_set ?_ GE209.out) | exact HB.out))⟩)
                      · skip
                        refine Kd.R_lit_step k37 _ 37 ?hg (N := 53) ?hd (xs := ([(⟨a1_0, a1_1, a1_2⟩ : S37)] : List (S37))) (inner := [.int .i64 a1_0, .int .i64 a1_1, .string a1_2]) (ok := fun _ => True) (okp := fun _ => True) ?hr ?hp (fun _ hk => hk) trivial (Below.refl _ _) (Nat.le_refl _) (by simp) ?_; (case hd => rfl); (case hg => rfl); (case hr => first | (go_simp; done) | (go_simp; rfl)); (case hp => exact (Reps.c3 (show Kd.M k37 _ _ _ (⟨a1_0, a1_1, a1_2⟩ : S37) [.int .i64 a1_0, .int .i64 a1_1, .string a1_2] from (k37_mkM _ _ _ (⟨a1_0, a1_1, a1_2⟩ : S37) )) (Reps.none _ _)))
                        intro v229 w31 ho32 hb hg_ hnew_
                        clear hg_ hnew_
                        (first | rw [← Ny228.out] at ho32 | (simp only [Int.reduceToNat] at ho32; rw [← Ny228.out] at ho32))
                        have n0_ := Aside0.mk (Kd.R_elder' (by (with_reducible repeat (first | apply Kd.R_alloc | apply Kd.R_drewN | apply Kd.R_drew)); exact HO_6.out) (Kd.R_base ho32) hb)
                        have n1_ := Aside0.mk (Kd.R_elder' (by (with_reducible repeat (first | apply Kd.R_alloc | apply Kd.R_drewN | apply Kd.R_drew)); exact HO221.out) (Kd.R_base ho32) hb)
                        have n2_ := Aside0.mk (Kd.R_elder' (by (with_reducible repeat (first | apply Kd.R_alloc | apply Kd.R_drewN | apply Kd.R_drew)); exact HO224.out) (Kd.R_base ho32) hb)
                        have n3_ := Aside0.mk (Kd.R_lower (Kd.R_newB (Kd.R_new' (Kd.R_new' (Kd.R_new' ho32 (Kd.R_lt (by (with_reducible repeat (first | apply Kd.R_alloc | apply Kd.R_drewN | apply Kd.R_drew)); exact HO_6.out))) (Kd.R_lt (by (with_reducible repeat (first | apply Kd.R_alloc | apply Kd.R_drewN | apply Kd.R_drew)); exact HO221.out))) (Kd.R_lt (by (with_reducible repeat (first | apply Kd.R_alloc | apply Kd.R_drewN | apply Kd.R_drew)); exact HO224.out))) (g := gb209) (o := .cells #[.int .i64 a1_0, .int .i64 a1_1, .string a1_2] 37 (0, 0)) (by (with_reducible repeat (first | refine blk_drewN ?_ _ | refine blk_drew ?_ | refine blk_alloc ?_ _)); exact BK209.out)) (below_size (by repeat (first | (with_reducible first | exact HB.out | apply below_alloc | apply pw_below_drewN | apply below_drew1 | refine below_set ?_ GE209.out) | exact HB.out))))
                        have n4_ := Aside0.mk (blk_below (g := gb209) (o := .cells #[.int .i64 a1_0, .int .i64 a1_1, .string a1_2] 37 (0, 0)) (by (with_reducible repeat (first | refine blk_drewN ?_ _ | refine blk_drew ?_ | refine blk_alloc ?_ _)); exact BK209.out) hb)
                        have n5_ := Aside0.mk (below_step (by repeat (first | (with_reducible first | exact HB.out | apply below_alloc | apply pw_below_drewN | apply below_drew1 | refine below_set ?_ GE209.out) | exact HB.out)) hb)
                        clear HO_6
                        clear HO221
                        clear HO224
                        clear BK209
                        clear HB
                        have HO_6 := n0_
                        have HO221 := n1_
                        have HO224 := n2_
                        have HO230 := n3_
                        have BK209 := n4_
                        have HB := n5_
                        clear n0_ n1_ n2_ n3_ n4_ n5_
                        clear hb ho32
                        refine hK.out _ _ ⟨(blk_cell BK209.out 0).trans rfl, (blk_cell BK209.out 1).trans rfl, (blk_cell BK209.out 2).trans rfl⟩ (fun hHeld => ?_)
                        clear hK K
                        refine norm_ (a' := ?_) ?_ ?_
                        rotate_left
                        · show Act.put _ (some 53) _ = _
                          simp only [Act.put, List.setIfInBounds_toArray, List.set_cons_zero, List.set_cons_succ, i64_w, i32_w]
                          rfl
                        refine one_ (i := 3) (N := some 51) #[true, true, true, true, true, true, false, false, false, false, false, false, false] rfl rfl (one_of HT_.out (by kernel_rfl)) (by decide) (fun K hK => ?_)
                        refine Kd.R_append_rows_step k37 (w0 := w) w.heap.size (by rfl) (.tmp 49) (.tmp 50) 22 37 (.agg #[(.int .i64 0), (.int .i64 0), (.string ⟨#[]⟩)]) 32 rfl Try.underlying22 info37 rfl (by decide) (by omega) v223 y222 x6_2 _ _ _ (fun k_ => some k_ ≠ (.slice Ao26 x6_2.length co26 : Value).ownBlock ∧ some k_ ≠ (v220 : Value).ownBlock ∧ some k_ ≠ (v229 : Value).ownBlock ∧ k_ ≠ gb209) (fun _ => False) rfl rfl ?aO ?aR (fun _ _ h => h) (fun _ h => h.elim) ?aF ?aB ?aS ?aL ?_
                        (case aR => repeat (first | exact (Kd.R_reads' HO_6.out).2.2 | (with_reducible refine Kd.C_alloc ?_ _) | (with_reducible refine Kd.C_drewN ?_ _) | (with_reducible refine Kd.C_drew ?_)))
                        (case aB => exact (by repeat (first | (with_reducible first | exact HB.out | apply below_alloc | apply pw_below_drewN | apply below_drew1 | refine below_set ?_ GE209.out) | exact HB.out)))
                        (case aF => exact (fun k_ hk => ⟨Kd.fresh' (Kd.R_lt (by (with_reducible repeat (first | apply Kd.R_alloc | apply Kd.R_drewN | apply Kd.R_drew)); exact HO_6.out)) k_ hk, Kd.fresh' (Kd.R_lt (by (with_reducible repeat (first | apply Kd.R_alloc | apply Kd.R_drewN | apply Kd.R_drew)); exact HO221.out)) k_ hk, Kd.fresh' (Kd.R_lt (by (with_reducible repeat (first | apply Kd.R_alloc | apply Kd.R_drewN | apply Kd.R_drew)); exact HO230.out)) k_ hk, Kd.freshB (g := gb209) (o := .cells #[.int .i64 a1_0, .int .i64 a1_1, .string a1_2] 37 (0, 0)) (by (with_reducible repeat (first | refine blk_drewN ?_ _ | refine blk_drew ?_ | refine blk_alloc ?_ _)); exact BK209.out) k_ hk⟩))
                        (case aO => exact (by (with_reducible repeat (first | apply Kd.R_alloc | apply Kd.R_drewN | apply Kd.R_drew)); exact Kd.R_mono HO224.out (fun _ hk => ⟨hk.1.1.1.2, ⟨hk.1.1.2, ⟨hk.2, hk.1.2⟩⟩⟩)))
                        (case aS => exact (below_size (by repeat (first | (with_reducible first | exact HB.out | apply below_alloc | apply pw_below_drewN | apply below_drew1 | refine below_set ?_ GE209.out) | exact HB.out))))
                        (case aL => have := LMc22.out; omega)
                        intro v226 w33 ho hb hg hat
                        rw [← Ny225.out] at ho
                        have n0_ := Aside0.mk (Kd.R_after (ok := (fun k_ => some k_ ≠ (v220 : Value).ownBlock ∧ some k_ ≠ (v229 : Value).ownBlock ∧ k_ ≠ gb209)) (by (with_reducible repeat (first | apply Kd.R_alloc | apply Kd.R_drewN | apply Kd.R_drew)); exact Kd.R_mono HO_6.out (fun _ hk => ⟨⟨hk.1.1.2, ⟨hk.2, hk.1.1.1⟩⟩, hk.1.2⟩)) hg hat)
                        have n1_ := Aside0.mk (blk_grown (g := gb209) (o := .cells #[.int .i64 a1_0, .int .i64 a1_1, .string a1_2] 37 (0, 0)) (by (with_reducible repeat (first | refine blk_drewN ?_ _ | refine blk_drew ?_ | refine blk_alloc ?_ _)); exact BK209.out) hg (Kd.R_away HO224.out (fun _ hk => hk.1.2)))
                        have n2_ := Aside0.mk (Kd.R_after (ok := (fun k_ => some k_ ≠ (.slice Ao26 x6_2.length co26 : Value).ownBlock ∧ some k_ ≠ (v229 : Value).ownBlock ∧ k_ ≠ gb209)) (by (with_reducible repeat (first | apply Kd.R_alloc | apply Kd.R_drewN | apply Kd.R_drew)); exact Kd.R_mono HO221.out (fun _ hk => ⟨⟨hk.1.1.1.2, ⟨hk.2, hk.1.1.2⟩⟩, hk.1.2⟩)) hg hat)
                        have n3_ := Aside0.mk (Kd.R_after (ok := (fun k_ => some k_ ≠ (.slice Ao26 x6_2.length co26 : Value).ownBlock ∧ some k_ ≠ (v220 : Value).ownBlock ∧ k_ ≠ gb209)) (by (with_reducible repeat (first | apply Kd.R_alloc | apply Kd.R_drewN | apply Kd.R_drew)); exact Kd.R_mono HO230.out (fun _ hk => ⟨⟨hk.1.1.1.2, ⟨hk.1.1.2, hk.2⟩⟩, hk.1.2⟩)) hg hat)
                        have n4_ := Aside0.mk (hb)
                        have n5_ := Aside0.mk (ho)
                        clear HO_6
                        clear BK209
                        clear HO221
                        clear HO230
                        clear HB
                        clear HO224
                        have HO_6 := n0_
                        have BK209 := n1_
                        have HO221 := n2_
                        have HO230 := n3_
                        have HB := n4_
                        have HO227 := n5_
                        clear n0_ n1_ n2_ n3_ n4_ n5_
                        clear ho hb hg hat
                        refine hK.out _ _ ⟨(blk_cell BK209.out 0).trans rfl, (blk_cell BK209.out 1).trans rfl, (blk_cell BK209.out 2).trans rfl⟩ (fun hHeld => ?_)
                        clear hK K
                        refine norm_ (a' := ?_) ?_ ?_
                        rotate_left
                        · show Act.put _ (some 51) _ = _
                          simp only [Act.put, List.setIfInBounds_toArray, List.set_cons_zero, List.set_cons_succ, i64_w, i32_w]
                          rfl
                        exact norm_ (by simp only [putAll, Act.put, List.setIfInBounds_toArray, List.set_cons_zero, List.set_cons_succ]) (hCont (v223, v226, v229) _ ⟨hHeld, (by (with_reducible repeat (first | apply Kd.R_alloc | apply Kd.R_drewN | apply Kd.R_drew)); exact Kd.R_mono HO221.out (fun _ hk => ⟨hk.2, ⟨hk.1.2.1, ⟨hk.1.1, hk.1.2.2⟩⟩⟩)), (by (with_reducible repeat (first | apply Kd.R_alloc | apply Kd.R_drewN | apply Kd.R_drew)); exact Kd.R_mono HO227.out (fun _ hk => ⟨hk.2.1, ⟨hk.2.2.1, ⟨hk.1, hk.2.2.2⟩⟩⟩)), (by (with_reducible repeat (first | apply Kd.R_alloc | apply Kd.R_drewN | apply Kd.R_drew)); exact Kd.R_mono HO230.out (fun _ hk => ⟨hk.1.2.1, ⟨hk.2, ⟨hk.1.1, hk.1.2.2⟩⟩⟩)), (by (with_reducible repeat (first | apply Kd.R_alloc | apply Kd.R_drewN | apply Kd.R_drew)); exact Kd.R_mono HO_6.out (fun _ hk => ⟨hk.1.1, ⟨hk.2, ⟨hk.1.2.1, hk.1.2.2⟩⟩⟩)), (by (with_reducible repeat (first | refine blk_drewN ?_ _ | refine blk_drew ?_ | refine blk_alloc ?_ _)); exact BK209.out), (by repeat (first | (with_reducible first | exact HB.out | apply below_alloc | apply pw_below_drewN | apply below_drew1 | refine below_set ?_ GE209.out) | exact HB.out))⟩)
                    · skip
                      refine Kd.R_lit_step k37 _ 37 ?hg (N := 53) ?hd (xs := ([(⟨a1_0, a1_1, a1_2⟩ : S37)] : List (S37))) (inner := [.int .i64 a1_0, .int .i64 a1_1, .string a1_2]) (ok := fun _ => True) (okp := fun _ => True) ?hr ?hp (fun _ hk => hk) trivial (Below.refl _ _) (Nat.le_refl _) (by simp) ?_; (case hd => rfl); (case hg => rfl); (case hr => first | (go_simp; done) | (go_simp; rfl)); (case hp => exact (Reps.c3 (show Kd.M k37 _ _ _ (⟨a1_0, a1_1, a1_2⟩ : S37) [.int .i64 a1_0, .int .i64 a1_1, .string a1_2] from (k37_mkM _ _ _ (⟨a1_0, a1_1, a1_2⟩ : S37) )) (Reps.none _ _)))
                      intro v229 w29 ho30 hb hg_ hnew_
                      clear hg_ hnew_
                      (first | rw [← Ny228.out] at ho30 | (simp only [Int.reduceToNat] at ho30; rw [← Ny228.out] at ho30))
                      have n0_ := Aside0.mk (Kd.R_elder' (by (with_reducible repeat (first | apply Kd.R_alloc | apply Kd.R_drewN | apply Kd.R_drew)); exact HO_6.out) (Kd.R_base ho30) hb)
                      have n1_ := Aside0.mk (Kd.R_elder' (by (with_reducible repeat (first | apply Kd.R_alloc | apply Kd.R_drewN | apply Kd.R_drew)); exact HO221.out) (Kd.R_base ho30) hb)
                      have n2_ := Aside0.mk (Kd.R_lower (Kd.R_newB (Kd.R_new' (Kd.R_new' ho30 (Kd.R_lt (by (with_reducible repeat (first | apply Kd.R_alloc | apply Kd.R_drewN | apply Kd.R_drew)); exact HO_6.out))) (Kd.R_lt (by (with_reducible repeat (first | apply Kd.R_alloc | apply Kd.R_drewN | apply Kd.R_drew)); exact HO221.out))) (g := gb209) (o := .cells #[.int .i64 a1_0, .int .i64 a1_1, .string a1_2] 37 (0, 0)) (by (with_reducible repeat (first | refine blk_drewN ?_ _ | refine blk_drew ?_ | refine blk_alloc ?_ _)); exact BK209.out)) (below_size (by repeat (first | (with_reducible first | exact HB.out | apply below_alloc | apply pw_below_drewN | apply below_drew1 | refine below_set ?_ GE209.out) | exact HB.out))))
                      have n3_ := Aside0.mk (blk_below (g := gb209) (o := .cells #[.int .i64 a1_0, .int .i64 a1_1, .string a1_2] 37 (0, 0)) (by (with_reducible repeat (first | refine blk_drewN ?_ _ | refine blk_drew ?_ | refine blk_alloc ?_ _)); exact BK209.out) hb)
                      have n4_ := Aside0.mk (below_step (by repeat (first | (with_reducible first | exact HB.out | apply below_alloc | apply pw_below_drewN | apply below_drew1 | refine below_set ?_ GE209.out) | exact HB.out)) hb)
                      clear HO_6
                      clear HO221
                      clear BK209
                      clear HB
                      have HO_6 := n0_
                      have HO221 := n1_
                      have HO230 := n2_
                      have BK209 := n3_
                      have HB := n4_
                      clear n0_ n1_ n2_ n3_ n4_
                      clear hb ho30
                      refine hK.out _ _ ⟨(blk_cell BK209.out 0).trans rfl, (blk_cell BK209.out 1).trans rfl, (blk_cell BK209.out 2).trans rfl⟩ (fun hHeld => ?_)
                      clear hK K
                      refine norm_ (a' := ?_) ?_ ?_
                      rotate_left
                      · show Act.put _ (some 53) _ = _
                        simp only [Act.put, List.setIfInBounds_toArray, List.set_cons_zero, List.set_cons_succ, i64_w, i32_w]
                        rfl
                      refine one_ (i := 1) (N := some 49) #[true, true, true, false, true, true, false, false, false, false, false, false, false] rfl rfl (one_of HT_.out (by kernel_rfl)) (by decide) (fun K hK => ?_)
                      refine Kd.R_lit_step k37 _ 37 ?hg (N := 49) ?hd (xs := ([] : List (S37))) (inner := []) (ok := fun _ => True) (okp := fun _ => True) ?hr ?hp (fun _ hk => hk) trivial (Below.refl _ _) (Nat.le_refl _) (by simp) ?_; (case hd => rfl); (case hg => rfl); (case hr => first | (go_simp; done) | (go_simp; rfl)); (case hp => exact (Reps.none _ _))
                      intro v223 w31 ho32 hb hg_ hnew_
                      clear hg_ hnew_
                      (first | rw [← Ny222.out] at ho32 | (simp only [Int.reduceToNat] at ho32; rw [← Ny222.out] at ho32))
                      have n0_ := Aside0.mk (Kd.R_elder' (by (with_reducible repeat (first | apply Kd.R_alloc | apply Kd.R_drewN | apply Kd.R_drew)); exact HO_6.out) (Kd.R_base ho32) hb)
                      have n1_ := Aside0.mk (Kd.R_elder' (by (with_reducible repeat (first | apply Kd.R_alloc | apply Kd.R_drewN | apply Kd.R_drew)); exact HO221.out) (Kd.R_base ho32) hb)
                      have n2_ := Aside0.mk (Kd.R_elder' (by (with_reducible repeat (first | apply Kd.R_alloc | apply Kd.R_drewN | apply Kd.R_drew)); exact HO230.out) (Kd.R_base ho32) hb)
                      have n3_ := Aside0.mk (Kd.R_lower (Kd.R_newB (Kd.R_new' (Kd.R_new' (Kd.R_new' ho32 (Kd.R_lt (by (with_reducible repeat (first | apply Kd.R_alloc | apply Kd.R_drewN | apply Kd.R_drew)); exact HO_6.out))) (Kd.R_lt (by (with_reducible repeat (first | apply Kd.R_alloc | apply Kd.R_drewN | apply Kd.R_drew)); exact HO221.out))) (Kd.R_lt (by (with_reducible repeat (first | apply Kd.R_alloc | apply Kd.R_drewN | apply Kd.R_drew)); exact HO230.out))) (g := gb209) (o := .cells #[.int .i64 a1_0, .int .i64 a1_1, .string a1_2] 37 (0, 0)) (by (with_reducible repeat (first | refine blk_drewN ?_ _ | refine blk_drew ?_ | refine blk_alloc ?_ _)); exact BK209.out)) (below_size (by repeat (first | (with_reducible first | exact HB.out | apply below_alloc | apply pw_below_drewN | apply below_drew1 | refine below_set ?_ GE209.out) | exact HB.out))))
                      have n4_ := Aside0.mk (blk_below (g := gb209) (o := .cells #[.int .i64 a1_0, .int .i64 a1_1, .string a1_2] 37 (0, 0)) (by (with_reducible repeat (first | refine blk_drewN ?_ _ | refine blk_drew ?_ | refine blk_alloc ?_ _)); exact BK209.out) hb)
                      have n5_ := Aside0.mk (below_step (by repeat (first | (with_reducible first | exact HB.out | apply below_alloc | apply pw_below_drewN | apply below_drew1 | refine below_set ?_ GE209.out) | exact HB.out)) hb)
                      clear HO_6
                      clear HO221
                      clear HO230
                      clear BK209
                      clear HB
                      have HO_6 := n0_
                      have HO221 := n1_
                      have HO230 := n2_
                      have HO224 := n3_
                      have BK209 := n4_
                      have HB := n5_
                      clear n0_ n1_ n2_ n3_ n4_ n5_
                      clear hb ho32
                      refine hK.out _ _ ⟨(blk_cell BK209.out 0).trans rfl, (blk_cell BK209.out 1).trans rfl, (blk_cell BK209.out 2).trans rfl⟩ (fun hHeld => ?_)
                      clear hK K
                      refine norm_ (a' := ?_) ?_ ?_
                      rotate_left
                      · show Act.put _ (some 49) _ = _
                        simp only [Act.put, List.setIfInBounds_toArray, List.set_cons_zero, List.set_cons_succ, i64_w, i32_w]
                        rfl
                      refine one_ (i := 3) (N := some 51) #[true, true, true, true, true, true, false, false, false, false, false, false, false] rfl rfl (one_of HT_.out (by kernel_rfl)) (by decide) (fun K hK => ?_)
                      refine Kd.R_append_rows_step k37 (w0 := w) w.heap.size (by rfl) (.tmp 49) (.tmp 50) 22 37 (.agg #[(.int .i64 0), (.int .i64 0), (.string ⟨#[]⟩)]) 32 rfl Try.underlying22 info37 rfl (by decide) (by omega) v223 y222 x6_2 _ _ _ (fun k_ => some k_ ≠ (.slice Ao26 x6_2.length co26 : Value).ownBlock ∧ some k_ ≠ (v220 : Value).ownBlock ∧ some k_ ≠ (v229 : Value).ownBlock ∧ k_ ≠ gb209) (fun _ => False) rfl rfl ?aO ?aR (fun _ _ h => h) (fun _ h => h.elim) ?aF ?aB ?aS ?aL ?_
                      (case aR => repeat (first | exact (Kd.R_reads' HO_6.out).2.2 | (with_reducible refine Kd.C_alloc ?_ _) | (with_reducible refine Kd.C_drewN ?_ _) | (with_reducible refine Kd.C_drew ?_)))
                      (case aB => exact (by repeat (first | (with_reducible first | exact HB.out | apply below_alloc | apply pw_below_drewN | apply below_drew1 | refine below_set ?_ GE209.out) | exact HB.out)))
                      (case aF => exact (fun k_ hk => ⟨Kd.fresh' (Kd.R_lt (by (with_reducible repeat (first | apply Kd.R_alloc | apply Kd.R_drewN | apply Kd.R_drew)); exact HO_6.out)) k_ hk, Kd.fresh' (Kd.R_lt (by (with_reducible repeat (first | apply Kd.R_alloc | apply Kd.R_drewN | apply Kd.R_drew)); exact HO221.out)) k_ hk, Kd.fresh' (Kd.R_lt (by (with_reducible repeat (first | apply Kd.R_alloc | apply Kd.R_drewN | apply Kd.R_drew)); exact HO230.out)) k_ hk, Kd.freshB (g := gb209) (o := .cells #[.int .i64 a1_0, .int .i64 a1_1, .string a1_2] 37 (0, 0)) (by (with_reducible repeat (first | refine blk_drewN ?_ _ | refine blk_drew ?_ | refine blk_alloc ?_ _)); exact BK209.out) k_ hk⟩))
                      (case aO => exact (by (with_reducible repeat (first | apply Kd.R_alloc | apply Kd.R_drewN | apply Kd.R_drew)); exact Kd.R_mono HO224.out (fun _ hk => ⟨hk.1.1.1.2, ⟨hk.1.1.2, ⟨hk.1.2, hk.2⟩⟩⟩)))
                      (case aS => exact (below_size (by repeat (first | (with_reducible first | exact HB.out | apply below_alloc | apply pw_below_drewN | apply below_drew1 | refine below_set ?_ GE209.out) | exact HB.out))))
                      (case aL => have := LMc22.out; omega)
                      intro v226 w33 ho hb hg hat
                      rw [← Ny225.out] at ho
                      have n0_ := Aside0.mk (Kd.R_after (ok := (fun k_ => some k_ ≠ (v220 : Value).ownBlock ∧ some k_ ≠ (v229 : Value).ownBlock ∧ k_ ≠ gb209)) (by (with_reducible repeat (first | apply Kd.R_alloc | apply Kd.R_drewN | apply Kd.R_drew)); exact Kd.R_mono HO_6.out (fun _ hk => ⟨⟨hk.1.1.2, ⟨hk.1.2, hk.1.1.1⟩⟩, hk.2⟩)) hg hat)
                      have n1_ := Aside0.mk (blk_grown (g := gb209) (o := .cells #[.int .i64 a1_0, .int .i64 a1_1, .string a1_2] 37 (0, 0)) (by (with_reducible repeat (first | refine blk_drewN ?_ _ | refine blk_drew ?_ | refine blk_alloc ?_ _)); exact BK209.out) hg (Kd.R_away HO224.out (fun _ hk => hk.2)))
                      have n2_ := Aside0.mk (Kd.R_after (ok := (fun k_ => some k_ ≠ (.slice Ao26 x6_2.length co26 : Value).ownBlock ∧ some k_ ≠ (v229 : Value).ownBlock ∧ k_ ≠ gb209)) (by (with_reducible repeat (first | apply Kd.R_alloc | apply Kd.R_drewN | apply Kd.R_drew)); exact Kd.R_mono HO221.out (fun _ hk => ⟨⟨hk.1.1.1.2, ⟨hk.1.2, hk.1.1.2⟩⟩, hk.2⟩)) hg hat)
                      have n3_ := Aside0.mk (Kd.R_after (ok := (fun k_ => some k_ ≠ (.slice Ao26 x6_2.length co26 : Value).ownBlock ∧ some k_ ≠ (v220 : Value).ownBlock ∧ k_ ≠ gb209)) (by (with_reducible repeat (first | apply Kd.R_alloc | apply Kd.R_drewN | apply Kd.R_drew)); exact Kd.R_mono HO230.out (fun _ hk => ⟨⟨hk.1.1.1.2, ⟨hk.1.1.2, hk.1.2⟩⟩, hk.2⟩)) hg hat)
                      have n4_ := Aside0.mk (hb)
                      have n5_ := Aside0.mk (ho)
                      clear HO_6
                      clear BK209
                      clear HO221
                      clear HO230
                      clear HB
                      clear HO224
                      have HO_6 := n0_
                      have BK209 := n1_
                      have HO221 := n2_
                      have HO230 := n3_
                      have HB := n4_
                      have HO227 := n5_
                      clear n0_ n1_ n2_ n3_ n4_ n5_
                      clear ho hb hg hat
                      refine hK.out _ _ ⟨(blk_cell BK209.out 0).trans rfl, (blk_cell BK209.out 1).trans rfl, (blk_cell BK209.out 2).trans rfl⟩ (fun hHeld => ?_)
                      clear hK K
                      refine norm_ (a' := ?_) ?_ ?_
                      rotate_left
                      · show Act.put _ (some 51) _ = _
                        simp only [Act.put, List.setIfInBounds_toArray, List.set_cons_zero, List.set_cons_succ, i64_w, i32_w]
                        rfl
                      exact norm_ (by simp only [putAll, Act.put, List.setIfInBounds_toArray, List.set_cons_zero, List.set_cons_succ]) (hCont (v223, v226, v229) _ ⟨hHeld, (by (with_reducible repeat (first | apply Kd.R_alloc | apply Kd.R_drewN | apply Kd.R_drew)); exact Kd.R_mono HO221.out (fun _ hk => ⟨hk.2, ⟨hk.1.2.1, ⟨hk.1.1, hk.1.2.2⟩⟩⟩)), (by (with_reducible repeat (first | apply Kd.R_alloc | apply Kd.R_drewN | apply Kd.R_drew)); exact Kd.R_mono HO227.out (fun _ hk => ⟨hk.2.1, ⟨hk.2.2.1, ⟨hk.1, hk.2.2.2⟩⟩⟩)), (by (with_reducible repeat (first | apply Kd.R_alloc | apply Kd.R_drewN | apply Kd.R_drew)); exact Kd.R_mono HO230.out (fun _ hk => ⟨hk.1.2.1, ⟨hk.2, ⟨hk.1.1, hk.1.2.2⟩⟩⟩)), (by (with_reducible repeat (first | apply Kd.R_alloc | apply Kd.R_drewN | apply Kd.R_drew)); exact Kd.R_mono HO_6.out (fun _ hk => ⟨hk.1.1, ⟨hk.2, ⟨hk.1.2.1, hk.1.2.2⟩⟩⟩)), (by (with_reducible repeat (first | refine blk_drewN ?_ _ | refine blk_drew ?_ | refine blk_alloc ?_ _)); exact BK209.out), (by repeat (first | (with_reducible first | exact HB.out | apply below_alloc | apply pw_below_drewN | apply below_drew1 | refine below_set ?_ GE209.out) | exact HB.out))⟩)
                  rintro ⟨v223, v226, v229⟩ w34 ⟨hS_, h0_, h1_, h2_, h3_, h4_, h5_⟩
                  have n0_ : Aside0 (Kd.R k37 37 w34 w.heap.size (fun k_ => some k_ ≠ (v226 : Value).ownBlock ∧ some k_ ≠ (v229 : Value).ownBlock ∧ some k_ ≠ (.slice Ao26 x6_2.length co26 : Value).ownBlock ∧ k_ ≠ gb209) v220 t218) := ⟨h0_⟩
                  have n1_ : Aside0 (Kd.R k37 37 w34 w.heap.size (fun k_ => some k_ ≠ (v220 : Value).ownBlock ∧ some k_ ≠ (v229 : Value).ownBlock ∧ some k_ ≠ (.slice Ao26 x6_2.length co26 : Value).ownBlock ∧ k_ ≠ gb209) v226 y225) := ⟨h1_⟩
                  have n2_ : Aside0 (Kd.R k37 37 w34 w.heap.size (fun k_ => some k_ ≠ (v220 : Value).ownBlock ∧ some k_ ≠ (v226 : Value).ownBlock ∧ some k_ ≠ (.slice Ao26 x6_2.length co26 : Value).ownBlock ∧ k_ ≠ gb209) v229 y228) := ⟨h2_⟩
                  have n3_ : Aside0 (Kd.R k37 37 w34 w.heap.size (fun k_ => some k_ ≠ (v220 : Value).ownBlock ∧ some k_ ≠ (v226 : Value).ownBlock ∧ some k_ ≠ (v229 : Value).ownBlock ∧ k_ ≠ gb209) (.slice Ao26 x6_2.length co26) x6_2) := ⟨h3_⟩
                  have n4_ : Aside0 (w34.heap[gb209]? = some (.cells #[.int .i64 a1_0, .int .i64 a1_1, .string a1_2] 37 (0, 0))) := ⟨h4_⟩
                  have n5_ : Aside0 (Below w.heap.size w w34) := ⟨h5_⟩
                  clear HO_6
                  clear HO221
                  clear BK209
                  clear HB
                  clear h0_ h1_ h2_ h3_ h4_ h5_
                  have HO221 := n0_
                  have HO227 := n1_
                  have HO230 := n2_
                  have HO_6 := n3_
                  have BK209 := n4_
                  have HB := n5_
                  clear n0_ n1_ n2_ n3_ n4_ n5_
                  have hHeld : w34.cell? ⟨gb209, 0, none⟩ = some (.int .i64 a1_0) ∧ w34.cell? ⟨gb209, 1, none⟩ = some (.int .i64 a1_1) ∧ w34.cell? ⟨gb209, 2, none⟩ = some (.string a1_2) := hS_
                  obtain ⟨Ao36, co36, eo36⟩ := Kd.R_slice HO230.out
                  (first | subst eo36 | (injection eo36 with f1_ f2_ f3_; have f4_ := f1_.symm; have f5_ := f3_.symm; clear f1_ f2_ f3_; subst f4_; subst f5_))
                  refine norm_ (a' := ?_) ?_ ?_
                  rotate_left
                  · simp only [putAll, Act.put, List.setIfInBounds_toArray, List.set_cons_zero, List.set_cons_succ]
                    rfl
                  refine one_ (i := 6) (N := some 54) #[true, true, true, true, true, true, true, false, false, false, false, false, false] rfl rfl (one_of HT_.out (by kernel_rfl)) (by decide) (fun K hK => ?_)
                  refine Kd.R_append_rows_step k37 (w0 := w) w.heap.size (by rfl) (.tmp 51) (.tmp 53) 22 37 (.agg #[(.int .i64 0), (.int .i64 0), (.string ⟨#[]⟩)]) 32 rfl Try.underlying22 info37 rfl (by decide) (by omega) v226 y225 y228 _ _ _ (fun k_ => some k_ ≠ (.slice Ao26 x6_2.length co26 : Value).ownBlock ∧ some k_ ≠ (v220 : Value).ownBlock ∧ some k_ ≠ (.slice Ao36 y228.length co36 : Value).ownBlock ∧ k_ ≠ gb209) (fun _ => False) rfl rfl ?aO ?aR (fun _ _ h => h) (fun _ h => h.elim) ?aF ?aB ?aS ?aL ?_
                  (case aR => repeat (first | exact (Kd.R_reads' HO230.out).2.2 | (with_reducible refine Kd.C_alloc ?_ _) | (with_reducible refine Kd.C_drewN ?_ _) | (with_reducible refine Kd.C_drew ?_)))
                  (case aB => exact (by repeat (first | (with_reducible first | exact HB.out | apply below_alloc | apply pw_below_drewN | apply below_drew1 | refine below_set ?_ GE209.out) | exact HB.out)))
                  (case aF => exact (fun k_ hk => ⟨Kd.fresh' (Kd.R_lt (by (with_reducible repeat (first | apply Kd.R_alloc | apply Kd.R_drewN | apply Kd.R_drew)); exact HO_6.out)) k_ hk, Kd.fresh' (Kd.R_lt (by (with_reducible repeat (first | apply Kd.R_alloc | apply Kd.R_drewN | apply Kd.R_drew)); exact HO221.out)) k_ hk, Kd.fresh' (Kd.R_lt (by (with_reducible repeat (first | apply Kd.R_alloc | apply Kd.R_drewN | apply Kd.R_drew)); exact HO230.out)) k_ hk, Kd.freshB (g := gb209) (o := .cells #[.int .i64 a1_0, .int .i64 a1_1, .string a1_2] 37 (0, 0)) (by (with_reducible repeat (first | refine blk_drewN ?_ _ | refine blk_drew ?_ | refine blk_alloc ?_ _)); exact BK209.out) k_ hk⟩))
                  (case aO => exact (by (with_reducible repeat (first | apply Kd.R_alloc | apply Kd.R_drewN | apply Kd.R_drew)); exact Kd.R_mono HO227.out (fun _ hk => ⟨hk.2.2.1, ⟨hk.1, ⟨hk.2.1, hk.2.2.2⟩⟩⟩)))
                  (case aS => exact (below_size (by repeat (first | (with_reducible first | exact HB.out | apply below_alloc | apply pw_below_drewN | apply below_drew1 | refine below_set ?_ GE209.out) | exact HB.out))))
                  (case aL => have := LMc23.out; omega)
                  intro v232 w35 ho hb hg hat
                  rw [← Ny231.out] at ho
                  have n0_ := Aside0.mk (Kd.R_after (ok := (fun k_ => some k_ ≠ (v220 : Value).ownBlock ∧ some k_ ≠ (.slice Ao36 y228.length co36 : Value).ownBlock ∧ k_ ≠ gb209)) (by (with_reducible repeat (first | apply Kd.R_alloc | apply Kd.R_drewN | apply Kd.R_drew)); exact Kd.R_mono HO_6.out (fun _ hk => ⟨⟨hk.1, ⟨hk.2.2.1, hk.2.2.2⟩⟩, hk.2.1⟩)) hg hat)
                  have n1_ := Aside0.mk (blk_grown (g := gb209) (o := .cells #[.int .i64 a1_0, .int .i64 a1_1, .string a1_2] 37 (0, 0)) (by (with_reducible repeat (first | refine blk_drewN ?_ _ | refine blk_drew ?_ | refine blk_alloc ?_ _)); exact BK209.out) hg (Kd.R_away HO227.out (fun _ hk => hk.2.2.2)))
                  have n2_ := Aside0.mk (Kd.R_after (ok := (fun k_ => some k_ ≠ (.slice Ao26 x6_2.length co26 : Value).ownBlock ∧ some k_ ≠ (.slice Ao36 y228.length co36 : Value).ownBlock ∧ k_ ≠ gb209)) (by (with_reducible repeat (first | apply Kd.R_alloc | apply Kd.R_drewN | apply Kd.R_drew)); exact Kd.R_mono HO221.out (fun _ hk => ⟨⟨hk.2.2.1, ⟨hk.2.1, hk.2.2.2⟩⟩, hk.1⟩)) hg hat)
                  have n3_ := Aside0.mk (Kd.R_after (ok := (fun k_ => some k_ ≠ (.slice Ao26 x6_2.length co26 : Value).ownBlock ∧ some k_ ≠ (v220 : Value).ownBlock ∧ k_ ≠ gb209)) (by (with_reducible repeat (first | apply Kd.R_alloc | apply Kd.R_drewN | apply Kd.R_drew)); exact Kd.R_mono HO230.out (fun _ hk => ⟨⟨hk.2.2.1, ⟨hk.1, hk.2.2.2⟩⟩, hk.2.1⟩)) hg hat)
                  have n4_ := Aside0.mk (hb)
                  have n5_ := Aside0.mk (ho)
                  clear HO_6
                  clear BK209
                  clear HO221
                  clear HO230
                  clear HB
                  clear HO227
                  have HO_6 := n0_
                  have BK209 := n1_
                  have HO221 := n2_
                  have HO230 := n3_
                  have HB := n4_
                  have HO233 := n5_
                  clear n0_ n1_ n2_ n3_ n4_ n5_
                  clear ho hb hg hat
                  obtain ⟨Ao37, co37, eo37⟩ := Kd.R_slice HO233.out
                  (first | subst eo37 | (injection eo37 with f1_ f2_ f3_; have f4_ := f1_.symm; have f5_ := f3_.symm; clear f1_ f2_ f3_; subst f4_; subst f5_))
                  refine hK.out _ _ ⟨(blk_cell BK209.out 0).trans rfl, (blk_cell BK209.out 1).trans rfl, (blk_cell BK209.out 2).trans rfl⟩ (fun hHeld => ?_)
                  clear hK K
                  refine norm_ (a' := ?_) ?_ ?_
                  rotate_left
                  · show Act.put _ (some 54) _ = _
                    simp only [Act.put, List.setIfInBounds_toArray, List.set_cons_zero, List.set_cons_succ, i64_w, i32_w]
                    rfl
                  refine one_ (i := 7) (N := some 55) #[true, true, true, true, true, true, true, true, false, false, false, false, false] rfl rfl (one_of HT_.out (by kernel_rfl)) (by decide) (fun K hK => ?_)
                  refine goes_ Try.func21 (by kernel_rfl) rfl #[.slice A0 l0.length c0, .slice Ao37 y231.length co37] (by rfl) rfl rfl (by (try simp only [List.map_toArray, List.map_cons, List.map_nil]); first | done | rfl | (simp only [List.length_drop, List.length_take]; rfl)) ?_
                  with_reducible refine (null_Join.calls _ _ l0 _ _ y231 t234 t235 _ ?side1 ?side2 ?side3 ?side4 A24.out).mono ?_
                  (case side1 => repeat (first | exact (Kd.C_below HR0.out HB.out) | (with_reducible refine Kd.C_alloc ?_ _) | (with_reducible refine Kd.C_drewN ?_ _) | (with_reducible refine Kd.C_drew ?_)))
                  (case side2 => exact HC0.out)
                  (case side3 => repeat (first | exact (Kd.R_reads' HO233.out).2.2 | (with_reducible refine Kd.C_alloc ?_ _) | (with_reducible refine Kd.C_drewN ?_ _) | (with_reducible refine Kd.C_drew ?_)))
                  (case side4 => exact (Kd.R_reads' HO233.out).2.1)
                  rintro e w38 ⟨v236, rfl, ho0, hb⟩
                  refine ⟨_, rfl, ?_⟩
                  have n0_ := Aside0.mk (Kd.R_elder' (by (with_reducible repeat (first | apply Kd.R_alloc | apply Kd.R_drewN | apply Kd.R_drew)); exact HO_6.out) (Kd.R_base ho0) hb)
                  have n1_ := Aside0.mk (Kd.R_elder' (by (with_reducible repeat (first | apply Kd.R_alloc | apply Kd.R_drewN | apply Kd.R_drew)); exact HO221.out) (Kd.R_base ho0) hb)
                  have n2_ := Aside0.mk (Kd.R_elder' (by (with_reducible repeat (first | apply Kd.R_alloc | apply Kd.R_drewN | apply Kd.R_drew)); exact HO230.out) (Kd.R_base ho0) hb)
                  have n3_ := Aside0.mk (Kd.R_elder' (by (with_reducible repeat (first | apply Kd.R_alloc | apply Kd.R_drewN | apply Kd.R_drew)); exact HO233.out) (Kd.R_base ho0) hb)
                  have n4_ := Aside0.mk (Kd.R_lower (Kd.R_newB (Kd.R_new' (Kd.R_new' (Kd.R_new' (Kd.R_new' ho0 (Kd.R_lt (by (with_reducible repeat (first | apply Kd.R_alloc | apply Kd.R_drewN | apply Kd.R_drew)); exact HO_6.out))) (Kd.R_lt (by (with_reducible repeat (first | apply Kd.R_alloc | apply Kd.R_drewN | apply Kd.R_drew)); exact HO221.out))) (Kd.R_lt (by (with_reducible repeat (first | apply Kd.R_alloc | apply Kd.R_drewN | apply Kd.R_drew)); exact HO230.out))) (Kd.R_lt (by (with_reducible repeat (first | apply Kd.R_alloc | apply Kd.R_drewN | apply Kd.R_drew)); exact HO233.out))) (g := gb209) (o := .cells #[.int .i64 a1_0, .int .i64 a1_1, .string a1_2] 37 (0, 0)) (by (with_reducible repeat (first | refine blk_drewN ?_ _ | refine blk_drew ?_ | refine blk_alloc ?_ _)); exact BK209.out)) (below_size (by repeat (first | (with_reducible first | exact HB.out | apply below_alloc | apply pw_below_drewN | apply below_drew1 | refine below_set ?_ GE209.out) | exact HB.out))))
                  have n5_ := Aside0.mk (blk_below (g := gb209) (o := .cells #[.int .i64 a1_0, .int .i64 a1_1, .string a1_2] 37 (0, 0)) (by (with_reducible repeat (first | refine blk_drewN ?_ _ | refine blk_drew ?_ | refine blk_alloc ?_ _)); exact BK209.out) hb)
                  have n6_ := Aside0.mk (below_step (by repeat (first | (with_reducible first | exact HB.out | apply below_alloc | apply pw_below_drewN | apply below_drew1 | refine below_set ?_ GE209.out) | exact HB.out)) hb)
                  clear HO_6
                  clear HO221
                  clear HO230
                  clear HO233
                  clear BK209
                  clear HB
                  have HO_6 := n0_
                  have HO221 := n1_
                  have HO230 := n2_
                  have HO233 := n3_
                  have HO237 := n4_
                  have BK209 := n5_
                  have HB := n6_
                  clear n0_ n1_ n2_ n3_ n4_ n5_ n6_
                  (try clear hb)
                  (try clear hb2)
                  (try clear hk)
                  (try clear hi)
                  (try clear ho0)
                  refine hK.out _ _ ⟨(blk_cell BK209.out 0).trans rfl, (blk_cell BK209.out 1).trans rfl, (blk_cell BK209.out 2).trans rfl⟩ (fun hHeld => ?_)
                  clear hK K
                  refine norm_ (a' := ?_) ?_ ?_
                  rotate_left
                  · show Act.put _ (some 55) _ = _
                    simp only [Act.put, List.setIfInBounds_toArray, List.set_cons_zero, List.set_cons_succ, i64_w, i32_w]
                    rfl
                  refine pure_ (i := 8) (N := some 47) (v := ?_) (a' := ?_) #[true, true, true, true, true, true, true, true, true, false, false, false, false] rfl rfl (any_of HT_.out (by kernel_rfl)) (fun _ _ _ h => h) (Or.inl ⟨by rfl, ?_⟩) ?_ ?_
                  rotate_left
                  · intro w'
                    go_simp
                    with_reducible rfl
                  rotate_left
                  · simp only [Act.put, List.setIfInBounds_toArray, List.set_cons_zero, List.set_cons_succ, i64_w, i32_w]
                    rfl
                  refine pure_ (i := 9) (N := some 56) (v := ?_) (a' := ?_) #[true, true, true, true, true, true, true, true, true, true, false, false, false] rfl rfl (any_of HT_.out (by kernel_rfl)) (fun _ _ _ h => h) (Or.inl ⟨by rfl, ?_⟩) ?_ ?_
                  rotate_left
                  · intro w'
                    go_simp
                    with_reducible rfl
                  rotate_left
                  · simp only [Act.put, List.setIfInBounds_toArray, List.set_cons_zero, List.set_cons_succ, i64_w, i32_w]
                    rfl
                  refine pure_ (i := 10) (N := some 57) (v := ?_) (a' := ?_) #[true, true, true, true, true, true, true, true, true, true, true, false, false] rfl rfl (any_of HT_.out (by kernel_rfl)) (fun _ _ _ h => h) (Or.inl ⟨by rfl, ?_⟩) ?_ ?_
                  rotate_left
                  · intro w'
                    go_simp
                    with_reducible rfl
                  rotate_left
                  · simp only [Act.put, List.setIfInBounds_toArray, List.set_cons_zero, List.set_cons_succ, i64_w, i32_w]
                    rfl
                  refine pure_ (i := 11) (N := some 10) (v := ?_) (a' := ?_) #[true, true, true, true, true, true, true, true, true, true, true, true, false] rfl rfl (any_of HT_.out (by kernel_rfl)) (fun _ _ _ h => h) (Or.inl ⟨by rfl, ?_⟩) ?_ ?_
                  rotate_left
                  · intro w'
                    go_simp
                    with_reducible rfl
                  rotate_left
                  · simp only [Act.put, List.setIfInBounds_toArray, List.set_cons_zero, List.set_cons_succ, i64_w, i32_w]
                    rfl
                  refine pure_ (i := 12) (N := some 11) (v := ?_) (a' := ?_) #[true, true, true, true, true, true, true, true, true, true, true, true, true] rfl rfl (any_of HT_.out (by kernel_rfl)) (fun _ _ _ h => h) (Or.inl ⟨by rfl, ?_⟩) ?_ ?_
                  rotate_left
                  · intro w'
                    go_simp
                    with_reducible rfl
                  rotate_left
                  · simp only [Act.put, List.setIfInBounds_toArray, List.set_cons_zero, List.set_cons_succ, i64_w, i32_w]
                    rfl
                  refine done_ (done_of HT_.out (by kernel_rfl)) ?_
                  go_upto_region 12 with (fail)
                  go_cut [63] (fun v63 wc => ∃ (kq : Nat) (x63_24 : Bool), v63 = .bool x63_24 ∧ Aside0 (astragallaw06_NullMore.j2 kq l0 t210 x6_2 x63_24 = some r) ∧ Aside0 (kq ≤ k2) ∧ Aside0 (Kd.R k37 37 wc w.heap.size (fun k_ => k_ ≠ gb209) (.slice Ao26 x6_2.length co26) x6_2) ∧ Aside0 (wc.heap[gb209]? = some (.cells #[.int .i64 a1_0, .int .i64 a1_1, .string a1_2] 37 (0, 0))) ∧ Aside0 (Below w.heap.size w wc))
                  case first =>
                    have H := HC25.out
                    clear HC25
                    by_cases c39 : t219 = 0
                    · rw [if_pos c39] at H
                      have c39b0 : (t219 == 0) = true := beq_iff_eq.mpr c39
                      have c39b1 : (t219 != 0) = false := bne_eq_false_iff_eq.mpr c39
                      clear c39
                      (first | rw [c39b0] | (simp only [i64_w, i32_w]; rw [c39b0]) | skip)
                      have H' := Aside0.mk H
                      clear H
                      go_wp2
                      go_meet
                      case rel => exact ⟨_, ((t235 != 4)), (by first | rfl | (simp; done) | (simp [*]; done)), H', ⟨by have := HJ3.out; have := HK2.out; first | omega | exact Nat.le_refl _⟩, ⟨by (with_reducible repeat (first | apply Kd.R_alloc | apply Kd.R_drewN | apply Kd.R_drew)); exact Kd.R_mono HO_6.out (fun _ hk => hk.1.1.2.2)⟩, ⟨by (with_reducible repeat (first | refine blk_drewN ?_ _ | refine blk_drew ?_ | refine blk_alloc ?_ _)); exact BK209.out⟩, ⟨by repeat (first | (with_reducible first | exact HB.out | apply below_alloc | apply pw_below_drewN | apply below_drew1 | refine below_set ?_ GE209.out) | exact HB.out)⟩⟩
                    · rw [if_neg c39] at H
                      have c39b0 : (t219 == 0) = false := beq_eq_false_iff_ne.mpr c39
                      have c39b1 : (t219 != 0) = true := bne_iff_ne.mpr c39
                      (first | rw [c39b0] | (simp only [i64_w, i32_w]; rw [c39b0]) | skip)
                      have H' := Aside0.mk H
                      clear H
                      go_wp2
                      go_meet
                      case rel => exact ⟨_, (true), (by first | rfl | (simp; done) | (simp [*]; done)), H', ⟨by have := HJ3.out; have := HK2.out; first | omega | exact Nat.le_refl _⟩, ⟨by (with_reducible repeat (first | apply Kd.R_alloc | apply Kd.R_drewN | apply Kd.R_drew)); exact Kd.R_mono HO_6.out (fun _ hk => hk.1.1.2.2)⟩, ⟨by (with_reducible repeat (first | refine blk_drewN ?_ _ | refine blk_drew ?_ | refine blk_alloc ?_ _)); exact BK209.out⟩, ⟨by repeat (first | (with_reducible first | exact HB.out | apply below_alloc | apply pw_below_drewN | apply below_drew1 | refine below_set ?_ GE209.out) | exact HB.out)⟩⟩
                  case rest =>
                    clear HC25
                    try clear c1
                    try clear q1
                    try clear c2
                    try clear p2
                    try clear q2
                    try clear hx2
                    try clear c3
                    try clear p6
                    try clear c11
                    try clear c11b0
                    try clear c12
                    try clear c12b0
                    try clear q13
                    try clear c14
                    try clear c15
                    try clear c21
                    try clear p21
                    try clear q21
                    try clear hx21
                    try clear c22
                    try clear c23
                    try clear c39
                    try clear c39b0
                    try clear c39b1
                    try clear hcz16_0
                    try clear hcz16_1
                    try clear hcz16_2
                    try clear hfz16_0
                    try clear hfz16_1
                    try clear hfz16_2
                    try clear hx211_0
                    try clear p211
                    try clear q211
                    obtain ⟨kq, x63_24, rfl, HA, HJ24, HO_6, BK209, HB⟩ := hcut
                    cases kq with
                    | zero => exact absurd HA.out (by simp [astragallaw06_NullMore.j2])
                    | succ kj24 =>
                      have H := HA.out
                      clear HA
                      simp only [astragallaw06_NullMore.j2] at H
                      by_cases c40 : x63_24 = true
                      · subst c40
                        have H1 : (some false) = some r := by rw [if_pos rfl] at H; exact H
                        clear H
                        have H := H1
                        clear H1
                        obtain rfl := Option.some.inj H
                        go_wp2
                        go_ret
                        exact ⟨by first | rfl | (simp [errW_none, errW_some] <;> rfl) | (simp [*, errW_none, errW_some] <;> rfl), by repeat (first | (with_reducible first | exact HB.out | apply below_alloc | apply pw_below_drewN | apply below_drew1 | refine below_set ?_ GE209.out) | exact HB.out)⟩
                      · replace c40 := Bool.eq_false_iff.mpr c40
                        subst c40
                        have H1 : (if (x6_2.length : Int) = 0 then (some t210) else (if 1 ≤ (x6_2.length : Int) then ((null_Join.f l0 (x6_2.drop 1)).bind fun bt242 => (if 0 < (x6_2.length : Int) then ((null_Join.f l0 (x6_2.set (0 : Int).toNat (⟨0, 0, (⟨#[]⟩ : ByteArray)⟩ : S37))).bind fun bt247 => (if t210 = true then (if bt242.2 = 4 then (some (bt247.2 == 4)) else (some false)) else (some false))) else (none))) else (none))) = some r := by rw [if_neg (show ¬ (false = true) by decide)] at H; exact H
                        clear H
                        have H := H1
                        clear H1
                        by_cases c41 : (x6_2.length : Int) = 0
                        · rw [if_pos c41] at H
                          have c41b0 : ((x6_2.length : Int) == 0) = true := beq_iff_eq.mpr c41
                          have c41b1 : ((x6_2.length : Int) != 0) = false := bne_eq_false_iff_eq.mpr c41
                          clear c41
                          obtain rfl := Option.some.inj H
                          go_wp2
                          go_ret
                          exact ⟨by first | rfl | (simp [errW_none, errW_some] <;> rfl) | (simp [*, errW_none, errW_some] <;> rfl), by repeat (first | (with_reducible first | exact HB.out | apply below_alloc | apply pw_below_drewN | apply below_drew1 | refine below_set ?_ GE209.out) | exact HB.out)⟩
                        · rw [if_neg c41] at H
                          have c41b0 : ((x6_2.length : Int) == 0) = false := beq_eq_false_iff_ne.mpr c41
                          have c41b1 : ((x6_2.length : Int) != 0) = true := bne_iff_ne.mpr c41
                          have c41b2 : ¬ (x6_2 = []) := fun h_ => c41 (by rw [h_]; rfl)
                          by_cases c42 : 1 ≤ (x6_2.length : Int)
                          · rw [if_pos c42] at H
                            have c42b0 := eq_true c42
                            have c42b1 : decide (1 ≤ (x6_2.length : Int)) = true := decide_eq_true c42
                            clear c42
                            obtain ⟨y238, hy238⟩ : ∃ y_ : List (S37), y_ = (x6_2.drop 1) := ⟨_, rfl⟩
                            replace H : ((null_Join.f l0 y238).bind fun bt242 => (if 0 < (x6_2.length : Int) then ((null_Join.f l0 (x6_2.set (0 : Int).toNat (⟨0, 0, (⟨#[]⟩ : ByteArray)⟩ : S37))).bind fun bt247 => (if t210 = true then (if bt242.2 = 4 then (some (bt247.2 == 4)) else (some false)) else (some false))) else (none))) = some r := by first | (rw [hy238]; with_reducible exact H) | (have H2_ := (Option.bind_some _ _).symm.trans H; rw [hy238]; with_reducible exact H2_) | (have H2_ := (Option.bind_some _ _).symm.trans H; with_reducible exact H2_) | with_reducible exact H | (rw [hy238]; exact H) | exact H
                            have Ny238 := Aside0.mk hy238
                            clear hy238
                            replace H := Option.bind_eq_some_iff.mp H
                            obtain ⟨⟨t242, t243⟩, A430, H⟩ := H
                            replace H : (if 0 < (x6_2.length : Int) then ((null_Join.f l0 (x6_2.set (0 : Int).toNat (⟨0, 0, (⟨#[]⟩ : ByteArray)⟩ : S37))).bind fun bt247 => (if t210 = true then (if t243 = 4 then (some (bt247.2 == 4)) else (some false)) else (some false))) else (none)) = some r := H
                            have A43 := Aside0.mk A430
                            clear A430
                            by_cases c44 : 0 < (x6_2.length : Int)
                            · rw [if_pos c44] at H
                              have c44b0 : decide (0 < (x6_2.length : Int)) = true := decide_eq_true c44
                              have c44b1 : decide (0 < x6_2.length) = true := decide_eq_true (by omega)
                              clear c44
                              obtain ⟨y246, hy246⟩ : ∃ y_ : List (S37), y_ = (x6_2.set (0 : Int).toNat (⟨0, 0, (⟨#[]⟩ : ByteArray)⟩ : S37)) := ⟨_, rfl⟩
                              replace H : ((null_Join.f l0 y246).bind fun bt247 => (if t210 = true then (if t243 = 4 then (some (bt247.2 == 4)) else (some false)) else (some false))) = some r := by first | (rw [hy246]; with_reducible exact H) | (have H2_ := (Option.bind_some _ _).symm.trans H; rw [hy246]; with_reducible exact H2_) | (have H2_ := (Option.bind_some _ _).symm.trans H; with_reducible exact H2_) | with_reducible exact H | (rw [hy246]; exact H) | exact H
                              have Ny246 := Aside0.mk hy246
                              clear hy246
                              replace H := Option.bind_eq_some_iff.mp H
                              obtain ⟨⟨t247, t248⟩, A460, H⟩ := H
                              replace H : (if t210 = true then (if t243 = 4 then (some (t248 == 4)) else (some false)) else (some false)) = some r := H
                              have A46 := Aside0.mk A460
                              clear A460
                              by_cases c47 : t210 = true
                              · subst c47
                                have H1 : (if t243 = 4 then (some (t248 == 4)) else (some false)) = some r := by rw [if_pos rfl] at H; exact H
                                clear H
                                have H := H1
                                clear H1
                                by_cases c48 : t243 = 4
                                · rw [if_pos c48] at H
                                  have c48b0 : (t243 == 4) = true := beq_iff_eq.mpr c48
                                  have c48b1 : (t243 != 4) = false := bne_eq_false_iff_eq.mpr c48
                                  clear c48
                                  obtain rfl := Option.some.inj H
                                  have q49 : (1 : Int) ≤ ((x6_2.length : Int) : Int) := of_decide_eq_true (by first | (with_reducible assumption) | assumption)
                                  obtain ⟨i049, hi049, _, hsz49, _⟩ := info_parts info37
                                  have hroom49 : x6_2.length ≤ co26 := (Kd.R_reads' HO_6.out).2.1
                                  have hC49 : Kd.C k37 _ Ao26 x6_2.length x6_2 := (Kd.R_reads' HO_6.out).2.2
                                  have hcut49 := cut_from (P := Try.prog) 22 37 .i64 Try.underlying22 hi049 3 hsz49 Ao26 x6_2.length co26 1 (by omega) q49
                                  have hr49 := Kd.C_drop (m := (1 : Int).toNat) (c := co26) hC49 (by omega) hroom49
                                  obtain ⟨A49, hA49⟩ : ∃ A1, A1 = (if co26 = (1 : Int).toNat then Ao26 else (Ao26 : Option Addr).map (·.add ((1 : Int).toNat * 3))) := ⟨_, rfl⟩
                                  obtain ⟨c49, hc49⟩ : ∃ c1, c1 = co26 - (1 : Int).toNat := ⟨_, rfl⟩
                                  have hy49 : y238.length = x6_2.length - (1 : Int).toNat := (by rw [Ny238.out, List.length_drop] <;> omega)
                                  rw [show (x6_2).drop (1 : Int).toNat = y238 from Ny238.out.symm] at hr49
                                  replace hr49 : Kd.C k37 _ A49 y238.length y238 := (by rw [hA49]; exact hr49)
                                  rw [← hy49, ← hA49, ← hc49] at hcut49
                                  have HR241 := Aside0.mk hr49
                                  have HC241 := Aside0.mk (show y238.length ≤ c49 from by rw [hy49, hc49]; exact Nat.sub_le_sub_right hroom49 _)
                                  clear hr49 hC49 hroom49 hi049 hsz49 hc49
                                  have KY49 := Aside0.mk hy49
                                  have KA49 := Aside0.mk hA49
                                  clear hy49 hA49
                                  have KL49 := Aside0.mk (show 1 ≤ x6_2.length from by omega)
                                  replace q49 := eq_true q49
                                  go_wp2_with (first | ((with_reducible refine gate_callee (f := 21) rfl ?_); refine goesL_ (some 72) rfl rfl Try.func21 (by kernel_rfl) rfl #[.slice A0 l0.length c0, .slice A49 y238.length c49] rfl (by (try simp only [List.map_toArray, List.map_cons, List.map_nil]); first | done | rfl | (simp only [List.length_drop, List.length_take]; rfl)) ?_; (with_reducible refine (null_Join.calls _ _ l0 _ _ y238 t242 t243 _ ?side1 ?side2 ?side3 ?side4 A43.out).mono ?_); (case side1 => repeat (first | exact (Kd.C_below HR0.out HB.out) | (with_reducible refine Kd.C_alloc ?_ _) | (with_reducible refine Kd.C_drewN ?_ _) | (with_reducible refine Kd.C_drew ?_))); (case side2 => exact HC0.out); (case side3 => repeat (first | exact (by repeat (first | (with_reducible exact HR241.out) | (with_reducible refine Kd.C_alloc ?_ _) | (with_reducible refine Kd.C_drewN ?_ _) | (with_reducible refine Kd.C_drew ?_) | exact HR241.out)) | (with_reducible refine Kd.C_alloc ?_ _) | (with_reducible refine Kd.C_drewN ?_ _) | (with_reducible refine Kd.C_drew ?_))); (case side4 => exact HC241.out); rintro e w50 ⟨v244, rfl, ho0, hb⟩; refine ⟨_, rfl, ?_⟩; have n0_ := Aside0.mk (Kd.R_elder' (by (with_reducible repeat (first | apply Kd.R_alloc | apply Kd.R_drewN | apply Kd.R_drew)); exact HO_6.out) (Kd.R_base ho0) hb); have n1_ := Aside0.mk (Kd.R_lower (Kd.R_newB (Kd.R_new' ho0 (Kd.R_lt (by (with_reducible repeat (first | apply Kd.R_alloc | apply Kd.R_drewN | apply Kd.R_drew)); exact HO_6.out))) (g := gb209) (o := .cells #[.int .i64 a1_0, .int .i64 a1_1, .string a1_2] 37 (0, 0)) (by (with_reducible repeat (first | refine blk_drewN ?_ _ | refine blk_drew ?_ | refine blk_alloc ?_ _)); exact BK209.out)) (below_size (by repeat (first | (with_reducible first | exact HB.out | apply below_alloc | apply pw_below_drewN | apply below_drew1 | refine below_set ?_ GE209.out) | exact HB.out)))); have n2_ := Aside0.mk (blk_below (g := gb209) (o := .cells #[.int .i64 a1_0, .int .i64 a1_1, .string a1_2] 37 (0, 0)) (by (with_reducible repeat (first | refine blk_drewN ?_ _ | refine blk_drew ?_ | refine blk_alloc ?_ _)); exact BK209.out) hb); have n3_ := Aside0.mk (Kd.C_below (by repeat (first | (with_reducible exact HR241.out) | (with_reducible refine Kd.C_alloc ?_ _) | (with_reducible refine Kd.C_drewN ?_ _) | (with_reducible refine Kd.C_drew ?_) | exact HR241.out)) hb); have n4_ := Aside0.mk (below_step (by repeat (first | (with_reducible first | exact HB.out | apply below_alloc | apply pw_below_drewN | apply below_drew1 | refine below_set ?_ GE209.out) | exact HB.out)) hb); clear HO_6; clear BK209; clear HR241; clear HB; have HO_6 := n0_; have HO245 := n1_; have BK209 := n2_; have HR241 := n3_; have HB := n4_; clear n0_ n1_ n2_ n3_ n4_; (try clear hb); (try clear hb2); (try clear hk); (try clear hi); (try clear ho0); have p45 : 0 ≤ (0 : Int) := (by omega); have q45 : (0 : Int) < ((x6_2.length : Int) : Int) := of_decide_eq_true (by first | (with_reducible assumption) | assumption); have qi45 : (0 < x6_2.length) = True := eq_true (by omega); obtain ⟨go45, co45, eo45, gb45, gl45, cl45, HG45⟩ := Kd.R_form HO_6.out (by omega); (first | cases eo45 | (injection eo45 with ea_ en_ ec_; (first | subst ea_ | (injection ea_ with ea_; subst ea_)); subst ec_; clear en_)); have GB45 := Aside0.mk gb45; have GG45 := Aside0.mk HG45; clear gb45 gl45 HG45; obtain ⟨ce45, hcl45, hM45, hcc45, hfr45⟩ := Kd.R_elem HO_6.out z37 (0 : Int) p45 q45; obtain rfl := k37_openM hM45; have hx45_0 : w50.cell? ⟨go45, (0 : Int).toNat * 3, none⟩ = some (.int .i64 ((rd_T37 x6_2 0).f0)) := hcc45 0 _ rfl; have hx45_1 : w50.cell? ⟨go45, (0 : Int).toNat * 3 + 1, none⟩ = some (.int .i64 ((rd_T37 x6_2 0).f1)) := hcc45 1 _ rfl; have hx45_2 : w50.cell? ⟨go45, (0 : Int).toNat * 3 + 2, none⟩ = some (.string ((rd_T37 x6_2 0).f2)) := hcc45 2 _ rfl; have hf45_0 : w50.frozen? ⟨go45, (0 : Int).toNat * 3, none⟩ = false := hfr45 0; have hf45_1 : w50.frozen? ⟨go45, (0 : Int).toNat * 3 + 1, none⟩ = false := hfr45 1; have hf45_2 : w50.frozen? ⟨go45, (0 : Int).toNat * 3 + 2, none⟩ = false := hfr45 2; clear hcl45 hcc45 hfr45 hM45; (try rw [show ((0 : Int)).toNat = 0 from rfl] at hx45_0); (try simp only [Nat.reduceMul, Nat.zero_mul, Nat.zero_add, Nat.reduceAdd] at hx45_0); (try rw [show ((0 : Int)).toNat = 0 from rfl] at hf45_0); (try simp only [Nat.reduceMul, Nat.zero_mul, Nat.zero_add, Nat.reduceAdd] at hf45_0); (try rw [show ((0 : Int)).toNat = 0 from rfl] at hx45_1); (try simp only [Nat.reduceMul, Nat.zero_mul, Nat.zero_add, Nat.reduceAdd] at hx45_1); (try rw [show ((0 : Int)).toNat = 0 from rfl] at hf45_1); (try simp only [Nat.reduceMul, Nat.zero_mul, Nat.zero_add, Nat.reduceAdd] at hf45_1); (try rw [show ((0 : Int)).toNat = 0 from rfl] at hx45_2); (try simp only [Nat.reduceMul, Nat.zero_mul, Nat.zero_add, Nat.reduceAdd] at hx45_2); (try rw [show ((0 : Int)).toNat = 0 from rfl] at hf45_2); (try simp only [Nat.reduceMul, Nat.zero_mul, Nat.zero_add, Nat.reduceAdd] at hf45_2); replace p45 := eq_true p45; replace q45 := eq_true q45; have HX51 := Aside0.mk (show Kd.R k37 37 w50 w.heap.size (fun k_ => some k_ ≠ (v244 : Value).ownBlock ∧ k_ ≠ gb209) (.slice (some ⟨go45, 0, none⟩) x6_2.length co26) x6_2 from (by (with_reducible repeat (first | apply Kd.R_alloc | apply Kd.R_drewN | apply Kd.R_drew)); exact Kd.R_mono HO_6.out (fun _ hk => ⟨hk.2, hk.1⟩))); obtain ⟨ce51, hcl51, hM51, hcc51, hfr51⟩ := Kd.R_elem HX51.out z37 (0 : Int) (by omega) (by have h_ : (0 : Int) < ((x6_2.length : Int) : Int) := of_decide_eq_true (by first | (with_reducible assumption) | assumption); first | exact h_ | (have e_ := (Kd.R_reads' HO_6.out).1; omega) | simpa using h_); obtain rfl := k37_openM hM51; have HP51 := Kd.R_seg HX51.out (0 : Int) (by omega) (by have h_ : (0 : Int) < ((x6_2.length : Int) : Int) := of_decide_eq_true (by first | (with_reducible assumption) | assumption); first | exact h_ | (have e_ := (Kd.R_reads' HO_6.out).1; omega) | simpa using h_) (seg := [.int .i64 0, .int .i64 0, .string (⟨#[]⟩ : ByteArray)]) (j := 0) hcl51 hcc51 (show 3 ≤ 3 from by decide) (x' := (⟨0, 0, (⟨#[]⟩ : ByteArray)⟩ : S37)) (k37_mkM _ _ _ (⟨0, 0, (⟨#[]⟩ : ByteArray)⟩ : S37) ) (fun _ hk => hk); have hx51_0 := hcc51 0 _ rfl; (try simp only [show (k37).sz = 3 from rfl, Nat.mul_one, Nat.add_zero] at hx51_0); (try rw [show ((0 : Int)).toNat = 0 from rfl] at hx51_0); (try simp only [Nat.reduceMul, Nat.zero_mul, Nat.zero_add, Nat.reduceAdd] at hx51_0); have hf51_0 := hfr51 0; (try simp only [show (k37).sz = 3 from rfl, Nat.mul_one, Nat.add_zero] at hf51_0); (try rw [show ((0 : Int)).toNat = 0 from rfl] at hf51_0); (try simp only [Nat.reduceMul, Nat.zero_mul, Nat.zero_add, Nat.reduceAdd] at hf51_0); have hx51_1 := hcc51 1 _ rfl; (try simp only [show (k37).sz = 3 from rfl, Nat.mul_one, Nat.add_zero] at hx51_1); (try rw [show ((0 : Int)).toNat = 0 from rfl] at hx51_1); (try simp only [Nat.reduceMul, Nat.zero_mul, Nat.zero_add, Nat.reduceAdd] at hx51_1); have hf51_1 := hfr51 1; (try simp only [show (k37).sz = 3 from rfl, Nat.mul_one, Nat.add_zero] at hf51_1); (try rw [show ((0 : Int)).toNat = 0 from rfl] at hf51_1); (try simp only [Nat.reduceMul, Nat.zero_mul, Nat.zero_add, Nat.reduceAdd] at hf51_1); have hx51_2 := hcc51 2 _ rfl; (try simp only [show (k37).sz = 3 from rfl, Nat.mul_one, Nat.add_zero] at hx51_2); (try rw [show ((0 : Int)).toNat = 0 from rfl] at hx51_2); (try simp only [Nat.reduceMul, Nat.zero_mul, Nat.zero_add, Nat.reduceAdd] at hx51_2); have hf51_2 := hfr51 2; (try simp only [show (k37).sz = 3 from rfl, Nat.mul_one, Nat.add_zero] at hf51_2); (try rw [show ((0 : Int)).toNat = 0 from rfl] at hf51_2); (try simp only [Nat.reduceMul, Nat.zero_mul, Nat.zero_add, Nat.reduceAdd] at hf51_2); clear hcl51 hcc51 hfr51 hM51) | ((with_reducible refine gate_store (t := 37) (p := 77) rfl ?_); refine store_event (t := 37) (p := 77) (v := ?vo_w52) (w1 := (((w50.setCell ⟨go45, 0, none⟩ (.int .i64 0)).setCell ⟨go45, 1, none⟩ (.int .i64 0)).setCell ⟨go45, 2, none⟩ (.string (⟨#[]⟩ : ByteArray)))) ?hg ?ho ?hn ?hr ?_; (case ho => rfl); (case hg => rfl); (case hn => rfl); (case hr => first | (go_simp; done) | (go_simp; rfl)); intro w52 hw; have hg : w50.grownBy w52 (some go45) := (by rw [hw]; exact HP51.2); have hp_ : Kd.R k37 37 w52 w.heap.size (fun k_ => some k_ ≠ (v244 : Value).ownBlock ∧ k_ ≠ gb209) (.slice (some ⟨go45, 0, none⟩) x6_2.length co26) y246 := (by rw [hw, Ny246.out]; exact HP51.1); clear HP51; have n0_ := Aside0.mk (hp_); have n1_ := Aside0.mk (blk_grown (g := gb209) (o := .cells #[.int .i64 a1_0, .int .i64 a1_1, .string a1_2] 37 (0, 0)) (by (with_reducible repeat (first | refine blk_drewN ?_ _ | refine blk_drew ?_ | refine blk_alloc ?_ _)); exact BK209.out) hg (Kd.R_away HO_6.out (fun _ hk => hk.1))); have n2_ := Aside0.mk (Kd.R_after (v := (.slice (some ⟨go45, 0, none⟩) x6_2.length co26)) (v1 := (.slice (some ⟨go45, 0, none⟩) x6_2.length co26)) (ok := (fun k_ => k_ ≠ gb209)) (by (with_reducible repeat (first | apply Kd.R_alloc | apply Kd.R_drewN | apply Kd.R_drew)); exact Kd.R_mono HO245.out (fun _ hk => ⟨hk.2, hk.1.2⟩)) hg (.inl rfl)); have n3_ := Aside0.mk ((by rw [hw]; exact below_set (below_set (below_set (HB.out) GB45.out) GB45.out) GB45.out : Below w.heap.size w w52)); clear HO_6; clear BK209; clear HO245; clear HB; have HO_6 := n0_; have BK209 := n1_; have HO245 := n2_; have HB := n3_; clear n0_ n1_ n2_ n3_; clear hg hw hp_) | ((with_reducible refine gate_callee (f := 21) rfl ?_); refine goesL_ (some 81) rfl rfl Try.func21 (by kernel_rfl) rfl #[.slice A0 l0.length c0, .slice (some ⟨go45, 0, none⟩) y246.length co26] rfl (by (try simp only [List.map_toArray, List.map_cons, List.map_nil]); first | done | (rw [show y246.length = x6_2.length from (Kd.R_reads' HO_6.out).1.symm] <;> rfl) | rfl | (simp only [List.length_drop, List.length_take]; rfl)) ?_; (with_reducible refine (null_Join.calls _ _ l0 _ _ y246 t247 t248 _ ?side1 ?side2 ?side3 ?side4 A46.out).mono ?_); (case side1 => repeat (first | exact (Kd.C_below HR0.out HB.out) | (with_reducible refine Kd.C_alloc ?_ _) | (with_reducible refine Kd.C_drewN ?_ _) | (with_reducible refine Kd.C_drew ?_))); (case side2 => exact HC0.out); (case side3 => repeat (first | exact (Kd.R_reads' HO_6.out).2.2 | (with_reducible refine Kd.C_alloc ?_ _) | (with_reducible refine Kd.C_drewN ?_ _) | (with_reducible refine Kd.C_drew ?_))); (case side4 => rw [show y246.length = x6_2.length from (Kd.R_reads' HO_6.out).1.symm]; exact (Kd.R_reads' HO_6.out).2.1); rintro e w53 ⟨v249, rfl, ho0, hb⟩; refine ⟨_, rfl, ?_⟩; have n0_ := Aside0.mk (Kd.R_elder' (by (with_reducible repeat (first | apply Kd.R_alloc | apply Kd.R_drewN | apply Kd.R_drew)); exact HO_6.out) (Kd.R_base ho0) hb); have n1_ := Aside0.mk (Kd.R_elder' (by (with_reducible repeat (first | apply Kd.R_alloc | apply Kd.R_drewN | apply Kd.R_drew)); exact HO245.out) (Kd.R_base ho0) hb); have n2_ := Aside0.mk (Kd.R_lower (Kd.R_newB (Kd.R_new' (Kd.R_new' ho0 (Kd.R_lt (by (with_reducible repeat (first | apply Kd.R_alloc | apply Kd.R_drewN | apply Kd.R_drew)); exact HO_6.out))) (Kd.R_lt (by (with_reducible repeat (first | apply Kd.R_alloc | apply Kd.R_drewN | apply Kd.R_drew)); exact HO245.out))) (g := gb209) (o := .cells #[.int .i64 a1_0, .int .i64 a1_1, .string a1_2] 37 (0, 0)) (by (with_reducible repeat (first | refine blk_drewN ?_ _ | refine blk_drew ?_ | refine blk_alloc ?_ _)); exact BK209.out)) (below_size (by repeat (first | (with_reducible first | exact HB.out | apply below_alloc | apply pw_below_drewN | apply below_drew1 | refine below_set ?_ GE209.out) | exact HB.out)))); have n3_ := Aside0.mk (blk_below (g := gb209) (o := .cells #[.int .i64 a1_0, .int .i64 a1_1, .string a1_2] 37 (0, 0)) (by (with_reducible repeat (first | refine blk_drewN ?_ _ | refine blk_drew ?_ | refine blk_alloc ?_ _)); exact BK209.out) hb); have n4_ := Aside0.mk (below_step (by repeat (first | (with_reducible first | exact HB.out | apply below_alloc | apply pw_below_drewN | apply below_drew1 | refine below_set ?_ GE209.out) | exact HB.out)) hb); clear HO_6; clear HO245; clear BK209; clear HB; have HO_6 := n0_; have HO245 := n1_; have HO250 := n2_; have BK209 := n3_; have HB := n4_; clear n0_ n1_ n2_ n3_ n4_; (try clear hb); (try clear hb2); (try clear hk); (try clear hi); (try clear ho0)))
                                  go_ret
                                  exact ⟨by first | rfl | (simp [errW_none, errW_some] <;> rfl) | (simp [*, errW_none, errW_some] <;> rfl), by repeat (first | (with_reducible first | exact HB.out | apply below_alloc | apply pw_below_drewN | apply below_drew1 | refine below_set ?_ GE209.out) | exact HB.out)⟩
                                · rw [if_neg c48] at H
                                  have c48b0 : (t243 == 4) = false := beq_eq_false_iff_ne.mpr c48
                                  have c48b1 : (t243 != 4) = true := bne_iff_ne.mpr c48
                                  obtain rfl := Option.some.inj H
                                  have q54 : (1 : Int) ≤ ((x6_2.length : Int) : Int) := of_decide_eq_true (by first | (with_reducible assumption) | assumption)
                                  obtain ⟨i054, hi054, _, hsz54, _⟩ := info_parts info37
                                  have hroom54 : x6_2.length ≤ co26 := (Kd.R_reads' HO_6.out).2.1
                                  have hC54 : Kd.C k37 _ Ao26 x6_2.length x6_2 := (Kd.R_reads' HO_6.out).2.2
                                  have hcut54 := cut_from (P := Try.prog) 22 37 .i64 Try.underlying22 hi054 3 hsz54 Ao26 x6_2.length co26 1 (by omega) q54
                                  have hr54 := Kd.C_drop (m := (1 : Int).toNat) (c := co26) hC54 (by omega) hroom54
                                  obtain ⟨A54, hA54⟩ : ∃ A1, A1 = (if co26 = (1 : Int).toNat then Ao26 else (Ao26 : Option Addr).map (·.add ((1 : Int).toNat * 3))) := ⟨_, rfl⟩
                                  obtain ⟨c54, hc54⟩ : ∃ c1, c1 = co26 - (1 : Int).toNat := ⟨_, rfl⟩
                                  have hy54 : y238.length = x6_2.length - (1 : Int).toNat := (by rw [Ny238.out, List.length_drop] <;> omega)
                                  rw [show (x6_2).drop (1 : Int).toNat = y238 from Ny238.out.symm] at hr54
                                  replace hr54 : Kd.C k37 _ A54 y238.length y238 := (by rw [hA54]; exact hr54)
                                  rw [← hy54, ← hA54, ← hc54] at hcut54
                                  have HR241 := Aside0.mk hr54
                                  have HC241 := Aside0.mk (show y238.length ≤ c54 from by rw [hy54, hc54]; exact Nat.sub_le_sub_right hroom54 _)
                                  clear hr54 hC54 hroom54 hi054 hsz54 hc54
                                  have KY54 := Aside0.mk hy54
                                  have KA54 := Aside0.mk hA54
                                  clear hy54 hA54
                                  have KL54 := Aside0.mk (show 1 ≤ x6_2.length from by omega)
                                  replace q54 := eq_true q54
                                  go_wp2_with (first | ((with_reducible refine gate_callee (f := 21) rfl ?_); refine goesL_ (some 72) rfl rfl Try.func21 (by kernel_rfl) rfl #[.slice A0 l0.length c0, .slice A54 y238.length c54] rfl (by (try simp only [List.map_toArray, List.map_cons, List.map_nil]); first | done | rfl | (simp only [List.length_drop, List.length_take]; rfl)) ?_; (with_reducible refine (null_Join.calls _ _ l0 _ _ y238 t242 t243 _ ?side1 ?side2 ?side3 ?side4 A43.out).mono ?_); (case side1 => repeat (first | exact (Kd.C_below HR0.out HB.out) | (with_reducible refine Kd.C_alloc ?_ _) | (with_reducible refine Kd.C_drewN ?_ _) | (with_reducible refine Kd.C_drew ?_))); (case side2 => exact HC0.out); (case side3 => repeat (first | exact (by repeat (first | (with_reducible exact HR241.out) | (with_reducible refine Kd.C_alloc ?_ _) | (with_reducible refine Kd.C_drewN ?_ _) | (with_reducible refine Kd.C_drew ?_) | exact HR241.out)) | (with_reducible refine Kd.C_alloc ?_ _) | (with_reducible refine Kd.C_drewN ?_ _) | (with_reducible refine Kd.C_drew ?_))); (case side4 => exact HC241.out); rintro e w55 ⟨v244, rfl, ho0, hb⟩; refine ⟨_, rfl, ?_⟩; have n0_ := Aside0.mk (Kd.R_elder' (by (with_reducible repeat (first | apply Kd.R_alloc | apply Kd.R_drewN | apply Kd.R_drew)); exact HO_6.out) (Kd.R_base ho0) hb); have n1_ := Aside0.mk (Kd.R_lower (Kd.R_newB (Kd.R_new' ho0 (Kd.R_lt (by (with_reducible repeat (first | apply Kd.R_alloc | apply Kd.R_drewN | apply Kd.R_drew)); exact HO_6.out))) (g := gb209) (o := .cells #[.int .i64 a1_0, .int .i64 a1_1, .string a1_2] 37 (0, 0)) (by (with_reducible repeat (first | refine blk_drewN ?_ _ | refine blk_drew ?_ | refine blk_alloc ?_ _)); exact BK209.out)) (below_size (by repeat (first | (with_reducible first | exact HB.out | apply below_alloc | apply pw_below_drewN | apply below_drew1 | refine below_set ?_ GE209.out) | exact HB.out)))); have n2_ := Aside0.mk (blk_below (g := gb209) (o := .cells #[.int .i64 a1_0, .int .i64 a1_1, .string a1_2] 37 (0, 0)) (by (with_reducible repeat (first | refine blk_drewN ?_ _ | refine blk_drew ?_ | refine blk_alloc ?_ _)); exact BK209.out) hb); have n3_ := Aside0.mk (Kd.C_below (by repeat (first | (with_reducible exact HR241.out) | (with_reducible refine Kd.C_alloc ?_ _) | (with_reducible refine Kd.C_drewN ?_ _) | (with_reducible refine Kd.C_drew ?_) | exact HR241.out)) hb); have n4_ := Aside0.mk (below_step (by repeat (first | (with_reducible first | exact HB.out | apply below_alloc | apply pw_below_drewN | apply below_drew1 | refine below_set ?_ GE209.out) | exact HB.out)) hb); clear HO_6; clear BK209; clear HR241; clear HB; have HO_6 := n0_; have HO245 := n1_; have BK209 := n2_; have HR241 := n3_; have HB := n4_; clear n0_ n1_ n2_ n3_ n4_; (try clear hb); (try clear hb2); (try clear hk); (try clear hi); (try clear ho0); have p45 : 0 ≤ (0 : Int) := (by omega); have q45 : (0 : Int) < ((x6_2.length : Int) : Int) := of_decide_eq_true (by first | (with_reducible assumption) | assumption); have qi45 : (0 < x6_2.length) = True := eq_true (by omega); obtain ⟨go45, co45, eo45, gb45, gl45, cl45, HG45⟩ := Kd.R_form HO_6.out (by omega); (first | cases eo45 | (injection eo45 with ea_ en_ ec_; (first | subst ea_ | (injection ea_ with ea_; subst ea_)); subst ec_; clear en_)); have GB45 := Aside0.mk gb45; have GG45 := Aside0.mk HG45; clear gb45 gl45 HG45; obtain ⟨ce45, hcl45, hM45, hcc45, hfr45⟩ := Kd.R_elem HO_6.out z37 (0 : Int) p45 q45; obtain rfl := k37_openM hM45; have hx45_0 : w55.cell? ⟨go45, (0 : Int).toNat * 3, none⟩ = some (.int .i64 ((rd_T37 x6_2 0).f0)) := hcc45 0 _ rfl; have hx45_1 : w55.cell? ⟨go45, (0 : Int).toNat * 3 + 1, none⟩ = some (.int .i64 ((rd_T37 x6_2 0).f1)) := hcc45 1 _ rfl; have hx45_2 : w55.cell? ⟨go45, (0 : Int).toNat * 3 + 2, none⟩ = some (.string ((rd_T37 x6_2 0).f2)) := hcc45 2 _ rfl; have hf45_0 : w55.frozen? ⟨go45, (0 : Int).toNat * 3, none⟩ = false := hfr45 0; have hf45_1 : w55.frozen? ⟨go45, (0 : Int).toNat * 3 + 1, none⟩ = false := hfr45 1; have hf45_2 : w55.frozen? ⟨go45, (0 : Int).toNat * 3 + 2, none⟩ = false := hfr45 2; clear hcl45 hcc45 hfr45 hM45; (try rw [show ((0 : Int)).toNat = 0 from rfl] at hx45_0); (try simp only [Nat.reduceMul, Nat.zero_mul, Nat.zero_add, Nat.reduceAdd] at hx45_0); (try rw [show ((0 : Int)).toNat = 0 from rfl] at hf45_0); (try simp only [Nat.reduceMul, Nat.zero_mul, Nat.zero_add, Nat.reduceAdd] at hf45_0); (try rw [show ((0 : Int)).toNat = 0 from rfl] at hx45_1); (try simp only [Nat.reduceMul, Nat.zero_mul, Nat.zero_add, Nat.reduceAdd] at hx45_1); (try rw [show ((0 : Int)).toNat = 0 from rfl] at hf45_1); (try simp only [Nat.reduceMul, Nat.zero_mul, Nat.zero_add, Nat.reduceAdd] at hf45_1); (try rw [show ((0 : Int)).toNat = 0 from rfl] at hx45_2); (try simp only [Nat.reduceMul, Nat.zero_mul, Nat.zero_add, Nat.reduceAdd] at hx45_2); (try rw [show ((0 : Int)).toNat = 0 from rfl] at hf45_2); (try simp only [Nat.reduceMul, Nat.zero_mul, Nat.zero_add, Nat.reduceAdd] at hf45_2); replace p45 := eq_true p45; replace q45 := eq_true q45; have HX56 := Aside0.mk (show Kd.R k37 37 w55 w.heap.size (fun k_ => some k_ ≠ (v244 : Value).ownBlock ∧ k_ ≠ gb209) (.slice (some ⟨go45, 0, none⟩) x6_2.length co26) x6_2 from (by (with_reducible repeat (first | apply Kd.R_alloc | apply Kd.R_drewN | apply Kd.R_drew)); exact Kd.R_mono HO_6.out (fun _ hk => ⟨hk.2, hk.1⟩))); obtain ⟨ce56, hcl56, hM56, hcc56, hfr56⟩ := Kd.R_elem HX56.out z37 (0 : Int) (by omega) (by have h_ : (0 : Int) < ((x6_2.length : Int) : Int) := of_decide_eq_true (by first | (with_reducible assumption) | assumption); first | exact h_ | (have e_ := (Kd.R_reads' HO_6.out).1; omega) | simpa using h_); obtain rfl := k37_openM hM56; have HP56 := Kd.R_seg HX56.out (0 : Int) (by omega) (by have h_ : (0 : Int) < ((x6_2.length : Int) : Int) := of_decide_eq_true (by first | (with_reducible assumption) | assumption); first | exact h_ | (have e_ := (Kd.R_reads' HO_6.out).1; omega) | simpa using h_) (seg := [.int .i64 0, .int .i64 0, .string (⟨#[]⟩ : ByteArray)]) (j := 0) hcl56 hcc56 (show 3 ≤ 3 from by decide) (x' := (⟨0, 0, (⟨#[]⟩ : ByteArray)⟩ : S37)) (k37_mkM _ _ _ (⟨0, 0, (⟨#[]⟩ : ByteArray)⟩ : S37) ) (fun _ hk => hk); have hx56_0 := hcc56 0 _ rfl; (try simp only [show (k37).sz = 3 from rfl, Nat.mul_one, Nat.add_zero] at hx56_0); (try rw [show ((0 : Int)).toNat = 0 from rfl] at hx56_0); (try simp only [Nat.reduceMul, Nat.zero_mul, Nat.zero_add, Nat.reduceAdd] at hx56_0); have hf56_0 := hfr56 0; (try simp only [show (k37).sz = 3 from rfl, Nat.mul_one, Nat.add_zero] at hf56_0); (try rw [show ((0 : Int)).toNat = 0 from rfl] at hf56_0); (try simp only [Nat.reduceMul, Nat.zero_mul, Nat.zero_add, Nat.reduceAdd] at hf56_0); have hx56_1 := hcc56 1 _ rfl; (try simp only [show (k37).sz = 3 from rfl, Nat.mul_one, Nat.add_zero] at hx56_1); (try rw [show ((0 : Int)).toNat = 0 from rfl] at hx56_1); (try simp only [Nat.reduceMul, Nat.zero_mul, Nat.zero_add, Nat.reduceAdd] at hx56_1); have hf56_1 := hfr56 1; (try simp only [show (k37).sz = 3 from rfl, Nat.mul_one, Nat.add_zero] at hf56_1); (try rw [show ((0 : Int)).toNat = 0 from rfl] at hf56_1); (try simp only [Nat.reduceMul, Nat.zero_mul, Nat.zero_add, Nat.reduceAdd] at hf56_1); have hx56_2 := hcc56 2 _ rfl; (try simp only [show (k37).sz = 3 from rfl, Nat.mul_one, Nat.add_zero] at hx56_2); (try rw [show ((0 : Int)).toNat = 0 from rfl] at hx56_2); (try simp only [Nat.reduceMul, Nat.zero_mul, Nat.zero_add, Nat.reduceAdd] at hx56_2); have hf56_2 := hfr56 2; (try simp only [show (k37).sz = 3 from rfl, Nat.mul_one, Nat.add_zero] at hf56_2); (try rw [show ((0 : Int)).toNat = 0 from rfl] at hf56_2); (try simp only [Nat.reduceMul, Nat.zero_mul, Nat.zero_add, Nat.reduceAdd] at hf56_2); clear hcl56 hcc56 hfr56 hM56) | ((with_reducible refine gate_store (t := 37) (p := 77) rfl ?_); refine store_event (t := 37) (p := 77) (v := ?vo_w57) (w1 := (((w55.setCell ⟨go45, 0, none⟩ (.int .i64 0)).setCell ⟨go45, 1, none⟩ (.int .i64 0)).setCell ⟨go45, 2, none⟩ (.string (⟨#[]⟩ : ByteArray)))) ?hg ?ho ?hn ?hr ?_; (case ho => rfl); (case hg => rfl); (case hn => rfl); (case hr => first | (go_simp; done) | (go_simp; rfl)); intro w57 hw; have hg : w55.grownBy w57 (some go45) := (by rw [hw]; exact HP56.2); have hp_ : Kd.R k37 37 w57 w.heap.size (fun k_ => some k_ ≠ (v244 : Value).ownBlock ∧ k_ ≠ gb209) (.slice (some ⟨go45, 0, none⟩) x6_2.length co26) y246 := (by rw [hw, Ny246.out]; exact HP56.1); clear HP56; have n0_ := Aside0.mk (hp_); have n1_ := Aside0.mk (blk_grown (g := gb209) (o := .cells #[.int .i64 a1_0, .int .i64 a1_1, .string a1_2] 37 (0, 0)) (by (with_reducible repeat (first | refine blk_drewN ?_ _ | refine blk_drew ?_ | refine blk_alloc ?_ _)); exact BK209.out) hg (Kd.R_away HO_6.out (fun _ hk => hk.1))); have n2_ := Aside0.mk (Kd.R_after (v := (.slice (some ⟨go45, 0, none⟩) x6_2.length co26)) (v1 := (.slice (some ⟨go45, 0, none⟩) x6_2.length co26)) (ok := (fun k_ => k_ ≠ gb209)) (by (with_reducible repeat (first | apply Kd.R_alloc | apply Kd.R_drewN | apply Kd.R_drew)); exact Kd.R_mono HO245.out (fun _ hk => ⟨hk.2, hk.1.2⟩)) hg (.inl rfl)); have n3_ := Aside0.mk ((by rw [hw]; exact below_set (below_set (below_set (HB.out) GB45.out) GB45.out) GB45.out : Below w.heap.size w w57)); clear HO_6; clear BK209; clear HO245; clear HB; have HO_6 := n0_; have BK209 := n1_; have HO245 := n2_; have HB := n3_; clear n0_ n1_ n2_ n3_; clear hg hw hp_) | ((with_reducible refine gate_callee (f := 21) rfl ?_); refine goesL_ (some 81) rfl rfl Try.func21 (by kernel_rfl) rfl #[.slice A0 l0.length c0, .slice (some ⟨go45, 0, none⟩) y246.length co26] rfl (by (try simp only [List.map_toArray, List.map_cons, List.map_nil]); first | done | (rw [show y246.length = x6_2.length from (Kd.R_reads' HO_6.out).1.symm] <;> rfl) | rfl | (simp only [List.length_drop, List.length_take]; rfl)) ?_; (with_reducible refine (null_Join.calls _ _ l0 _ _ y246 t247 t248 _ ?side1 ?side2 ?side3 ?side4 A46.out).mono ?_); (case side1 => repeat (first | exact (Kd.C_below HR0.out HB.out) | (with_reducible refine Kd.C_alloc ?_ _) | (with_reducible refine Kd.C_drewN ?_ _) | (with_reducible refine Kd.C_drew ?_))); (case side2 => exact HC0.out); (case side3 => repeat (first | exact (Kd.R_reads' HO_6.out).2.2 | (with_reducible refine Kd.C_alloc ?_ _) | (with_reducible refine Kd.C_drewN ?_ _) | (with_reducible refine Kd.C_drew ?_))); (case side4 => rw [show y246.length = x6_2.length from (Kd.R_reads' HO_6.out).1.symm]; exact (Kd.R_reads' HO_6.out).2.1); rintro e w58 ⟨v249, rfl, ho0, hb⟩; refine ⟨_, rfl, ?_⟩; have n0_ := Aside0.mk (Kd.R_elder' (by (with_reducible repeat (first | apply Kd.R_alloc | apply Kd.R_drewN | apply Kd.R_drew)); exact HO_6.out) (Kd.R_base ho0) hb); have n1_ := Aside0.mk (Kd.R_elder' (by (with_reducible repeat (first | apply Kd.R_alloc | apply Kd.R_drewN | apply Kd.R_drew)); exact HO245.out) (Kd.R_base ho0) hb); have n2_ := Aside0.mk (Kd.R_lower (Kd.R_newB (Kd.R_new' (Kd.R_new' ho0 (Kd.R_lt (by (with_reducible repeat (first | apply Kd.R_alloc | apply Kd.R_drewN | apply Kd.R_drew)); exact HO_6.out))) (Kd.R_lt (by (with_reducible repeat (first | apply Kd.R_alloc | apply Kd.R_drewN | apply Kd.R_drew)); exact HO245.out))) (g := gb209) (o := .cells #[.int .i64 a1_0, .int .i64 a1_1, .string a1_2] 37 (0, 0)) (by (with_reducible repeat (first | refine blk_drewN ?_ _ | refine blk_drew ?_ | refine blk_alloc ?_ _)); exact BK209.out)) (below_size (by repeat (first | (with_reducible first | exact HB.out | apply below_alloc | apply pw_below_drewN | apply below_drew1 | refine below_set ?_ GE209.out) | exact HB.out)))); have n3_ := Aside0.mk (blk_below (g := gb209) (o := .cells #[.int .i64 a1_0, .int .i64 a1_1, .string a1_2] 37 (0, 0)) (by (with_reducible repeat (first | refine blk_drewN ?_ _ | refine blk_drew ?_ | refine blk_alloc ?_ _)); exact BK209.out) hb); have n4_ := Aside0.mk (below_step (by repeat (first | (with_reducible first | exact HB.out | apply below_alloc | apply pw_below_drewN | apply below_drew1 | refine below_set ?_ GE209.out) | exact HB.out)) hb); clear HO_6; clear HO245; clear BK209; clear HB; have HO_6 := n0_; have HO245 := n1_; have HO250 := n2_; have BK209 := n3_; have HB := n4_; clear n0_ n1_ n2_ n3_ n4_; (try clear hb); (try clear hb2); (try clear hk); (try clear hi); (try clear ho0)))
                                  go_ret
                                  exact ⟨by first | rfl | (simp [errW_none, errW_some] <;> rfl) | (simp [*, errW_none, errW_some] <;> rfl), by repeat (first | (with_reducible first | exact HB.out | apply below_alloc | apply pw_below_drewN | apply below_drew1 | refine below_set ?_ GE209.out) | exact HB.out)⟩
                              · replace c47 := Bool.eq_false_iff.mpr c47
                                subst c47
                                have H1 : (some false) = some r := by rw [if_neg (show ¬ (false = true) by decide)] at H; exact H
                                clear H
                                have H := H1
                                clear H1
                                obtain rfl := Option.some.inj H
                                have q59 : (1 : Int) ≤ ((x6_2.length : Int) : Int) := of_decide_eq_true (by first | (with_reducible assumption) | assumption)
                                obtain ⟨i059, hi059, _, hsz59, _⟩ := info_parts info37
                                have hroom59 : x6_2.length ≤ co26 := (Kd.R_reads' HO_6.out).2.1
                                have hC59 : Kd.C k37 _ Ao26 x6_2.length x6_2 := (Kd.R_reads' HO_6.out).2.2
                                have hcut59 := cut_from (P := Try.prog) 22 37 .i64 Try.underlying22 hi059 3 hsz59 Ao26 x6_2.length co26 1 (by omega) q59
                                have hr59 := Kd.C_drop (m := (1 : Int).toNat) (c := co26) hC59 (by omega) hroom59
                                obtain ⟨A59, hA59⟩ : ∃ A1, A1 = (if co26 = (1 : Int).toNat then Ao26 else (Ao26 : Option Addr).map (·.add ((1 : Int).toNat * 3))) := ⟨_, rfl⟩
                                obtain ⟨c59, hc59⟩ : ∃ c1, c1 = co26 - (1 : Int).toNat := ⟨_, rfl⟩
                                have hy59 : y238.length = x6_2.length - (1 : Int).toNat := (by rw [Ny238.out, List.length_drop] <;> omega)
                                rw [show (x6_2).drop (1 : Int).toNat = y238 from Ny238.out.symm] at hr59
                                replace hr59 : Kd.C k37 _ A59 y238.length y238 := (by rw [hA59]; exact hr59)
                                rw [← hy59, ← hA59, ← hc59] at hcut59
                                have HR241 := Aside0.mk hr59
                                have HC241 := Aside0.mk (show y238.length ≤ c59 from by rw [hy59, hc59]; exact Nat.sub_le_sub_right hroom59 _)
                                clear hr59 hC59 hroom59 hi059 hsz59 hc59
                                have KY59 := Aside0.mk hy59
                                have KA59 := Aside0.mk hA59
                                clear hy59 hA59
                                have KL59 := Aside0.mk (show 1 ≤ x6_2.length from by omega)
                                replace q59 := eq_true q59
                                go_wp2_with (first | ((with_reducible refine gate_callee (f := 21) rfl ?_); refine goesL_ (some 72) rfl rfl Try.func21 (by kernel_rfl) rfl #[.slice A0 l0.length c0, .slice A59 y238.length c59] rfl (by (try simp only [List.map_toArray, List.map_cons, List.map_nil]); first | done | rfl | (simp only [List.length_drop, List.length_take]; rfl)) ?_; (with_reducible refine (null_Join.calls _ _ l0 _ _ y238 t242 t243 _ ?side1 ?side2 ?side3 ?side4 A43.out).mono ?_); (case side1 => repeat (first | exact (Kd.C_below HR0.out HB.out) | (with_reducible refine Kd.C_alloc ?_ _) | (with_reducible refine Kd.C_drewN ?_ _) | (with_reducible refine Kd.C_drew ?_))); (case side2 => exact HC0.out); (case side3 => repeat (first | exact (by repeat (first | (with_reducible exact HR241.out) | (with_reducible refine Kd.C_alloc ?_ _) | (with_reducible refine Kd.C_drewN ?_ _) | (with_reducible refine Kd.C_drew ?_) | exact HR241.out)) | (with_reducible refine Kd.C_alloc ?_ _) | (with_reducible refine Kd.C_drewN ?_ _) | (with_reducible refine Kd.C_drew ?_))); (case side4 => exact HC241.out); rintro e w60 ⟨v244, rfl, ho0, hb⟩; refine ⟨_, rfl, ?_⟩; have n0_ := Aside0.mk (Kd.R_elder' (by (with_reducible repeat (first | apply Kd.R_alloc | apply Kd.R_drewN | apply Kd.R_drew)); exact HO_6.out) (Kd.R_base ho0) hb); have n1_ := Aside0.mk (Kd.R_lower (Kd.R_newB (Kd.R_new' ho0 (Kd.R_lt (by (with_reducible repeat (first | apply Kd.R_alloc | apply Kd.R_drewN | apply Kd.R_drew)); exact HO_6.out))) (g := gb209) (o := .cells #[.int .i64 a1_0, .int .i64 a1_1, .string a1_2] 37 (0, 0)) (by (with_reducible repeat (first | refine blk_drewN ?_ _ | refine blk_drew ?_ | refine blk_alloc ?_ _)); exact BK209.out)) (below_size (by repeat (first | (with_reducible first | exact HB.out | apply below_alloc | apply pw_below_drewN | apply below_drew1 | refine below_set ?_ GE209.out) | exact HB.out)))); have n2_ := Aside0.mk (blk_below (g := gb209) (o := .cells #[.int .i64 a1_0, .int .i64 a1_1, .string a1_2] 37 (0, 0)) (by (with_reducible repeat (first | refine blk_drewN ?_ _ | refine blk_drew ?_ | refine blk_alloc ?_ _)); exact BK209.out) hb); have n3_ := Aside0.mk (Kd.C_below (by repeat (first | (with_reducible exact HR241.out) | (with_reducible refine Kd.C_alloc ?_ _) | (with_reducible refine Kd.C_drewN ?_ _) | (with_reducible refine Kd.C_drew ?_) | exact HR241.out)) hb); have n4_ := Aside0.mk (below_step (by repeat (first | (with_reducible first | exact HB.out | apply below_alloc | apply pw_below_drewN | apply below_drew1 | refine below_set ?_ GE209.out) | exact HB.out)) hb); clear HO_6; clear BK209; clear HR241; clear HB; have HO_6 := n0_; have HO245 := n1_; have BK209 := n2_; have HR241 := n3_; have HB := n4_; clear n0_ n1_ n2_ n3_ n4_; (try clear hb); (try clear hb2); (try clear hk); (try clear hi); (try clear ho0); have p45 : 0 ≤ (0 : Int) := (by omega); have q45 : (0 : Int) < ((x6_2.length : Int) : Int) := of_decide_eq_true (by first | (with_reducible assumption) | assumption); have qi45 : (0 < x6_2.length) = True := eq_true (by omega); obtain ⟨go45, co45, eo45, gb45, gl45, cl45, HG45⟩ := Kd.R_form HO_6.out (by omega); (first | cases eo45 | (injection eo45 with ea_ en_ ec_; (first | subst ea_ | (injection ea_ with ea_; subst ea_)); subst ec_; clear en_)); have GB45 := Aside0.mk gb45; have GG45 := Aside0.mk HG45; clear gb45 gl45 HG45; obtain ⟨ce45, hcl45, hM45, hcc45, hfr45⟩ := Kd.R_elem HO_6.out z37 (0 : Int) p45 q45; obtain rfl := k37_openM hM45; have hx45_0 : w60.cell? ⟨go45, (0 : Int).toNat * 3, none⟩ = some (.int .i64 ((rd_T37 x6_2 0).f0)) := hcc45 0 _ rfl; have hx45_1 : w60.cell? ⟨go45, (0 : Int).toNat * 3 + 1, none⟩ = some (.int .i64 ((rd_T37 x6_2 0).f1)) := hcc45 1 _ rfl; have hx45_2 : w60.cell? ⟨go45, (0 : Int).toNat * 3 + 2, none⟩ = some (.string ((rd_T37 x6_2 0).f2)) := hcc45 2 _ rfl; have hf45_0 : w60.frozen? ⟨go45, (0 : Int).toNat * 3, none⟩ = false := hfr45 0; have hf45_1 : w60.frozen? ⟨go45, (0 : Int).toNat * 3 + 1, none⟩ = false := hfr45 1; have hf45_2 : w60.frozen? ⟨go45, (0 : Int).toNat * 3 + 2, none⟩ = false := hfr45 2; clear hcl45 hcc45 hfr45 hM45; (try rw [show ((0 : Int)).toNat = 0 from rfl] at hx45_0); (try simp only [Nat.reduceMul, Nat.zero_mul, Nat.zero_add, Nat.reduceAdd] at hx45_0); (try rw [show ((0 : Int)).toNat = 0 from rfl] at hf45_0); (try simp only [Nat.reduceMul, Nat.zero_mul, Nat.zero_add, Nat.reduceAdd] at hf45_0); (try rw [show ((0 : Int)).toNat = 0 from rfl] at hx45_1); (try simp only [Nat.reduceMul, Nat.zero_mul, Nat.zero_add, Nat.reduceAdd] at hx45_1); (try rw [show ((0 : Int)).toNat = 0 from rfl] at hf45_1); (try simp only [Nat.reduceMul, Nat.zero_mul, Nat.zero_add, Nat.reduceAdd] at hf45_1); (try rw [show ((0 : Int)).toNat = 0 from rfl] at hx45_2); (try simp only [Nat.reduceMul, Nat.zero_mul, Nat.zero_add, Nat.reduceAdd] at hx45_2); (try rw [show ((0 : Int)).toNat = 0 from rfl] at hf45_2); (try simp only [Nat.reduceMul, Nat.zero_mul, Nat.zero_add, Nat.reduceAdd] at hf45_2); replace p45 := eq_true p45; replace q45 := eq_true q45; have HX61 := Aside0.mk (show Kd.R k37 37 w60 w.heap.size (fun k_ => some k_ ≠ (v244 : Value).ownBlock ∧ k_ ≠ gb209) (.slice (some ⟨go45, 0, none⟩) x6_2.length co26) x6_2 from (by (with_reducible repeat (first | apply Kd.R_alloc | apply Kd.R_drewN | apply Kd.R_drew)); exact Kd.R_mono HO_6.out (fun _ hk => ⟨hk.2, hk.1⟩))); obtain ⟨ce61, hcl61, hM61, hcc61, hfr61⟩ := Kd.R_elem HX61.out z37 (0 : Int) (by omega) (by have h_ : (0 : Int) < ((x6_2.length : Int) : Int) := of_decide_eq_true (by first | (with_reducible assumption) | assumption); first | exact h_ | (have e_ := (Kd.R_reads' HO_6.out).1; omega) | simpa using h_); obtain rfl := k37_openM hM61; have HP61 := Kd.R_seg HX61.out (0 : Int) (by omega) (by have h_ : (0 : Int) < ((x6_2.length : Int) : Int) := of_decide_eq_true (by first | (with_reducible assumption) | assumption); first | exact h_ | (have e_ := (Kd.R_reads' HO_6.out).1; omega) | simpa using h_) (seg := [.int .i64 0, .int .i64 0, .string (⟨#[]⟩ : ByteArray)]) (j := 0) hcl61 hcc61 (show 3 ≤ 3 from by decide) (x' := (⟨0, 0, (⟨#[]⟩ : ByteArray)⟩ : S37)) (k37_mkM _ _ _ (⟨0, 0, (⟨#[]⟩ : ByteArray)⟩ : S37) ) (fun _ hk => hk); have hx61_0 := hcc61 0 _ rfl; (try simp only [show (k37).sz = 3 from rfl, Nat.mul_one, Nat.add_zero] at hx61_0); (try rw [show ((0 : Int)).toNat = 0 from rfl] at hx61_0); (try simp only [Nat.reduceMul, Nat.zero_mul, Nat.zero_add, Nat.reduceAdd] at hx61_0); have hf61_0 := hfr61 0; (try simp only [show (k37).sz = 3 from rfl, Nat.mul_one, Nat.add_zero] at hf61_0); (try rw [show ((0 : Int)).toNat = 0 from rfl] at hf61_0); (try simp only [Nat.reduceMul, Nat.zero_mul, Nat.zero_add, Nat.reduceAdd] at hf61_0); have hx61_1 := hcc61 1 _ rfl; (try simp only [show (k37).sz = 3 from rfl, Nat.mul_one, Nat.add_zero] at hx61_1); (try rw [show ((0 : Int)).toNat = 0 from rfl] at hx61_1); (try simp only [Nat.reduceMul, Nat.zero_mul, Nat.zero_add, Nat.reduceAdd] at hx61_1); have hf61_1 := hfr61 1; (try simp only [show (k37).sz = 3 from rfl, Nat.mul_one, Nat.add_zero] at hf61_1); (try rw [show ((0 : Int)).toNat = 0 from rfl] at hf61_1); (try simp only [Nat.reduceMul, Nat.zero_mul, Nat.zero_add, Nat.reduceAdd] at hf61_1); have hx61_2 := hcc61 2 _ rfl; (try simp only [show (k37).sz = 3 from rfl, Nat.mul_one, Nat.add_zero] at hx61_2); (try rw [show ((0 : Int)).toNat = 0 from rfl] at hx61_2); (try simp only [Nat.reduceMul, Nat.zero_mul, Nat.zero_add, Nat.reduceAdd] at hx61_2); have hf61_2 := hfr61 2; (try simp only [show (k37).sz = 3 from rfl, Nat.mul_one, Nat.add_zero] at hf61_2); (try rw [show ((0 : Int)).toNat = 0 from rfl] at hf61_2); (try simp only [Nat.reduceMul, Nat.zero_mul, Nat.zero_add, Nat.reduceAdd] at hf61_2); clear hcl61 hcc61 hfr61 hM61) | ((with_reducible refine gate_store (t := 37) (p := 77) rfl ?_); refine store_event (t := 37) (p := 77) (v := ?vo_w62) (w1 := (((w60.setCell ⟨go45, 0, none⟩ (.int .i64 0)).setCell ⟨go45, 1, none⟩ (.int .i64 0)).setCell ⟨go45, 2, none⟩ (.string (⟨#[]⟩ : ByteArray)))) ?hg ?ho ?hn ?hr ?_; (case ho => rfl); (case hg => rfl); (case hn => rfl); (case hr => first | (go_simp; done) | (go_simp; rfl)); intro w62 hw; have hg : w60.grownBy w62 (some go45) := (by rw [hw]; exact HP61.2); have hp_ : Kd.R k37 37 w62 w.heap.size (fun k_ => some k_ ≠ (v244 : Value).ownBlock ∧ k_ ≠ gb209) (.slice (some ⟨go45, 0, none⟩) x6_2.length co26) y246 := (by rw [hw, Ny246.out]; exact HP61.1); clear HP61; have n0_ := Aside0.mk (hp_); have n1_ := Aside0.mk (blk_grown (g := gb209) (o := .cells #[.int .i64 a1_0, .int .i64 a1_1, .string a1_2] 37 (0, 0)) (by (with_reducible repeat (first | refine blk_drewN ?_ _ | refine blk_drew ?_ | refine blk_alloc ?_ _)); exact BK209.out) hg (Kd.R_away HO_6.out (fun _ hk => hk.1))); have n2_ := Aside0.mk (Kd.R_after (v := (.slice (some ⟨go45, 0, none⟩) x6_2.length co26)) (v1 := (.slice (some ⟨go45, 0, none⟩) x6_2.length co26)) (ok := (fun k_ => k_ ≠ gb209)) (by (with_reducible repeat (first | apply Kd.R_alloc | apply Kd.R_drewN | apply Kd.R_drew)); exact Kd.R_mono HO245.out (fun _ hk => ⟨hk.2, hk.1.2⟩)) hg (.inl rfl)); have n3_ := Aside0.mk ((by rw [hw]; exact below_set (below_set (below_set (HB.out) GB45.out) GB45.out) GB45.out : Below w.heap.size w w62)); clear HO_6; clear BK209; clear HO245; clear HB; have HO_6 := n0_; have BK209 := n1_; have HO245 := n2_; have HB := n3_; clear n0_ n1_ n2_ n3_; clear hg hw hp_) | ((with_reducible refine gate_callee (f := 21) rfl ?_); refine goesL_ (some 81) rfl rfl Try.func21 (by kernel_rfl) rfl #[.slice A0 l0.length c0, .slice (some ⟨go45, 0, none⟩) y246.length co26] rfl (by (try simp only [List.map_toArray, List.map_cons, List.map_nil]); first | done | (rw [show y246.length = x6_2.length from (Kd.R_reads' HO_6.out).1.symm] <;> rfl) | rfl | (simp only [List.length_drop, List.length_take]; rfl)) ?_; (with_reducible refine (null_Join.calls _ _ l0 _ _ y246 t247 t248 _ ?side1 ?side2 ?side3 ?side4 A46.out).mono ?_); (case side1 => repeat (first | exact (Kd.C_below HR0.out HB.out) | (with_reducible refine Kd.C_alloc ?_ _) | (with_reducible refine Kd.C_drewN ?_ _) | (with_reducible refine Kd.C_drew ?_))); (case side2 => exact HC0.out); (case side3 => repeat (first | exact (Kd.R_reads' HO_6.out).2.2 | (with_reducible refine Kd.C_alloc ?_ _) | (with_reducible refine Kd.C_drewN ?_ _) | (with_reducible refine Kd.C_drew ?_))); (case side4 => rw [show y246.length = x6_2.length from (Kd.R_reads' HO_6.out).1.symm]; exact (Kd.R_reads' HO_6.out).2.1); rintro e w63 ⟨v249, rfl, ho0, hb⟩; refine ⟨_, rfl, ?_⟩; have n0_ := Aside0.mk (Kd.R_elder' (by (with_reducible repeat (first | apply Kd.R_alloc | apply Kd.R_drewN | apply Kd.R_drew)); exact HO_6.out) (Kd.R_base ho0) hb); have n1_ := Aside0.mk (Kd.R_elder' (by (with_reducible repeat (first | apply Kd.R_alloc | apply Kd.R_drewN | apply Kd.R_drew)); exact HO245.out) (Kd.R_base ho0) hb); have n2_ := Aside0.mk (Kd.R_lower (Kd.R_newB (Kd.R_new' (Kd.R_new' ho0 (Kd.R_lt (by (with_reducible repeat (first | apply Kd.R_alloc | apply Kd.R_drewN | apply Kd.R_drew)); exact HO_6.out))) (Kd.R_lt (by (with_reducible repeat (first | apply Kd.R_alloc | apply Kd.R_drewN | apply Kd.R_drew)); exact HO245.out))) (g := gb209) (o := .cells #[.int .i64 a1_0, .int .i64 a1_1, .string a1_2] 37 (0, 0)) (by (with_reducible repeat (first | refine blk_drewN ?_ _ | refine blk_drew ?_ | refine blk_alloc ?_ _)); exact BK209.out)) (below_size (by repeat (first | (with_reducible first | exact HB.out | apply below_alloc | apply pw_below_drewN | apply below_drew1 | refine below_set ?_ GE209.out) | exact HB.out)))); have n3_ := Aside0.mk (blk_below (g := gb209) (o := .cells #[.int .i64 a1_0, .int .i64 a1_1, .string a1_2] 37 (0, 0)) (by (with_reducible repeat (first | refine blk_drewN ?_ _ | refine blk_drew ?_ | refine blk_alloc ?_ _)); exact BK209.out) hb); have n4_ := Aside0.mk (below_step (by repeat (first | (with_reducible first | exact HB.out | apply below_alloc | apply pw_below_drewN | apply below_drew1 | refine below_set ?_ GE209.out) | exact HB.out)) hb); clear HO_6; clear HO245; clear BK209; clear HB; have HO_6 := n0_; have HO245 := n1_; have HO250 := n2_; have BK209 := n3_; have HB := n4_; clear n0_ n1_ n2_ n3_ n4_; (try clear hb); (try clear hb2); (try clear hk); (try clear hi); (try clear ho0)))
                                go_ret
                                exact ⟨by first | rfl | (simp [errW_none, errW_some] <;> rfl) | (simp [*, errW_none, errW_some] <;> rfl), by repeat (first | (with_reducible first | exact HB.out | apply below_alloc | apply pw_below_drewN | apply below_drew1 | refine below_set ?_ GE209.out) | exact HB.out)⟩
                            · rw [if_neg c44] at H
                              exact absurd H (by simp)
                          · rw [if_neg c42] at H
                            exact absurd H (by simp)
                · rw [if_neg c23] at H
                  exact absurd H (by simp)
              · rw [if_neg c22] at H
                exact absurd H (by simp)

end Go.Proofs.Ytnndeogbncadbaa.F
