-- Written by a program of this session (wip/mkprint.py over the kit's print): functions of the cut as plain Lean functions, and that the calls come to them. Lean checks it.
import Derived.Test.YtnndeogbncadbaaF0
import Derived.Test.YtnndeogbncadbaaF15
import Derived.Test.YtnndeogbncadbaaF18
namespace Go.Proofs.Ytnndeogbncadbaa.F
open Go.RowKit Go.Proofs.YtnndeogbncadbaaW.PrintWords Go.Proofs.YtnndeogbncadbaaW.PrintLast Go.Proofs.YtnndeogbncadbaaW.PrintMore
attribute [local go_sem] max2_int min2_int max_two min_two max_three min_three max_four min_four   -- for this text's walks alone
set_option linter.unusedVariables false
set_option linter.unusedSimpArgs false

/-! ### astragallaw01_BitsWidths: function 6 -/
def astragallaw01_BitsWidths.l0 : Nat → List Int → Int → Bool → Int → List Int → Int → Option (Bool)
  | 0, _, _, _, _, _, _ => none
  | k + 1, x0, x1, x5, x6, x7, x8 => if x8 < (x0.length : Int) then (if 0 ≤ x8 then (if x7.length < 17592186044416 then (astragallaw01_BitsWidths.l0 k x0 x1 x5 x6 (x7 ++ [IntKind.u64.wrap (Int.tdiv (rd x0 x8) 2)]) (wrap64 (x8 + 1))) else (none)) else (none)) else (if x5 = true then ((bits_Width.f k x0).bind fun t279 => ((bits_Width.f k (([x1] : List Int))).bind fun t283 => (if x6 = (mx t279 t283) then ((bits_Width.f k x7).bind fun t284 => ((bits_Width.f k x0).bind fun t285 => (if t284 = (mx (wrap64 (t285 - 1)) 0) then (some (decide (x6 ≤ 64))) else (some false)))) else (some false)))) else (some false))
def astragallaw01_BitsWidths.f (k : Nat) (l0 : List Int) (a1 : Int) : Option (Bool) := (astragallaw01_shown.f k).bind fun t264 => ((some (([] : List Int) : List Int)).bind fun y265 => (if y265.length + l0.length < 17592186044416 then ((some (y265 ++ l0 : List Int)).bind fun y268 => (if y268.length < 17592186044416 then ((bits_Width.f k (y268 ++ [a1])).bind fun t274 => (astragallaw01_BitsWidths.l0 k l0 a1 t264 t274 ([] : List Int) 0)) else (none))) else (none)))
theorem astragallaw01_BitsWidths.mono_l : ∀ k, (∀ y0 y1 y2 y3 y4 y5, LeO (astragallaw01_BitsWidths.l0 k y0 y1 y2 y3 y4 y5) (astragallaw01_BitsWidths.l0 (k + 1) y0 y1 y2 y3 y4 y5))
  | 0 => fun _ _ _ _ _ _ r h => by simp [astragallaw01_BitsWidths.l0] at h
  | k + 1 => by
    have ih0 := astragallaw01_BitsWidths.mono_l k
    · intro y0 y1 y2 y3 y4 y5
      unfold astragallaw01_BitsWidths.l0
      repeat' first
      | (with_reducible exact ih0 _ _ _ _ _ _)
      | (with_reducible exact astragallaw01_shown.mono _)
      | (with_reducible exact bits_Width.mono _ _)
      | (with_reducible exact LeO.refl _)
      | (with_reducible exact LeO.none _)
      | (with_reducible refine LeO.ite ?_ ?_)
      | (with_reducible refine LeO.bind ?_ (fun _ => ?_))
      | exact ih0 _ _ _ _ _ _
      | exact astragallaw01_shown.mono _
      | exact bits_Width.mono _ _
      | exact LeO.none _
      | refine LeO.ite ?_ ?_
      | refine LeO.bind ?_ (fun _ => ?_)
theorem astragallaw01_BitsWidths.mono : ∀ a0 a1 k, LeO (astragallaw01_BitsWidths.f k a0 a1) (astragallaw01_BitsWidths.f (k + 1) a0 a1) := by
  intro a0 a1 k
  have ih0 := astragallaw01_BitsWidths.mono_l k
  unfold astragallaw01_BitsWidths.f
  repeat' first
      | (with_reducible exact ih0 _ _ _ _ _ _)
      | (with_reducible exact astragallaw01_shown.mono _)
      | (with_reducible exact bits_Width.mono _ _)
      | (with_reducible exact LeO.refl _)
      | (with_reducible exact LeO.none _)
      | (with_reducible refine LeO.ite ?_ ?_)
      | (with_reducible refine LeO.bind ?_ (fun _ => ?_))
      | exact ih0 _ _ _ _ _ _
      | exact astragallaw01_shown.mono _
      | exact bits_Width.mono _ _
      | exact LeO.none _
      | refine LeO.ite ?_ ?_
      | refine LeO.bind ?_ (fun _ => ?_)
set_option maxHeartbeats 8000000 in
set_option maxRecDepth 100000 in
theorem astragallaw01_BitsWidths.calls (k : Nat) (A0 : Option Addr) (c0 : Nat) (l0 : List Int) (a1 : Int) (r : Bool) (w : World) (hr0 : Kd.C (Kd.int .u64) w A0 l0.length l0) (hc0 : l0.length ≤ c0) (h : astragallaw01_BitsWidths.f k l0 a1 = some r) :
    Calls Try.prog 6 #[.slice A0 l0.length c0, .int .u64 a1] w fun e w' => e = .returned (.bool r) ∧ Below w.heap.size w w' := by
  have HR0 := Aside0.mk hr0
  have HC0 := Aside0.mk hc0
  clear hr0 hc0
  have HB := Aside0.mk (Below.refl w.heap.size w)
  have H : ((astragallaw01_shown.f k).bind fun t264 => ((some (([] : List Int) : List Int)).bind fun y265 => (if y265.length + l0.length < 17592186044416 then ((some (y265 ++ l0 : List Int)).bind fun y268 => (if y268.length < 17592186044416 then ((bits_Width.f k (y268 ++ [a1])).bind fun t274 => (astragallaw01_BitsWidths.l0 k l0 a1 t264 t274 ([] : List Int) 0)) else (none))) else (none)))) = some r := h
  clear h
  replace H := Option.bind_eq_some_iff.mp H
  obtain ⟨t264, A30, H⟩ := H
  replace H : ((some (([] : List Int) : List Int)).bind fun y265 => (if y265.length + l0.length < 17592186044416 then ((some (y265 ++ l0 : List Int)).bind fun y268 => (if y268.length < 17592186044416 then ((bits_Width.f k (y268 ++ [a1])).bind fun t274 => (astragallaw01_BitsWidths.l0 k l0 a1 t264 t274 ([] : List Int) 0)) else (none))) else (none))) = some r := H
  have A3 := Aside0.mk A30
  clear A30
  obtain ⟨y265, hy265⟩ : ∃ y_ : List Int, y_ = (([] : List Int)) := ⟨_, rfl⟩
  replace H : (if y265.length + l0.length < 17592186044416 then ((some (y265 ++ l0 : List Int)).bind fun y268 => (if y268.length < 17592186044416 then ((bits_Width.f k (y268 ++ [a1])).bind fun t274 => (astragallaw01_BitsWidths.l0 k l0 a1 t264 t274 ([] : List Int) 0)) else (none))) else (none)) = some r := by first | (rw [hy265]; with_reducible exact H) | (have H2_ := (Option.bind_some _ _).symm.trans H; rw [hy265]; with_reducible exact H2_) | (have H2_ := (Option.bind_some _ _).symm.trans H; with_reducible exact H2_) | with_reducible exact H | (rw [hy265]; exact H) | exact H
  have Ny265 := Aside0.mk hy265
  clear hy265
  by_cases c4 : y265.length + l0.length < 17592186044416
  · rw [if_pos c4] at H
    have LMc4 := Aside0.mk c4
    clear c4
    obtain ⟨y268, hy268⟩ : ∃ y_ : List Int, y_ = (y265 ++ l0) := ⟨_, rfl⟩
    replace H : (if y268.length < 17592186044416 then ((bits_Width.f k (y268 ++ [a1])).bind fun t274 => (astragallaw01_BitsWidths.l0 k l0 a1 t264 t274 ([] : List Int) 0)) else (none)) = some r := by first | (rw [hy268]; with_reducible exact H) | (have H2_ := (Option.bind_some _ _).symm.trans H; rw [hy268]; with_reducible exact H2_) | (have H2_ := (Option.bind_some _ _).symm.trans H; with_reducible exact H2_) | with_reducible exact H | (rw [hy268]; exact H) | exact H
    have Ny268 := Aside0.mk hy268
    clear hy268
    by_cases c5 : y268.length < 17592186044416
    · rw [if_pos c5] at H
      have LMc5 := Aside0.mk c5
      clear c5
      obtain ⟨y271, hy271⟩ : ∃ y_ : List Int, y_ = (y268 ++ [a1]) := ⟨_, rfl⟩
      replace H : ((bits_Width.f k y271).bind fun t274 => (astragallaw01_BitsWidths.l0 k l0 a1 t264 t274 ([] : List Int) 0)) = some r := by first | (rw [hy271]; with_reducible exact H) | (have H2_ := (Option.bind_some _ _).symm.trans H; rw [hy271]; with_reducible exact H2_) | (have H2_ := (Option.bind_some _ _).symm.trans H; with_reducible exact H2_) | with_reducible exact H | (rw [hy271]; exact H) | exact H
      have Ny271 := Aside0.mk hy271
      clear hy271
      replace H := Option.bind_eq_some_iff.mp H
      obtain ⟨t274, A60, H⟩ := H
      replace H : (astragallaw01_BitsWidths.l0 k l0 a1 t264 t274 ([] : List Int) 0) = some r := H
      have A6 := Aside0.mk A60
      clear A60
      have H' := Aside0.mk H
      clear H
      go_enter Try.func6, Try.ntmps6
      go_wp2_with (first | ((with_reducible refine gate_callee (f := 25) rfl ?_); refine goesL_ (some 9) rfl rfl Try.func25 (by kernel_rfl) rfl #[] rfl (by (try simp only [List.map_toArray, List.map_cons, List.map_nil]); first | done | rfl | (simp only [List.length_drop, List.length_take]; rfl)) ?_; (with_reducible refine (astragallaw01_shown.calls k  t264 _ A3.out).mono ?_); rintro e w7 ⟨rfl, hb⟩; refine ⟨_, rfl, ?_⟩; have n0_ := Aside0.mk (below_step (by repeat (first | (with_reducible first | exact HB.out | apply below_alloc | apply pw_below_drewN | apply below_drew1) | exact HB.out)) hb); clear HB; have HB := n0_; clear n0_; (try clear hb); (try clear hb2); (try clear hk); (try clear hi)) | ((with_reducible refine gate_dst (N := 10) rfl ?_); (try (refine gate_guard (by rfl) ?_; dsimp only)); refine Kd.R_lit (Kd.int .u64) _ 40 ?hg (N := 10) ?hd (xs := ([] : List Int)) (inner := []) (ok := fun _ => True) (okp := fun _ => True) ?hr ?hp (fun _ hk => hk) trivial (Below.refl _ _) (Nat.le_refl _) (by simp) ?_; (case hd => rfl); (case hg => rfl); (case hr => first | (go_simp; done) | (go_simp; rfl)); (case hp => exact (Reps.none _ _)); intro v266 w8 ho9 hb hg_ hnew_; clear hg_ hnew_; (first | rw [← Ny265.out] at ho9 | (simp only [Int.reduceToNat] at ho9; rw [← Ny265.out] at ho9)); have n0_ := Aside0.mk (Kd.R_lower ho9 (below_size (by repeat (first | (with_reducible first | exact HB.out | apply below_alloc | apply pw_below_drewN | apply below_drew1) | exact HB.out)))); have n1_ := Aside0.mk (below_step (by repeat (first | (with_reducible first | exact HB.out | apply below_alloc | apply pw_below_drewN | apply below_drew1) | exact HB.out)) hb); clear HB; have HO267 := n0_; have HB := n1_; clear n0_ n1_; clear hb ho9) | ((with_reducible refine gate_builtin (b := .append) (xs := #[.tmp 10, .tmp 11]) rfl ?_); (try (refine gate_guard (by rfl) ?_; dsimp only)); at_builtin; refine Kd.R_append_rows (Kd.int .u64) (w0 := w) w.heap.size rfl (.tmp 10) (.tmp 11) 39 40 (.int .u64 0) 8 rfl Try.underlying39 info40 rfl (by decide) (by omega) v266 y265 l0 _ _ _ (fun _ => True) (fun _ => False) rfl rfl ?aO ?aR (fun _ _ h => h) (fun _ h => h.elim) ?aF ?aB ?aS ?aL ?_; (case aR => repeat (first | exact (Kd.C_below HR0.out HB.out) | (with_reducible refine Kd.C_alloc ?_ _) | (with_reducible refine Kd.C_drewN ?_ _) | (with_reducible refine Kd.C_drew ?_))); (case aB => exact (by repeat (first | (with_reducible first | exact HB.out | apply below_alloc | apply pw_below_drewN | apply below_drew1) | exact HB.out))); (case aF => exact (fun _ _ => trivial)); (case aO => exact (by (with_reducible repeat (first | apply Kd.R_alloc | apply Kd.R_drewN | apply Kd.R_drew)); exact HO267.out)); (case aS => exact (below_size (by repeat (first | (with_reducible first | exact HB.out | apply below_alloc | apply pw_below_drewN | apply below_drew1) | exact HB.out)))); (case aL => have := LMc4.out; omega); intro v269 w10 ho hb hg hat; rw [← Ny268.out] at ho; have n0_ := Aside0.mk (hb); have n1_ := Aside0.mk (ho); clear HB; clear HO267; have HB := n0_; have HO270 := n1_; clear n0_ n1_; clear ho hb hg hat) | ((with_reducible refine gate_builtin (b := .append) (xs := #[.tmp 12, .tmp 14]) rfl ?_); (try (refine gate_guard (by rfl) ?_; dsimp only)); at_builtin; refine Kd.R_append (Kd.int .u64) (w0 := w) w.heap.size rfl (.tmp 12) (.tmp 14) 39 40 (.int .u64 0) 8 rfl Try.underlying39 info40 rfl (by decide) (by omega) v269 y268 a1 [.int .u64 a1] (fun _ => True) (fun _ => False) rfl rfl ?aP (fun _ hk => hk.elim) ?aF ?aO ?aB ?aS ?aL ?_; (case aP => exact rfl); (case aB => exact (by repeat (first | (with_reducible first | exact HB.out | apply below_alloc | apply pw_below_drewN | apply below_drew1) | exact HB.out))); (case aF => exact (fun _ _ => trivial)); (case aO => exact (by (with_reducible repeat (first | apply Kd.R_alloc | apply Kd.R_drewN | apply Kd.R_drew)); exact HO270.out)); (case aS => exact (below_size (by repeat (first | (with_reducible first | exact HB.out | apply below_alloc | apply pw_below_drewN | apply below_drew1) | exact HB.out)))); (case aL => have := LMc5.out; omega); intro v272 w11 ho hb hg hat; rw [← Ny271.out] at ho; have n0_ := Aside0.mk (hb); have n1_ := Aside0.mk (ho); clear HB; clear HO270; have HB := n0_; have HO273 := n1_; clear n0_ n1_; clear ho hb hg hat; obtain ⟨Ao12, co12, eo12⟩ := Kd.R_slice HO273.out; subst eo12) | ((with_reducible refine gate_callee (f := 26) rfl ?_); refine goesL_ (some 16) rfl rfl Try.func26 (by kernel_rfl) rfl #[.slice Ao12 y271.length co12] rfl (by (try simp only [List.map_toArray, List.map_cons, List.map_nil]); first | done | rfl | (simp only [List.length_drop, List.length_take]; rfl)) ?_; (with_reducible refine (bits_Width.calls k _ _ y271 t274 _ ?side1 ?side2 A6.out).mono ?_); (case side1 => repeat (first | exact (Kd.R_reads' HO273.out).2.2 | (with_reducible refine Kd.C_alloc ?_ _) | (with_reducible refine Kd.C_drewN ?_ _) | (with_reducible refine Kd.C_drew ?_))); (case side2 => exact (Kd.R_reads' HO273.out).2.1); rintro e w' ⟨rfl, ⟨nd, rfl⟩⟩; refine ⟨_, rfl, ?_⟩))
      go_loopg [7, 8] k (fun kq v7 v8 w' => ∃ (x7_1 : List Int) (x8_1 : Int), v8 = .int .i64 x8_1 ∧ Aside0 (astragallaw01_BitsWidths.l0 kq l0 a1 t264 t274 x7_1 x8_1 = some r) ∧ Aside0 (kq ≤ k) ∧ Aside0 (Kd.R (Kd.int .u64) 40 w' w.heap.size (fun _ => True) v7 x7_1) ∧ Aside0 (Below w.heap.size w w'))
      case atStart => exact ⟨(([] : List Int)), (0), (by first | rfl | (simp; done) | (simp [*]; done)), H', ⟨Nat.le_refl _⟩, ⟨by first | exact Kd.R_nil _ _ _ _ _ | exact Kd.N_nil _ _ _ _ _ | exact Kd.V_nil _ _ _ _ _ | exact Kd.Q_nil _ _ _ _ _ | exact Kd.S_nil _ _ _ _ _⟩, ⟨by repeat (first | (with_reducible first | exact HB.out | apply below_alloc | apply pw_below_drewN | apply below_drew1) | exact HB.out)⟩⟩
      case round =>
        clear H'
        try clear c2
        try clear p2
        try clear c4
        try clear c5
        try clear c6
        obtain ⟨x7_1, x8_1, rfl, HA, HK1, HO_7, HB⟩ := hrel
        cases gk with
        | zero => exact absurd HA.out (by simp [astragallaw01_BitsWidths.l0])
        | succ k1 =>
          have H := HA.out
          clear HA
          simp only [astragallaw01_BitsWidths.l0] at H
          by_cases c13 : x8_1 < (l0.length : Int)
          · rw [if_pos c13] at H
            have c13b0 : decide (x8_1 < (l0.length : Int)) = true := decide_eq_true c13
            clear c13
            by_cases c14 : 0 ≤ x8_1
            · rw [if_pos c14] at H
              have c14b0 : decide (0 ≤ x8_1) = true := decide_eq_true c14
              clear c14
              by_cases c15 : x7_1.length < 17592186044416
              · rw [if_pos c15] at H
                have LMc15 := Aside0.mk c15
                clear c15
                obtain ⟨y276, hy276⟩ : ∃ y_ : List Int, y_ = (x7_1 ++ [IntKind.u64.wrap (Int.tdiv (rd l0 x8_1) 2)]) := ⟨_, rfl⟩
                replace H : (astragallaw01_BitsWidths.l0 k1 l0 a1 t264 t274 y276 (wrap64 (x8_1 + 1))) = some r := by first | (rw [hy276]; with_reducible exact H) | (have H2_ := (Option.bind_some _ _).symm.trans H; rw [hy276]; with_reducible exact H2_) | (have H2_ := (Option.bind_some _ _).symm.trans H; with_reducible exact H2_) | with_reducible exact H | (rw [hy276]; exact H) | exact H
                have Ny276 := Aside0.mk hy276
                clear hy276
                have H' := Aside0.mk H
                clear H
                have p275 : 0 ≤ (x8_1 : Int) := of_decide_eq_true (by first | (with_reducible assumption) | assumption)
                have q275 : x8_1 < (l0.length : Int) := of_decide_eq_true (by first | (with_reducible assumption) | assumption)
                obtain ⟨ad275, e275, hx275_0⟩ := Kd.at_int HR0.out x8_1 p275 q275
                cases e275
                replace hx275_0 := (HB.out.cell (World.block_lt_of_cell? w _ hx275_0)).trans hx275_0
                replace p275 := eq_true p275
                replace q275 := eq_true q275
                go_wp2_with (first | ((with_reducible refine gate_builtin (b := .append) (xs := #[.tmp 23, .tmp 29]) rfl ?_); (try (refine gate_guard (by rfl) ?_; dsimp only)); at_builtin; refine Kd.R_append (Kd.int .u64) (w0 := w) w.heap.size rfl (.tmp 23) (.tmp 29) 39 40 (.int .u64 0) 8 rfl Try.underlying39 info40 rfl (by decide) (by omega) u7 x7_1 (IntKind.u64.wrap (Int.tdiv (rd l0 x8_1) 2)) [.int .u64 (IntKind.u64.wrap (Int.tdiv (rd l0 x8_1) 2))] (fun _ => True) (fun _ => False) rfl rfl ?aP (fun _ hk => hk.elim) ?aF ?aO ?aB ?aS ?aL ?_; (case aP => exact rfl); (case aB => exact (by repeat (first | (with_reducible first | exact HB.out | apply below_alloc | apply pw_below_drewN | apply below_drew1) | exact HB.out))); (case aF => exact (fun _ _ => trivial)); (case aO => exact (by (with_reducible repeat (first | apply Kd.R_alloc | apply Kd.R_drewN | apply Kd.R_drew)); exact HO_7.out)); (case aS => exact (below_size (by repeat (first | (with_reducible first | exact HB.out | apply below_alloc | apply pw_below_drewN | apply below_drew1) | exact HB.out)))); (case aL => have := LMc15.out; omega); intro v277 w16 ho hb hg hat; rw [← Ny276.out] at ho; have n0_ := Aside0.mk (hb); have n1_ := Aside0.mk (ho); clear HB; clear HO_7; have HB := n0_; have HO278 := n1_; clear n0_ n1_; clear ho hb hg hat))
                go_roundg k1
                case measure => have := HK1.out; omega
                case rel => exact ⟨(y276), (wrap64 (x8_1 + 1)), (by first | rfl | (simp; done) | (simp [*]; done)), H', ⟨by have := HK1.out; omega⟩, ⟨by (with_reducible repeat (first | apply Kd.R_alloc | apply Kd.R_drewN | apply Kd.R_drew)); exact HO278.out⟩, ⟨by repeat (first | (with_reducible first | exact HB.out | apply below_alloc | apply pw_below_drewN | apply below_drew1) | exact HB.out)⟩⟩
              · rw [if_neg c15] at H
                exact absurd H (by simp)
            · rw [if_neg c14] at H
              exact absurd H (by simp)
          · rw [if_neg c13] at H
            have c13b0 : decide (x8_1 < (l0.length : Int)) = false := decide_eq_false c13
            clear c13
            by_cases c17 : t264 = true
            · subst c17
              have H1 : ((bits_Width.f k1 l0).bind fun t279 => ((bits_Width.f k1 (([a1] : List Int))).bind fun t283 => (if t274 = (mx t279 t283) then ((bits_Width.f k1 x7_1).bind fun t284 => ((bits_Width.f k1 l0).bind fun t285 => (if t284 = (mx (wrap64 (t285 - 1)) 0) then (some (decide (t274 ≤ 64))) else (some false)))) else (some false)))) = some r := by rw [if_pos rfl] at H; exact H
              clear H
              have H := H1
              clear H1
              replace H := Option.bind_eq_some_iff.mp H
              obtain ⟨t279, A180, H⟩ := H
              replace H : ((bits_Width.f k1 (([a1] : List Int))).bind fun t283 => (if t274 = (mx t279 t283) then ((bits_Width.f k1 x7_1).bind fun t284 => ((bits_Width.f k1 l0).bind fun t285 => (if t284 = (mx (wrap64 (t285 - 1)) 0) then (some (decide (t274 ≤ 64))) else (some false)))) else (some false))) = some r := H
              have A18 := Aside0.mk A180
              clear A180
              obtain ⟨y280, hy280⟩ : ∃ y_ : List Int, y_ = (([a1] : List Int)) := ⟨_, rfl⟩
              replace H : ((bits_Width.f k1 y280).bind fun t283 => (if t274 = (mx t279 t283) then ((bits_Width.f k1 x7_1).bind fun t284 => ((bits_Width.f k1 l0).bind fun t285 => (if t284 = (mx (wrap64 (t285 - 1)) 0) then (some (decide (t274 ≤ 64))) else (some false)))) else (some false))) = some r := by first | (rw [hy280]; with_reducible exact H) | (have H2_ := (Option.bind_some _ _).symm.trans H; rw [hy280]; with_reducible exact H2_) | (have H2_ := (Option.bind_some _ _).symm.trans H; with_reducible exact H2_) | with_reducible exact H | (rw [hy280]; exact H) | exact H
              have Ny280 := Aside0.mk hy280
              clear hy280
              replace H := Option.bind_eq_some_iff.mp H
              obtain ⟨t283, A190, H⟩ := H
              replace H : (if t274 = (mx t279 t283) then ((bits_Width.f k1 x7_1).bind fun t284 => ((bits_Width.f k1 l0).bind fun t285 => (if t284 = (mx (wrap64 (t285 - 1)) 0) then (some (decide (t274 ≤ 64))) else (some false)))) else (some false)) = some r := H
              have A19 := Aside0.mk A190
              clear A190
              obtain ⟨ji20, hji20⟩ : ∃ j_ : Int, (mx t279 t283) = j_ := ⟨_, rfl⟩
              replace H : (if t274 = (ji20) then ((bits_Width.f k1 x7_1).bind fun t284 => ((bits_Width.f k1 l0).bind fun t285 => (if t284 = (mx (wrap64 (t285 - 1)) 0) then (some (decide (t274 ≤ 64))) else (some false)))) else (some false)) = some r := by first | (rw [hji20] at H; exact H) | (simp only [hji20] at H ⊢; exact H)
              (try rw [hji20] at A18)
              (try rw [hji20] at A19)
              have hji20_ : (if t279 < t283 then t283 else t279) = ji20 := hji20
              by_cases c21 : t274 = (ji20)
              · rw [if_pos c21] at H
                have c21b0 : (t274 == (ji20)) = true := beq_iff_eq.mpr c21
                have c21b1 : (t274 != (ji20)) = false := bne_eq_false_iff_eq.mpr c21
                clear c21
                replace H := Option.bind_eq_some_iff.mp H
                obtain ⟨t284, A220, H⟩ := H
                replace H : ((bits_Width.f k1 l0).bind fun t285 => (if t284 = (mx (wrap64 (t285 - 1)) 0) then (some (decide (t274 ≤ 64))) else (some false))) = some r := H
                have A22 := Aside0.mk A220
                clear A220
                replace H := Option.bind_eq_some_iff.mp H
                obtain ⟨t285, A230, H⟩ := H
                obtain rfl : t279 = t285 := Option.some.inj (A18.out.symm.trans A230)
                replace H : (if t284 = (mx (wrap64 (t279 - 1)) 0) then (some (decide (t274 ≤ 64))) else (some false)) = some r := H
                have A23 := Aside0.mk A230
                clear A230
                obtain ⟨ji24, hji24⟩ : ∃ j_ : Int, (mx (wrap64 (t279 - 1)) 0) = j_ := ⟨_, rfl⟩
                replace H : (if t284 = (ji24) then (some (decide (t274 ≤ 64))) else (some false)) = some r := by first | (rw [hji24] at H; exact H) | (simp only [hji24] at H ⊢; exact H)
                (try rw [hji24] at A18)
                (try rw [hji24] at A19)
                (try rw [hji24] at A22)
                (try rw [hji24] at A23)
                (try (have hji24l : 0 ≤ ji24 := by (rw [← hji24]; unfold mx; (repeat' split) <;> omega)))
                (try (have hji24m : 0 ≤ ji24 := by omega))
                have hji24_ : (if (wrap64 (t279 - 1)) < 0 then 0 else (wrap64 (t279 - 1))) = ji24 := hji24
                by_cases c25 : t284 = (ji24)
                · rw [if_pos c25] at H
                  have c25b0 : (t284 == (ji24)) = true := beq_iff_eq.mpr c25
                  have c25b1 : (t284 != (ji24)) = false := bne_eq_false_iff_eq.mpr c25
                  clear c25
                  obtain rfl := Option.some.inj H
                  go_wp2_with (first | (go_at_call 26; (with_reducible refine (bits_Width.calls k1 _ _ l0 t279 _ ?side1 ?side2 A18.out).mono ?_); (case side1 => repeat (first | exact (Kd.C_below HR0.out HB.out) | (with_reducible refine Kd.C_alloc ?_ _) | (with_reducible refine Kd.C_drewN ?_ _) | (with_reducible refine Kd.C_drew ?_))); (case side2 => exact HC0.out); rintro e w' ⟨rfl, ⟨nd, rfl⟩⟩) | ((with_reducible refine gate_dst (N := 37) rfl ?_); (try (refine gate_guard (by rfl) ?_; dsimp only)); refine Kd.R_lit (Kd.int .u64) _ 40 ?hg (N := 37) ?hd (xs := ([a1] : List Int)) (inner := [.int .u64 a1]) (ok := fun _ => True) (okp := fun _ => True) ?hr ?hp (fun _ hk => hk) trivial (Below.refl _ _) (Nat.le_refl _) (by simp) ?_; (case hd => rfl); (case hg => rfl); (case hr => first | (go_simp; done) | (go_simp; rfl)); (case hp => exact (Reps.one (show Kd.M (Kd.int .u64) _ _ _ a1 [.int .u64 a1] from rfl) (Reps.none _ _))); intro v281 w26 ho27 hb hg_ hnew_; clear hg_ hnew_; (first | rw [← Ny280.out] at ho27 | (simp only [Int.reduceToNat] at ho27; rw [← Ny280.out] at ho27)); have n0_ := Aside0.mk (Kd.R_elder' (by (with_reducible repeat (first | apply Kd.R_alloc | apply Kd.R_drewN | apply Kd.R_drew)); exact HO_7.out) (Kd.R_base ho27) hb); have n1_ := Aside0.mk (Kd.R_lower (Kd.R_new' ho27 (Kd.R_lt (by (with_reducible repeat (first | apply Kd.R_alloc | apply Kd.R_drewN | apply Kd.R_drew)); exact HO_7.out))) (below_size (by repeat (first | (with_reducible first | exact HB.out | apply below_alloc | apply pw_below_drewN | apply below_drew1) | exact HB.out)))); have n2_ := Aside0.mk (below_step (by repeat (first | (with_reducible first | exact HB.out | apply below_alloc | apply pw_below_drewN | apply below_drew1) | exact HB.out)) hb); clear HO_7; clear HB; have HO_7 := n0_; have HO282 := n1_; have HB := n2_; clear n0_ n1_ n2_; clear hb ho27; obtain ⟨Ao28, co28, eo28⟩ := Kd.R_slice HO282.out; subst eo28) | (go_at_call 26; (with_reducible refine (bits_Width.calls k1 _ _ y280 t283 _ ?side1 ?side2 A19.out).mono ?_); (case side1 => repeat (first | exact (Kd.R_reads' HO282.out).2.2 | (with_reducible refine Kd.C_alloc ?_ _) | (with_reducible refine Kd.C_drewN ?_ _) | (with_reducible refine Kd.C_drew ?_))); (case side2 => exact (Kd.R_reads' HO282.out).2.1); rintro e w' ⟨rfl, ⟨nd, rfl⟩⟩; obtain ⟨Ao29, co29, eo29⟩ := Kd.R_slice HO_7.out; subst eo29) | (go_at_call 26; (with_reducible refine (bits_Width.calls k1 _ _ x7_1 t284 _ ?side1 ?side2 A22.out).mono ?_); (case side1 => repeat (first | exact (Kd.R_reads' HO_7.out).2.2 | (with_reducible refine Kd.C_alloc ?_ _) | (with_reducible refine Kd.C_drewN ?_ _) | (with_reducible refine Kd.C_drew ?_))); (case side2 => exact (Kd.R_reads' HO_7.out).2.1); rintro e w' ⟨rfl, ⟨nd, rfl⟩⟩) | (go_at_call 26; (with_reducible refine (bits_Width.calls k1 _ _ l0 t279 _ ?side1 ?side2 A23.out).mono ?_); (case side1 => repeat (first | exact (Kd.C_below HR0.out (by repeat (first | (with_reducible first | exact HB.out | apply below_alloc | apply pw_below_drewN | apply below_drew1) | exact HB.out))) | (with_reducible refine Kd.C_alloc ?_ _) | (with_reducible refine Kd.C_drewN ?_ _) | (with_reducible refine Kd.C_drew ?_))); (case side2 => exact HC0.out); rintro e w' ⟨rfl, ⟨nd, rfl⟩⟩))
                  go_ret
                  exact ⟨by first | rfl | (simp [errW_none, errW_some] <;> rfl) | (simp only [← hji20, ← hji24]; first | rfl | (simp [errW_none, errW_some] <;> rfl)) | (simp [*, errW_none, errW_some] <;> rfl), by repeat (first | (with_reducible first | exact HB.out | apply below_alloc | apply pw_below_drewN | apply below_drew1) | exact HB.out)⟩
                · rw [if_neg c25] at H
                  have c25b0 : (t284 == (ji24)) = false := beq_eq_false_iff_ne.mpr c25
                  have c25b1 : (t284 != (ji24)) = true := bne_iff_ne.mpr c25
                  obtain rfl := Option.some.inj H
                  go_wp2_with (first | (go_at_call 26; (with_reducible refine (bits_Width.calls k1 _ _ l0 t279 _ ?side1 ?side2 A18.out).mono ?_); (case side1 => repeat (first | exact (Kd.C_below HR0.out HB.out) | (with_reducible refine Kd.C_alloc ?_ _) | (with_reducible refine Kd.C_drewN ?_ _) | (with_reducible refine Kd.C_drew ?_))); (case side2 => exact HC0.out); rintro e w' ⟨rfl, ⟨nd, rfl⟩⟩) | ((with_reducible refine gate_dst (N := 37) rfl ?_); (try (refine gate_guard (by rfl) ?_; dsimp only)); refine Kd.R_lit (Kd.int .u64) _ 40 ?hg (N := 37) ?hd (xs := ([a1] : List Int)) (inner := [.int .u64 a1]) (ok := fun _ => True) (okp := fun _ => True) ?hr ?hp (fun _ hk => hk) trivial (Below.refl _ _) (Nat.le_refl _) (by simp) ?_; (case hd => rfl); (case hg => rfl); (case hr => first | (go_simp; done) | (go_simp; rfl)); (case hp => exact (Reps.one (show Kd.M (Kd.int .u64) _ _ _ a1 [.int .u64 a1] from rfl) (Reps.none _ _))); intro v281 w30 ho31 hb hg_ hnew_; clear hg_ hnew_; (first | rw [← Ny280.out] at ho31 | (simp only [Int.reduceToNat] at ho31; rw [← Ny280.out] at ho31)); have n0_ := Aside0.mk (Kd.R_elder' (by (with_reducible repeat (first | apply Kd.R_alloc | apply Kd.R_drewN | apply Kd.R_drew)); exact HO_7.out) (Kd.R_base ho31) hb); have n1_ := Aside0.mk (Kd.R_lower (Kd.R_new' ho31 (Kd.R_lt (by (with_reducible repeat (first | apply Kd.R_alloc | apply Kd.R_drewN | apply Kd.R_drew)); exact HO_7.out))) (below_size (by repeat (first | (with_reducible first | exact HB.out | apply below_alloc | apply pw_below_drewN | apply below_drew1) | exact HB.out)))); have n2_ := Aside0.mk (below_step (by repeat (first | (with_reducible first | exact HB.out | apply below_alloc | apply pw_below_drewN | apply below_drew1) | exact HB.out)) hb); clear HO_7; clear HB; have HO_7 := n0_; have HO282 := n1_; have HB := n2_; clear n0_ n1_ n2_; clear hb ho31; obtain ⟨Ao32, co32, eo32⟩ := Kd.R_slice HO282.out; subst eo32) | (go_at_call 26; (with_reducible refine (bits_Width.calls k1 _ _ y280 t283 _ ?side1 ?side2 A19.out).mono ?_); (case side1 => repeat (first | exact (Kd.R_reads' HO282.out).2.2 | (with_reducible refine Kd.C_alloc ?_ _) | (with_reducible refine Kd.C_drewN ?_ _) | (with_reducible refine Kd.C_drew ?_))); (case side2 => exact (Kd.R_reads' HO282.out).2.1); rintro e w' ⟨rfl, ⟨nd, rfl⟩⟩; obtain ⟨Ao33, co33, eo33⟩ := Kd.R_slice HO_7.out; subst eo33) | (go_at_call 26; (with_reducible refine (bits_Width.calls k1 _ _ x7_1 t284 _ ?side1 ?side2 A22.out).mono ?_); (case side1 => repeat (first | exact (Kd.R_reads' HO_7.out).2.2 | (with_reducible refine Kd.C_alloc ?_ _) | (with_reducible refine Kd.C_drewN ?_ _) | (with_reducible refine Kd.C_drew ?_))); (case side2 => exact (Kd.R_reads' HO_7.out).2.1); rintro e w' ⟨rfl, ⟨nd, rfl⟩⟩) | (go_at_call 26; (with_reducible refine (bits_Width.calls k1 _ _ l0 t279 _ ?side1 ?side2 A23.out).mono ?_); (case side1 => repeat (first | exact (Kd.C_below HR0.out (by repeat (first | (with_reducible first | exact HB.out | apply below_alloc | apply pw_below_drewN | apply below_drew1) | exact HB.out))) | (with_reducible refine Kd.C_alloc ?_ _) | (with_reducible refine Kd.C_drewN ?_ _) | (with_reducible refine Kd.C_drew ?_))); (case side2 => exact HC0.out); rintro e w' ⟨rfl, ⟨nd, rfl⟩⟩))
                  go_ret
                  exact ⟨by first | rfl | (simp [errW_none, errW_some] <;> rfl) | (simp only [← hji20, ← hji24]; first | rfl | (simp [errW_none, errW_some] <;> rfl)) | (simp [*, errW_none, errW_some] <;> rfl), by repeat (first | (with_reducible first | exact HB.out | apply below_alloc | apply pw_below_drewN | apply below_drew1) | exact HB.out)⟩
              · rw [if_neg c21] at H
                have c21b0 : (t274 == (ji20)) = false := beq_eq_false_iff_ne.mpr c21
                have c21b1 : (t274 != (ji20)) = true := bne_iff_ne.mpr c21
                obtain rfl := Option.some.inj H
                go_wp2_with (first | (go_at_call 26; (with_reducible refine (bits_Width.calls k1 _ _ l0 t279 _ ?side1 ?side2 A18.out).mono ?_); (case side1 => repeat (first | exact (Kd.C_below HR0.out HB.out) | (with_reducible refine Kd.C_alloc ?_ _) | (with_reducible refine Kd.C_drewN ?_ _) | (with_reducible refine Kd.C_drew ?_))); (case side2 => exact HC0.out); rintro e w' ⟨rfl, ⟨nd, rfl⟩⟩) | ((with_reducible refine gate_dst (N := 37) rfl ?_); (try (refine gate_guard (by rfl) ?_; dsimp only)); refine Kd.R_lit (Kd.int .u64) _ 40 ?hg (N := 37) ?hd (xs := ([a1] : List Int)) (inner := [.int .u64 a1]) (ok := fun _ => True) (okp := fun _ => True) ?hr ?hp (fun _ hk => hk) trivial (Below.refl _ _) (Nat.le_refl _) (by simp) ?_; (case hd => rfl); (case hg => rfl); (case hr => first | (go_simp; done) | (go_simp; rfl)); (case hp => exact (Reps.one (show Kd.M (Kd.int .u64) _ _ _ a1 [.int .u64 a1] from rfl) (Reps.none _ _))); intro v281 w34 ho35 hb hg_ hnew_; clear hg_ hnew_; (first | rw [← Ny280.out] at ho35 | (simp only [Int.reduceToNat] at ho35; rw [← Ny280.out] at ho35)); have n0_ := Aside0.mk (Kd.R_elder' (by (with_reducible repeat (first | apply Kd.R_alloc | apply Kd.R_drewN | apply Kd.R_drew)); exact HO_7.out) (Kd.R_base ho35) hb); have n1_ := Aside0.mk (Kd.R_lower (Kd.R_new' ho35 (Kd.R_lt (by (with_reducible repeat (first | apply Kd.R_alloc | apply Kd.R_drewN | apply Kd.R_drew)); exact HO_7.out))) (below_size (by repeat (first | (with_reducible first | exact HB.out | apply below_alloc | apply pw_below_drewN | apply below_drew1) | exact HB.out)))); have n2_ := Aside0.mk (below_step (by repeat (first | (with_reducible first | exact HB.out | apply below_alloc | apply pw_below_drewN | apply below_drew1) | exact HB.out)) hb); clear HO_7; clear HB; have HO_7 := n0_; have HO282 := n1_; have HB := n2_; clear n0_ n1_ n2_; clear hb ho35; obtain ⟨Ao36, co36, eo36⟩ := Kd.R_slice HO282.out; subst eo36) | (go_at_call 26; (with_reducible refine (bits_Width.calls k1 _ _ y280 t283 _ ?side1 ?side2 A19.out).mono ?_); (case side1 => repeat (first | exact (Kd.R_reads' HO282.out).2.2 | (with_reducible refine Kd.C_alloc ?_ _) | (with_reducible refine Kd.C_drewN ?_ _) | (with_reducible refine Kd.C_drew ?_))); (case side2 => exact (Kd.R_reads' HO282.out).2.1); rintro e w' ⟨rfl, ⟨nd, rfl⟩⟩))
                go_ret
                exact ⟨by first | rfl | (simp [errW_none, errW_some] <;> rfl) | (simp only [← hji20]; first | rfl | (simp [errW_none, errW_some] <;> rfl)) | (simp [*, errW_none, errW_some] <;> rfl), by repeat (first | (with_reducible first | exact HB.out | apply below_alloc | apply pw_below_drewN | apply below_drew1) | exact HB.out)⟩
            · replace c17 := Bool.eq_false_iff.mpr c17
              subst c17
              have H1 : (some false) = some r := by rw [if_neg (show ¬ (false = true) by decide)] at H; exact H
              clear H
              have H := H1
              clear H1
              obtain rfl := Option.some.inj H
              go_wp2
              go_ret
              exact ⟨by first | rfl | (simp [errW_none, errW_some] <;> rfl) | (simp [*, errW_none, errW_some] <;> rfl), by repeat (first | (with_reducible first | exact HB.out | apply below_alloc | apply pw_below_drewN | apply below_drew1) | exact HB.out)⟩
    · rw [if_neg c5] at H
      exact absurd H (by simp)
  · rw [if_neg c4] at H
    exact absurd H (by simp)

/-- THE ONE PURE STATEMENT of astragallaw01_BitsWidths: yours. -/
def astragallaw01_BitsWidths.Pure : Prop := ∀ (l0 : List Int) (a1 : Int), l0.length ≤ maxLen → l0.length * 8 ≤ 140737488351232 → (∀ x ∈ l0, (Lit.int .u64 x).wf = true) → (Lit.int .u64 a1).wf = true → ∃ k, astragallaw01_BitsWidths.f k l0 a1 = some true
theorem astragallaw01_BitsWidths.walk (P : astragallaw01_BitsWidths.Pure) (a0 : Option Addr) (len0 cap0 : Nat) (z0 : List Int) (a1 : Int) (w : World) (w0 : (a0 = none ∧ len0 = 0 ∧ cap0 = 0 ∧ z0 = []) ∨ ∃ x, a0 = some x ∧ len0 ≤ cap0 ∧ cap0 ≤ maxLen ∧ z0.length = cap0 ∧ (∀ i, i < z0.length → w.cell? (x.add i) = some (.int .u64 (z0.getD i 0))) ∧ ∀ n ∈ z0, (Lit.int .u64 n).wf = true) (y0 : len0 * 8 ≤ 140737488351232) (w1 : (Lit.int .u64 a1).wf = true) :
    Calls Try.prog 6 #[.slice a0 len0 cap0, .int .u64 a1] w fun e w' => e = .returned (.bool true) ∧ Below w.heap.size w w' := by
  obtain ⟨l0, rfl, hr0, hm0, hw0, hc0⟩ := ReadsInt.ofRowC w0
  obtain ⟨k, h⟩ := P l0 a1 hm0 y0 hw0 w1
  refine (astragallaw01_BitsWidths.calls k _ _ l0 a1 true w (Kd.C_of_reads (d := (0 : Int)) (h1 := fun _ => rfl) hr0) hc0 h).mono ?_
  rintro e w' ⟨rfl, hd⟩
  exact ⟨rfl, hd⟩

end Go.Proofs.Ytnndeogbncadbaa.F
