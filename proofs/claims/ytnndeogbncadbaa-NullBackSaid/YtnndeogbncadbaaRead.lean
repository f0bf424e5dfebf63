/- The calls of package bits' writers and readers beside Put: what each comes to, by a walk of its code. -/
import Derived.Test.YtnndeogbncadbaaPut
namespace Go.Proofs.Ytnndeogbncadbaa.F
open Go.RowKit Go.Proofs.YtnndeogbncadbaaW.PrintWords Go.Proofs.YtnndeogbncadbaaW.PrintLast Go.Proofs.YtnndeogbncadbaaW.PrintMore
set_option linter.unusedVariables false

/-- A reader at block g over bytes l, at bit p. -/
def IsRd (W : World) (base g : Nat) (l : List Int) (p : Int) : Prop :=
  ∃ v, W.heap[g]? = some (.cells #[v, .int .i64 p] 92 (0, 0)) ∧ base ≤ g ∧ Kd.R (Kd.int .u8) 5 W base (fun _ => True) v l

theorem u8_ne92 : ∀ q, q ∈ 5 :: (Kd.int .u8).E → q ≠ 92 := by
  intro q hq
  rcases List.mem_cons.1 hq with rfl | h
  · decide
  · cases h
theorem IsRd.below {w w' : World} {base g : Nat} {l : List Int} {p : Int} (h : IsRd w base g l p) (hb : Below w.heap.size w w') : IsRd w' base g l p := by
  obtain ⟨v, h1, h2, h3⟩ := h
  exact ⟨v, blk_below h1 hb, h2, Kd.R_below h3 hb⟩
theorem IsW.below {w w' : World} {base g : Nat} {b : List Bool} (h : IsW w base g b) (hb : Below w.heap.size w w') : IsW w' base g b := by
  obtain ⟨v, h1, h2, h3⟩ := h
  exact ⟨v, blk_below h1 hb, h2, Kd.R_below h3 hb⟩
theorem IsRd.lower {w : World} {base base' g : Nat} {l : List Int} {p : Int} (h : IsRd w base g l p) (hb : base' ≤ base) : IsRd w base' g l p := by
  obtain ⟨v, h1, h2, h3⟩ := h
  exact ⟨v, h1, Nat.le_trans hb h2, Kd.R_lower h3 hb⟩
theorem IsW.lower {w : World} {base base' g : Nat} {b : List Bool} (h : IsW w base g b) (hb : base' ≤ base) : IsW w base' g b := by
  obtain ⟨v, h1, h2, h3⟩ := h
  exact ⟨v, h1, Nat.le_trans hb h2, Kd.R_lower h3 hb⟩
/-- A writer, or a reader, that was just made. -/
theorem IsW.new (w : World) (base : Nat) (hb : base ≤ w.heap.size) : IsW (w.alloc (.cells #[.slice none 0 0, .int .i64 0] 55)) base w.heap.size [] :=
  ⟨.slice none 0 0, by simpa using heap_alloc_new w _, hb, by simpa [packN] using Kd.R_nil _ _ _ _ _⟩

theorem put_nil (n width : Int) (w : World) : Calls Try.prog 28 #[.pointer none, .int .u64 n, .int .i64 width] w fun e w' => e = .returned (.int .i64 1) ∧ w = w' := by
  go_enter Try.func28, Try.ntmps28
  go_wp2
  go_ret
  exact ⟨rfl, rfl⟩
theorem put_width (g : Nat) (n width : Int) (h : width < 0 ∨ 64 < width) (w : World) : Calls Try.prog 28 #[.pointer (some ⟨g, 0, none⟩), .int .u64 n, .int .i64 width] w fun e w' => e = .returned (.int .i64 1) ∧ w = w' := by
  rcases h with h | h
  · go_enter Try.func28, Try.ntmps28
    go_wp2_with fail
    go_ret
    exact ⟨rfl, rfl⟩
  · have h' : ¬ width < 0 := by omega
    go_enter Try.func28, Try.ntmps28
    go_wp2_with fail
    go_ret
    exact ⟨rfl, rfl⟩
theorem put_long (g : Nat) (n width : Int) (h0 : inU64 n = true) (h1 : 0 ≤ width) (h2 : width ≤ 64) (h3 : width < (lenN n.toNat : Int)) (w : World) : Calls Try.prog 28 #[.pointer (some ⟨g, 0, none⟩), .int .u64 n, .int .i64 width] w fun e w' => e = .returned (.int .i64 1) ∧ w = w' := by
  go_enter Try.func28, Try.ntmps28
  go_wp2_with (go_at_call 49; refine (putLen n h0 _).mono ?_; rintro e w' ⟨rfl, rfl⟩)
  go_ret
  exact ⟨rfl, rfl⟩

theorem len_nil (w : World) : Calls Try.prog 29 #[.pointer none] w fun e w' => e = .returned (.int .i64 0) ∧ w = w' := by
  go_enter Try.func29, Try.ntmps29
  go_wp2
  go_ret
  exact ⟨rfl, rfl⟩
theorem len_any (base g : Nat) (b : List Bool) (w : World) (h : IsW w base g b) : Calls Try.prog 29 #[.pointer (some ⟨g, 0, none⟩)] w fun e w' => e = .returned (.int .i64 b.length) ∧ w = w' := by
  obtain ⟨v, hb, hg, ho⟩ := h
  have hc1 : w.cell? ⟨g, 1, none⟩ = some (.int .i64 (b.length : Int)) := blk_cell hb 1
  clear hb hg ho
  go_enter Try.func29, Try.ntmps29
  go_wp2
  go_ret
  exact ⟨rfl, rfl⟩
theorem left_nil (w : World) : Calls Try.prog 30 #[.pointer none] w fun e w' => e = .returned (.int .i64 0) ∧ w = w' := by
  go_enter Try.func30, Try.ntmps30
  go_wp2
  go_ret
  exact ⟨rfl, rfl⟩
set_option maxRecDepth 100000 in
theorem left_any (base g : Nat) (l : List Int) (p : Int) (hp0 : 0 ≤ p) (hp1 : p ≤ 8 * l.length) (hl : l.length ≤ 140737488355328) (w : World) (h : IsRd w base g l p) :
    Calls Try.prog 30 #[.pointer (some ⟨g, 0, none⟩)] w fun e w' => e = .returned (.int .i64 (8 * l.length - p)) ∧ Drawn0 w w' := by
  obtain ⟨v, hb, hg, ho⟩ := h
  obtain ⟨A, cap, rfl⟩ := Kd.R_slice ho
  have hc0 : w.cell? ⟨g, 0, none⟩ = some (.slice A l.length cap) := blk_cell hb 0
  have hc1 : w.cell? ⟨g, 1, none⟩ = some (.int .i64 p) := blk_cell hb 1
  have w8 : IntKind.i64.wrap (8 * (l.length : Int)) = 8 * (l.length : Int) := by have := IntWalk.i64_in (8 * (l.length : Int)) (by omega); exact this
  have w9 : IntKind.i64.wrap (8 * (l.length : Int) - p) = 8 * (l.length : Int) - p := by have := IntWalk.i64_in (8 * (l.length : Int) - p) (by omega); exact this
  clear hb hg ho
  go_enter Try.func30, Try.ntmps30
  go_wp2
  go_quiet (fail)
  go_wp2
  go_ret
  exact ⟨rfl, (Drawn0.refl _).step _⟩

theorem bytes_nil (w : World) : Calls Try.prog 31 #[.pointer none] w fun e w' => e = .returned (.slice none 0 0) ∧ w = w' := by
  go_enter Try.func31, Try.ntmps31
  go_wp2
  go_ret
  exact ⟨rfl, rfl⟩
set_option maxHeartbeats 1000000 in
theorem bytes_any (base g : Nat) (b : List Bool) (hs : (packN b).length ≤ 140737488355328) (w : World) (h : IsW w base g b) :
    Calls Try.prog 31 #[.pointer (some ⟨g, 0, none⟩)] w fun e w' => ∃ v : Value, e = .returned v ∧ Kd.R (Kd.int .u8) 5 w' w.heap.size (fun _ => True) v (packN b) ∧ Below w.heap.size w w' := by
  obtain ⟨v, hb, hg, ho⟩ := h
  obtain ⟨A, cap, rfl⟩ := Kd.R_slice ho
  have HB := Aside0.mk (Below.refl w.heap.size w)
  have HH := Aside0.mk hb
  have HC := Aside0.mk (Kd.R_reads' ho).2.2
  clear hb hg ho
  go_enter Try.func31, Try.ntmps31
  go_wp2_with (first | ((with_reducible refine gate_dst (N := 5) rfl ?_); (try (refine gate_guard (by rfl) ?_; dsimp only)); refine Kd.R_lit (Kd.int .u8) _ 5 ?hg (N := 5) ?hd (xs := ([] : List Int)) (inner := []) (ok := fun _ => True) (okp := fun _ => True) ?hr ?hp (fun _ hk => hk) trivial (Below.refl _ _) (Nat.le_refl _) (by simp) ?_; (case hd => rfl); (case hg => rfl); (case hr => first | (go_simp; done) | (go_simp; rfl)); (case hp => exact (Reps.none _ _)); intro v266 w8 ho9 hb hg_ hnew_; clear hg_ hnew_; have n0_ := Aside0.mk (Kd.R_lower ho9 HB.out.size); have HC1 := Aside0.mk (Kd.C_below HC.out hb); have n1_ := Aside0.mk (HB.out.trans hb); have hcell0 : w8.cell? ⟨g, 0, none⟩ = some (.slice A (packN b).length cap) := blk_cell (blk_below HH.out hb) 0; clear HB HC; have HO := n0_; have HB := n1_; clear n0_ n1_; clear hb ho9) | ((with_reducible refine gate_builtin (b := .append) (xs := #[.tmp 5, .tmp 9]) rfl ?_); at_builtin; refine Kd.R_append_rows (Kd.int .u8) (w0 := w) w.heap.size rfl (.tmp 5) (.tmp 9) 49 5 (.int .u8 0) 1 rfl Try.underlying49 info5 rfl (by decide) (by omega) v266 [] (packN b) _ _ _ (fun _ => True) (fun _ => False) rfl rfl HO.out HC1.out (fun _ _ h => h) (fun _ h => h.elim) (fun _ _ => trivial) HB.out HB.out.size (by simpa using hs) ?_; intro v2 w2 ho hb hg hat; have n0_ := Aside0.mk hb; have n1_ := Aside0.mk ho; clear HB HO hcell0 ho hb hg hat; have HB := n0_; have HO := n1_; clear n0_ n1_))
  go_ret
  exact ⟨_, rfl, HO.out, HB.out⟩

set_option maxHeartbeats 1000000 in
theorem from_any (base : Nat) (A : Option Addr) (c : Nat) (l : List Int) (hs : l.length ≤ 140737488355328) (w : World) (hr : Kd.C (Kd.int .u8) w A l.length l) (hb : base ≤ w.heap.size) :
    Calls Try.prog 34 #[.slice A l.length c] w fun e w' => ∃ g, e = .returned (.pointer (some ⟨g, 0, none⟩)) ∧ IsRd w' base g l 0 ∧ w.heap.size ≤ g ∧ Below w.heap.size w w' := by
  have HC := Aside0.mk hr
  have HL := Aside0.mk hb
  have HB := Aside0.mk (Below.refl w.heap.size w)
  have hu92 := Try.underlying92
  clear hr hb
  go_enter Try.func34, Try.ntmps34
  go_wp2_with (first | ((with_reducible refine gate_dst (N := 3) rfl ?_); (try (refine gate_guard (by rfl) ?_; dsimp only)); refine Kd.R_lit (Kd.int .u8) _ 5 ?hg (N := 3) ?hd (xs := ([] : List Int)) (inner := []) (ok := fun _ => True) (okp := fun _ => True) ?hr ?hp (fun _ hk => hk) trivial (Below.refl _ _) (Nat.le_refl _) (by simp) ?_; (case hd => rfl); (case hg => rfl); (case hr => first | (go_simp; done) | (go_simp; rfl)); (case hp => exact (Reps.none _ _)); intro v266 w8 ho9 hb hg_ hnew_; clear hg_ hnew_; have n0_ := Aside0.mk (Kd.R_lower ho9 HB.out.size); have HC1 := Aside0.mk (Kd.C_below HC.out hb); have n1_ := Aside0.mk (HB.out.trans hb); clear HB HC; have HO := n0_; have HB := n1_; clear n0_ n1_; clear hb ho9) | ((with_reducible refine gate_builtin (b := .append) (xs := #[.tmp 3, .tmp 4]) rfl ?_); at_builtin; refine Kd.R_append_rows (Kd.int .u8) (w0 := w) w.heap.size rfl (.tmp 3) (.tmp 4) 49 5 (.int .u8 0) 1 rfl Try.underlying49 info5 rfl (by decide) (by omega) v266 [] l _ _ _ (fun _ => True) (fun _ => False) rfl rfl HO.out HC1.out (fun _ _ h => h) (fun _ h => h.elim) (fun _ _ => trivial) HB.out HB.out.size (by simpa using hs) ?_; intro v2 w2 ho hb hg hat; have n0_ := Aside0.mk hb; have n1_ := Aside0.mk ho; clear HB HO ho hb hg hat; have HB := n0_; have HO := n1_; clear n0_ n1_; obtain ⟨A2, c2, rfl⟩ := Kd.R_slice HO.out))
  go_ret
  refine ⟨_, rfl, ⟨_, by simpa using heap_alloc_new w2 _, Nat.le_trans HL.out HB.out.size, ?_⟩, HB.out.size, HB.out.alloc HB.out.size _⟩
  exact Kd.R_lower (Kd.R_below HO.out ((Below.refl _ _).alloc (Nat.le_refl _) _)) HL.out

theorem get_value2 (o x : Int) (K M : Nat) (hx0 : 0 ≤ x) (hx1 : x < 256) (hK : K < 64) (ho0 : 0 ≤ o) (ho1 : o < 2 ^ K) :
    bits .or .u64 o (IntKind.u64.wrap (IntKind.u64.wrap (bits .and .u8 (x / 2 ^ M) 1) * 2 ^ K)) = o + ((2 ^ K * (x.toNat.testBit M).toNat : Nat) : Int) := by
  rw [← get_value o x K M hx0 hx1 hK ho0 ho1, IntKind.wrap_u64, IntKind.wrap_u64]
  obtain ⟨m, rfl⟩ := Int.eq_ofNat_of_zero_le hx0
  have h1 : ((m : Int) / 2 ^ M) = ((m / 2 ^ M : Nat) : Int) := by push_cast; rfl
  obtain ⟨q, hq⟩ : ∃ q, q = m / 2 ^ M := ⟨_, rfl⟩
  have h2 : q < 256 := by rw [hq]; exact Nat.lt_of_le_of_lt (Nat.div_le_self _ _) (by omega)
  rw [h1, ← hq, and_one_u8 _ (by omega) (by omega), Int.emod_eq_of_lt (a := (q : Int) % 2) (b := 18446744073709551616) (by omega) (by omega)]
theorem get_nil (width : Int) (w : World) : Calls Try.prog 27 #[.pointer none, .int .i64 width] w fun e w' => e = .returned (.tuple #[.int .u64 0, .int .i64 1]) ∧ w = w' := by
  go_enter Try.func27, Try.ntmps27
  go_wp2
  go_ret2
  exact ⟨rfl, rfl⟩
theorem get_width (g : Nat) (width : Int) (h : width < 0 ∨ 64 < width) (w : World) : Calls Try.prog 27 #[.pointer (some ⟨g, 0, none⟩), .int .i64 width] w fun e w' => e = .returned (.tuple #[.int .u64 0, .int .i64 1]) ∧ w = w' := by
  rcases h with h | h
  · go_enter Try.func27, Try.ntmps27
    go_wp2_with fail
    go_ret2
    exact ⟨rfl, rfl⟩
  · have h' : ¬ width < 0 := by omega
    go_enter Try.func27, Try.ntmps27
    go_wp2_with fail
    go_ret2
    exact ⟨rfl, rfl⟩
theorem get_short (base g : Nat) (l : List Int) (p width : Int) (hp0 : 0 ≤ p) (hp1 : p ≤ 8 * l.length) (hl : l.length ≤ 140737488355328) (h1 : 0 ≤ width) (h2 : width ≤ 64) (h3 : 8 * l.length - p < width) (w : World) (h : IsRd w base g l p) :
    Calls Try.prog 27 #[.pointer (some ⟨g, 0, none⟩), .int .i64 width] w fun e w' => e = .returned (.tuple #[.int .u64 0, .int .i64 3]) ∧ Drawn0 w w' := by
  have HI := Aside0.mk h
  clear h
  go_enter Try.func27, Try.ntmps27
  go_wp2_with (go_at_call 30; refine (left_any base g l p hp0 hp1 hl _ HI.out).mono ?_; rintro e w' ⟨rfl, ⟨nd, rfl⟩⟩)
  go_ret2
  exact ⟨rfl, ⟨nd, rfl⟩⟩
set_option maxHeartbeats 2000000 in
set_option maxRecDepth 100000 in
theorem get_any (base g : Nat) (l : List Int) (p width : Int) (hp0 : 0 ≤ p) (hl : l.length ≤ 140737488355328) (hu : l.all inU8 = true) (h1 : 0 ≤ width) (h2 : width ≤ 64) (h3 : p + width ≤ 8 * l.length) (w : World) (h : IsRd w base g l p) (hle : base ≤ w.heap.size) :
    Calls Try.prog 27 #[.pointer (some ⟨g, 0, none⟩), .int .i64 width] w fun e w' => e = .returned (.tuple #[.int .u64 (numN (((bitsB l).drop p.toNat).take width.toNat) : Nat), .int .i64 0]) ∧ IsRd w' base g l (p + width) ∧ Below base w w' ∧ KeepBut w w' g none := by
  have HI := Aside0.mk h
  have HU := Aside0.mk hu
  have HL := Aside0.mk hle
  clear h hu hle
  go_enter Try.func27, Try.ntmps27
  go_wp2_with (go_at_call 30; refine (left_any base g l p hp0 (by omega) hl _ HI.out).mono ?_; rintro e w' ⟨rfl, ⟨nd, rfl⟩⟩)
  go_loopw [25, 6] (fun i n wr => ∃ K : Int, 0 ≤ K ∧ K ≤ width ∧ i = .int .i64 K ∧ n = .int .u64 (numN (((bitsB l).drop p.toNat).take K.toNat) : Nat) ∧ Aside0 (IsRd wr base g l (p + K)) ∧ Aside0 (Below base w wr) ∧ Aside0 (KeepBut w wr g none)) (fun i _ _ => (width - intOf i).toNat)
  case atStart => exact ⟨0, by omega, by omega, rfl, by simp [numN], ⟨by rw [Int.add_zero]; exact HI.out⟩, ⟨pw_below_drewN (Below.refl _ _) _⟩, ⟨KeepBut.refl _ _ _⟩⟩
  case round =>
    clear HI
    obtain ⟨K, hK0, hK1, rfl, rfl, HI, HB, HT⟩ := hrel
    by_cases hlt : K < width
    · obtain ⟨v, hb, hg, ho⟩ := HI.out
      clear HI
      obtain ⟨P, hP⟩ : ∃ P : Int, P = p + K := ⟨_, rfl⟩
      rw [← hP] at hb
      have hP0 : 0 ≤ P := by omega
      have hP1 : P < 8 * (l.length : Int) := by omega
      obtain ⟨J, hJ⟩ : ∃ J : Int, P.tdiv 8 = J := ⟨_, rfl⟩
      obtain ⟨M, hM⟩ : ∃ M : Int, P.tmod 8 = M := ⟨_, rfl⟩
      have hJe : J = P / 8 := by rw [← hJ, Int.tdiv_eq_ediv_of_nonneg hP0]
      have hMe : M = P % 8 := by rw [← hM, Int.tmod_eq_emod_of_nonneg hP0]
      have hJ0 : 0 ≤ J := by omega
      have hM0 : 0 ≤ M := by omega
      have hM1 : M < 8 := by omega
      have hJL : J < (l.length : Int) := by omega
      have wJ : IntKind.i64.wrap J = J := by have := IntWalk.i64_in J (by omega); exact this
      have wM : IntKind.u64.wrap M = M := by rw [IntKind.wrap_u64]; omega
      have wK : IntKind.u64.wrap K = K := by rw [IntKind.wrap_u64]; omega
      obtain ⟨gg, cap, rfl, hgg, hx, hfx, hcells⟩ := bytes_at ho J hJ0 hJL
      have hcell0 : wr.cell? ⟨g, 0, none⟩ = some (.slice (some ⟨gg, 0, none⟩) l.length cap) := blk_cell hb 0
      have hcell1 : wr.cell? ⟨g, 1, none⟩ = some (.int .i64 P) := blk_cell hb 1
      have hfr1 : wr.frozen? ⟨g, 1, none⟩ = false := blk_frozen hb 1
      obtain ⟨N0, hN0⟩ : ∃ N0 : Int, N0 = (numN (((bitsB l).drop p.toNat).take K.toNat) : Nat) := ⟨_, rfl⟩
      rw [← hN0]
      have HN0 := Aside0.mk hN0
      have HO := Aside0.mk ho
      have HH := Aside0.mk hb
      have HG := Aside0.mk hg
      have HP := Aside0.mk hP
      have HJM : Aside0 (J = P / 8 ∧ M = P % 8) := ⟨⟨hJe, hMe⟩⟩
      clear hN0 ho hb hg hcells hJe hMe hfx hP
      go_wp2_with fail
      go_quiet (fail)
      go_wp2_with fail
      go_roundw
      case rel =>
        have hP : P = p + K := HP.out
        have hJM := HJM.out
        have hM' : M.toNat = P.toNat % 8 := by omega
        have hJ' : J.toNat = P.toNat / 8 := by omega
        have hu : inU8 (rd l J) = true := by
          unfold rd
          rw [List.getD_eq_getElem?_getD, List.getElem?_eq_getElem (by omega)]
          exact List.all_eq_true.1 HU.out _ (List.getElem_mem _)
        have hu2 : 0 ≤ rd l J ∧ rd l J < 256 := by simpa [inU8] using hu
        have hbit : (bitsB l)[p.toNat + K.toNat]? = some ((rd l J).toNat.testBit M.toNat) := by
          rw [show p.toNat + K.toNat = P.toNat by omega, bitsB_get l _ (by omega), hM', ← hJ']
          rfl
        have hlt2 := numN_lt (((bitsB l).drop p.toNat).take K.toNat)
        rw [List.length_take, List.length_drop, bitsB_length, Nat.min_eq_left (by omega)] at hlt2
        have hn1 : N0 < 2 ^ K.toNat := by rw [HN0.out]; exact_mod_cast hlt2
        refine ⟨K + 1, by omega, by omega, rfl, ?_, ⟨?_⟩, ⟨?_⟩, ⟨?_⟩⟩
        · rw [get_value2 _ _ _ _ hu2.1 hu2.2 (by omega) (by rw [HN0.out]; omega) hn1, show (K + 1).toNat = K.toNat + 1 by omega, numN_take _ _ _ _ hbit, HN0.out, Int.natCast_add]
        · refine ⟨_, ?_, HG.out, Kd.R_set HO.out HH.out u8_ne92 1 _⟩
          rw [show p + (K + 1) = P + 1 by omega]
          have h5 : ((wr.drewN nq).setCell ⟨g, 1, none⟩ (.int .i64 (P + 1))).heap[g]? = some (.cells #[.slice (some ⟨gg, 0, none⟩) l.length cap, .int .i64 (P + 1)] 92 (0, 0)) := by
            simpa using blk_set (w := wr.drewN nq) HH.out 1 (.int .i64 (P + 1))
          exact h5
        · exact (pw_below_drewN HB.out nq).setCell HG.out _
        · refine ⟨by simpa [World.setCell] using HT.out.1, fun i hi hne hr => ?_⟩
          rw [Below.heap_setCell _ _ _ _ hne]
          exact HT.out.2 i hi hne hr
      case measure => simp [intOf]; omega
    · go_wp2_with fail
      go_ret2
      have hk : K = width := by omega
      subst hk
      exact ⟨rfl, HI.out, HB.out, HT.out⟩
end Go.Proofs.Ytnndeogbncadbaa.F
