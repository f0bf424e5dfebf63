/- null.Split: a walk of its code. -/
import Derived.Test.YtnndeogbncadbaaCollect
namespace Go.Proofs.Ytnndeogbncadbaa.F
open Go.RowKit Go.Shelf Go.Proofs.YtnndeogbncadbaaW.PrintWords
attribute [local go_sem] Oper.semAt_some
set_option linter.unusedVariables false
theorem infoB : (Try.prog.info? 4).map (fun i => (i.zero, i.size, i.bytes)) = some (some (.bool false), 1, 1) := by kernel_rfl
/-- Which are nothing: as values. -/
def nullsV (xs : List S37) : List Value := xs.map fun x => .bool (x.f0 == 0)
theorem nullsV_snoc (xs : List S37) (k : Nat) (h : k < xs.length) : nullsV (xs.take (k + 1)) = nullsV (xs.take k) ++ [.bool ((xs[k]).f0 == 0)] := by
  rw [List.take_succ_eq_append_getElem h]
  unfold nullsV
  rw [List.map_append]
  rfl
theorem row_own {β : Type} (n₀ e size k : Nat) (v : Value) (f : List Value) : Own (fun (_ : β) W => W.ownsRow n₀ e size v k f) := by
  rintro s X Y row hr hg hrow
  refine hr.kept hg ?_
  rcases hr.2 with ⟨rfl, _⟩ | ⟨g, cap, cur, rfl, _, hgb, _⟩
  · exact .inl rfl
  · refine .inr fun e' => ?_
    obtain ⟨o, ho, hc⟩ := hrow g (by simpa [Value.ownBlock] using e'.symm)
    rw [hgb] at ho
    cases ho
    cases hc
theorem rows_apart {W : World} {b1 b2 e1 e2 s1 s2 k1 k2 : Nat} {v1 v2 : Value} {x1 x2 : List Value} (h1 : W.ownsRow b1 e1 s1 v1 k1 x1) (h2 : W.ownsRow b2 e2 s2 v2 k2 x2) (hne : e1 ≠ e2) : v1.ownBlock = none ∨ v1.ownBlock ≠ v2.ownBlock := by
  rcases h1.2 with ⟨rfl, _⟩ | ⟨g, cap, cur, rfl, _, hgb, _⟩
  · exact .inl rfl
  · refine .inr fun e' => ?_
    rcases h2.2 with ⟨rfl, _⟩ | ⟨g2, cap2, cur2, rfl, _, hgb2, _⟩
    · simp [Value.ownBlock] at e'
    · obtain rfl : g = g2 := by simpa [Value.ownBlock] using e'
      rw [hgb] at hgb2
      simp at hgb2
      exact hne hgb2.2
theorem row_base {W : World} {b e s k : Nat} {v : Value} {x : List Value} (h : W.ownsRow b e s v k x) : ∀ j, v.ownBlock = some j → b ≤ j := by
  intro j ej
  rcases h.2 with ⟨rfl, _⟩ | ⟨g, cap, cur, rfl, hb, _, _⟩
  · simp [Value.ownBlock] at ej
  · obtain rfl : g = j := by simpa [Value.ownBlock] using ej
    exact hb
/-- Another row's append passes a row by. -/
theorem row_past {W w1 : World} {o : Obj} {b1 b2 s1 s2 k1 k2 : Nat} {v1 v2 : Value} {x1 x2 : List Value} (h1 : W.ownsRow b1 4 s1 v1 k1 x1) (h2 : W.ownsRow b2 37 s2 v2 k2 x2) (hg : (W.alloc o).grownBy w1 v2.ownBlock) : w1.ownsRow b1 4 s1 v1 k1 x1 :=
  (h1.alloc o).kept hg (rows_apart h1 h2 (by decide))
set_option maxRecDepth 100000 in
set_option maxHeartbeats 4000000 in
theorem split_in (Fn : Fence) (n : Nat) (h17 : Fn.fn 17) (h47 : Fn.fn 47) (h51 : Fn.fn 51) (hro : Fn.round = none) (hn : 4 ≤ n) (A : Option Addr) (cap : Nat) (zs : List S37) (hlen : zs.length ≤ 1000000000) (w : World) (hC : Kd.C k37 w A zs.length zs) :
    CallsIn Fn n Try.prog 17 #[.slice A zs.length cap] w fun e W' => ∃ v0 v1, e = .returned (.tuple #[v0, v1]) ∧ W'.ownsRow w.heap.size 4 1 v0 zs.length (nullsV zs) ∧ W'.ownsRow w.heap.size 37 3 v1 (zs.filter isSome).length (row37 (zs.filter isSome)) ∧ Below w.heap.size w W' := by
  have h1 : 1 ≤ n := by omega
  have hu37 := Try.underlying37
  have hzl := hC.2.1
  have hb := C37_lt hC
  obtain ⟨i0, hi, hz0, hz1, hz2⟩ := info_parts infoV
  obtain ⟨i1, hj, hy0, hy1, hy2⟩ := info_parts infoB
  refine callsIn_of_wp_marks Try.func17 rfl h17 ?_ hro
  simp only [Try.ntmps17, List.size_toArray, List.length_cons, List.length_nil, Nat.reduceAdd, Nat.reduceSub, Array.replicate_succ, Array.replicate_zero, List.push_toArray, List.append_toArray, List.nil_append, List.cons_append]
  gi_wp2
  gi_loopw [11, 4] (fun i v wr => ∃ K : Int, 0 ≤ K ∧ K ≤ (zs.length : Int) ∧ i = .int .i64 K ∧ wr.ownsRow w.heap.size 4 1 v K.toNat (nullsV (zs.take K.toNat)) ∧ Below w.heap.size w wr) (fun i _ _ => zs.length - (intOf i).toNat)
  case atStart => exact ⟨0, by omega, by omega, rfl, World.ownsRow_nil _ _ _ _, Below.refl _ _⟩
  case round =>
    obtain ⟨K, hK0, hK1, rfl, hrow, hnx⟩ := hrel
    by_cases hlt : K < (zs.length : Int)
    · obtain ⟨ad, e0, hx0, hx1, hx2⟩ := at_T37 (C37_below hC hb hnx) K hK0 hlt
      have hrd : rd_T37 zs K = zs[K.toNat]'(by omega) := by
        unfold rd_T37
        rw [List.getD_eq_getElem?_getD, List.getElem?_eq_getElem (by omega)]
        rfl
      obtain ⟨X, hX⟩ : ∃ X, rd_T37 zs K = X := ⟨_, rfl⟩
      rw [hX] at hx0 hx1 hx2 hrd
      have hKn : (K + 1).toNat = K.toNat + 1 := by omega
      have hsn := nullsV_snoc zs K.toNat (by omega)
      rw [← hrd, ← hKn] at hsn
      have HSN := Aside0.mk hsn
      have hKb : K.toNat + 1 ≤ 1000000000 := by omega
      subst e0
      clear hrd hX hsn
      have hnx2 := hnx.size
      gi_wp2_with (gi_at_builtin; refine wpListIn_append_own _ rfl _ _ 24 rfl w.heap.size 4 i1 (.bool false) 1 1 Try.underlying24 hj hy0 hy1 hy2 rfl (by decide) _ _ _ rfl ((hrow.alloc _).alloc _) ⟨(wr.alloc (.cells #[.int .i64 X.f0, .int .i64 X.f1, .string X.f2] 37)).heap.size, 0, none⟩ 1 1 [.bool (X.f0 == 0)] (by rw [World.size_alloc]; rfl) rfl (cell_one_new _ _ _) (by simp [Value.oneCell']) (by unfold maxLen; omega) (by omega) (by simp; omega) ?_; intro v' w1 hown' hgrow _; obtain ⟨g', cap', rfl⟩ := ownsRow_succ hown')
      go_roundw
      case rel => exact ⟨K + 1, by omega, by omega, by go_num, by rw [HSN.out, hKn]; exact hown', ((hnx.alloc hnx2 _).alloc (by simp; omega) _).grown hgrow (by simp; omega) (row_base hrow)⟩
      case measure => simp [intOf]; omega
    · obtain rfl : K = (zs.length : Int) := by omega
      rw [Int.toNat_natCast, List.take_length] at hrow
      clear hlt hK0 hK1
      gi_wp2_with (gi_at_call 47; refine (some_in Fn (n - 1) h47 hro _ _ _ _).mono ?_; rintro e w' ⟨rfl, rfl⟩)
      have bO := (Boxed.new wr 22 (.slice none 0 0)).alloc (.cells #[.slice A zs.length cap] 22)
      have bS := Boxed.new (wr.alloc (.cells #[.slice none 0 0] 22)) 22 (.slice A zs.length cap)
      rw [World.size_alloc] at bS
      have hB0 : Below w.heap.size w ((wr.alloc (.cells #[.slice none 0 0] 22)).alloc (.cells #[.slice A zs.length cap] 22)) := (hnx.alloc hnx.size _).alloc (by have := hnx.size; simp; omega) _
      have hrow0 := (hrow.alloc (.cells #[.slice none 0 0] 22)).alloc (.cells #[.slice A zs.length cap] 22)
      have hsz : ((wr.alloc (.cells #[.slice none 0 0] 22)).alloc (.cells #[.slice A zs.length cap] 22)).heap.size = wr.heap.size + 2 := by simp
      have hws := hnx.size
      have hfl : (zs.filter isSome).length ≤ zs.length := List.length_filter_le _ _
      obtain ⟨W0, hW0⟩ : ∃ W0, (wr.alloc (.cells #[.slice none 0 0] 22)).alloc (.cells #[.slice A zs.length cap] 22) = W0 := ⟨_, rfl⟩
      rw [hW0] at bO bS hB0 hrow0 hsz ⊢
      clear hW0
      refine wpIn_rangeFunc_ownH hro h1 (gf := 51) (lb := #[.pointer (some ⟨wr.heap.size + 1, 0, none⟩)]) rfl h51 (enters_of Try.func51 (by kernel_rfl) rfl)
        (some_stops Fn (n - 1) h51 hro (by omega) (wr.heap.size + 1) w.heap.size A cap zs W0 (by omega) (by omega) bS.cell hb (C37_below hC hb hB0)) belowK_t (belowK_b (by omega)) (Below.refl _ _) (fun _ => rfl)
        (fun pre W => ((∃ v, Boxed W wr.heap.size 22 v ∧ W.ownsRow w.heap.size 37 3 v pre.length (row37 pre) ∧ True) ∧ W.ownsRow w.heap.size 4 1 u4 zs.length (nullsV zs)) ∧ Below w.heap.size w W)
        (fun _ _ _ => False)
        (OwnFrom.and (OwnFrom.and (Own.from (holdsRow_own w.heap.size wr.heap.size 22 37 3 (fun pre : List S37 => pre.length) (fun pre => row37 pre) (fun pre v => True)) _) (Own.from (row_own _ _ _ _ _ _) _)) (ownFrom_below (Nat.le_refl _) (by omega)))
        (fun _ _ _ _ _ hs _ _ => hs)
        ⟨⟨⟨_, bO, World.ownsRow_nil _ _ _ _, trivial⟩, hrow0⟩, hB0⟩
        (fun x a' W => ∃ Bx, wr.heap.size < Bx ∧ Held W Bx x ∧ a' = { tmps := #[.slice A zs.length cap, undef, .slice none 0 0, .slice none 0 0, u4, undef, u6, .pointer (some ⟨wr.heap.size, 0, none⟩), .pointer (some ⟨Bx, 0, none⟩), .slice A zs.length cap, .int .i64 zs.length, .int .i64 zs.length, .bool false, u13, u14, u15, u16, u17, u18, u19, u20, u21, .slice A zs.length cap, .func (.func 51) #[] #[.pointer (some ⟨wr.heap.size + 1, 0, none⟩)], val37 x, undef, undef, undef, undef, undef, undef], defers := [] })
        (fun x a' _ X Y row hs hg hr => by obtain ⟨Bx, h1, h2, h3⟩ := hs; exact ⟨Bx, h1, h2.own hg (fun r e => (hr r e).2), h3⟩)
        ?assign ?body ?done ?stop
      case assign =>
        rintro l pre x W K ⟨⟨⟨v, hv, hrow, _⟩, hrw⟩, hB⟩ hK
        simp only [val37] at hK ⊢
        gi_wp2
        exact hK _ _ ((KeepsOthers.alloc _ _).from _) ((Below.refl _ W).alloc hB.size _) ⟨⟨⟨v, hv.alloc _, hrow.alloc _, trivial⟩, hrw.alloc _⟩, hB.alloc hB.size _⟩ ⟨W.heap.size, hv.lt, Held.new W x, rfl⟩
      case body =>
        rintro l pre x a' W hl ⟨r, hr⟩ ⟨⟨⟨v, hv, hrow, _⟩, hrw⟩, hB⟩ ⟨Bx, hBx, bX, rfl⟩ hlt
        simp only [val37]
        have hc := hv.cell
        obtain ⟨hx0, hx1, hx2⟩ := bX.cell
        gi_wp2_with (gi_at_builtin; refine wpListIn_append_own _ rfl _ _ 22 rfl w.heap.size 37 i0 (.agg #[(.int .i64 0), (.int .i64 0), (.string ⟨#[]⟩)]) 3 32 Try.underlying22 hi hz0 hz1 hz2 rfl (by decide) _ _ _ rfl (hrow.alloc _) ⟨W.heap.size, 0, none⟩ 1 1 (cells37 x) rfl rfl (cells37_new _ _) (by simp [cells37, Value.oneCell']) (by unfold maxLen; omega) (by omega) (by have := hB.size; simp; omega) ?_; intro v' w1 hown' hgrow _; obtain ⟨g', cap', rfl⟩ := ownsRow_succ hown'; have hgrow2 : (W.alloc (.cells #[.int .i64 x.f0, .int .i64 x.f1, .string x.f2] 37)).grownBy w1 v.ownBlock := hgrow; have hra := row_past hrw hrow hgrow2; obtain ⟨hv1, hv2, hr2, hk2, hb2⟩ := hv.appended (by decide) hrow hB.size hws hown' hgrow; have hc1 := hv1.cell; have hf1 := hv1.frozen)
        refine ⟨hk2.from _, hb2, ⟨⟨_, hv2, by rw [row37_snoc]; simpa using hr2, trivial⟩, ?_⟩, hB.trans hb2⟩
        exact hra.kept (grownBy_setCell' _ _ _) (by
          rcases hra.2 with ⟨rfl, _⟩ | ⟨g, cap, cur, rfl, _, hgb, _⟩
          · exact .inl rfl
          · exact .inr (Boxed.not_row hv1 (by decide) hra).symm)
      case done =>
        rintro D ys W hD rfl ⟨⟨⟨v, hv, hrow, _⟩, hrw⟩, hB⟩ hK
        have hc := hv.cell
        gi_wp2
        gi_region
        all_goals gi_wp2
        all_goals
          have hK' : W.drew.heap[D]? = some (.deferred (some [])) := hK
          have hrw' : W.drew.ownsRow w.heap.size 4 1 u4 zs.length (nullsV zs) := hrw
          have hrow' : W.drew.ownsRow w.heap.size 37 3 v (zs.filter isSome).length (row37 (zs.filter isSome)) := hrow
          refine ⟨by simp, .inl ⟨_, _, rfl, run_takeDeferred hK', ?_⟩⟩
          exact ⟨_, results_tmp2 rfl _ _ _, _, _, rfl, ownsRow_putObj hrw' _ hK' rfl, ownsRow_putObj hrow' _ hK' rfl, hB.drew.trans (belowK_b (w := w) (Nat.le_refl _) W.drew D _ _ (by omega) hK' rfl rfl)⟩
      case stop =>
        rintro D c pre W _ _ h _
        exact h.elim
theorem nullsV_encs (xs : List S37) : nullsV xs = encs Value.bool (xs.map fun v => v.f0 == 0) := by simp [nullsV, encs]
theorem null_Split.calls (A0 : Option Addr) (c0 : Nat) (l0 : List (S37)) (r1 : List Bool) (r2 : List (S37)) (w : World) (hr0 : Kd.C k37 w A0 l0.length l0) (hc0 : l0.length ≤ c0) (h : null_Split.f l0 = some (r1, r2)) :
    Calls Try.prog 17 #[.slice A0 l0.length c0] w fun e w' => ∃ v0_ v1_ : Value, e = .returned (.tuple #[v0_, v1_]) ∧ Kd.R Kd.bool 4 w' w.heap.size (fun _ => True) v0_ r1 ∧ Kd.R k37 37 w' w.heap.size (fun _ => True) v1_ r2 ∧ Below w.heap.size w w' := by
  unfold null_Split.f at h
  split at h
  · rename_i hl
    simp only [Option.some.injEq, Prod.mk.injEq] at h
    obtain ⟨rfl, rfl⟩ := h
    refine (callsIn_wide (n := 4)).1 ?_
    refine (split_in Fence.wide 4 trivial trivial trivial rfl (by omega) A0 c0 l0 hl w hr0).mono ?_
    rintro e w' ⟨v0, v1, rfl, h0, h1, hB⟩
    refine ⟨v0, v1, rfl, ?_, R37_of_own h1, hB⟩
    rw [nullsV_encs] at h0
    exact Kd.R_of_own (by simpa using h0) (fun _ _ => trivial)
  · cases h
end Go.Proofs.Ytnndeogbncadbaa.F
