/- What null.some hands back, collected: slices.AppendSeq, slices.Collect. -/
import Derived.Maps.AppendAt
import Derived.Test.YtnndeogbncadbaaSome
namespace Go.Proofs.Ytnndeogbncadbaa.F
open Go.RowKit Go.Shelf Go.Proofs.YtnndeogbncadbaaW.PrintWords
attribute [local go_sem] Oper.semAt_some
set_option linter.unusedVariables false
/-- A value's cells. -/
def cells37 (x : S37) : List Value := [.int .i64 x.f0, .int .i64 x.f1, .string x.f2]
/-- A row's cells. -/
def row37 (xs : List S37) : List Value := xs.flatMap cells37
theorem row37_snoc (xs : List S37) (x : S37) : row37 (xs ++ [x]) = row37 xs ++ cells37 x := by simp [row37]
/-- Block B is a value's box. -/
def Held (W : World) (B : Nat) (x : S37) : Prop := W.heap[B]? = some (.cells #[.int .i64 x.f0, .int .i64 x.f1, .string x.f2] 37 (0, 0))
theorem Held.cell {W : World} {B : Nat} {x : S37} (h : Held W B x) : W.cell? ⟨B, 0, none⟩ = some (.int .i64 x.f0) ∧ W.cell? ⟨B, 1, none⟩ = some (.int .i64 x.f1) ∧ W.cell? ⟨B, 2, none⟩ = some (.string x.f2) := by
  refine ⟨?_, ?_, ?_⟩ <;> simp [World.cell?, show W.heap[B]? = _ from h]
theorem Held.new (W : World) (x : S37) : Held (W.alloc (.cells #[.int .i64 x.f0, .int .i64 x.f1, .string x.f2] 37)) W.heap.size x := World.alloc_heap_new W _
theorem Held.own {B : Nat} {x : S37} {X Y : World} {row : Option Nat} (h : Held X B x) (hg : X.grownBy Y row) (hrow : ∀ r, row = some r → ∃ o : Obj, X.heap[r]? = some o ∧ o.isCells = false) : Held Y B x :=
  (hg.block B (Array.getElem?_eq_some_iff.1 h).1 (fun e' => by
    obtain ⟨o, ho, hc⟩ := hrow B e'.symm
    rw [show X.heap[B]? = _ from h] at ho
    cases ho
    cases hc)).trans h
theorem cells37_new (w : World) (x : S37) : ∀ j u, (cells37 x)[j]? = some u → (w.alloc (.cells #[.int .i64 x.f0, .int .i64 x.f1, .string x.f2] 37)).cell? ((⟨w.heap.size, 0, none⟩ : Addr).add j) = some u := by
  intro j u hj
  have hh := (Held.new w x).cell
  match j, hj with
  | 0, hj => cases hj; exact hh.1
  | 1, hj => cases hj; exact hh.2.1
  | 2, hj => cases hj; exact hh.2.2
theorem infoV : (Try.prog.info? 37).map (fun i => (i.zero, i.size, i.bytes)) = some (some (.agg #[(.int .i64 0), (.int .i64 0), (.string ⟨#[]⟩)]), 3, 32) := by kernel_rfl
set_option maxRecDepth 100000 in
set_option maxHeartbeats 2000000 in
theorem appendSeq_in (Fn : Fence) (n : Nat) (h51 : Fn.fn 51) (h52 : Fn.fn 52) (hro : Fn.round = none) (hn : 3 ≤ n) (Bs : Nat) (A : Option Addr) (cap : Nat) (zs : List S37) (hlen : zs.length ≤ 1000000000000) (w : World) (hBs : Bs < w.heap.size)
    (hc : w.cell? ⟨Bs, 0, none⟩ = some (.slice A zs.length cap)) (hb : 0 < zs.length → ∀ ad, A = some ad → ad.block < w.heap.size) (hC : Kd.C k37 w A zs.length zs) :
    CallsIn Fn n Try.prog 52 #[.slice none 0 0, .func (.func 51) #[] #[.pointer (some ⟨Bs, 0, none⟩)]] w fun e W' => ∃ v, e = .returned v ∧ W'.ownsRow w.heap.size 37 3 v (zs.filter isSome).length (row37 (zs.filter isSome)) ∧ Below w.heap.size w W' := by
  have h1 : 1 ≤ n := by omega
  have hu37 := Try.underlying37
  obtain ⟨i0, hi, hz0, hz1, hz2⟩ := info_parts infoV
  refine callsIn_of_wp_marks Try.func52 rfl h52 ?_ hro
  simp only [Try.ntmps52, List.size_toArray, List.length_cons, List.length_nil, Nat.reduceAdd, Nat.reduceSub, Array.replicate_succ, Array.replicate_zero, List.push_toArray, List.append_toArray, List.nil_append, List.cons_append]
  gi_wp2
  have bO := Boxed.new w 22 (.slice none 0 0)
  have hB0 : Below w.heap.size w (w.alloc (.cells #[.slice none 0 0] 22)) := (Below.refl _ w).alloc (Nat.le_refl _) _
  have hfl : (zs.filter isSome).length ≤ zs.length := List.length_filter_le _ _
  refine wpIn_rangeFunc_ownH hro h1 (gf := 51) (lb := #[.pointer (some ⟨Bs, 0, none⟩)]) rfl h51 (enters_of Try.func51 (by kernel_rfl) rfl)
    (some_stops Fn (n - 1) h51 hro (by omega) Bs w.heap.size A cap zs _ (by simp; omega) (by simp) ((hB0.cell (p := ⟨Bs, 0, none⟩) hBs).trans hc) hb (C37_below hC hb hB0)) belowK_t (belowK_b (by simp)) (Below.refl _ _) (fun _ => rfl)
    (fun pre W => (∃ v, Boxed W w.heap.size 22 v ∧ W.ownsRow w.heap.size 37 3 v pre.length (row37 pre) ∧ True) ∧ Below w.heap.size w W)
    (fun _ _ _ => False)
    (OwnFrom.and (Own.from (holdsRow_own w.heap.size w.heap.size 22 37 3 (fun pre : List S37 => pre.length) (fun pre => row37 pre) (fun pre v => True)) _) (ownFrom_below (Nat.le_refl _) (by simp)))
    (fun _ _ _ _ _ hs _ _ => hs)
    ⟨⟨_, bO, World.ownsRow_nil _ _ _ _, trivial⟩, hB0⟩
    (fun x a' W => ∃ Bx, w.heap.size < Bx ∧ Held W Bx x ∧ a' = { tmps := #[.slice none 0 0, .func (.func 51) #[] #[.pointer (some ⟨Bs, 0, none⟩)], .pointer (some ⟨w.heap.size, 0, none⟩), undef, .slice none 0 0, .pointer (some ⟨Bx, 0, none⟩), .func (.func 51) #[] #[.pointer (some ⟨Bs, 0, none⟩)], val37 x, undef, undef, undef, undef, undef], defers := [] })
    (fun x a' _ X Y row hs hg hr => by obtain ⟨Bx, h1, h2, h3⟩ := hs; exact ⟨Bx, h1, h2.own hg (fun r e => (hr r e).2), h3⟩)
    ?assign ?body ?done ?stop
  case assign =>
    rintro l pre x W K ⟨⟨v, hv, hrow, _⟩, hB⟩ hK
    simp only [val37] at hK ⊢
    gi_wp2
    exact hK _ _ ((KeepsOthers.alloc _ _).from _) ((Below.refl _ W).alloc hB.size _) ⟨⟨v, hv.alloc _, hrow.alloc _, trivial⟩, hB.alloc hB.size _⟩ ⟨W.heap.size, hv.lt, Held.new W x, rfl⟩
  case body =>
    rintro l pre x a' W hl ⟨r, hr⟩ ⟨⟨v, hv, hrow, _⟩, hB⟩ ⟨Bx, hBx, bX, rfl⟩ hlt
    simp only [val37]
    have hc := hv.cell
    obtain ⟨hx0, hx1, hx2⟩ := bX.cell
    gi_wp2_with (gi_at_builtin; refine wpListIn_append_own _ rfl _ _ 22 rfl w.heap.size 37 i0 (.agg #[(.int .i64 0), (.int .i64 0), (.string ⟨#[]⟩)]) 3 32 Try.underlying22 hi hz0 hz1 hz2 rfl (by decide) _ _ _ rfl (hrow.alloc _) ⟨W.heap.size, 0, none⟩ 1 1 (cells37 x) rfl rfl (cells37_new _ _) (by simp [cells37, Value.oneCell']) (by unfold maxLen; omega) (by omega) (by have := hB.size; simp; omega) ?_; intro v' w1 hown' hgrow _; obtain ⟨g', cap', rfl⟩ := ownsRow_succ hown'; obtain ⟨hv1, hv2, hr2, hk2, hb2⟩ := hv.appended (by decide) hrow hB.size (Nat.le_refl _) hown' hgrow; have hc1 := hv1.cell; have hf1 := hv1.frozen)
    exact ⟨hk2.from _, hb2, ⟨_, hv2, by rw [row37_snoc]; simpa using hr2, trivial⟩, hB.trans hb2⟩
  case done =>
    rintro D ys W hD rfl ⟨⟨v, hv, hrow, _⟩, hB⟩ hK
    have hc := hv.cell
    gi_wp2
    refine ⟨by simp, .inl ⟨_, _, rfl, run_takeDeferred hK, ?_⟩⟩
    exact ⟨_, results_tmp rfl _ _ _, v, rfl, ownsRow_putObj hrow _ hK rfl, hB.trans (belowK_b (w := w) (Nat.le_refl _) W D _ _ (by simp at hD; omega) hK rfl rfl)⟩
  case stop =>
    rintro D c pre W _ _ h _
    exact h.elim
set_option maxRecDepth 100000 in
set_option maxHeartbeats 2000000 in
theorem collect_in (Fn : Fence) (n : Nat) (h48 : Fn.fn 48) (h51 : Fn.fn 51) (h52 : Fn.fn 52) (hro : Fn.round = none) (hn : 4 ≤ n) (Bs : Nat) (A : Option Addr) (cap : Nat) (zs : List S37) (hlen : zs.length ≤ 1000000000000) (w : World) (hBs : Bs < w.heap.size)
    (hc : w.cell? ⟨Bs, 0, none⟩ = some (.slice A zs.length cap)) (hb : 0 < zs.length → ∀ ad, A = some ad → ad.block < w.heap.size) (hC : Kd.C k37 w A zs.length zs) :
    CallsIn Fn n Try.prog 48 #[.func (.func 51) #[] #[.pointer (some ⟨Bs, 0, none⟩)]] w fun e W' => ∃ v, e = .returned v ∧ W'.ownsRow w.heap.size 37 3 v (zs.filter isSome).length (row37 (zs.filter isSome)) ∧ Below w.heap.size w W' := by
  have h1 : 1 ≤ n := by omega
  refine callsIn_of_wp Try.func48 rfl h48 ?_ hro
  simp only [Try.ntmps48, List.size_toArray, List.length_cons, List.length_nil, Nat.reduceAdd, Nat.reduceSub, Array.replicate_succ, Array.replicate_zero, List.push_toArray, List.append_toArray, List.nil_append, List.cons_append]
  gi_wp2_with (gi_at_call 52; refine (appendSeq_in Fn (n - 1) h51 h52 hro (by omega) Bs A cap zs hlen _ hBs hc hb hC).mono ?_; rintro e w' ⟨v, rfl, hrow, hB⟩; clear hc hb hC)

  go_ret
  exact ⟨_, rfl, hrow, hB⟩
/-- A row that is read lies in the heap. -/
theorem C37_lt {W : World} {A : Option Addr} {n : Nat} {xs : List S37} (h : Kd.C k37 W A n xs) : 0 < n → ∀ ad, A = some ad → ad.block < W.heap.size := by
  intro hn ad e
  obtain ⟨ad', e', hc⟩ := h.2.2 hn
  rw [e] at e'
  cases e'
  obtain ⟨c, hs, hk, hcell⟩ := hc 0 _ (List.getElem?_eq_getElem (show 0 < xs.length by have := h.1; omega))
  obtain rfl := k37_open hk
  have := World.block_lt_of_cell? W _ (hcell 0 _ rfl)
  rwa [add_block] at this
theorem reps37 {R : S37 → List Value → Prop} (hR : ∀ x, R x (cells37 x)) (xs : List S37) : ∀ pre : List S37, Reps R 3 pre (row37 pre) → Reps R 3 (pre ++ xs) (row37 (pre ++ xs)) := by
  induction xs with
  | nil => intro pre h; rwa [List.append_nil]
  | cons x xs ih =>
    intro pre h
    have h2 := ih (pre ++ [x]) (by rw [row37_snoc]; exact h.snoc (hR x) rfl)
    rwa [List.append_assoc] at h2
/-- A row of values of one's own, in the words of the kinds. -/
theorem R37_of_own {W : World} {base : Nat} {v : Value} {xs : List S37} (h : W.ownsRow base 37 3 v xs.length (row37 xs)) : Kd.R k37 37 W base (fun _ => True) v xs :=
  ⟨fun _ _ => trivial, row37 xs, h, reps37 (fun x => k37_mkM _ _ _ x) xs [] (Reps.none _ _)⟩
end Go.Proofs.Ytnndeogbncadbaa.F
