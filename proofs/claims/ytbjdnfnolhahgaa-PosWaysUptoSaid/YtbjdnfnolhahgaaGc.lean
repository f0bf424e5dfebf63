/- Several texts of this session, end to end. -/
import Derived.Laws.OwnMore
import Derived.Test.YtbjdnfnolhahgaaGb
import Derived.Laws.BitsAllLaws
import Derived.Deep.OwnRows
import Derived.Shelf.AbstractIn
import Derived.Outline
/-! The three ways of numbers that come one by one: what holds between two rounds, and what a round does to it. -/
namespace Go.Proofs.Ytbjdnfnolhahgaa.F
open Go.RowKit Go.Shelf Go.Proofs.YtbjdnfnolhahgaaW.PrintWords
set_option linter.unusedVariables false
theorem grownBy_set (W : World) (p : Addr) (v : Value) : W.grownBy (W.setCell p v) (some p.block) :=
  ⟨rfl, rfl, rfl, by simp [World.setCell], fun k _ hk => Below.heap_setCell _ _ _ k (fun e => hk (by rw [e]))⟩
theorem heap_set {W : World} {g : Nat} {cur : Array Value} {e : TypeId} (i : Nat) (u : Value) (h : W.heap[g]? = some (.cells cur e (0, 0))) : (W.setCell ⟨g, i, none⟩ u).heap[g]? = some (.cells (cur.setIfInBounds i u) e (0, 0)) := by
  obtain ⟨hlt, hk⟩ := Array.getElem?_eq_some_iff.1 h
  show (W.heap.modify g _)[g]? = _
  rw [Array.getElem?_eq_getElem (by rw [Array.size_modify]; exact hlt), Array.getElem_modify_self, hk]
  rfl
/-- An element's cell is written. -/
theorem own_set {W : World} {base e size n g cap : Nat} {xs : List Value} (h : W.ownsRow base e size (.slice (some ⟨g, 0, none⟩) n cap) n xs) (i : Nat) (u : Value) : (W.setCell ⟨g, i, none⟩ u).ownsRow base e size (.slice (some ⟨g, 0, none⟩) n cap) n (xs.set i u) := by
  refine ⟨by rw [List.length_set]; exact h.1, ?_⟩
  rcases h.2 with ⟨hn, _⟩ | ⟨g', cap', cur, he, hb, hgg, h1, h2, h3, h4⟩
  · cases hn
  · cases he
    refine .inr ⟨g, cap, cur.setIfInBounds i u, rfl, hb, heap_set i u hgg, h1, h2, by rw [Array.size_setIfInBounds]; exact h3, ?_⟩
    rw [Array.toList_setIfInBounds, ← h4, List.take_set]
theorem rows_ne {W : World} {b1 b2 e1 e2 s1 s2 k1 k2 : Nat} {v1 v2 : Value} {x1 x2 : List Value} (h1 : W.ownsRow b1 e1 s1 v1 k1 x1) (h2 : W.ownsRow b2 e2 s2 v2 k2 x2) (hne : e1 ≠ e2) : v1.ownBlock = none ∨ v1.ownBlock ≠ v2.ownBlock := by
  rcases h1.2 with ⟨rfl, _⟩ | ⟨g, cap, cur, rfl, _, hgb, _⟩
  · exact .inl rfl
  · refine .inr fun e' => ?_
    rcases h2.2 with ⟨rfl, _⟩ | ⟨g2, cap2, cur2, rfl, _, hgb2, _⟩
    · simp [Value.ownBlock] at e'
    · obtain rfl : g = g2 := by simpa [Value.ownBlock] using e'
      rw [hgb] at hgb2
      simp at hgb2
      exact hne hgb2.2
theorem others_box {W w1 : World} {n₀ Bv b' : Nat} {t' e size k : Nat} {v v' u : Value} {xs : List Value} {tmp : Obj} (hrow : W.ownsRow n₀ e size v k xs) (hgrow : (W.alloc tmp).grownBy w1 v.ownBlock)
    (hb : Boxed W b' t' u) (hne : b' ≠ Bv) (hte : t' ≠ e) : Boxed (w1.setCell ⟨Bv, 0, none⟩ v') b' t' u :=
  ((hb.alloc tmp).kept hgrow (hb.not_row hte hrow)).kept (grownBy_set _ _ _) (by simp [hne])
theorem others_row {W w1 : World} {n₀ n₁ Bv : Nat} {tv e e' size s' k k' : Nat} {v v' u : Value} {xs xs' : List Value} {tmp : Obj} (hv : Boxed W Bv tv v) (hrow : W.ownsRow n₀ e size v k xs) (hgrow : (W.alloc tmp).grownBy w1 v.ownBlock)
    (hr : W.ownsRow n₁ e' s' u k' xs') (he : e' ≠ e) (hbx : tv ≠ e') : (w1.setCell ⟨Bv, 0, none⟩ v').ownsRow n₁ e' s' u k' xs' :=
  ((hr.alloc tmp).kept hgrow (rows_ne hr hrow he)).kept (grownBy_set _ _ _) (.inr (hv.not_row hbx hr).symm)
/-- BETWEEN TWO ROUNDS. -/
structure BldAt (B nw : Nat) (pre : List Int) (vr vl : Value) (sps : List (Int × Int)) (ws : List Int) (W : World) : Prop where
  br : Boxed W B 77 vr
  bl : Boxed W (B + 1) 68 vl
  bb : Boxed W (B + 1 + 1 + 1) 79 (.slice (some ⟨B + 1 + 1, 0, none⟩) nw nw)
  rr : W.ownsRow B 83 2 vr sps.length (rowS sps)
  rl : W.ownsRow B 3 1 vl pre.length (pre.map (Value.int .i64))
  rb : W.ownsRow B 80 1 (.slice (some ⟨B + 1 + 1, 0, none⟩) nw nw) nw (ws.map (Value.int .u64))
/-- What is said of the numbers alone. -/
structure BldP (n : Int) (nw : Nat) (pre : List Int) (sps : List (Int × Int)) (ws : List Int) : Prop where
  nums : numsS sps = pre
  sb : ∀ s ∈ sps, 0 ≤ s.1 ∧ s.1 ≤ s.2 ∧ s.2 ≤ n
  sl : sps.length ≤ pre.length
  wl : ws.length = nw
  wb : ∀ x ∈ ws, 0 ≤ x ∧ x < 18446744073709551616
  wm : ∀ x : Int, 0 ≤ x → x < 64 * (nw : Int) → bitW ws x = decide (x ∈ pre)
theorem BldAt.owned {B nw : Nat} {pre : List Int} {vr vl : Value} {sps : List (Int × Int)} {ws : List Int} {W W' : World} {row : Option Nat} (h : BldAt B nw pre vr vl sps ws W) (hg : W.grownBy W' row)
    (hr : ∀ r, row = some r → ∃ o : Obj, W.heap[r]? = some o ∧ o.isCells = false) : BldAt B nw pre vr vl sps ws W' := by
  have hrow : ∀ {base e s k : Nat} {v : Value} {xs : List Value}, W.ownsRow base e s v k xs → W'.ownsRow base e s v k xs := fun {base e s k v xs} ho => ho.kept hg (by
    cases hv : v.ownBlock with
    | none => exact .inl rfl
    | some g =>
      refine .inr (fun e' => ?_)
      obtain ⟨o, h1, h2⟩ := own_cells ho g hv
      obtain ⟨o', h1', h2'⟩ := hr g e'.symm
      rw [h1] at h1'
      cases h1'
      rw [h2] at h2'
      cases h2')
  have hbox : ∀ {b t : Nat} {v : Value}, Boxed W b t v → Boxed W' b t v := fun {b t v} hb => hb.kept hg (fun e => by
    obtain ⟨o, ho, hc⟩ := hr b e.symm
    rw [show W.heap[b]? = _ from hb] at ho
    cases ho
    cases hc)
  exact ⟨hbox h.br, hbox h.bl, hbox h.bb, hrow h.rr, hrow h.rl, hrow h.rb⟩
/-- The three variables. -/
def bs3 (B : Nat) : List Nat := [B, B + 1, B + 1 + 1 + 1]
theorem mem_bs3 {B b : Nat} (h : b ∈ bs3 B) : b = B ∨ b = B + 1 ∨ b = B + 1 + 1 + 1 := by simpa [bs3] using h
theorem BldAt.free {B nw : Nat} {pre : List Int} {vr vl : Value} {sps : List (Int × Int)} {ws : List Int} {W : World} (h : BldAt B nw pre vr vl sps ws W) :
    (∀ b, b ∈ bs3 B → b < W.heap.size ∧ some b ≠ vr.ownBlock ∧ some b ≠ vl.ownBlock ∧ some b ≠ (Value.slice (some ⟨B + 1 + 1, 0, none⟩) nw nw).ownBlock) := by
  intro b hb
  rcases mem_bs3 hb with rfl | rfl | rfl
  · exact ⟨h.br.lt, h.br.not_row (by decide) h.rr, h.br.not_row (by decide) h.rl, h.br.not_row (by decide) h.rb⟩
  · exact ⟨h.bl.lt, h.bl.not_row (by decide) h.rr, h.bl.not_row (by decide) h.rl, h.bl.not_row (by decide) h.rb⟩
  · exact ⟨h.bb.lt, h.bb.not_row (by decide) h.rr, h.bb.not_row (by decide) h.rl, h.bb.not_row (by decide) h.rb⟩
theorem BldAt.fit {B nw : Nat} {pre : List Int} {vr vl : Value} {sps : List (Int × Int)} {ws : List Int} {W : World} (h : BldAt B nw pre vr vl sps ws W) : Fit (bs3 B) W := by
  intro b hb k hk
  rcases mem_bs3 hb with rfl | rfl | rfl
  · rw [ownAt_box h.br] at hk; exact (h.rr.lt k hk).2
  · rw [ownAt_box h.bl] at hk; exact (h.rl.lt k hk).2
  · rw [ownAt_box h.bb] at hk; exact (h.rb.lt k hk).2
/-- Whatever lies below B is none of all that. -/
theorem BldAt.clear {B nw : Nat} {pre : List Int} {vr vl : Value} {sps : List (Int × Int)} {ws : List Int} {W : World} (h : BldAt B nw pre vr vl sps ws W) {D : Nat → Prop} (hD : ∀ k, D k → k < B) : Clear (bs3 B) D W := by
  refine ⟨fun b hb => (h.free b hb).1, h.fit, fun k hk => ⟨fun hb => ?_, fun b hb e => ?_⟩⟩
  · have := hD k hk
    rcases mem_bs3 hb with rfl | rfl | rfl <;> omega
  · have hlt := hD k hk
    rcases mem_bs3 hb with rfl | rfl | rfl
    · rw [ownAt_box h.br] at e; have := (h.rr.lt k e).1; omega
    · rw [ownAt_box h.bl] at e; have := (h.rl.lt k e).1; omega
    · rw [ownAt_box h.bb] at e; have := (h.rb.lt k e).1; omega
/-- What a step of a round does. -/
structure Steps3 (B : Nat) (W W' : World) : Prop where
  others : KeepsOthers W W'
  keep : KeepE (bs3 B) W W'
  below : Below B W W'
theorem Steps3.trans {B : Nat} {W W' W'' : World} (h : Steps3 B W W') (k : Steps3 B W' W'') : Steps3 B W W'' := ⟨h.others.trans k.others, h.keep.trans k.keep, h.below.trans k.below⟩
theorem Steps3.refl (B : Nat) (W : World) : Steps3 B W W := ⟨KeepsOthers.refl _, KeepE.refl _ _, Below.refl _ _⟩
/-- 'l = append(l, at)'. -/
theorem BldAt.app_l {B nw : Nat} {pre : List Int} {vr vl v' : Value} {sps : List (Int × Int)} {ws : List Int} {W w1 : World} {x : Int} {tmp : Obj} (h : BldAt B nw pre vr vl sps ws W)
    (hown' : w1.ownsRow B 3 1 v' (pre.length + 1) (pre.map (Value.int .i64) ++ [.int .i64 x])) (hgrow : (W.alloc tmp).grownBy w1 vl.ownBlock) (hat : v'.ownBlock = vl.ownBlock ∨ v'.ownBlock = some (W.alloc tmp).heap.size) :
    Boxed w1 (B + 1) 68 vl ∧ BldAt B nw (pre ++ [x]) vr v' sps ws (w1.setCell ⟨B + 1, 0, none⟩ v') ∧ Steps3 B W (w1.setCell ⟨B + 1, 0, none⟩ v') := by
  have hBs : B ≤ W.heap.size := Nat.le_of_lt h.br.lt
  obtain ⟨hv1, hv2, hr2, hk2, hb2⟩ := h.bl.appended (by decide) h.rl hBs (Nat.le_succ B) hown' hgrow
  refine ⟨hv1, ⟨others_box h.rl hgrow h.br (by omega) (by decide), hv2, others_box h.rl hgrow h.bb (by omega) (by decide), others_row h.bl h.rl hgrow h.rr (by decide) (by decide), ?_, others_row h.bl h.rl hgrow h.rb (by decide) (by decide)⟩, hk2, ?_, hb2⟩
  · rw [List.length_append, List.length_singleton, List.map_append]
    exact hr2
  · exact KeepE.appended (by simp [bs3]) h.bl hv2 hr2 hgrow hat (fun b hb => ⟨(h.free b hb).1, fun _ => (h.free b hb).2.2.1⟩)
/-- 'r = append(r, span{at, at + 1})'. -/
theorem BldAt.app_r {B nw : Nat} {pre : List Int} {vr vl v' : Value} {sps : List (Int × Int)} {ws : List Int} {W w1 : World} {s : Int × Int} {tmp : Obj} (h : BldAt B nw pre vr vl sps ws W)
    (hown' : w1.ownsRow B 83 2 v' (sps.length + 1) (rowS sps ++ [.int .i64 s.1, .int .i64 s.2])) (hgrow : (W.alloc tmp).grownBy w1 vr.ownBlock) (hat : v'.ownBlock = vr.ownBlock ∨ v'.ownBlock = some (W.alloc tmp).heap.size) :
    Boxed w1 B 77 vr ∧ BldAt B nw pre v' vl (sps ++ [s]) ws (w1.setCell ⟨B, 0, none⟩ v') ∧ Steps3 B W (w1.setCell ⟨B, 0, none⟩ v') := by
  have hBs : B ≤ W.heap.size := Nat.le_of_lt h.br.lt
  obtain ⟨hv1, hv2, hr2, hk2, hb2⟩ := h.br.appended (by decide) h.rr hBs (Nat.le_refl B) hown' hgrow
  refine ⟨hv1, ⟨hv2, others_box h.rr hgrow h.bl (by omega) (by decide), others_box h.rr hgrow h.bb (by omega) (by decide), ?_, others_row h.br h.rr hgrow h.rl (by decide) (by decide), others_row h.br h.rr hgrow h.rb (by decide) (by decide)⟩, hk2, ?_, hb2⟩
  · rw [List.length_append, List.length_singleton, rowS_snoc]
    exact hr2
  · exact KeepE.appended (by simp [bs3]) h.br hv2 hr2 hgrow hat (fun b hb => ⟨(h.free b hb).1, fun _ => (h.free b hb).2.1⟩)
/-- A cell of one variable's row is written. -/
theorem set_step {B b t g n cap e size i : Nat} {xs : List Value} {W : World} {u : Value} (hb : b ∈ bs3 B) (hB : B ≤ g) (hbx : Boxed W b t (.slice (some ⟨g, 0, none⟩) n cap)) (hrow : W.ownsRow B e size (.slice (some ⟨g, 0, none⟩) n cap) n xs)
    (hfree : ∀ b', b' ∈ bs3 B → b' < W.heap.size ∧ some b' ≠ some g) : Steps3 B W (W.setCell ⟨g, i, none⟩ u) := by
  refine ⟨KeepsOthers.setCell _ _ _, ?_, (Below.refl B W).setCell (p := ⟨g, i, none⟩) hB u⟩
  have hbx' : Boxed (W.setCell ⟨g, i, none⟩ u) b t (.slice (some ⟨g, 0, none⟩) n cap) := hbx.kept (grownBy_set W ⟨g, i, none⟩ u) (hfree b hb).2
  exact KeepE.step (B := b) (v := .slice (some ⟨g, 0, none⟩) n cap) (v' := .slice (some ⟨g, 0, none⟩) n cap) (by simp [World.setCell]) (fun k hk _ hnr => Below.heap_setCell _ _ _ k (fun e => hnr (by rw [e]; rfl))) hb (ownAt_box hbx) (ownAt_box hbx') (.inl rfl)
    (fun b' h' => ⟨(hfree b' h').1, fun _ => (hfree b' h').2⟩)
theorem map_set {α β : Type} (f : α → β) : ∀ (l : List α) (i : Nat) (x : α), (l.set i x).map f = (l.map f).set i (f x)
  | [], _, _ => rfl
  | _ :: _, 0, _ => rfl
  | a :: l, i + 1, x => by simp [map_set f l i x]
/-- A word is written. -/
theorem BldAt.set_b {B nw : Nat} {pre : List Int} {vr vl : Value} {sps : List (Int × Int)} {ws : List Int} {W : World} (h : BldAt B nw pre vr vl sps ws W) (i : Nat) (u : Int) :
    BldAt B nw pre vr vl sps (ws.set i u) (W.setCell ⟨B + 1 + 1, i, none⟩ (.int .u64 u)) ∧ Steps3 B W (W.setCell ⟨B + 1 + 1, i, none⟩ (.int .u64 u)) := by
  have hg := grownBy_set W ⟨B + 1 + 1, i, none⟩ (.int .u64 u)
  refine ⟨⟨h.br.kept hg (by simp; omega), h.bl.kept hg (by simp), h.bb.kept hg (by simp), h.rr.kept hg (rows_ne h.rr h.rb (by decide)), h.rl.kept hg (rows_ne h.rl h.rb (by decide)), ?_⟩, ?_⟩
  · rw [map_set]
    exact own_set h.rb i (.int .u64 u)
  · exact set_step (by simp [bs3]) (by omega) h.bb h.rb (fun b' h' => ⟨(h.free b' h').1, (h.free b' h').2.2.2⟩)
theorem rowS_set : ∀ (sps : List (Int × Int)) (f t u : Int), (rowS (sps ++ [(f, t)])).set (2 * sps.length + 1) (.int .i64 u) = rowS (sps ++ [(f, u)])
  | [], f, t, u => rfl
  | s :: r, f, t, u => by
    have ih := rowS_set r f t u
    rw [List.length_cons, show 2 * (r.length + 1) + 1 = (2 * r.length + 1) + 1 + 1 from by omega]
    show (Value.int .i64 s.1 :: .int .i64 s.2 :: rowS (r ++ [(f, t)])).set _ _ = Value.int .i64 s.1 :: .int .i64 s.2 :: rowS (r ++ [(f, u)])
    rw [List.set_cons_succ, List.set_cons_succ, ih]
/-- The last span goes on. -/
theorem BldAt.set_r {B nw g cap : Nat} {pre : List Int} {vl : Value} {sps : List (Int × Int)} {f t : Int} {ws : List Int} {W : World} (h : BldAt B nw pre (.slice (some ⟨g, 0, none⟩) (sps.length + 1) cap) vl (sps ++ [(f, t)]) ws W) (u : Int) :
    BldAt B nw pre (.slice (some ⟨g, 0, none⟩) (sps.length + 1) cap) vl (sps ++ [(f, u)]) ws (W.setCell ⟨g, sps.length * 2 + 1, none⟩ (.int .i64 u)) ∧ Steps3 B W (W.setCell ⟨g, sps.length * 2 + 1, none⟩ (.int .i64 u)) := by
  have hg := grownBy_set W ⟨g, sps.length * 2 + 1, none⟩ (.int .i64 u)
  have hrr := h.rr
  rw [List.length_append, List.length_singleton] at hrr
  have hfr : ∀ b, b ∈ bs3 B → b < W.heap.size ∧ some b ≠ some g := fun b hb => ⟨(h.free b hb).1, (h.free b hb).2.1⟩
  refine ⟨⟨h.br.kept hg (hfr B (by simp [bs3])).2, h.bl.kept hg (hfr (B + 1) (by simp [bs3])).2, h.bb.kept hg (hfr (B + 1 + 1 + 1) (by simp [bs3])).2, ?_, h.rl.kept hg (rows_ne h.rl hrr (by decide)), h.rb.kept hg (rows_ne h.rb hrr (by decide))⟩, ?_⟩
  · rw [List.length_append, List.length_singleton, ← rowS_set sps f t u, Nat.mul_comm 2]
    exact own_set hrr _ _
  · exact set_step (B := B) (b := B) (by simp [bs3]) (hrr.lt g rfl).1 h.br hrr hfr
end Go.Proofs.Ytbjdnfnolhahgaa.F

/-! What a round of build does to the numbers: plain laws. -/
namespace Go.Proofs.Ytbjdnfnolhahgaa.F
open Go.RowKit
set_option linter.unusedVariables false
/-- How many words. -/
def nwOf (n : Int) : Nat := ((n + 64 - 1) / 64).toNat
/-- A word with one bit more. -/
def orBit (O : Int) (k : Nat) : Int := bits .or .u64 O (IntKind.u64.wrap (2 ^ k))
theorem orBit_nat (O : Int) (k : Nat) (hk : k < 64) (h0 : 0 ≤ O) (h1 : O < 18446744073709551616) : orBit O k = ((O.toNat ||| 2 ^ k : Nat) : Int) ∧ O.toNat ||| 2 ^ k < 18446744073709551616 := by
  have hp : 2 ^ k < 2 ^ 64 := Nat.pow_lt_pow_right (by omega) hk
  have hp' : 2 ^ k < 18446744073709551616 := hp
  obtain ⟨m, rfl⟩ := Int.eq_ofNat_of_zero_le h0
  have hm : m < 18446744073709551616 := by omega
  have e1 : ((2 : Int) ^ k) = ((2 ^ k : Nat) : Int) := by push_cast; rfl
  have e2 : IntKind.u64.wrap ((2 ^ k : Nat) : Int) = ((2 ^ k : Nat) : Int) := by
    obtain ⟨q, hq⟩ : ∃ q : Nat, 2 ^ k = q := ⟨_, rfl⟩
    rw [hq] at hp' ⊢
    rw [IntKind.wrap_u64]
    omega
  refine ⟨?_, ?_⟩
  · unfold orBit
    rw [e1, e2, u64_or_nat _ _ hm hp', Int.toNat_natCast]
  · exact Nat.or_lt_two_pow (n := 64) hm hp
theorem words_set (ws : List Int) (nw : Nat) (x : Int) (hl : ws.length = nw) (hb : ∀ y ∈ ws, 0 ≤ y ∧ y < 18446744073709551616) (hx0 : 0 ≤ x) (hx1 : x < 64 * (nw : Int)) :
    (∀ y ∈ ws.set (x / 64).toNat (orBit (ws[(x / 64).toNat]?.getD 0) (x % 64).toNat), 0 ≤ y ∧ y < 18446744073709551616) ∧
    ∀ y : Int, 0 ≤ y → y < 64 * (nw : Int) → bitW (ws.set (x / 64).toNat (orBit (ws[(x / 64).toNat]?.getD 0) (x % 64).toNat)) y = (bitW ws y || decide (y = x)) := by
  have hi : (x / 64).toNat < ws.length := by omega
  have hO : ws[(x / 64).toNat]?.getD 0 = ws[(x / 64).toNat] := by rw [List.getElem?_eq_getElem hi]; rfl
  have hOb := hb _ (List.getElem_mem hi)
  rw [hO]
  obtain ⟨O, hOO⟩ : ∃ O, ws[(x / 64).toNat] = O := ⟨_, rfl⟩
  rw [hOO] at hOb ⊢
  obtain ⟨h1, h2⟩ := orBit_nat O (x % 64).toNat (by omega) hOb.1 hOb.2
  refine ⟨fun y hy => ?_, fun y hy0 hy1 => ?_⟩
  · rcases List.mem_or_eq_of_mem_set hy with h | h
    · exact hb y h
    · rw [h, h1]
      omega
  · unfold bitW
    by_cases he : (y / 64).toNat = (x / 64).toNat
    · rw [he, List.getElem?_set_self (by omega), Option.getD_some, h1, Int.toNat_natCast, Nat.testBit_or, Nat.testBit_two_pow, List.getElem?_eq_getElem hi, Option.getD_some, hOO]
      congr 1
      rw [decide_eq_decide]
      omega
    · rw [List.getElem?_set_ne (fun e => he e.symm)]
      have : decide (y = x) = false := decide_eq_false (fun e => he (by rw [e]))
      rw [this, Bool.or_false]
theorem nwOf_le {n x : Int} (h0 : 0 ≤ x) (h1 : x < n) : x < 64 * ((nwOf n : Nat) : Int) := by
  unfold nwOf
  omega
theorem bldP_new {n : Int} {ps : List Int} {sps : List (Int × Int)} {ws : List Int} {x : Int} (h : BldP n (nwOf n) ps sps ws) (hx0 : 0 ≤ x) (hx1 : x < n) :
    BldP n (nwOf n) (ps ++ [x]) (sps ++ [(x, x + 1)]) (ws.set (x / 64).toNat (orBit (ws[(x / 64).toNat]?.getD 0) (x % 64).toNat)) := by
  obtain ⟨h1, h2⟩ := words_set ws (nwOf n) x h.wl h.wb hx0 (nwOf_le hx0 hx1)
  refine ⟨?_, fun s hs => ?_, ?_, by rw [List.length_set]; exact h.wl, h1, fun y hy0 hy1 => ?_⟩
  · rw [numsS_snoc, h.nums, upI_succ (Int.le_refl x), upI_nil (Int.le_refl x)]
    rfl
  · rcases List.mem_append.1 hs with e | e
    · exact h.sb s e
    · obtain rfl : s = (x, x + 1) := by simpa using e
      exact ⟨hx0, by show x ≤ x + 1; omega, by show x + 1 ≤ n; omega⟩
  · have := h.sl
    rw [List.length_append, List.length_append, List.length_singleton, List.length_singleton]
    omega
  · rw [h2 y hy0 hy1, h.wm y hy0 hy1]
    simp
theorem bldP_ext {n : Int} {ps : List Int} {s0 : List (Int × Int)} {f : Int} {ws : List Int} {x : Int} (h : BldP n (nwOf n) ps (s0 ++ [(f, x)]) ws) (hx0 : 0 ≤ x) (hx1 : x < n) :
    BldP n (nwOf n) (ps ++ [x]) (s0 ++ [(f, x + 1)]) (ws.set (x / 64).toNat (orBit (ws[(x / 64).toNat]?.getD 0) (x % 64).toNat)) := by
  obtain ⟨h1, h2⟩ := words_set ws (nwOf n) x h.wl h.wb hx0 (nwOf_le hx0 hx1)
  obtain ⟨hf0, hf1, hf2⟩ := h.sb (f, x) (by simp)
  refine ⟨?_, fun s hs => ?_, ?_, by rw [List.length_set]; exact h.wl, h1, fun y hy0 hy1 => ?_⟩
  · have := h.nums
    rw [numsS_snoc] at this ⊢
    rw [upI_succ (show f ≤ x from hf1), ← List.append_assoc, this]
  · rcases List.mem_append.1 hs with e | e
    · exact h.sb s (List.mem_append_left _ e)
    · obtain rfl : s = (f, x + 1) := by simpa using e
      exact ⟨hf0, by show f ≤ x + 1; have : f ≤ x := hf1; omega, by show x + 1 ≤ n; omega⟩
  · have := h.sl
    rw [List.length_append, List.length_singleton] at this ⊢
    rw [List.length_append, List.length_singleton]
    omega
  · rw [h2 y hy0 hy1, h.wm y hy0 hy1]
    simp
/-- The three ways at the end. -/
theorem bits_end {n : Int} {zs : List Int} {sps : List (Int × Int)} {ws : List Int} (h : BldP n (nwOf n) zs sps ws) (hr : Rising n zs) (h0 : 0 ≤ n) : zs = numsB ws := by
  refine rising_eq hr.1 (rising_filt _ _).1 (fun x => ?_)
  unfold numsB
  rw [mem_filt, h.wl]
  constructor
  · intro hx
    obtain ⟨a, b⟩ := hr.2 x hx
    have hlt := nwOf_le a b
    exact ⟨a, hlt, by rw [h.wm x a hlt]; exact decide_eq_true hx⟩
  · rintro ⟨a, b, c⟩
    rw [h.wm x a b] at c
    exact of_decide_eq_true c
end Go.Proofs.Ytbjdnfnolhahgaa.F

/-! pos.build: a walk of its code. -/
namespace Go.Proofs.Ytbjdnfnolhahgaa.F
open Go.RowKit Go.Shelf Go.Proofs.YtbjdnfnolhahgaaW.PrintWords
attribute [local go_sem] Oper.semAt_some
set_option linter.unusedVariables false
theorem infoU : (Try.prog.info? 80).map (fun i => (i.zero, i.size, i.bytes)) = some (some (.int .u64 0), 1, 8) := by kernel_rfl
theorem infoS : (Try.prog.info? 83).map (fun i => (i.zero, i.size, i.bytes)) = some (some (.agg #[.int .i64 0, .int .i64 0]), 2, 16) := by kernel_rfl
/-- What a way's value is, by its number. -/
def BuildPost (rep : Int) (zs : List Int) (w : World) (e : Ending) (w' : World) : Prop := ∃ t u, e = .returned (.iface t u) ∧ IsWay w' (.iface t u) zs ∧ Below w.heap.size w w'
theorem BldAt.word {B nw : Nat} {pre : List Int} {vr vl : Value} {sps : List (Int × Int)} {ws : List Int} {W : World} (h : BldAt B nw pre vr vl sps ws W) (i : Nat) (hi : i < nw) :
    W.cell? ⟨B + 1 + 1, i, none⟩ = some (.int .u64 (ws[i]?.getD 0)) ∧ W.frozen? ⟨B + 1 + 1, i, none⟩ = false := by
  have hlen : ws.length = nw := by have := h.rb.1; simpa using this
  have hc := h.rb.cells (g := B + 1 + 1) rfl i (.int .u64 (ws[i]?.getD 0)) (by rw [List.getElem?_map, List.getElem?_eq_getElem (by omega)]; rfl)
  have e : (⟨B + 1 + 1, 0, none⟩ : Addr).add i = ⟨B + 1 + 1, i, none⟩ := by unfold Addr.add; split <;> simp_all
  rw [e] at hc
  refine ⟨hc, ?_⟩
  rcases h.rb.2 with ⟨h1, _⟩ | ⟨g, cap, cur, h1, _, hgg, _⟩
  · cases h1
  · cases h1
    simp [World.frozen?, hgg]
theorem cells_two_new (W : World) (a b : Value) (t : TypeId) : ∀ j u, ([a, b] : List Value)[j]? = some u → (W.alloc (.cells #[a, b] t)).cell? ((⟨W.heap.size, 0, none⟩ : Addr).add j) = some u := by
  intro j u hj
  have h := World.alloc_heap_new W (.cells #[a, b] t)
  have e : (⟨W.heap.size, 0, none⟩ : Addr).add j = ⟨W.heap.size, j, none⟩ := by unfold Addr.add; split <;> simp_all
  rw [e]
  simp only [World.cell?, h]
  match j, hj with
  | 0, hj => cases hj; rfl
  | 1, hj => cases hj; rfl
theorem BldAt.last {B nw g cap : Nat} {pre : List Int} {vl : Value} {sps : List (Int × Int)} {f t : Int} {ws : List Int} {W : World} (h : BldAt B nw pre (.slice (some ⟨g, 0, none⟩) (sps.length + 1) cap) vl (sps ++ [(f, t)]) ws W) :
    W.cell? ⟨g, sps.length * 2 + 1, none⟩ = some (.int .i64 t) ∧ W.frozen? ⟨g, sps.length * 2 + 1, none⟩ = false := by
  have hrr := h.rr
  have hc := hrr.cells (g := g) rfl (sps.length * 2 + 1) (.int .i64 t) (by
    have := (rowS_get (sps ++ [(f, t)]) sps.length (by simp)).2
    rw [Nat.mul_comm]
    simpa using this)
  have e : (⟨g, 0, none⟩ : Addr).add (sps.length * 2 + 1) = ⟨g, sps.length * 2 + 1, none⟩ := by unfold Addr.add; split <;> simp_all
  rw [e] at hc
  refine ⟨hc, ?_⟩
  rcases hrr.2 with ⟨h1, _⟩ | ⟨g', cap', cur, h1, _, hgg, _⟩
  · cases h1
  · injection h1 with h1 _ _
    obtain rfl : g = g' := by simpa using h1
    simp [World.frozen?, hgg]
theorem bld_start (w : World) (nw : Nat) (h : nw ≤ 64) :
    BldAt w.heap.size nw [] (.slice none 0 0) (.slice none 0 0) [] (List.replicate nw 0) ((((w.alloc (.cells #[.slice none 0 0] 77)).alloc (.cells #[.slice none 0 0] 68)).alloc (.cells (madeCells #[.int .u64 0] nw) 80)).alloc (.cells #[.slice (some ⟨w.heap.size + 1 + 1, 0, none⟩) nw nw] 79)) := by
  have h1 := Boxed.new w 77 (.slice none 0 0)
  have h2 := Boxed.new (w.alloc (.cells #[.slice none 0 0] 77)) 68 (.slice none 0 0)
  have h3 := World.alloc_heap_new ((w.alloc (.cells #[.slice none 0 0] 77)).alloc (.cells #[.slice none 0 0] 68)) (.cells (madeCells #[.int .u64 0] nw) 80)
  have h4 := Boxed.new (((w.alloc (.cells #[.slice none 0 0] 77)).alloc (.cells #[.slice none 0 0] 68)).alloc (.cells (madeCells #[.int .u64 0] nw) 80)) 79 (.slice (some ⟨w.heap.size + 1 + 1, 0, none⟩) nw nw)
  simp only [World.size_alloc] at h2 h3 h4
  refine ⟨((h1.alloc _).alloc _).alloc _, (h2.alloc _).alloc _, h4, World.ownsRow_nil _ _ _ _, World.ownsRow_nil _ _ _ _, by simp, .inr ⟨_, nw, madeCells #[.int .u64 0] nw, rfl, by omega, ?_, Nat.le_refl _, by unfold maxLen; omega, by rw [size_madeCells]; omega, ?_⟩⟩
  · exact (Below.heap_alloc _ _ _ (by simp)).trans h3
  · rw [toList_madeCells_one, Nat.mul_one, List.take_of_length_le (by simp), List.map_replicate]
theorem bldP_start (n : Int) (nw : Nat) : BldP n nw [] [] (List.replicate nw 0) := by
  refine ⟨rfl, fun s hs => (by cases hs), Nat.le_refl _, by simp, fun x hx => ?_, fun x h0 h1 => ?_⟩
  · rw [List.mem_replicate] at hx
    omega
  · unfold bitW
    rw [List.getElem?_replicate]
    split <;> simp
set_option maxRecDepth 100000 in
set_option maxHeartbeats 8000000 in
theorem build_any (n rep : Int) (gf : Nat) (lb : Array Value) (D : Nat → Prop) (zs : List Int) (hn0 : 0 ≤ n) (hn1 : n ≤ 4096) (hris : Rising n zs) (w : World) (hg : Gives D gf lb zs w) :
    Calls Try.prog 37 #[.int .i64 n, .int .i64 rep, .func (.func gf) #[] lb] w (BuildPost rep zs w) := by
  obtain ⟨i0, hi, hz0, hz1, hz2⟩ := info_parts infoI
  obtain ⟨j0, hj, hy0, hy1, hy2⟩ := info_parts infoS
  have hmk := fun (W : World) => run_make_row' (P := Try.prog) 79 80 (.int .u64 0) 8 Try.underlying79 infoU rfl .i64 .i64 (nwOf n) (by unfold nwOf; omega) (by unfold nwOf; omega) W
  have hnw : ((nwOf n : Nat) : Int) = (n + 64 - 1) / 64 := by unfold nwOf; omega
  rw [hnw] at hmk
  have HNW := Aside0.mk hnw
  clear hnw
  refine (callsIn_wide (n := 9)).1 ?_
  refine callsIn_of_wp_marks Try.func37 rfl trivial ?_ rfl
  simp only [Try.ntmps37, List.size_toArray, List.length_cons, List.length_nil, Nat.reduceAdd, Nat.reduceSub, Array.replicate_succ, Array.replicate_zero, List.push_toArray, List.append_toArray, List.nil_append, List.cons_append]
  gi_wp2
  obtain ⟨W0, hW0⟩ : ∃ W0, (((w.alloc (.cells #[.slice none 0 0] 77)).alloc (.cells #[.slice none 0 0] 68)).alloc (.cells (madeCells #[.int .u64 0] (nwOf n)) 80)).alloc (.cells #[.slice (some ⟨w.heap.size + 1 + 1, 0, none⟩) (nwOf n) (nwOf n)] 79) = W0 := ⟨_, rfl⟩
  have hB0 : Below w.heap.size w W0 := by rw [← hW0]; exact (((((Below.refl _ w).alloc (Nat.le_refl _) _).alloc (by simp) _).alloc (by simp; omega) _).alloc (by simp; omega) _)
  have hA0 := bld_start w (nwOf n) (by unfold nwOf; omega)
  rw [hW0] at hA0 ⊢
  have hcl := hA0.clear (D := D) (fun k hk => hg.cells.lt hk)
  clear hW0
  refine wpIn_rangeFunc_ownH rfl (by omega) (gf := gf) (lb := lb) rfl trivial hg.enters
    ((hg.stops (bs3 w.heap.size) W0 (Keep.of_below hB0 (fun k hk => hg.cells.lt hk)) hcl _ (by omega)).sub (fun x => 0 ≤ x ∧ x < n) hris.2) KeepE.trans (fun W l o o' hl ho hc _ => KeepE.putObj hcl.lt W l o o' hl ho hc) (Below.refl _ _) (fun _ => rfl)
    (fun pre W => (∃ vr vl sps ws, BldAt w.heap.size (nwOf n) (pre.map (fun x => x.1)) vr vl sps ws W ∧ BldP n (nwOf n) (pre.map (fun x => x.1)) sps ws) ∧ Below w.heap.size w W)
    (fun _ _ _ => False)
    (OwnFrom.and (fun s A B row hs hg hr => by obtain ⟨vr, vl, sps, ws, h1, h2⟩ := hs; exact ⟨vr, vl, sps, ws, h1.owned hg (fun r e => (hr r e).2), h2⟩) (ownFrom_below (Nat.le_refl _) (by have := hA0.br.lt; omega)))
    (fun _ _ _ _ _ hs _ _ => hs)
    ⟨⟨_, _, _, _, hA0, bldP_start n (nwOf n)⟩, hB0⟩
    (fun x a' W => a' = { tmps := #[.int .i64 n, .int .i64 rep, .func (.func gf) #[] lb, undef, undef, undef, .nilIface, .pointer (some ⟨w.heap.size, 0, none⟩), .pointer (some ⟨w.heap.size + 1, 0, none⟩), .pointer (some ⟨w.heap.size + 1 + 1 + 1, 0, none⟩), .int .i64 x.1, undef, .int .i64 n, .int .i64 (n + 64), .int .i64 (n + 64 - 1), .int .i64 ((n + 64 - 1) / 64), .slice (some ⟨w.heap.size + 1 + 1, 0, none⟩) (nwOf n) (nwOf n), .func (.func gf) #[] lb, .int .i64 x.1, undef, undef, undef, undef, undef, undef, undef, undef, undef, undef, undef, undef, undef, undef, undef, undef, undef, undef, undef, undef, undef, undef, undef, undef, undef, undef, undef, undef, undef, undef, undef, undef, undef, undef, undef, undef, undef, undef, undef, undef, undef, undef, undef, undef, undef, undef, undef, undef, undef, undef, undef, undef, undef, undef, undef, undef], defers := [] })
    (fun x a' _ X Y row hs hg hr => hs)
    ?assign ?body ?done ?stop
  case assign =>
    rintro l pre x W K hI hK
    gi_wp2
    exact hK _ _ (KeepsFrom.refl _ _) (KeepE.refl _ _) hI rfl
  case body =>
    rintro l pre x a' W hl ⟨r, hr⟩ ⟨⟨vr, vl, sps, ws, hA, hP⟩, hB⟩ rfl hlt
    obtain ⟨x, hx0, hx1⟩ := x
    dsimp only
    obtain ⟨ps, hps⟩ : ∃ ps, pre.map (fun x => x.1) = ps := ⟨_, rfl⟩
    have hpl : ps.length < 4096 := by
      rw [← hps, List.length_map]
      have := hris.length
      omega
    rw [hps] at hA hP
    have hms : (pre ++ [(⟨x, hx0, hx1⟩ : { x : Int // 0 ≤ x ∧ x < n })]).map (fun x => x.1) = ps ++ [x] := by rw [List.map_append, hps]; rfl
    have HMS := Aside0.mk hms
    clear hms hps hlt
    have hBs : w.heap.size ≤ W.heap.size := Nat.le_of_lt hA.br.lt
    have hc8 := hA.bl.cell
    have HNW2 := HNW
    have HMK := Aside0.mk hmk
    clear hmk
    apply wpIn_block
    apply wpIn_seq_k
    intro K1 hK1
    have HK1 := Aside0.mk hK1
    clear hK1
    gi_wp2_with (gi_at_builtin; refine wpListIn_append_own_at _ rfl _ _ 68 rfl w.heap.size 3 i0 (.int .i64 0) 1 8 Try.underlying68 hi hz0 hz1 hz2 rfl (by decide) _ _ _ rfl (hA.rl.alloc _) ⟨W.heap.size, 0, none⟩ 1 1 [.int .i64 x] rfl rfl (cell_one_new _ _ _) (by simp [Value.oneCell']) (by unfold maxLen; omega) (by omega) (by simp; omega) ?_; intro v' w1 hown' hgrow _ hat; obtain ⟨g', cap', rfl⟩ := ownsRow_succ hown'; obtain ⟨hv1, hA1, hS1⟩ := hA.app_l hown' hgrow hat; have hc1 := hv1.cell; have hf1 := hv1.frozen)
    refine HK1.out _ _ ?_
    clear HK1 hc8 hc1 hf1 hv1 hgrow hown' hat hA
    obtain ⟨W1, hW1⟩ : ∃ W1, w1.setCell ⟨w.heap.size + 1, 0, none⟩ (.slice (some ⟨g', 0, none⟩) (ps.length + 1) cap') = W1 := ⟨_, rfl⟩
    rw [hW1] at hA1 hS1 ⊢
    clear hW1
    apply wpIn_seq_k
    intro K2 hK2
    have HK2 := Aside0.mk hK2
    clear hK2
    have hc9 := hA1.bb.cell
    have d0 : 0 ≤ x / 64 := by omega
    have d1 : x / 64 < ((nwOf n : Nat) : Int) := by have := HNW2.out; omega
    have m0 : 0 ≤ x % 64 := by omega
    have m1 : x % 64 < 64 := by omega
    obtain ⟨hw0, hw1⟩ := hA1.word (x / 64).toNat (by omega)
    obtain ⟨O, hO⟩ : ∃ O, ws[(x / 64).toNat]?.getD 0 = O := ⟨_, rfl⟩
    rw [hO] at hw0
    have HO := Aside0.mk hO
    clear hO
    gi_wp2
    refine HK2.out _ _ ?_
    obtain ⟨hA2, hS2⟩ := hA1.set_b (x / 64).toNat (orBit O (x % 64).toNat)
    obtain ⟨W2, hW2⟩ : ∃ W2, W1.setCell ⟨w.heap.size + 1 + 1, (x / 64).toNat, none⟩ (.int .u64 (bits .or .u64 O (IntKind.u64.wrap (2 ^ (x % 64).toNat)))) = W2 := ⟨_, rfl⟩
    rw [show W1.setCell ⟨w.heap.size + 1 + 1, (x / 64).toNat, none⟩ (.int .u64 (orBit O (x % 64).toNat)) = W2 from hW2] at hA2 hS2
    rw [hW2]
    obtain ⟨ws2, hws2⟩ : ∃ ws2, ws.set (x / 64).toNat (orBit O (x % 64).toNat) = ws2 := ⟨_, rfl⟩
    rw [hws2] at hA2
    have hPn : Aside0 (BldP n (nwOf n) (ps ++ [x]) (sps ++ [(x, x + 1)]) ws2) := ⟨by rw [← hws2, ← HO.out]; exact bldP_new hP hx0 hx1⟩
    have hPe : Aside0 (∀ s0 f, sps = s0 ++ [(f, x)] → BldP n (nwOf n) (ps ++ [x]) (s0 ++ [(f, x + 1)]) ws2) := ⟨fun s0 f e => by rw [← hws2, ← HO.out]; subst e; exact bldP_ext hP hx0 hx1⟩
    have hS := hS1.trans hS2
    have hspl : sps.length < 4096 := by have := hP.sl; omega
    have hBs2 : w.heap.size ≤ W2.heap.size := Nat.le_of_lt hA2.br.lt
    clear hW2 hws2 HO hw0 hw1 hc9 HK2 hP hA1 hS1 hS2 d0 d1 m0 m1
    have hc7 := hA2.br.cell
    rcases hA2.rr.2 with ⟨rfl, h0⟩ | ⟨gr, capr, cur, rfl, _, hgg, hlc, hcm, _, _⟩
    · have hs0 : sps = [] := List.eq_nil_of_length_eq_zero h0
      subst hs0
      clear h0
      gi_wp2_with (gi_at_builtin; refine wpListIn_append_own_at _ rfl _ _ 77 rfl w.heap.size 83 j0 (.agg #[.int .i64 0, .int .i64 0]) 2 16 Try.underlying77 hj hy0 hy1 hy2 rfl (by decide) _ _ _ rfl (hA2.rr.alloc _) ⟨W2.heap.size, 0, none⟩ 1 1 [.int .i64 x, .int .i64 (x + 1)] rfl rfl (cells_two_new _ _ _ _) (by simp [Value.oneCell']) (by unfold maxLen; omega) (by omega) (by simp; omega) ?_; intro v' w3 hown' hgrow _ hat; obtain ⟨g3, cap3, rfl⟩ := ownsRow_succ hown'; obtain ⟨hv3, hA3, hS3⟩ := hA2.app_r (s := (x, x + 1)) hown' hgrow hat; have hc3 := hv3.cell; have hf3 := hv3.frozen)
      exact ⟨(hS.trans hS3).others.from _, (hS.trans hS3).keep, ⟨_, _, _, _, by rw [HMS.out]; exact hA3, by rw [HMS.out]; exact hPn.out⟩, hB.trans (hS.trans hS3).below⟩
    · rcases List.eq_nil_or_concat sps with rfl | ⟨s0, ⟨f, t⟩, rfl⟩
      · clear hgg hlc hcm
        gi_wp2_with (gi_at_builtin; refine wpListIn_append_own_at _ rfl _ _ 77 rfl w.heap.size 83 j0 (.agg #[.int .i64 0, .int .i64 0]) 2 16 Try.underlying77 hj hy0 hy1 hy2 rfl (by decide) _ _ _ rfl (hA2.rr.alloc _) ⟨W2.heap.size, 0, none⟩ 1 1 [.int .i64 x, .int .i64 (x + 1)] rfl rfl (cells_two_new _ _ _ _) (by simp [Value.oneCell']) (by unfold maxLen; omega) (by omega) (by simp; omega) ?_; intro v' w3 hown' hgrow _ hat; obtain ⟨g3, cap3, rfl⟩ := ownsRow_succ hown'; obtain ⟨hv3, hA3, hS3⟩ := hA2.app_r (s := (x, x + 1)) hown' hgrow hat; have hc3 := hv3.cell; have hf3 := hv3.frozen)
        exact ⟨(hS.trans hS3).others.from _, (hS.trans hS3).keep, ⟨_, _, _, _, by rw [HMS.out]; exact hA3, by rw [HMS.out]; exact hPn.out⟩, hB.trans (hS.trans hS3).below⟩
      · rw [List.concat_eq_append] at *
        have e : (s0 ++ [(f, t)]).length = s0.length + 1 := by simp
        have hspl2 := hspl
        rw [e] at hA2 hc7 hspl
        clear hlc hcm e
        obtain ⟨hct, hft⟩ := hA2.last
        clear hgg
        by_cases htx : t = x
        · have htx' := htx.symm
          subst htx'
          clear htx
          obtain ⟨hA3, hS3⟩ := hA2.set_r (x + 1)
          gi_wp2
          exact ⟨(hS.trans hS3).others.from _, (hS.trans hS3).keep, ⟨_, _, _, _, by rw [HMS.out]; exact hA3, by rw [HMS.out]; exact hPe.out _ _ rfl⟩, hB.trans (hS.trans hS3).below⟩
        · have hne : (t == x) = false := by simpa using htx
          clear htx
          gi_wp2_with (gi_at_builtin; refine wpListIn_append_own_at _ rfl _ _ 77 rfl w.heap.size 83 j0 (.agg #[.int .i64 0, .int .i64 0]) 2 16 Try.underlying77 hj hy0 hy1 hy2 rfl (by decide) _ _ _ rfl (hA2.rr.alloc _) ⟨W2.heap.size, 0, none⟩ 1 1 [.int .i64 x, .int .i64 (x + 1)] rfl rfl (cells_two_new _ _ _ _) (by simp [Value.oneCell']) (by unfold maxLen; omega) (by omega) (by simp; omega) ?_; intro v' w3 hown' hgrow _ hat; obtain ⟨g3, cap3, rfl⟩ := ownsRow_succ hown'; obtain ⟨hv3, hA3, hS3⟩ := hA2.app_r (s := (x, x + 1)) hown' hgrow hat; have hc3 := hv3.cell; have hf3 := hv3.frozen)
          rw [show (s0 ++ [(f, t)]).length = s0.length + 1 from by simp] at hA3 hS3
          exact ⟨(hS.trans hS3).others.from _, (hS.trans hS3).keep, ⟨_, _, _, _, by rw [HMS.out]; exact hA3, by rw [HMS.out]; exact hPn.out⟩, hB.trans (hS.trans hS3).below⟩
  case done =>
    rintro D' ys W hD' hys ⟨⟨vr, vl, sps, ws, hA, hP⟩, hB⟩ hK
    rw [hys] at hA hP
    have hBl := hA0.br.lt
    have hend : Below w.heap.size w (W.putObj D' (.deferred none)) := hB.trans (belowK_b (w := w) (Nat.le_refl _) W D' _ _ (by omega) hK rfl rfl)
    have hl := hris.length
    have hsl := hP.sl
    have W1 : IsWay (W.putObj D' (.deferred none)) (.iface 77 vr) zs := .ranges vr sps rfl (own_base (ownsRow_putObj hA.rr _ hK rfl)) hP.nums.symm (fun s hs => ⟨(hP.sb s hs).1, (hP.sb s hs).2.1, by have := (hP.sb s hs).2.2; omega⟩) (by omega)
    have W2 : IsWay (W.putObj D' (.deferred none)) (.iface 79 (.slice (some ⟨w.heap.size + 1 + 1, 0, none⟩) (nwOf n) (nwOf n))) zs := .bitmap _ ws rfl (by rw [hP.wl]; exact own_base (ownsRow_putObj hA.rb _ hK rfl)) (bits_end hP hris hn0) hP.wb (by rw [hP.wl]; unfold nwOf; omega)
    have W3 : IsWay (W.putObj D' (.deferred none)) (.iface 68 vl) zs := .list vl rfl (own_base (ownsRow_putObj hA.rl _ hK rfl))
    have c1 := hA.br.cell
    have c2 := hA.bl.cell
    have c3 := hA.bb.cell
    have HW := Aside0.mk (And.intro W1 (And.intro W2 (And.intro W3 hend)))
    clear W1 W2 W3 hend hys hA hP hA0 hcl hg hris hl hsl
    by_cases h1 : rep = 1
    · subst h1
      gi_wp2
      refine ⟨by simp, .inl ⟨_, _, rfl, run_takeDeferred hK, ?_⟩⟩
      refine ⟨_, results_tmp rfl _ _ _, ?_⟩
      exact ⟨_, _, rfl, HW.out.1, HW.out.2.2.2⟩
    · have h1' : (rep == 1) = false := by simpa using h1
      by_cases h2 : rep = 2
      · subst h2
        gi_wp2
        refine ⟨by simp, .inl ⟨_, _, rfl, run_takeDeferred hK, ?_⟩⟩
        refine ⟨_, results_tmp rfl _ _ _, ?_⟩
        exact ⟨_, _, rfl, HW.out.2.1, HW.out.2.2.2⟩
      · have h2' : (rep == 2) = false := by simpa using h2
        clear h1 h2
        gi_wp2
        refine ⟨by simp, .inl ⟨_, _, rfl, run_takeDeferred hK, ?_⟩⟩
        refine ⟨_, results_tmp rfl _ _ _, ?_⟩
        exact ⟨_, _, rfl, HW.out.2.2.1, HW.out.2.2.2⟩
  case stop =>
    rintro D' c pre W _ _ h _
    exact h.elim
end Go.Proofs.Ytbjdnfnolhahgaa.F

/-! The numbers of which a function holds, as a range's function. -/
namespace Go.Proofs.Ytbjdnfnolhahgaa.F
open Go.RowKit Go.Shelf Go.Proofs.YtbjdnfnolhahgaaW.PrintWords
attribute [local go_sem] Oper.semAt_some
set_option linter.unusedVariables false
/-- A function value that holds of just those numbers of which p does, wherever the blocks of D are as they were. -/
structure HoldsF (D : Nat → Prop) (g : Nat) (lb : Array Value) (p : Int → Bool) (w : World) : Prop where
  cells : AreCells D w
  enters : ∀ args w, (callFunc g args).run Try.prog w = .ok (.enter g args) w
  calls : ∀ W x, Keep D w W → Calls Try.prog g (#[.int .i64 x] ++ lb) W fun e w' => e = .returned (.bool (p x)) ∧ Below W.heap.size W w'
theorem grown_none {W W' : World} (h : Below W.heap.size W W') : W.grownBy W' none := ⟨h.os, h.tape, h.output, h.size, fun k hk _ => h.block k hk⟩
set_option maxRecDepth 100000 in
set_option maxHeartbeats 2000000 in
theorem some1_in (m : Nat) (hm : 1 ≤ m) (l Bn Bh : Nat) (bs : List Nat) (g : Nat) (lb : Array Value) (p : Int → Bool) (n : Int) (hn0 : 0 ≤ n) (hn1 : n ≤ 4096) (w0 : World) (hbs : ∀ B, B ∈ bs → B < w0.heap.size)
    (eg : ∀ args w, (callFunc g args).run Try.prog w = .ok (.enter g args) w)
    (hB : ∀ W, KeepE bs w0 W → W.cell? ⟨Bn, 0, none⟩ = some (.int .i64 n)) (hH : ∀ W, KeepE bs w0 W → W.cell? ⟨Bh, 0, none⟩ = some (.func (.func g) #[] lb))
    (hP : ∀ W x, KeepE bs w0 W → Calls Try.prog g (#[.int .i64 x] ++ lb) W fun e w' => e = .returned (.bool (p x)) ∧ Below W.heap.size W w')
    (J Jx : List Int → World → Prop) (hgr : ∀ s W W', J s W → W.grownBy W' none → J s W')
    (hY : ∀ pre x W, J pre W → pre ++ [x] <+: filt n p → YieldAt Fence.wide (m - 1) Try.prog l #[.int .i64 x] W fun e W' =>
      (e = .returned (.bool true) ∧ J (pre ++ [x]) W' ∧ KeepE bs W W') ∨ (e = .returned (.bool false) ∧ Jx (pre ++ [x]) W'))
    (W : World) (hW : KeepE bs w0 W) (h0 : J [] W) :
    CallsIn Fence.wide m Try.prog 53 #[.func (.yield l) #[] #[], .pointer (some ⟨Bn, 0, none⟩), .pointer (some ⟨Bh, 0, none⟩)] W fun e W' => (∃ v, e = .returned v) ∧
      ((∃ ys, ys = filt n p ∧ J ys W') ∨ (∃ pre, pre <+: filt n p ∧ Jx pre W')) := by
  have hBn := hB W hW
  have hfg : Fence.wide.fn g := trivial
  refine callsIn_of_wp Try.func53 rfl trivial ?_ rfl
  simp only [Try.ntmps53, List.size_toArray, List.length_cons, List.length_nil, Nat.reduceAdd, Nat.reduceSub, Array.replicate_succ, Array.replicate_zero, List.push_toArray, List.append_toArray, List.nil_append, List.cons_append]
  gi_wp2
  gi_loopw [6] (fun i wr => ∃ K : Int, 0 ≤ K ∧ K ≤ n ∧ i = .int .i64 K ∧ J (filt K p) wr ∧ KeepE bs w0 wr) (fun i _ => (n - intOf i).toNat)
  case atStart => exact ⟨0, by omega, by omega, rfl, h0, hW⟩
  case round =>
    obtain ⟨K, hK0, hK1, rfl, hJs, hnx⟩ := hrel
    by_cases hlt : K < n
    · have hbx := hH _ hnx
      have hfs := filt_succ hK0 p
      have hc := hP _ K hnx
      have hbs' := Aside0.mk (fun B hB => Nat.lt_of_lt_of_le (hbs B hB) hnx.size)
      by_cases hs : p K = true
      · rw [hs, if_pos rfl] at hfs
        rw [hs] at hc
        have HFS := Aside0.mk hfs
        clear hfs hs
        gi_wp2_with (gi_at_fn g; refine (callsIn_wide.2 hc).mono ?_; clear hc; rintro e w2 ⟨rfl, hb2⟩; have hJ2 := hgr _ _ _ hJs (grown_none hb2); have hn2 := hnx.trans (KeepE.of_below hbs'.out hb2); obtain ⟨fn, tmps, assign, body, hy, hR⟩ := hY _ K w2 hJ2 (by rw [← HFS.out]; exact filt_prefix (by omega) _))
        refine hR.mono ?_
        rintro e W3 (⟨rfl, hJ3, hk3⟩ | ⟨rfl, hJx3⟩)
        · gi_wp2
          go_roundw
          case rel => exact ⟨K + 1, by omega, by omega, by go_num, by rw [HFS.out]; exact hJ3, hn2.trans hk3⟩
          case measure => simp [intOf]; omega
        · gi_wp2
          refine bodyPost_ret (results_none rfl _ _ _) rfl ?_
          exact ⟨⟨_, rfl⟩, .inr ⟨_, by rw [← HFS.out]; exact filt_prefix (by omega) _, hJx3⟩⟩
      · have hs' : p K = false := by simpa using hs
        rw [hs', if_neg (by decide), List.append_nil] at hfs
        rw [hs'] at hc
        have HFS := Aside0.mk hfs
        clear hfs hs hs'
        gi_wp2_with (gi_at_fn g; refine (callsIn_wide.2 hc).mono ?_; clear hc; rintro e w2 ⟨rfl, hb2⟩; have hJ2 := hgr _ _ _ hJs (grown_none hb2); have hn2 := hnx.trans (KeepE.of_below hbs'.out hb2))
        refine ⟨fun _ h => (by cases h), ?_⟩
        gi_wp2
        go_roundw
        case rel => exact ⟨K + 1, by omega, by omega, by go_num, by rw [HFS.out]; exact hJ2, hn2⟩
        case measure => simp [intOf]; omega
    · obtain rfl : K = n := by omega
      gi_wp2
      go_end0
      exact ⟨⟨_, rfl⟩, .inl hJs⟩
theorem gives_some (Bn Bh : Nat) (D : Nat → Prop) (g : Nat) (lb : Array Value) (p : Int → Bool) (n : Int) (hn0 : 0 ≤ n) (hn1 : n ≤ 4096) (w : World) (h : HoldsF D g lb p w) (hbn : Boxed w Bn 3 (.int .i64 n)) (hbh : Boxed w Bh 35 (.func (.func g) #[] lb)) :
    Gives (fun k => D k ∨ k = Bn ∨ k = Bh) 53 #[.pointer (some ⟨Bn, 0, none⟩), .pointer (some ⟨Bh, 0, none⟩)] (filt n p) w := by
  have hd : AreCells (fun k => D k ∨ k = Bn ∨ k = Bh) w := by
    rintro k (hk | rfl | rfl)
    · exact h.cells k hk
    · exact ⟨_, hbn, rfl⟩
    · exact ⟨_, hbh, rfl⟩
  refine ⟨hd, enters_of Try.func53 (by kernel_rfl) rfl, fun bs W0 hW0 hcl m hm l J Jx W hW hJ _ hY h0 => ?_⟩
  have hk : ∀ W', KeepE bs W0 W' → Keep (fun k => D k ∨ k = Bn ∨ k = Bh) w W' := fun W' h => hW0.trans (h.keep hcl (hd.keep hW0))
  exact some1_in m hm l Bn Bh bs g lb p n hn0 hn1 W0 hcl.lt h.enters (fun W' h => boxed_keep hbn (.inr (.inl rfl)) (hk W' h)) (fun W' h => boxed_keep hbh (.inr (.inr rfl)) (hk W' h))
    (fun W' x h' => h.calls W' x ((hk W' h').sub (fun k hk => .inl hk))) J Jx (fun s W W' hs hg => hJ s W W' none hs hg (fun r e => by cases e)) hY W (KeepE.of_below hcl.lt hW) h0
end Go.Proofs.Ytbjdnfnolhahgaa.F

/-! pos.some: a walk of its code. -/
namespace Go.Proofs.Ytbjdnfnolhahgaa.F
open Go.RowKit Go.Shelf Go.Proofs.YtbjdnfnolhahgaaW.PrintWords
set_option linter.unusedVariables false
/-- A new set. -/
def SetPost (n rep : Int) (zs : List Int) (w : World) (e : Ending) (w' : World) : Prop := ∃ t u, e = .returned (setV n rep (.iface t u)) ∧ IsSet w' n rep (.iface t u) zs ∧ Below w.heap.size w w'
/-- Words on values, for a region that draws. -/
def Fact.eq (v0 : Value) : Fact 28 := ⟨fun v _ => v = v0, fun _ _ _ h _ => h, fun _ _ _ h _ => h⟩
def Fact.top : Fact 28 := ⟨fun _ _ => True, fun _ _ _ _ _ => trivial, fun _ _ _ _ _ => trivial⟩
def Fact.way (zs : List Int) : Fact 28 := ⟨fun v W => ∃ t u, v = .iface t u ∧ IsWay W (.iface t u) zs, fun _ _ _ ⟨t, u, e, h⟩ hB => ⟨t, u, e, h.below hB⟩, fun _ _ _ ⟨t, u, e, h⟩ hB => ⟨t, u, e, h.still (by decide) (by decide) (by decide) hB⟩⟩
def Fact.set (n rep : Int) (zs : List Int) : Fact 28 := ⟨fun v W => ∃ t u, v = .agg #[.int .i64 n, .int .i64 rep, .iface t u] ∧ IsSet W n rep (.iface t u) zs, fun _ _ _ ⟨t, u, e, h⟩ hB => ⟨t, u, e, h.below hB⟩, fun _ _ _ ⟨t, u, e, h⟩ hB => ⟨t, u, e, h.still hB⟩⟩
def Fact.gives (zs : List Int) : Fact 28 := ⟨fun v W => ∃ gf lb D, v = .func (.func gf) #[] lb ∧ Gives D gf lb zs W ∧ ∀ k, D k → ∀ cs fr, W.heap[k]? ≠ some (.cells cs 28 fr),
  fun _ _ W' ⟨gf, lb, D, e, h, hn⟩ hB => ⟨gf, lb, D, e, h.below hB, fun k hk cs fr => by rw [hB.block k (h.cells.lt hk)]; exact hn k hk cs fr⟩,
  fun _ _ W' ⟨gf, lb, D, e, h, hn⟩ hB => by
    have hk : Keep D _ W' := fun k hk => hB.block k (h.cells.lt hk) (hn k hk)
    exact ⟨gf, lb, D, e, h.keep hk, fun k hd cs fr => by rw [hk k hd]; exact hn k hd cs fr⟩⟩
theorem bel {W W' : World} {B : Nat} {t : TypeId} {v : Value} (h : Boxed W B t v) (hB : Below W.heap.size W W') : Boxed W' B t v := (hB.block B h.lt).trans h
theorem HoldsF.below {D : Nat → Prop} {g : Nat} {lb : Array Value} {p : Int → Bool} {w W : World} {n : Nat} (h : HoldsF D g lb p w) (hn : n = w.heap.size) (hB : Below n w W) : HoldsF D g lb p W := by
  subst hn
  exact ⟨h.cells.below hB, h.enters, fun W' x hk => h.calls W' x ((Keep.of_below hB (fun k hk => h.cells.lt hk)).trans hk)⟩
/-- A box of a set. -/
def SBox (W : World) (B : Nat) (x y z : Value) : Prop := W.heap[B]? = some (.cells #[x, y, z] 28 (0, 0))
theorem SBox.lt {W : World} {B : Nat} {x y z : Value} (h : SBox W B x y z) : B < W.heap.size := (Array.getElem?_eq_some_iff.1 h).1
theorem SBox.new (W : World) (x y z : Value) : SBox (W.alloc (.cells #[x, y, z] 28)) W.heap.size x y z := World.alloc_heap_new W _
theorem SBox.below {W W' : World} {B : Nat} {x y z : Value} (h : SBox W B x y z) (hB : Below W.heap.size W W') : SBox W' B x y z := (hB.block B h.lt).trans h
theorem SBox.alloc {W : World} {B : Nat} {x y z : Value} (h : SBox W B x y z) (o : Obj) : SBox (W.alloc o) B x y z := (Below.heap_alloc W o B h.lt).trans h
theorem SBox.cells {W : World} {B : Nat} {x y z : Value} (h : SBox W B x y z) :
    W.cell? ⟨B, 0, none⟩ = some x ∧ W.cell? ⟨B, 1, none⟩ = some y ∧ W.cell? ⟨B, 2, none⟩ = some z ∧ W.frozen? ⟨B, 0, none⟩ = false ∧ W.frozen? ⟨B, 1, none⟩ = false ∧ W.frozen? ⟨B, 2, none⟩ = false := by
  have h' : W.heap[B]? = some (.cells #[x, y, z] 28 (0, 0)) := h
  refine ⟨?_, ?_, ?_, ?_, ?_, ?_⟩ <;> simp [World.cell?, World.frozen?, h']
/-- The world behind a set's store. -/
def set3 (W : World) (B : Nat) (x y z : Value) : World := ((W.setCell ⟨B, 0, none⟩ x).setCell ⟨B, 1, none⟩ y).setCell ⟨B, 2, none⟩ z
theorem heap_set' {W : World} {g : Nat} {cur : Array Value} {e : TypeId} (i : Nat) (u : Value) (h : W.heap[g]? = some (.cells cur e (0, 0))) : (W.setCell ⟨g, i, none⟩ u).heap[g]? = some (.cells (cur.setIfInBounds i u) e (0, 0)) := heap_set i u h
theorem SBox.set {W : World} {B : Nat} {x y z : Value} (h : SBox W B x y z) (x' y' z' : Value) : SBox (set3 W B x' y' z') B x' y' z' := by
  have h1 := heap_set' 0 x' h
  have h2 := heap_set' 1 y' h1
  exact heap_set' 2 z' h2
theorem set3_other (W : World) (B : Nat) (x y z : Value) {k : Nat} (hk : k ≠ B) : (set3 W B x y z).heap[k]? = W.heap[k]? :=
  ((Below.heap_setCell _ _ _ k hk).trans (Below.heap_setCell _ _ _ k hk)).trans (Below.heap_setCell _ _ _ k hk)
theorem set3_size (W : World) (B : Nat) (x y z : Value) : (set3 W B x y z).heap.size = W.heap.size := by simp [set3, World.setCell]
theorem SBox.still {W : World} {B : Nat} {x y z : Value} (h : SBox W B x y z) (x' y' z' : Value) : Still 28 W (set3 W B x' y' z') :=
  ⟨rfl, rfl, rfl, by rw [set3_size]; exact Nat.le_refl _, fun k hk hn => set3_other W B x' y' z' (fun e => hn _ _ (e ▸ h))⟩
theorem below_set3 {n : Nat} {w W : World} {B : Nat} (h : Below n w W) (hB : n ≤ B) (x y z : Value) : Below n w (set3 W B x y z) :=
  ((h.setCell (p := ⟨B, 0, none⟩) hB x).setCell (p := ⟨B, 1, none⟩) hB y).setCell (p := ⟨B, 2, none⟩) hB z
theorem boxed_set3 {W : World} {b t B : Nat} {v : Value} (h : Boxed W b t v) (hne : b ≠ B) (x y z : Value) : Boxed (set3 W B x y z) b t v := (set3_other W B x y z hne).trans h
theorem sbox_set3 {W : World} {b B : Nat} {u v t : Value} (h : SBox W b u v t) (hne : b ≠ B) (x y z : Value) : SBox (set3 W B x y z) b u v t := (set3_other W B x y z hne).trans h
theorem results_set {fn : Func} {p : Tmp} (h : fn.results = #[.cell p 28]) (tmps : Array Value) (w : World) (B : Nat) (x y z : Value) (hp : tmps.getD p undef = .pointer (some ⟨B, 0, none⟩)) (hb : SBox w B x y z) :
    (results fn tmps).run Try.prog w = .ok (.agg #[x, y, z]) w := by
  obtain ⟨c0, c1, c2, _⟩ := hb.cells
  have hu28 := Try.underlying28
  have hp' : tmps[p]?.getD undef = .pointer (some ⟨B, 0, none⟩) := by simpa using hp
  simp [results, h, go_sem, hp', c0, c1, c2]
set_option maxRecDepth 100000 in
set_option maxHeartbeats 4000000 in
theorem some_any (n rep : Int) (g : Nat) (lb : Array Value) (D : Nat → Prop) (p : Int → Bool) (hn0 : 0 ≤ n) (hn1 : n ≤ 4096) (w : World) (h : HoldsF D g lb p w) :
    Calls Try.prog 40 #[.int .i64 n, .int .i64 rep, .func (.func g) #[] lb] w (SetPost n rep (filt n p) w) := by
  have hu28 := Try.underlying28
  go_enter Try.func40, Try.ntmps40
  go_wp2
  obtain ⟨w0, hw0⟩ : ∃ w0, ((w.alloc (.cells #[.int .i64 n] 3)).alloc (.cells #[.func (.func g) #[] lb] 35)).alloc (.cells #[.int .i64 0, .int .i64 0, .nilIface] 28) = w0 := ⟨_, rfl⟩
  have hB0 : Below w.heap.size w w0 := by rw [← hw0]; exact ((((Below.refl _ w).alloc (Nat.le_refl _) _).alloc (by simp) _).alloc (by simp; omega) _)
  have b0 : Boxed w0 w.heap.size 3 (.int .i64 n) := by rw [← hw0]; exact ((Boxed.new w 3 _).alloc _).alloc _
  have b1 : Boxed w0 (w.heap.size + 1) 35 (.func (.func g) #[] lb) := by rw [← hw0]; have := (Boxed.new (w.alloc (.cells #[.int .i64 n] 3)) 35 (.func (.func g) #[] lb)).alloc (.cells #[.int .i64 0, .int .i64 0, .nilIface] 28); rwa [World.size_alloc] at this
  have b2 : SBox w0 (w.heap.size + 1 + 1) (.int .i64 0) (.int .i64 0) .nilIface := by rw [← hw0]; have := SBox.new ((w.alloc (.cells #[.int .i64 n] 3)).alloc (.cells #[.func (.func g) #[] lb] 35)) (.int .i64 0) (.int .i64 0) .nilIface; rwa [World.size_alloc, World.size_alloc] at this
  rw [hw0]
  clear hw0
  refine wp_region_still (t := 28) (by kernel_rfl) [Fact.eq (.int .i64 n), Fact.eq (.int .i64 rep), Fact.eq (.int .i64 n), Fact.eq (.int .i64 rep), Fact.eq (.func (.func 53) #[] #[.pointer (some ⟨w.heap.size, 0, none⟩), .pointer (some ⟨w.heap.size + 1, 0, none⟩)]), Fact.way (filt n p), Fact.set n rep (filt n p), Fact.top]
    (fun W => Below w.heap.size w W ∧ Boxed W w.heap.size 3 (.int .i64 n) ∧ Boxed W (w.heap.size + 1) 35 (.func (.func g) #[] lb) ∧ ∃ x y z, SBox W (w.heap.size + 1 + 1) x y z)
    (fun W => ∃ t u, SBox W (w.heap.size + 1 + 1) (.int .i64 n) (.int .i64 rep) (.iface t u) ∧ IsSet W n rep (.iface t u) (filt n p)) 7 (by kernel_rfl) (by kernel_rfl) ?I0 ?I1 ?S1 ?steps ?done
  case I0 => exact ⟨hB0.drew, b0, b1, _, _, _, b2⟩
  case I1 => exact fun W W' ⟨h1, h2, h3, x, y, z, h4⟩ hB => ⟨h1.trans (hB.mono h1.size), bel h2 hB, bel h3 hB, x, y, z, h4.below hB⟩
  case S1 => exact fun W W' ⟨t, u, h1, h2⟩ hB => ⟨t, u, h1.below hB, h2.below hB⟩
  case steps =>
    intro mk hmk
    simp only [dstsOf, putAll, List.map_cons, List.map_nil, Nat.reduceAdd, Act.put, List.setIfInBounds_toArray, List.set_cons_zero, List.set_cons_succ] at hmk
    refine Steps.cons (i := 0) rfl ?s0 (Steps.cons (i := 1) rfl ?s1 (Steps.cons (i := 2) rfl ?s2 (Steps.cons (i := 3) rfl ?s3 (Steps.cons (i := 4) rfl ?s4 (Steps.cons (i := 5) rfl ?s5 (Steps.cons (i := 6) rfl ?s6 (Steps.store (i := 7) rfl ?s7 (Steps.nil))))))))
    case s0 =>
      intro σ W hI hT
      obtain ⟨hB, h0, h1, x, y, z, h2⟩ := hI; have c0 := h0.cell; obtain ⟨c1, c2, c3, c4, c5, c6⟩ := h2.cells
      clear hT
      refine .inl ⟨rfl, fun K hK => ?_⟩
      rw [hmk] at hK ⊢
      simp only [Act.put, List.setIfInBounds_toArray, List.set_cons_zero, List.set_cons_succ] at hK
      have HK := Aside0.mk hK
      clear hK
      go_wp2
      exact HK.out _ _ rfl (Below.refl _ _)
    case s1 =>
      intro σ W hI hT
      obtain ⟨hB, h0, h1, x, y, z, h2⟩ := hI; have c0 := h0.cell; obtain ⟨c1, c2, c3, c4, c5, c6⟩ := h2.cells
      clear hT
      refine .inl ⟨rfl, fun K hK => ?_⟩
      rw [hmk] at hK ⊢
      simp only [Act.put, List.setIfInBounds_toArray, List.set_cons_zero, List.set_cons_succ] at hK
      have HK := Aside0.mk hK
      clear hK
      go_wp2
      exact HK.out _ _ rfl (Below.refl _ _)
    case s2 =>
      intro σ W hI hT
      obtain ⟨hB, h0, h1, x, y, z, h2⟩ := hI; have c0 := h0.cell; obtain ⟨c1, c2, c3, c4, c5, c6⟩ := h2.cells
      clear hT
      refine .inl ⟨rfl, fun K hK => ?_⟩
      rw [hmk] at hK ⊢
      simp only [Act.put, List.setIfInBounds_toArray, List.set_cons_zero, List.set_cons_succ] at hK
      have HK := Aside0.mk hK
      clear hK
      go_wp2
      exact HK.out _ _ rfl (Below.refl _ _)
    case s3 =>
      intro σ W hI hT
      obtain ⟨hB, h0, h1, x, y, z, h2⟩ := hI; have c0 := h0.cell; obtain ⟨c1, c2, c3, c4, c5, c6⟩ := h2.cells
      clear hT
      refine .inl ⟨rfl, fun K hK => ?_⟩
      rw [hmk] at hK ⊢
      simp only [Act.put, List.setIfInBounds_toArray, List.set_cons_zero, List.set_cons_succ] at hK
      have HK := Aside0.mk hK
      clear hK
      go_wp2
      exact HK.out _ _ rfl (Below.refl _ _)
    case s4 =>
      intro σ W hI hT
      obtain ⟨hB, h0, h1, x, y, z, h2⟩ := hI; have c0 := h0.cell; obtain ⟨c1, c2, c3, c4, c5, c6⟩ := h2.cells
      clear hT
      refine .inl ⟨rfl, fun K hK => ?_⟩
      rw [hmk] at hK ⊢
      simp only [Act.put, List.setIfInBounds_toArray, List.set_cons_zero, List.set_cons_succ] at hK
      have HK := Aside0.mk hK
      clear hK
      go_wp2
      exact HK.out _ _ rfl (Below.refl _ _)
    case s5 =>
      intro σ W hI hT
      obtain ⟨hB, h0, h1, x, y, z, h2⟩ := hI; have c0 := h0.cell; obtain ⟨c1, c2, c3, c4, c5, c6⟩ := h2.cells
      have e2 : σ 2 = .int .i64 n := hT 2 (by kernel_rfl)
      have e3 : σ 3 = .int .i64 rep := hT 3 (by kernel_rfl)
      have e4 : σ 4 = .func (.func 53) #[] #[.pointer (some ⟨w.heap.size, 0, none⟩), .pointer (some ⟨w.heap.size + 1, 0, none⟩)] := hT 4 (by kernel_rfl)
      clear hT
      refine .inl ⟨rfl, fun K hK => ?_⟩
      rw [hmk] at hK ⊢
      simp only [Act.put, List.setIfInBounds_toArray, List.set_cons_zero, List.set_cons_succ] at hK
      rw [e2, e3, e4] at hK ⊢
      clear e2 e3 e4
      have HK := Aside0.mk hK
      clear hK
      have hcon := build_any n rep 53 _ _ (filt n p) hn0 hn1 (rising_filt _ _) W (gives_some _ _ D g lb p n hn0 hn1 W (h.below rfl hB) h0 h1)
      go_wp2_with (go_at_call 37; refine hcon.mono ?_; clear hcon; rintro e w' ⟨t, u, rfl, hw, hb⟩)
      exact HK.out _ _ ⟨_, _, rfl, hw⟩ hb
    case s6 =>
      intro σ W hI hT
      obtain ⟨hB, h0, h1, x, y, z, h2⟩ := hI; have c0 := h0.cell; obtain ⟨c1, c2, c3, c4, c5, c6⟩ := h2.cells
      have e0 : σ 0 = .int .i64 n := hT 0 (by kernel_rfl)
      have e1 : σ 1 = .int .i64 rep := hT 1 (by kernel_rfl)
      obtain ⟨t5, u5, e5, f5⟩ := hT 5 (by kernel_rfl)
      clear hT
      refine .inl ⟨rfl, fun K hK => ?_⟩
      rw [hmk] at hK ⊢
      simp only [Act.put, List.setIfInBounds_toArray, List.set_cons_zero, List.set_cons_succ] at hK
      rw [e0, e1, e5] at hK ⊢
      clear e0 e1 e5
      have HK := Aside0.mk hK
      clear hK
      go_wp2
      exact HK.out _ _ ⟨_, _, rfl, f5, rising_filt _ _, hn0, hn1⟩ (Below.refl _ _)
    case s7 =>
      intro σ W hI hT
      obtain ⟨hB, h0, h1, x, y, z, h2⟩ := hI; have c0 := h0.cell; obtain ⟨c1, c2, c3, c4, c5, c6⟩ := h2.cells
      obtain ⟨t6, u6, e6, f6⟩ := hT 6 (by kernel_rfl)
      clear hT
      refine ⟨rfl, fun K hK => ?_⟩
      rw [hmk] at hK ⊢
      simp only [Act.put] at hK
      rw [e6] at hK ⊢
      clear e6
      have HK := Aside0.mk hK
      clear hK
      go_wp2
      exact HK.out undef _ trivial (h2.still _ _ _) ⟨below_set3 hB (by omega) _ _ _, boxed_set3 h0 (by omega) _ _ _, boxed_set3 h1 (by omega) _ _ _, _, _, _, h2.set _ _ _⟩ ⟨_, _, h2.set _ _ _, f6.still (h2.still _ _ _)⟩
  case done =>
    intro mk hmk σ W hI hS hT
    simp only [dstsOf, putAll, List.map_cons, List.map_nil, Nat.reduceAdd, Act.put, List.setIfInBounds_toArray, List.set_cons_zero, List.set_cons_succ] at hmk
    rw [hmk]
    obtain ⟨t, u, hb, hS⟩ := hS (by decide)
    go_wp2
    refine bodyPost_ret (results_set rfl _ _ _ _ _ _ rfl hb) rfl ?_
    exact ⟨t, u, rfl, hS, hI.1⟩
end Go.Proofs.Ytbjdnfnolhahgaa.F
