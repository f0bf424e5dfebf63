/- alike: is a set the document's? The walk. -/
import Derived.Test.YtbjdnfnolhahgaaShown
namespace Go.Proofs.Ytbjdnfnolhahgaa.F
open Go.RowKit Go.Shelf Go.Proofs.YtbjdnfnolhahgaaW.PrintWords
set_option linter.unusedVariables false
/-- A block that holds a document's set. -/
def PBox (W : World) (B : Nat) (x y : Value) : Prop := W.heap[B]? = some (.cells #[x, y] 48 (0, 0))
theorem PBox.lt {W : World} {B : Nat} {x y : Value} (h : PBox W B x y) : B < W.heap.size := (Array.getElem?_eq_some_iff.1 h).1
theorem PBox.new (W : World) (x y : Value) : PBox (W.alloc (.cells #[x, y] 48)) W.heap.size x y := World.alloc_heap_new W _
theorem PBox.below {W W' : World} {B : Nat} {x y : Value} (h : PBox W B x y) (hB : Below W.heap.size W W') : PBox W' B x y := (hB.block B h.lt).trans h
theorem PBox.cells {W : World} {B : Nat} {x y : Value} (h : PBox W B x y) :
    W.cell? ⟨B, 0, none⟩ = some x ∧ W.cell? ⟨B, 1, none⟩ = some y ∧ W.frozen? ⟨B, 0, none⟩ = false ∧ W.frozen? ⟨B, 1, none⟩ = false := by
  have h' : W.heap[B]? = some (.cells #[x, y] 48 (0, 0)) := h
  refine ⟨?_, ?_, ?_, ?_⟩ <;> simp [World.cell?, World.frozen?, h']
def Fact.rowI (zs : List Int) : Fact 28 := ⟨fun v W => (Kd.int .i64).R 3 W 0 (fun _ => True) v zs, fun v W W' ⟨_, inner, own, reps⟩ hB => ⟨fun _ _ => trivial, inner, own_below own hB, reps⟩, fun v W W' ⟨_, inner, own, reps⟩ hB => ⟨fun _ _ => trivial, inner, own_still own (by decide) hB, reps⟩⟩
theorem rowI_own {W : World} {base : Nat} {v : Value} {zs : List Int} (h : W.ownsRow base 3 1 v zs.length (zs.map (Value.int .i64))) : (Kd.int .i64).R 3 W 0 (fun _ => True) v zs :=
  Kd.R_of_own (by simpa [encs] using own_weaken h (Nat.zero_le _)) (fun _ _ => trivial)
set_option maxRecDepth 100000 in
set_option maxHeartbeats 8000000 in
theorem alike_any (n rep at_ : Int) (wv u : Value) (zs : List Int) (w : World) (hS : IsSet w n rep wv zs) (hR : Kd.bool.R 4 w 0 (fun _ => True) u (bsOf n zs)) :
    Calls Try.prog 24 #[setV n rep wv, .agg #[u, .int .i64 rep], .int .i64 at_] w fun e w' => e = .returned (.bool true) ∧ Below w.heap.size w w' := by
  have hu28 := Try.underlying28
  have hu48 := Try.underlying48
  obtain ⟨A, c, rfl, hc, hC⟩ := Kd.R_reads hR
  have HL : Aside0 (n = ((bsOf n zs).length : Int)) := ⟨by rw [bsOf_length]; have := hS.n0; omega⟩
  have hB0 := ((Below.refl w.heap.size w).alloc (Nat.le_refl _) (.cells #[.int .i64 n, .int .i64 rep, wv] 28)).alloc (by simp) (.cells #[.slice A (bsOf n zs).length c, .int .i64 rep] 48)
  have hp := PBox.new (w.alloc (.cells #[.int .i64 n, .int .i64 rep, wv] 28)) (.slice A (bsOf n zs).length c) (.int .i64 rep)
  rw [World.size_alloc] at hp
  have HH := Aside0.mk (And.intro hB0 (And.intro ((SBox.new w (.int .i64 n) (.int .i64 rep) wv).alloc (.cells #[.slice A (bsOf n zs).length c, .int .i64 rep] 48)) (And.intro (hS.below hB0) (And.intro hp (Kd.C_below hC hB0)))))
  unfold setV
  clear hS hR hC hB0 hp
  go_enter Try.func24, Try.ntmps24
  go_wp2_with (fail)
  refine wp_region_still (t := 28) (by kernel_rfl) [Fact.eq (.agg #[.int .i64 n, .int .i64 rep, wv]), Fact.eq (.int .i64 n), Fact.eq (.pointer (some ⟨w.heap.size + 1, 0, none⟩)), Fact.eq (.slice A (bsOf n zs).length c), Fact.eq (.int .i64 n), Fact.eq (.bool true), Fact.eq (.bool true), Fact.eq (.agg #[.int .i64 n, .int .i64 rep, wv]), Fact.eq (.int .i64 rep), Fact.eq (.pointer (some ⟨w.heap.size + 1, 1, none⟩)), Fact.eq (.int .i64 rep), Fact.eq (.bool true), Fact.eq (.bool true), Fact.eq (.bool true), Fact.eq (.agg #[.int .i64 n, .int .i64 rep, wv]), Fact.rowI zs, Fact.eq (.agg #[.slice A (bsOf n zs).length c, .int .i64 rep]), Fact.rowI zs, Fact.eq (.bool true), Fact.eq (.bool true), Fact.eq (.bool true), Fact.eq (.agg #[.int .i64 n, .int .i64 rep, wv]), Fact.eq (.int .i64 at_), Fact.eq (.bool (inZ zs at_)), Fact.eq (.agg #[.slice A (bsOf n zs).length c, .int .i64 rep]), Fact.eq (.int .i64 at_), Fact.eq (.bool (inZ zs at_)), Fact.eq (.bool true), Fact.eq (.bool true), Fact.eq (.bool true), Fact.eq (.agg #[.int .i64 n, .int .i64 rep, wv]), Fact.eq (.int .i64 at_), Fact.eq (.int .i64 (rankZ zs at_)), Fact.eq (.agg #[.slice A (bsOf n zs).length c, .int .i64 rep]), Fact.eq (.int .i64 at_), Fact.eq (.int .i64 (rankZ zs at_)), Fact.eq (.bool true), Fact.eq (.bool true), Fact.eq (.bool true)]
    (fun W => Below w.heap.size w W ∧ SBox W w.heap.size (.int .i64 n) (.int .i64 rep) wv ∧ IsSet W n rep wv zs ∧ PBox W (w.heap.size + 1) (.slice A (bsOf n zs).length c) (.int .i64 rep) ∧ Kd.bool.C W A (bsOf n zs).length (bsOf n zs))
    (fun _ => True) 39 (by kernel_rfl) (by kernel_rfl) ?I0 ?I1 ?S1 ?steps ?done
  case I0 => exact ⟨HH.out.1.drew, HH.out.2.1.below ((Below.refl _ _).drew), HH.out.2.2.1.below ((Below.refl _ _).drew), HH.out.2.2.2.1.below ((Below.refl _ _).drew), Kd.C_below HH.out.2.2.2.2 ((Below.refl _ _).drew)⟩
  case I1 => exact fun W W' ⟨h1, h2, h3, h4, h5⟩ hB => ⟨h1.trans (hB.mono h1.size), h2.below hB, h3.below hB, h4.below hB, Kd.C_below h5 hB⟩
  case S1 => exact fun _ _ _ _ => trivial
  case steps =>
    intro mk hmk
    simp only [dstsOf, putAll, List.map_cons, List.map_nil, Nat.reduceAdd, Act.put, List.setIfInBounds_toArray, List.set_cons_zero, List.set_cons_succ] at hmk
    refine Steps.cons (i := 0) rfl ?s0 (Steps.cons (i := 1) rfl ?s1 (Steps.cons (i := 2) rfl ?s2 (Steps.cons (i := 3) rfl ?s3 (Steps.cons (i := 4) rfl ?s4 (Steps.cons (i := 5) rfl ?s5 (Steps.cons (i := 6) rfl ?s6 (Steps.cons (i := 7) rfl ?s7 (Steps.cons (i := 8) rfl ?s8 (Steps.cons (i := 9) rfl ?s9 (Steps.cons (i := 10) rfl ?s10 (Steps.cons (i := 11) rfl ?s11 (Steps.cons (i := 12) rfl ?s12 (Steps.cons (i := 13) rfl ?s13 (Steps.cons (i := 14) rfl ?s14 (Steps.cons (i := 15) rfl ?s15 (Steps.cons (i := 16) rfl ?s16 (Steps.cons (i := 17) rfl ?s17 (Steps.cons (i := 18) rfl ?s18 (Steps.cons (i := 19) rfl ?s19 (Steps.cons (i := 20) rfl ?s20 (Steps.cons (i := 21) rfl ?s21 (Steps.cons (i := 22) rfl ?s22 (Steps.cons (i := 23) rfl ?s23 (Steps.cons (i := 24) rfl ?s24 (Steps.cons (i := 25) rfl ?s25 (Steps.cons (i := 26) rfl ?s26 (Steps.cons (i := 27) rfl ?s27 (Steps.cons (i := 28) rfl ?s28 (Steps.cons (i := 29) rfl ?s29 (Steps.cons (i := 30) rfl ?s30 (Steps.cons (i := 31) rfl ?s31 (Steps.cons (i := 32) rfl ?s32 (Steps.cons (i := 33) rfl ?s33 (Steps.cons (i := 34) rfl ?s34 (Steps.cons (i := 35) rfl ?s35 (Steps.cons (i := 36) rfl ?s36 (Steps.cons (i := 37) rfl ?s37 (Steps.cons (i := 38) rfl ?s38 (Steps.nil)))))))))))))))))))))))))))))))))))))))
    case s0 =>
      intro σ W hI hT
      obtain ⟨hB, h0, hS, hP, hC⟩ := hI; obtain ⟨k0, k1, k2, _⟩ := h0.cells; obtain ⟨k3, k4, _⟩ := hP.cells
      clear hT
      refine .inl ⟨rfl, fun K hK => ?_⟩
      rw [hmk] at hK ⊢
      simp only [Act.put, List.setIfInBounds_toArray, List.set_cons_zero, List.set_cons_succ] at hK
      have HK := Aside0.mk hK
      clear hK
      go_wp2
      exact HK.out _ _ rfl (Below.refl _ _)
    case s1 =>
      intro σ W hI hT
      obtain ⟨hB, h0, hS, hP, hC⟩ := hI; obtain ⟨k0, k1, k2, _⟩ := h0.cells; obtain ⟨k3, k4, _⟩ := hP.cells
      have e0 : σ 0 = .agg #[.int .i64 n, .int .i64 rep, wv] := hT 0 (by kernel_rfl)
      clear hT
      refine .inl ⟨rfl, fun K hK => ?_⟩
      rw [hmk] at hK ⊢
      simp only [Act.put, List.setIfInBounds_toArray, List.set_cons_zero, List.set_cons_succ] at hK
      rw [e0] at hK ⊢
      clear e0
      have HK := Aside0.mk hK
      clear hK
      have hcon := len_any n rep wv W
      unfold setV at hcon
      go_wp2_with (go_at_call 18; refine hcon.mono ?_; clear hcon; rintro e w' ⟨rfl, hb⟩)
      exact HK.out _ _ rfl hb
    case s2 =>
      intro σ W hI hT
      obtain ⟨hB, h0, hS, hP, hC⟩ := hI; obtain ⟨k0, k1, k2, _⟩ := h0.cells; obtain ⟨k3, k4, _⟩ := hP.cells
      clear hT
      refine .inl ⟨rfl, fun K hK => ?_⟩
      rw [hmk] at hK ⊢
      simp only [Act.put, List.setIfInBounds_toArray, List.set_cons_zero, List.set_cons_succ] at hK
      have HK := Aside0.mk hK
      clear hK
      go_wp2
      exact HK.out _ _ rfl (Below.refl _ _)
    case s3 =>
      intro σ W hI hT
      obtain ⟨hB, h0, hS, hP, hC⟩ := hI; obtain ⟨k0, k1, k2, _⟩ := h0.cells; obtain ⟨k3, k4, _⟩ := hP.cells
      have e2 : σ 2 = .pointer (some ⟨w.heap.size + 1, 0, none⟩) := hT 2 (by kernel_rfl)
      clear hT
      refine .inl ⟨rfl, fun K hK => ?_⟩
      rw [hmk] at hK ⊢
      simp only [Act.put, List.setIfInBounds_toArray, List.set_cons_zero, List.set_cons_succ] at hK
      rw [e2] at hK ⊢
      clear e2
      have HK := Aside0.mk hK
      clear hK
      go_wp2
      exact HK.out _ _ rfl (Below.refl _ _)
    case s4 =>
      intro σ W hI hT
      obtain ⟨hB, h0, hS, hP, hC⟩ := hI; obtain ⟨k0, k1, k2, _⟩ := h0.cells; obtain ⟨k3, k4, _⟩ := hP.cells
      have e3 : σ 3 = .slice A (bsOf n zs).length c := hT 3 (by kernel_rfl)
      clear hT
      refine .inl ⟨rfl, fun K hK => ?_⟩
      rw [hmk] at hK ⊢
      simp only [Act.put, List.setIfInBounds_toArray, List.set_cons_zero, List.set_cons_succ] at hK
      rw [e3] at hK ⊢
      clear e3
      have HK := Aside0.mk hK
      clear hK
      go_wp2
      exact HK.out _ _ (congrArg (Value.int .i64) HL.out.symm) (Below.refl _ _)
    case s5 =>
      intro σ W hI hT
      obtain ⟨hB, h0, hS, hP, hC⟩ := hI; obtain ⟨k0, k1, k2, _⟩ := h0.cells; obtain ⟨k3, k4, _⟩ := hP.cells
      have e1 : σ 1 = .int .i64 n := hT 1 (by kernel_rfl)
      have e4 : σ 4 = .int .i64 n := hT 4 (by kernel_rfl)
      clear hT
      refine .inl ⟨rfl, fun K hK => ?_⟩
      rw [hmk] at hK ⊢
      simp only [Act.put, List.setIfInBounds_toArray, List.set_cons_zero, List.set_cons_succ] at hK
      rw [e1, e4] at hK ⊢
      clear e1 e4
      have HK := Aside0.mk hK
      clear hK
      go_wp2
      exact HK.out _ _ rfl (Below.refl _ _)
    case s6 =>
      intro σ W hI hT
      obtain ⟨hB, h0, hS, hP, hC⟩ := hI; obtain ⟨k0, k1, k2, _⟩ := h0.cells; obtain ⟨k3, k4, _⟩ := hP.cells
      have e5 : σ 5 = .bool true := hT 5 (by kernel_rfl)
      clear hT
      refine .inl ⟨rfl, fun K hK => ?_⟩
      rw [hmk] at hK ⊢
      simp only [Act.put, List.setIfInBounds_toArray, List.set_cons_zero, List.set_cons_succ] at hK
      rw [e5] at hK ⊢
      clear e5
      have HK := Aside0.mk hK
      clear hK
      go_wp2
      exact HK.out _ _ rfl (Below.refl _ _)
    case s7 =>
      intro σ W hI hT
      obtain ⟨hB, h0, hS, hP, hC⟩ := hI; obtain ⟨k0, k1, k2, _⟩ := h0.cells; obtain ⟨k3, k4, _⟩ := hP.cells
      have e6 : σ 6 = .bool true := hT 6 (by kernel_rfl)
      clear hT
      refine .inl ⟨by rw [hmk]; simp [Region.wanted, yielded, e6], fun K hK => ?_⟩
      rw [hmk] at hK ⊢
      simp only [Act.put, List.setIfInBounds_toArray, List.set_cons_zero, List.set_cons_succ] at hK
      rw [e6] at hK ⊢
      clear e6
      have HK := Aside0.mk hK
      clear hK
      go_wp2
      exact HK.out _ _ rfl (Below.refl _ _)
    case s8 =>
      intro σ W hI hT
      obtain ⟨hB, h0, hS, hP, hC⟩ := hI; obtain ⟨k0, k1, k2, _⟩ := h0.cells; obtain ⟨k3, k4, _⟩ := hP.cells
      have e6 : σ 6 = .bool true := hT 6 (by kernel_rfl)
      have e7 : σ 7 = .agg #[.int .i64 n, .int .i64 rep, wv] := hT 7 (by kernel_rfl)
      clear hT
      refine .inl ⟨by rw [hmk]; simp [Region.wanted, yielded, e6], fun K hK => ?_⟩
      rw [hmk] at hK ⊢
      simp only [Act.put, List.setIfInBounds_toArray, List.set_cons_zero, List.set_cons_succ] at hK
      rw [e6, e7] at hK ⊢
      clear e6 e7
      have HK := Aside0.mk hK
      clear hK
      have hcon := rep_any n rep wv W
      unfold setV at hcon
      go_wp2_with (go_at_call 27; refine hcon.mono ?_; clear hcon; rintro e w' ⟨rfl, hb⟩)
      exact HK.out _ _ rfl hb
    case s9 =>
      intro σ W hI hT
      obtain ⟨hB, h0, hS, hP, hC⟩ := hI; obtain ⟨k0, k1, k2, _⟩ := h0.cells; obtain ⟨k3, k4, _⟩ := hP.cells
      have e6 : σ 6 = .bool true := hT 6 (by kernel_rfl)
      clear hT
      refine .inl ⟨by rw [hmk]; simp [Region.wanted, yielded, e6], fun K hK => ?_⟩
      rw [hmk] at hK ⊢
      simp only [Act.put, List.setIfInBounds_toArray, List.set_cons_zero, List.set_cons_succ] at hK
      rw [e6] at hK ⊢
      clear e6
      have HK := Aside0.mk hK
      clear hK
      go_wp2
      exact HK.out _ _ rfl (Below.refl _ _)
    case s10 =>
      intro σ W hI hT
      obtain ⟨hB, h0, hS, hP, hC⟩ := hI; obtain ⟨k0, k1, k2, _⟩ := h0.cells; obtain ⟨k3, k4, _⟩ := hP.cells
      have e6 : σ 6 = .bool true := hT 6 (by kernel_rfl)
      have e9 : σ 9 = .pointer (some ⟨w.heap.size + 1, 1, none⟩) := hT 9 (by kernel_rfl)
      clear hT
      refine .inl ⟨by rw [hmk]; simp [Region.wanted, yielded, e6], fun K hK => ?_⟩
      rw [hmk] at hK ⊢
      simp only [Act.put, List.setIfInBounds_toArray, List.set_cons_zero, List.set_cons_succ] at hK
      rw [e6, e9] at hK ⊢
      clear e6 e9
      have HK := Aside0.mk hK
      clear hK
      go_wp2
      exact HK.out _ _ rfl (Below.refl _ _)
    case s11 =>
      intro σ W hI hT
      obtain ⟨hB, h0, hS, hP, hC⟩ := hI; obtain ⟨k0, k1, k2, _⟩ := h0.cells; obtain ⟨k3, k4, _⟩ := hP.cells
      have e6 : σ 6 = .bool true := hT 6 (by kernel_rfl)
      have e8 : σ 8 = .int .i64 rep := hT 8 (by kernel_rfl)
      have e10 : σ 10 = .int .i64 rep := hT 10 (by kernel_rfl)
      clear hT
      refine .inl ⟨by rw [hmk]; simp [Region.wanted, yielded, e6], fun K hK => ?_⟩
      rw [hmk] at hK ⊢
      simp only [Act.put, List.setIfInBounds_toArray, List.set_cons_zero, List.set_cons_succ] at hK
      rw [e6, e8, e10] at hK ⊢
      clear e6 e8 e10
      have HK := Aside0.mk hK
      clear hK
      go_wp2
      exact HK.out _ _ rfl (Below.refl _ _)
    case s12 =>
      intro σ W hI hT
      obtain ⟨hB, h0, hS, hP, hC⟩ := hI; obtain ⟨k0, k1, k2, _⟩ := h0.cells; obtain ⟨k3, k4, _⟩ := hP.cells
      have e6 : σ 6 = .bool true := hT 6 (by kernel_rfl)
      have e11 : σ 11 = .bool true := hT 11 (by kernel_rfl)
      clear hT
      refine .inl ⟨rfl, fun K hK => ?_⟩
      rw [hmk] at hK ⊢
      simp only [Act.put, List.setIfInBounds_toArray, List.set_cons_zero, List.set_cons_succ] at hK
      rw [e6, e11] at hK ⊢
      clear e6 e11
      have HK := Aside0.mk hK
      clear hK
      go_wp2
      exact HK.out _ _ rfl (Below.refl _ _)
    case s13 =>
      intro σ W hI hT
      obtain ⟨hB, h0, hS, hP, hC⟩ := hI; obtain ⟨k0, k1, k2, _⟩ := h0.cells; obtain ⟨k3, k4, _⟩ := hP.cells
      have e12 : σ 12 = .bool true := hT 12 (by kernel_rfl)
      clear hT
      refine .inl ⟨rfl, fun K hK => ?_⟩
      rw [hmk] at hK ⊢
      simp only [Act.put, List.setIfInBounds_toArray, List.set_cons_zero, List.set_cons_succ] at hK
      rw [e12] at hK ⊢
      clear e12
      have HK := Aside0.mk hK
      clear hK
      go_wp2
      exact HK.out _ _ rfl (Below.refl _ _)
    case s14 =>
      intro σ W hI hT
      obtain ⟨hB, h0, hS, hP, hC⟩ := hI; obtain ⟨k0, k1, k2, _⟩ := h0.cells; obtain ⟨k3, k4, _⟩ := hP.cells
      have e13 : σ 13 = .bool true := hT 13 (by kernel_rfl)
      clear hT
      refine .inl ⟨by rw [hmk]; simp [Region.wanted, yielded, e13], fun K hK => ?_⟩
      rw [hmk] at hK ⊢
      simp only [Act.put, List.setIfInBounds_toArray, List.set_cons_zero, List.set_cons_succ] at hK
      rw [e13] at hK ⊢
      clear e13
      have HK := Aside0.mk hK
      clear hK
      go_wp2
      exact HK.out _ _ rfl (Below.refl _ _)
    case s15 =>
      intro σ W hI hT
      obtain ⟨hB, h0, hS, hP, hC⟩ := hI; obtain ⟨k0, k1, k2, _⟩ := h0.cells; obtain ⟨k3, k4, _⟩ := hP.cells
      have e13 : σ 13 = .bool true := hT 13 (by kernel_rfl)
      have e14 : σ 14 = .agg #[.int .i64 n, .int .i64 rep, wv] := hT 14 (by kernel_rfl)
      clear hT
      refine .inl ⟨by rw [hmk]; simp [Region.wanted, yielded, e13], fun K hK => ?_⟩
      rw [hmk] at hK ⊢
      simp only [Act.put, List.setIfInBounds_toArray, List.set_cons_zero, List.set_cons_succ] at hK
      rw [e13, e14] at hK ⊢
      clear e13 e14
      have HK := Aside0.mk hK
      clear hK
      have hcon := list_any n rep wv zs W hS
      unfold setV at hcon
      go_wp2_with (go_at_call 13; refine hcon.mono ?_; clear hcon; rintro e w' ⟨v, rfl, hr, hb⟩)
      exact HK.out _ _ (rowI_own hr) hb
    case s16 =>
      intro σ W hI hT
      obtain ⟨hB, h0, hS, hP, hC⟩ := hI; obtain ⟨k0, k1, k2, _⟩ := h0.cells; obtain ⟨k3, k4, _⟩ := hP.cells
      have e13 : σ 13 = .bool true := hT 13 (by kernel_rfl)
      clear hT
      refine .inl ⟨by rw [hmk]; simp [Region.wanted, yielded, e13], fun K hK => ?_⟩
      rw [hmk] at hK ⊢
      simp only [Act.put, List.setIfInBounds_toArray, List.set_cons_zero, List.set_cons_succ] at hK
      rw [e13] at hK ⊢
      clear e13
      have HK := Aside0.mk hK
      clear hK
      go_wp2
      exact HK.out _ _ rfl (Below.refl _ _)
    case s17 =>
      intro σ W hI hT
      obtain ⟨hB, h0, hS, hP, hC⟩ := hI; obtain ⟨k0, k1, k2, _⟩ := h0.cells; obtain ⟨k3, k4, _⟩ := hP.cells
      have e13 : σ 13 = .bool true := hT 13 (by kernel_rfl)
      have e16 : σ 16 = .agg #[.slice A (bsOf n zs).length c, .int .i64 rep] := hT 16 (by kernel_rfl)
      clear hT
      refine .inl ⟨by rw [hmk]; simp [Region.wanted, yielded, e13], fun K hK => ?_⟩
      rw [hmk] at hK ⊢
      simp only [Act.put, List.setIfInBounds_toArray, List.set_cons_zero, List.set_cons_succ] at hK
      rw [e13, e16] at hK ⊢
      clear e13 e16
      have HK := Aside0.mk hK
      clear hK
      have hcon := astragalref12_List.calls (n.toNat + 1) A c (bsOf n zs) rep zs W hC hc (list_law _ n rep zs hS.n1 hS.rising (Nat.lt_succ_self _))
      go_wp2_with (go_at_call 45; refine hcon.mono ?_; clear hcon; rintro e w' ⟨v, rfl, hr, hb⟩)
      exact HK.out _ _ (Kd.R_lower hr (Nat.zero_le _)) hb
    case s18 =>
      intro σ W hI hT
      obtain ⟨hB, h0, hS, hP, hC⟩ := hI; obtain ⟨k0, k1, k2, _⟩ := h0.cells; obtain ⟨k3, k4, _⟩ := hP.cells
      have e13 : σ 13 = .bool true := hT 13 (by kernel_rfl)
      have f15 := hT 15 (by kernel_rfl)
      have f17 := hT 17 (by kernel_rfl)
      clear hT
      refine .inl ⟨by rw [hmk]; simp [Region.wanted, yielded, e13], fun K hK => ?_⟩
      rw [hmk] at hK ⊢
      simp only [Act.put, List.setIfInBounds_toArray, List.set_cons_zero, List.set_cons_succ] at hK
      rw [e13] at hK ⊢
      clear e13
      have HK := Aside0.mk hK
      clear hK
      obtain ⟨A1, c1, e1_, hc1, hC1⟩ := Kd.R_reads f15
      obtain ⟨A2, c2, e2_, hc2, hC2⟩ := Kd.R_reads f17
      rw [e1_, e2_] at HK ⊢
      have hcon := ints_any A1 c1 zs A2 c2 zs W hC1 hc1 hC2 hc2 (by have := hS.rising.length; have := hS.n1; omega)
      rw [decide_eq_true rfl] at hcon
      go_wp2_with (go_at_call 21; refine hcon.mono ?_; clear hcon; rintro e w' ⟨rfl, hb⟩)
      exact HK.out _ _ rfl hb
    case s19 =>
      intro σ W hI hT
      obtain ⟨hB, h0, hS, hP, hC⟩ := hI; obtain ⟨k0, k1, k2, _⟩ := h0.cells; obtain ⟨k3, k4, _⟩ := hP.cells
      have e13 : σ 13 = .bool true := hT 13 (by kernel_rfl)
      have e18 : σ 18 = .bool true := hT 18 (by kernel_rfl)
      clear hT
      refine .inl ⟨rfl, fun K hK => ?_⟩
      rw [hmk] at hK ⊢
      simp only [Act.put, List.setIfInBounds_toArray, List.set_cons_zero, List.set_cons_succ] at hK
      rw [e13, e18] at hK ⊢
      clear e13 e18
      have HK := Aside0.mk hK
      clear hK
      go_wp2
      exact HK.out _ _ rfl (Below.refl _ _)
    case s20 =>
      intro σ W hI hT
      obtain ⟨hB, h0, hS, hP, hC⟩ := hI; obtain ⟨k0, k1, k2, _⟩ := h0.cells; obtain ⟨k3, k4, _⟩ := hP.cells
      have e19 : σ 19 = .bool true := hT 19 (by kernel_rfl)
      clear hT
      refine .inl ⟨rfl, fun K hK => ?_⟩
      rw [hmk] at hK ⊢
      simp only [Act.put, List.setIfInBounds_toArray, List.set_cons_zero, List.set_cons_succ] at hK
      rw [e19] at hK ⊢
      clear e19
      have HK := Aside0.mk hK
      clear hK
      go_wp2
      exact HK.out _ _ rfl (Below.refl _ _)
    case s21 =>
      intro σ W hI hT
      obtain ⟨hB, h0, hS, hP, hC⟩ := hI; obtain ⟨k0, k1, k2, _⟩ := h0.cells; obtain ⟨k3, k4, _⟩ := hP.cells
      have e20 : σ 20 = .bool true := hT 20 (by kernel_rfl)
      clear hT
      refine .inl ⟨by rw [hmk]; simp [Region.wanted, yielded, e20], fun K hK => ?_⟩
      rw [hmk] at hK ⊢
      simp only [Act.put, List.setIfInBounds_toArray, List.set_cons_zero, List.set_cons_succ] at hK
      rw [e20] at hK ⊢
      clear e20
      have HK := Aside0.mk hK
      clear hK
      go_wp2
      exact HK.out _ _ rfl (Below.refl _ _)
    case s22 =>
      intro σ W hI hT
      obtain ⟨hB, h0, hS, hP, hC⟩ := hI; obtain ⟨k0, k1, k2, _⟩ := h0.cells; obtain ⟨k3, k4, _⟩ := hP.cells
      have e20 : σ 20 = .bool true := hT 20 (by kernel_rfl)
      clear hT
      refine .inl ⟨by rw [hmk]; simp [Region.wanted, yielded, e20], fun K hK => ?_⟩
      rw [hmk] at hK ⊢
      simp only [Act.put, List.setIfInBounds_toArray, List.set_cons_zero, List.set_cons_succ] at hK
      rw [e20] at hK ⊢
      clear e20
      have HK := Aside0.mk hK
      clear hK
      go_wp2
      exact HK.out _ _ rfl (Below.refl _ _)
    case s23 =>
      intro σ W hI hT
      obtain ⟨hB, h0, hS, hP, hC⟩ := hI; obtain ⟨k0, k1, k2, _⟩ := h0.cells; obtain ⟨k3, k4, _⟩ := hP.cells
      have e20 : σ 20 = .bool true := hT 20 (by kernel_rfl)
      have e21 : σ 21 = .agg #[.int .i64 n, .int .i64 rep, wv] := hT 21 (by kernel_rfl)
      have e22 : σ 22 = .int .i64 at_ := hT 22 (by kernel_rfl)
      clear hT
      refine .inl ⟨by rw [hmk]; simp [Region.wanted, yielded, e20], fun K hK => ?_⟩
      rw [hmk] at hK ⊢
      simp only [Act.put, List.setIfInBounds_toArray, List.set_cons_zero, List.set_cons_succ] at hK
      rw [e20, e21, e22] at hK ⊢
      clear e20 e21 e22
      have HK := Aside0.mk hK
      clear hK
      have hcon := has_any at_ n rep wv zs W hS
      unfold setV at hcon
      go_wp2_with (go_at_call 15; refine hcon.mono ?_; clear hcon; rintro e w' ⟨rfl, hb⟩)
      exact HK.out _ _ rfl hb
    case s24 =>
      intro σ W hI hT
      obtain ⟨hB, h0, hS, hP, hC⟩ := hI; obtain ⟨k0, k1, k2, _⟩ := h0.cells; obtain ⟨k3, k4, _⟩ := hP.cells
      have e20 : σ 20 = .bool true := hT 20 (by kernel_rfl)
      clear hT
      refine .inl ⟨by rw [hmk]; simp [Region.wanted, yielded, e20], fun K hK => ?_⟩
      rw [hmk] at hK ⊢
      simp only [Act.put, List.setIfInBounds_toArray, List.set_cons_zero, List.set_cons_succ] at hK
      rw [e20] at hK ⊢
      clear e20
      have HK := Aside0.mk hK
      clear hK
      go_wp2
      exact HK.out _ _ rfl (Below.refl _ _)
    case s25 =>
      intro σ W hI hT
      obtain ⟨hB, h0, hS, hP, hC⟩ := hI; obtain ⟨k0, k1, k2, _⟩ := h0.cells; obtain ⟨k3, k4, _⟩ := hP.cells
      have e20 : σ 20 = .bool true := hT 20 (by kernel_rfl)
      clear hT
      refine .inl ⟨by rw [hmk]; simp [Region.wanted, yielded, e20], fun K hK => ?_⟩
      rw [hmk] at hK ⊢
      simp only [Act.put, List.setIfInBounds_toArray, List.set_cons_zero, List.set_cons_succ] at hK
      rw [e20] at hK ⊢
      clear e20
      have HK := Aside0.mk hK
      clear hK
      go_wp2
      exact HK.out _ _ rfl (Below.refl _ _)
    case s26 =>
      intro σ W hI hT
      obtain ⟨hB, h0, hS, hP, hC⟩ := hI; obtain ⟨k0, k1, k2, _⟩ := h0.cells; obtain ⟨k3, k4, _⟩ := hP.cells
      have e20 : σ 20 = .bool true := hT 20 (by kernel_rfl)
      have e24 : σ 24 = .agg #[.slice A (bsOf n zs).length c, .int .i64 rep] := hT 24 (by kernel_rfl)
      have e25 : σ 25 = .int .i64 at_ := hT 25 (by kernel_rfl)
      clear hT
      refine .inl ⟨by rw [hmk]; simp [Region.wanted, yielded, e20], fun K hK => ?_⟩
      rw [hmk] at hK ⊢
      simp only [Act.put, List.setIfInBounds_toArray, List.set_cons_zero, List.set_cons_succ] at hK
      rw [e20, e24, e25] at hK ⊢
      clear e20 e24 e25
      have HK := Aside0.mk hK
      clear hK
      have hcon := astragalref12_Has.calls A c (bsOf n zs) rep at_ (inZ zs at_) W hC hc (has_law n rep at_ zs hS.rising)
      go_wp2_with (go_at_call 46; refine hcon.mono ?_; clear hcon; rintro e w' ⟨rfl, hb⟩)
      exact HK.out _ _ rfl hb
    case s27 =>
      intro σ W hI hT
      obtain ⟨hB, h0, hS, hP, hC⟩ := hI; obtain ⟨k0, k1, k2, _⟩ := h0.cells; obtain ⟨k3, k4, _⟩ := hP.cells
      have e20 : σ 20 = .bool true := hT 20 (by kernel_rfl)
      have e23 : σ 23 = .bool (inZ zs at_) := hT 23 (by kernel_rfl)
      have e26 : σ 26 = .bool (inZ zs at_) := hT 26 (by kernel_rfl)
      clear hT
      refine .inl ⟨by rw [hmk]; simp [Region.wanted, yielded, e20], fun K hK => ?_⟩
      rw [hmk] at hK ⊢
      simp only [Act.put, List.setIfInBounds_toArray, List.set_cons_zero, List.set_cons_succ] at hK
      rw [e20, e23, e26] at hK ⊢
      clear e20 e23 e26
      have HK := Aside0.mk hK
      clear hK
      go_wp2
      exact HK.out _ _ rfl (Below.refl _ _)
    case s28 =>
      intro σ W hI hT
      obtain ⟨hB, h0, hS, hP, hC⟩ := hI; obtain ⟨k0, k1, k2, _⟩ := h0.cells; obtain ⟨k3, k4, _⟩ := hP.cells
      have e20 : σ 20 = .bool true := hT 20 (by kernel_rfl)
      have e27 : σ 27 = .bool true := hT 27 (by kernel_rfl)
      clear hT
      refine .inl ⟨rfl, fun K hK => ?_⟩
      rw [hmk] at hK ⊢
      simp only [Act.put, List.setIfInBounds_toArray, List.set_cons_zero, List.set_cons_succ] at hK
      rw [e20, e27] at hK ⊢
      clear e20 e27
      have HK := Aside0.mk hK
      clear hK
      go_wp2
      exact HK.out _ _ rfl (Below.refl _ _)
    case s29 =>
      intro σ W hI hT
      obtain ⟨hB, h0, hS, hP, hC⟩ := hI; obtain ⟨k0, k1, k2, _⟩ := h0.cells; obtain ⟨k3, k4, _⟩ := hP.cells
      have e28 : σ 28 = .bool true := hT 28 (by kernel_rfl)
      clear hT
      refine .inl ⟨rfl, fun K hK => ?_⟩
      rw [hmk] at hK ⊢
      simp only [Act.put, List.setIfInBounds_toArray, List.set_cons_zero, List.set_cons_succ] at hK
      rw [e28] at hK ⊢
      clear e28
      have HK := Aside0.mk hK
      clear hK
      go_wp2
      exact HK.out _ _ rfl (Below.refl _ _)
    case s30 =>
      intro σ W hI hT
      obtain ⟨hB, h0, hS, hP, hC⟩ := hI; obtain ⟨k0, k1, k2, _⟩ := h0.cells; obtain ⟨k3, k4, _⟩ := hP.cells
      have e29 : σ 29 = .bool true := hT 29 (by kernel_rfl)
      clear hT
      refine .inl ⟨by rw [hmk]; simp [Region.wanted, yielded, e29], fun K hK => ?_⟩
      rw [hmk] at hK ⊢
      simp only [Act.put, List.setIfInBounds_toArray, List.set_cons_zero, List.set_cons_succ] at hK
      rw [e29] at hK ⊢
      clear e29
      have HK := Aside0.mk hK
      clear hK
      go_wp2
      exact HK.out _ _ rfl (Below.refl _ _)
    case s31 =>
      intro σ W hI hT
      obtain ⟨hB, h0, hS, hP, hC⟩ := hI; obtain ⟨k0, k1, k2, _⟩ := h0.cells; obtain ⟨k3, k4, _⟩ := hP.cells
      have e29 : σ 29 = .bool true := hT 29 (by kernel_rfl)
      clear hT
      refine .inl ⟨by rw [hmk]; simp [Region.wanted, yielded, e29], fun K hK => ?_⟩
      rw [hmk] at hK ⊢
      simp only [Act.put, List.setIfInBounds_toArray, List.set_cons_zero, List.set_cons_succ] at hK
      rw [e29] at hK ⊢
      clear e29
      have HK := Aside0.mk hK
      clear hK
      go_wp2
      exact HK.out _ _ rfl (Below.refl _ _)
    case s32 =>
      intro σ W hI hT
      obtain ⟨hB, h0, hS, hP, hC⟩ := hI; obtain ⟨k0, k1, k2, _⟩ := h0.cells; obtain ⟨k3, k4, _⟩ := hP.cells
      have e29 : σ 29 = .bool true := hT 29 (by kernel_rfl)
      have e30 : σ 30 = .agg #[.int .i64 n, .int .i64 rep, wv] := hT 30 (by kernel_rfl)
      have e31 : σ 31 = .int .i64 at_ := hT 31 (by kernel_rfl)
      clear hT
      refine .inl ⟨by rw [hmk]; simp [Region.wanted, yielded, e29], fun K hK => ?_⟩
      rw [hmk] at hK ⊢
      simp only [Act.put, List.setIfInBounds_toArray, List.set_cons_zero, List.set_cons_succ] at hK
      rw [e29, e30, e31] at hK ⊢
      clear e29 e30 e31
      have HK := Aside0.mk hK
      clear hK
      have hcon := rank_any n rep at_ wv zs W hS
      unfold setV at hcon
      go_wp2_with (go_at_call 14; refine hcon.mono ?_; clear hcon; rintro e w' ⟨rfl, hb⟩)
      exact HK.out _ _ rfl hb
    case s33 =>
      intro σ W hI hT
      obtain ⟨hB, h0, hS, hP, hC⟩ := hI; obtain ⟨k0, k1, k2, _⟩ := h0.cells; obtain ⟨k3, k4, _⟩ := hP.cells
      have e29 : σ 29 = .bool true := hT 29 (by kernel_rfl)
      clear hT
      refine .inl ⟨by rw [hmk]; simp [Region.wanted, yielded, e29], fun K hK => ?_⟩
      rw [hmk] at hK ⊢
      simp only [Act.put, List.setIfInBounds_toArray, List.set_cons_zero, List.set_cons_succ] at hK
      rw [e29] at hK ⊢
      clear e29
      have HK := Aside0.mk hK
      clear hK
      go_wp2
      exact HK.out _ _ rfl (Below.refl _ _)
    case s34 =>
      intro σ W hI hT
      obtain ⟨hB, h0, hS, hP, hC⟩ := hI; obtain ⟨k0, k1, k2, _⟩ := h0.cells; obtain ⟨k3, k4, _⟩ := hP.cells
      have e29 : σ 29 = .bool true := hT 29 (by kernel_rfl)
      clear hT
      refine .inl ⟨by rw [hmk]; simp [Region.wanted, yielded, e29], fun K hK => ?_⟩
      rw [hmk] at hK ⊢
      simp only [Act.put, List.setIfInBounds_toArray, List.set_cons_zero, List.set_cons_succ] at hK
      rw [e29] at hK ⊢
      clear e29
      have HK := Aside0.mk hK
      clear hK
      go_wp2
      exact HK.out _ _ rfl (Below.refl _ _)
    case s35 =>
      intro σ W hI hT
      obtain ⟨hB, h0, hS, hP, hC⟩ := hI; obtain ⟨k0, k1, k2, _⟩ := h0.cells; obtain ⟨k3, k4, _⟩ := hP.cells
      have e29 : σ 29 = .bool true := hT 29 (by kernel_rfl)
      have e33 : σ 33 = .agg #[.slice A (bsOf n zs).length c, .int .i64 rep] := hT 33 (by kernel_rfl)
      have e34 : σ 34 = .int .i64 at_ := hT 34 (by kernel_rfl)
      clear hT
      refine .inl ⟨by rw [hmk]; simp [Region.wanted, yielded, e29], fun K hK => ?_⟩
      rw [hmk] at hK ⊢
      simp only [Act.put, List.setIfInBounds_toArray, List.set_cons_zero, List.set_cons_succ] at hK
      rw [e29, e33, e34] at hK ⊢
      clear e29 e33 e34
      have HK := Aside0.mk hK
      clear hK
      have hcon := astragalref12_Rank.calls (2 * n.toNat + 2) A c (bsOf n zs) rep at_ (rankZ zs at_) W hC hc (rank_law _ n rep at_ zs hS.n1 hS.rising (by omega))
      go_wp2_with (go_at_call 47; refine hcon.mono ?_; clear hcon; rintro e w' ⟨rfl, hb⟩)
      exact HK.out _ _ rfl hb
    case s36 =>
      intro σ W hI hT
      obtain ⟨hB, h0, hS, hP, hC⟩ := hI; obtain ⟨k0, k1, k2, _⟩ := h0.cells; obtain ⟨k3, k4, _⟩ := hP.cells
      have e29 : σ 29 = .bool true := hT 29 (by kernel_rfl)
      have e32 : σ 32 = .int .i64 (rankZ zs at_) := hT 32 (by kernel_rfl)
      have e35 : σ 35 = .int .i64 (rankZ zs at_) := hT 35 (by kernel_rfl)
      clear hT
      refine .inl ⟨by rw [hmk]; simp [Region.wanted, yielded, e29], fun K hK => ?_⟩
      rw [hmk] at hK ⊢
      simp only [Act.put, List.setIfInBounds_toArray, List.set_cons_zero, List.set_cons_succ] at hK
      rw [e29, e32, e35] at hK ⊢
      clear e29 e32 e35
      have HK := Aside0.mk hK
      clear hK
      go_wp2
      exact HK.out _ _ rfl (Below.refl _ _)
    case s37 =>
      intro σ W hI hT
      obtain ⟨hB, h0, hS, hP, hC⟩ := hI; obtain ⟨k0, k1, k2, _⟩ := h0.cells; obtain ⟨k3, k4, _⟩ := hP.cells
      have e29 : σ 29 = .bool true := hT 29 (by kernel_rfl)
      have e36 : σ 36 = .bool true := hT 36 (by kernel_rfl)
      clear hT
      refine .inl ⟨rfl, fun K hK => ?_⟩
      rw [hmk] at hK ⊢
      simp only [Act.put, List.setIfInBounds_toArray, List.set_cons_zero, List.set_cons_succ] at hK
      rw [e29, e36] at hK ⊢
      clear e29 e36
      have HK := Aside0.mk hK
      clear hK
      go_wp2
      exact HK.out _ _ rfl (Below.refl _ _)
    case s38 =>
      intro σ W hI hT
      obtain ⟨hB, h0, hS, hP, hC⟩ := hI; obtain ⟨k0, k1, k2, _⟩ := h0.cells; obtain ⟨k3, k4, _⟩ := hP.cells
      have e37 : σ 37 = .bool true := hT 37 (by kernel_rfl)
      clear hT
      refine .inl ⟨rfl, fun K hK => ?_⟩
      rw [hmk] at hK ⊢
      simp only [Act.put, List.setIfInBounds_toArray, List.set_cons_zero, List.set_cons_succ] at hK
      rw [e37] at hK ⊢
      clear e37
      have HK := Aside0.mk hK
      clear hK
      go_wp2
      exact HK.out _ _ rfl (Below.refl _ _)
  case done =>
    intro mk hmk σ W hI hS hT
    simp only [dstsOf, putAll, List.map_cons, List.map_nil, Nat.reduceAdd, Act.put, List.setIfInBounds_toArray, List.set_cons_zero, List.set_cons_succ] at hmk
    rw [hmk]
    have e6 : σ 38 = .bool true := hT 38 (by decide)
    rw [e6]
    clear hT e6
    go_wp2
    go_ret
    exact ⟨rfl, hI.1⟩
end Go.Proofs.Ytbjdnfnolhahgaa.F
