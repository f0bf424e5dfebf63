/- PosJoins: the walk. -/
import Derived.Test.YtbjdnfnolhahgaaBoth
namespace Go.Proofs.Ytbjdnfnolhahgaa.F
open Go.RowKit Go.Shelf Go.Proofs.YtbjdnfnolhahgaaW.PrintWords
set_option linter.unusedVariables false
attribute [local go_sem] run_store_wv
/-- A block that holds a pair. -/
def QBox (t : TypeId) (W : World) (B : Nat) (x y : Value) : Prop := W.heap[B]? = some (.cells #[x, y] t (0, 0))
theorem QBox.lt {t : TypeId} {W : World} {B : Nat} {x y : Value} (h : QBox t W B x y) : B < W.heap.size := (Array.getElem?_eq_some_iff.1 h).1
theorem QBox.below {t : TypeId} {W W' : World} {B : Nat} {x y : Value} (h : QBox t W B x y) (hB : Below W.heap.size W W') : QBox t W' B x y := (hB.block B h.lt).trans h
theorem QBox.cells {t : TypeId} {W : World} {B : Nat} {x y : Value} (h : QBox t W B x y) :
    W.cell? ⟨B, 0, none⟩ = some x ∧ W.cell? ⟨B, 1, none⟩ = some y ∧ W.frozen? ⟨B, 0, none⟩ = false ∧ W.frozen? ⟨B, 1, none⟩ = false := by
  have h' : W.heap[B]? = some (.cells #[x, y] t (0, 0)) := h
  refine ⟨?_, ?_, ?_, ?_⟩ <;> simp [World.cell?, World.frozen?, h']
def Fact.ref (rep : Int) (bs : List Bool) : Fact 28 := ⟨fun v W => ∃ u, v = .agg #[u, .int .i64 rep] ∧ Kd.bool.R 4 W 0 (fun _ => True) u bs, fun _ _ _ ⟨u, e, h⟩ hB => ⟨u, e, R_bool_below h hB⟩, fun _ _ _ ⟨u, e, h⟩ hB => ⟨u, e, R_bool_still h (by decide) hB⟩⟩
set_option maxRecDepth 100000 in
set_option maxHeartbeats 4000000 in
theorem posJoins (na nb ra rb at_ : Int) (A : Option Addr) (c : Nat) (l : List Int) (A' : Option Addr) (c' : Nat) (l' : List Int) (w : World) (hc : l.length ≤ c) (hA : IntArg w A l) (hc' : l'.length ≤ c') (hM : IntArg w A' l') :
    Calls Try.prog 9 #[.agg #[.int .i64 na, .int .i64 nb], .slice A l.length c, .slice A' l'.length c', .agg #[.int .i64 ra, .int .i64 rb], .int .i64 at_] w fun e w' => e = .returned (.bool true) ∧ Below w.heap.size w w' := by
  have hu28 := Try.underlying28
  have hu48 := Try.underlying48
  obtain ⟨m, hm⟩ : ∃ m, l.take 300 = m := ⟨_, rfl⟩
  obtain ⟨m', hm'⟩ : ∃ m', l'.take 300 = m' := ⟨_, rfl⟩
  obtain ⟨n1, r1, z1, e1, hs1, hr1⟩ := of_both na ra m (by rw [← hm, List.length_take]; omega)
  obtain ⟨n2, r2, z2, e2, hs2, hr2⟩ := of_both nb rb m' (by rw [← hm', List.length_take]; omega)
  go_enter Try.func9, Try.ntmps9
  go_wp2_with (fail)
  refine calls_gen (fun W => Below w.heap.size w W ∧ QBox 57 W w.heap.size (.int .i64 na) (.int .i64 nb) ∧ QBox 57 W (w.heap.size + 1) (.int .i64 ra) (.int .i64 rb)) ⟨((Below.refl _ _).alloc (Nat.le_refl _) _).alloc (by simp) _, ?_, ?_⟩ ?_
  · exact (Below.heap_alloc _ _ _ (by simp)).trans (World.alloc_heap_new w _)
  · have := World.alloc_heap_new (w.alloc (.cells #[.int .i64 na, .int .i64 nb] 57)) (.cells #[.int .i64 ra, .int .i64 rb] 57)
    rw [World.size_alloc] at this
    exact this
  rintro w0 ⟨hb0, hq1, hq2⟩
  have HB := Aside0.mk (hb0)
  have HA := Aside0.mk (hA.below hb0)
  have HM := Aside0.mk (hM.below hb0)
  have Q1 := Aside0.mk (hq1)
  have Q2 := Aside0.mk (hq2)
  clear hA hM hb0 hq1 hq2
  refine (shown_any w0).mono ?_
  rintro e w1 ⟨rfl, hb⟩
  replace HB := Aside0.mk (HB.out.trans (hb.mono HB.out.size))
  replace HA := Aside0.mk (HA.out.below hb)
  replace HM := Aside0.mk (HM.out.below hb)
  replace Q1 := Aside0.mk (Q1.out.below hb)
  replace Q2 := Aside0.mk (Q2.out.below hb)
  clear hb
  go_wp2_with (fail)
  have hfew := few_any A c l w1 hc HA.out
  replace HA := Aside0.mk (HA.out.take 300)
  rw [hm] at hfew HA
  clear hm
  refine hfew.mono ?_
  clear hfew
  rintro e w' ⟨⟨d, rfl, hd⟩, rfl⟩
  go_wp2_with (fail)
  have hfew := few_any A' c' l' w1 hc' HM.out
  replace HM := Aside0.mk (HM.out.take 300)
  rw [hm'] at hfew HM
  clear hm'
  refine hfew.mono ?_
  clear hfew
  rintro e w' ⟨⟨d', rfl, hd'⟩, rfl⟩
  obtain ⟨kQ1_0, kQ1_1, kQ1_2, kQ1_3⟩ := Q1.out.cells
  obtain ⟨kQ2_0, kQ2_1, kQ2_2, kQ2_3⟩ := Q2.out.cells
  go_wp2_with (fail)
  refine (hs1 w1 A d HA.out).mono ?_
  clear kQ1_0 kQ1_1 kQ1_2 kQ1_3 kQ2_0 kQ2_1 kQ2_2 kQ2_3
  rintro e w2 ⟨v1, he, hS, hb⟩
  unfold setV at he
  subst he
  replace HB := Aside0.mk (HB.out.trans (hb.mono HB.out.size))
  replace HA := Aside0.mk (HA.out.below hb)
  replace HM := Aside0.mk (HM.out.below hb)
  replace Q1 := Aside0.mk (Q1.out.below hb)
  replace Q2 := Aside0.mk (Q2.out.below hb)
  clear hb
  have Z1 := Aside0.mk (hS)
  clear hS
  obtain ⟨kQ1_0, kQ1_1, kQ1_2, kQ1_3⟩ := (Q1.out.below ((Below.refl _ _).alloc (Nat.le_refl _) (.cells #[.int .i64 n1, .int .i64 r1, wvOf v1] 28))).cells
  obtain ⟨kQ2_0, kQ2_1, kQ2_2, kQ2_3⟩ := (Q2.out.below ((Below.refl _ _).alloc (Nat.le_refl _) (.cells #[.int .i64 n1, .int .i64 r1, wvOf v1] 28))).cells
  go_wp2_with (fail)
  refine calls_gen (fun W => Below w2.heap.size w2 W ∧ SBox W w2.heap.size (.int .i64 n1) (.int .i64 r1) (wvOf v1)) ⟨(Below.refl _ _).alloc (Nat.le_refl _) _, SBox.new w2 _ _ _⟩ ?_
  rintro w3 ⟨hb, hbox⟩
  clear kQ1_0 kQ1_1 kQ1_2 kQ1_3 kQ2_0 kQ2_1 kQ2_2 kQ2_3
  replace HB := Aside0.mk (HB.out.trans (hb.mono HB.out.size))
  replace HA := Aside0.mk (HA.out.below hb)
  replace HM := Aside0.mk (HM.out.below hb)
  replace Q1 := Aside0.mk (Q1.out.below hb)
  replace Q2 := Aside0.mk (Q2.out.below hb)
  replace Z1 := Aside0.mk (Z1.out.below hb)
  clear hb
  have S1 := Aside0.mk (hbox)
  clear hbox
  refine (hr1 w3 A d HA.out hd).mono ?_
  rintro e w4 ⟨u1, rfl, hR, hb⟩
  obtain ⟨A1, c1, rfl, _, _⟩ := Kd.R_reads hR
  replace HB := Aside0.mk (HB.out.trans (hb.mono HB.out.size))
  replace HA := Aside0.mk (HA.out.below hb)
  replace HM := Aside0.mk (HM.out.below hb)
  replace Q1 := Aside0.mk (Q1.out.below hb)
  replace Q2 := Aside0.mk (Q2.out.below hb)
  replace Z1 := Aside0.mk (Z1.out.below hb)
  replace S1 := Aside0.mk (S1.out.below hb)
  clear hb
  have R1 := Aside0.mk (hR)
  clear hR
  obtain ⟨kQ1_0, kQ1_1, kQ1_2, kQ1_3⟩ := (Q1.out.below ((Below.refl _ _).alloc (Nat.le_refl _) (.cells #[.slice A1 (bsOf n1 z1).length c1, .int .i64 r1] 48))).cells
  obtain ⟨kQ2_0, kQ2_1, kQ2_2, kQ2_3⟩ := (Q2.out.below ((Below.refl _ _).alloc (Nat.le_refl _) (.cells #[.slice A1 (bsOf n1 z1).length c1, .int .i64 r1] 48))).cells
  go_wp2_with (fail)
  refine calls_gen (fun W => Below w4.heap.size w4 W ∧ PBox W w4.heap.size (.slice A1 (bsOf n1 z1).length c1) (.int .i64 r1)) ⟨(Below.refl _ _).alloc (Nat.le_refl _) _, PBox.new w4 _ _⟩ ?_
  rintro w5 ⟨hb, hbox⟩
  clear kQ1_0 kQ1_1 kQ1_2 kQ1_3 kQ2_0 kQ2_1 kQ2_2 kQ2_3
  replace HB := Aside0.mk (HB.out.trans (hb.mono HB.out.size))
  replace HA := Aside0.mk (HA.out.below hb)
  replace HM := Aside0.mk (HM.out.below hb)
  replace Q1 := Aside0.mk (Q1.out.below hb)
  replace Q2 := Aside0.mk (Q2.out.below hb)
  replace Z1 := Aside0.mk (Z1.out.below hb)
  replace S1 := Aside0.mk (S1.out.below hb)
  replace R1 := Aside0.mk (R_bool_below R1.out hb)
  clear hb
  have P1 := Aside0.mk (hbox)
  clear hbox
  refine (hs2 w5 A' d' HM.out).mono ?_
  rintro e w6 ⟨v2, he, hS, hb⟩
  unfold setV at he
  subst he
  replace HB := Aside0.mk (HB.out.trans (hb.mono HB.out.size))
  replace HA := Aside0.mk (HA.out.below hb)
  replace HM := Aside0.mk (HM.out.below hb)
  replace Q1 := Aside0.mk (Q1.out.below hb)
  replace Q2 := Aside0.mk (Q2.out.below hb)
  replace Z1 := Aside0.mk (Z1.out.below hb)
  replace S1 := Aside0.mk (S1.out.below hb)
  replace R1 := Aside0.mk (R_bool_below R1.out hb)
  replace P1 := Aside0.mk (P1.out.below hb)
  clear hb
  have Z2 := Aside0.mk (hS)
  clear hS
  obtain ⟨kQ1_0, kQ1_1, kQ1_2, kQ1_3⟩ := (Q1.out.below ((Below.refl _ _).alloc (Nat.le_refl _) (.cells #[.int .i64 n2, .int .i64 r2, wvOf v2] 28))).cells
  obtain ⟨kQ2_0, kQ2_1, kQ2_2, kQ2_3⟩ := (Q2.out.below ((Below.refl _ _).alloc (Nat.le_refl _) (.cells #[.int .i64 n2, .int .i64 r2, wvOf v2] 28))).cells
  go_wp2_with (fail)
  refine calls_gen (fun W => Below w6.heap.size w6 W ∧ SBox W w6.heap.size (.int .i64 n2) (.int .i64 r2) (wvOf v2)) ⟨(Below.refl _ _).alloc (Nat.le_refl _) _, SBox.new w6 _ _ _⟩ ?_
  rintro w7 ⟨hb, hbox⟩
  clear kQ1_0 kQ1_1 kQ1_2 kQ1_3 kQ2_0 kQ2_1 kQ2_2 kQ2_3
  replace HB := Aside0.mk (HB.out.trans (hb.mono HB.out.size))
  replace HA := Aside0.mk (HA.out.below hb)
  replace HM := Aside0.mk (HM.out.below hb)
  replace Q1 := Aside0.mk (Q1.out.below hb)
  replace Q2 := Aside0.mk (Q2.out.below hb)
  replace Z1 := Aside0.mk (Z1.out.below hb)
  replace S1 := Aside0.mk (S1.out.below hb)
  replace R1 := Aside0.mk (R_bool_below R1.out hb)
  replace P1 := Aside0.mk (P1.out.below hb)
  replace Z2 := Aside0.mk (Z2.out.below hb)
  clear hb
  have S2 := Aside0.mk (hbox)
  clear hbox
  refine (hr2 w7 A' d' HM.out hd').mono ?_
  rintro e w8 ⟨u2, rfl, hR, hb⟩
  obtain ⟨A2, c2, rfl, _, _⟩ := Kd.R_reads hR
  replace HB := Aside0.mk (HB.out.trans (hb.mono HB.out.size))
  replace HA := Aside0.mk (HA.out.below hb)
  replace HM := Aside0.mk (HM.out.below hb)
  replace Q1 := Aside0.mk (Q1.out.below hb)
  replace Q2 := Aside0.mk (Q2.out.below hb)
  replace Z1 := Aside0.mk (Z1.out.below hb)
  replace S1 := Aside0.mk (S1.out.below hb)
  replace R1 := Aside0.mk (R_bool_below R1.out hb)
  replace P1 := Aside0.mk (P1.out.below hb)
  replace Z2 := Aside0.mk (Z2.out.below hb)
  replace S2 := Aside0.mk (S2.out.below hb)
  clear hb
  have R2 := Aside0.mk (hR)
  clear hR
  obtain ⟨kS1_0, kS1_1, kS1_2, kS1_3, kS1_4, kS1_5⟩ := (S1.out.below ((Below.refl _ _).alloc (Nat.le_refl _) (.cells #[.slice A2 (bsOf n2 z2).length c2, .int .i64 r2] 48))).cells
  obtain ⟨kS2_0, kS2_1, kS2_2, kS2_3, kS2_4, kS2_5⟩ := (S2.out.below ((Below.refl _ _).alloc (Nat.le_refl _) (.cells #[.slice A2 (bsOf n2 z2).length c2, .int .i64 r2] 48))).cells
  go_wp2_with (fail)
  refine calls_gen (fun W => Below w8.heap.size w8 W ∧ PBox W w8.heap.size (.slice A2 (bsOf n2 z2).length c2) (.int .i64 r2)) ⟨(Below.refl _ _).alloc (Nat.le_refl _) _, PBox.new w8 _ _⟩ ?_
  rintro w9 ⟨hb, hbox⟩
  clear kS1_0 kS1_1 kS1_2 kS1_3 kS1_4 kS1_5 kS2_0 kS2_1 kS2_2 kS2_3 kS2_4 kS2_5
  replace HB := Aside0.mk (HB.out.trans (hb.mono HB.out.size))
  replace HA := Aside0.mk (HA.out.below hb)
  replace HM := Aside0.mk (HM.out.below hb)
  replace Q1 := Aside0.mk (Q1.out.below hb)
  replace Q2 := Aside0.mk (Q2.out.below hb)
  replace Z1 := Aside0.mk (Z1.out.below hb)
  replace S1 := Aside0.mk (S1.out.below hb)
  replace R1 := Aside0.mk (R_bool_below R1.out hb)
  replace P1 := Aside0.mk (P1.out.below hb)
  replace Z2 := Aside0.mk (Z2.out.below hb)
  replace S2 := Aside0.mk (S2.out.below hb)
  replace R2 := Aside0.mk (R_bool_below R2.out hb)
  clear hb
  have P2 := Aside0.mk (hbox)
  clear hbox
  obtain ⟨n3, r3, z3, e3, hs3, hr3⟩ := and_both n1 r1 n2 r2 z1 z2 Z1.out.n0 Z1.out.n1 Z2.out.n0
  obtain ⟨n4, r4, z4, e4, hs4, hr4⟩ := or_both n1 r1 n2 r2 z1 z2 Z1.out.n0 Z1.out.n1 Z2.out.n0
  refine (hs3 w9 (wvOf v1) (wvOf v2) Z1.out Z2.out).mono ?_
  rintro e w10 ⟨v3, he, hS, hb⟩
  unfold setV at he
  subst he
  replace HB := Aside0.mk (HB.out.trans (hb.mono HB.out.size))
  replace HA := Aside0.mk (HA.out.below hb)
  replace HM := Aside0.mk (HM.out.below hb)
  replace Q1 := Aside0.mk (Q1.out.below hb)
  replace Q2 := Aside0.mk (Q2.out.below hb)
  replace Z1 := Aside0.mk (Z1.out.below hb)
  replace S1 := Aside0.mk (S1.out.below hb)
  replace R1 := Aside0.mk (R_bool_below R1.out hb)
  replace P1 := Aside0.mk (P1.out.below hb)
  replace Z2 := Aside0.mk (Z2.out.below hb)
  replace S2 := Aside0.mk (S2.out.below hb)
  replace R2 := Aside0.mk (R_bool_below R2.out hb)
  replace P2 := Aside0.mk (P2.out.below hb)
  clear hb
  have Z3 := Aside0.mk (hS)
  clear hS
  obtain ⟨kP1_0, kP1_1, kP1_2, kP1_3⟩ := (P1.out.below ((Below.refl _ _).alloc (Nat.le_refl _) (.cells #[.int .i64 n3, .int .i64 r3, wvOf v3] 28))).cells
  obtain ⟨kP2_0, kP2_1, kP2_2, kP2_3⟩ := (P2.out.below ((Below.refl _ _).alloc (Nat.le_refl _) (.cells #[.int .i64 n3, .int .i64 r3, wvOf v3] 28))).cells
  go_wp2_with (fail)
  refine calls_gen (fun W => Below w10.heap.size w10 W ∧ SBox W w10.heap.size (.int .i64 n3) (.int .i64 r3) (wvOf v3)) ⟨(Below.refl _ _).alloc (Nat.le_refl _) _, SBox.new w10 _ _ _⟩ ?_
  rintro w11 ⟨hb, hbox⟩
  clear kP1_0 kP1_1 kP1_2 kP1_3 kP2_0 kP2_1 kP2_2 kP2_3
  replace HB := Aside0.mk (HB.out.trans (hb.mono HB.out.size))
  replace HA := Aside0.mk (HA.out.below hb)
  replace HM := Aside0.mk (HM.out.below hb)
  replace Q1 := Aside0.mk (Q1.out.below hb)
  replace Q2 := Aside0.mk (Q2.out.below hb)
  replace Z1 := Aside0.mk (Z1.out.below hb)
  replace S1 := Aside0.mk (S1.out.below hb)
  replace R1 := Aside0.mk (R_bool_below R1.out hb)
  replace P1 := Aside0.mk (P1.out.below hb)
  replace Z2 := Aside0.mk (Z2.out.below hb)
  replace S2 := Aside0.mk (S2.out.below hb)
  replace R2 := Aside0.mk (R_bool_below R2.out hb)
  replace P2 := Aside0.mk (P2.out.below hb)
  replace Z3 := Aside0.mk (Z3.out.below hb)
  clear hb
  have S3 := Aside0.mk (hbox)
  clear hbox
  refine (hr3 w11 _ _ R1.out R2.out).mono ?_
  rintro e w12 ⟨u3, rfl, hR, hb⟩
  obtain ⟨A3, c3, rfl, _, _⟩ := Kd.R_reads hR
  replace HB := Aside0.mk (HB.out.trans (hb.mono HB.out.size))
  replace HA := Aside0.mk (HA.out.below hb)
  replace HM := Aside0.mk (HM.out.below hb)
  replace Q1 := Aside0.mk (Q1.out.below hb)
  replace Q2 := Aside0.mk (Q2.out.below hb)
  replace Z1 := Aside0.mk (Z1.out.below hb)
  replace S1 := Aside0.mk (S1.out.below hb)
  replace R1 := Aside0.mk (R_bool_below R1.out hb)
  replace P1 := Aside0.mk (P1.out.below hb)
  replace Z2 := Aside0.mk (Z2.out.below hb)
  replace S2 := Aside0.mk (S2.out.below hb)
  replace R2 := Aside0.mk (R_bool_below R2.out hb)
  replace P2 := Aside0.mk (P2.out.below hb)
  replace Z3 := Aside0.mk (Z3.out.below hb)
  replace S3 := Aside0.mk (S3.out.below hb)
  clear hb
  have R3 := Aside0.mk (hR)
  clear hR
  obtain ⟨kS1_0, kS1_1, kS1_2, kS1_3, kS1_4, kS1_5⟩ := (S1.out.below ((Below.refl _ _).alloc (Nat.le_refl _) (.cells #[.slice A3 (bsOf n3 z3).length c3, .int .i64 r3] 48))).cells
  obtain ⟨kS2_0, kS2_1, kS2_2, kS2_3, kS2_4, kS2_5⟩ := (S2.out.below ((Below.refl _ _).alloc (Nat.le_refl _) (.cells #[.slice A3 (bsOf n3 z3).length c3, .int .i64 r3] 48))).cells
  go_wp2_with (fail)
  refine calls_gen (fun W => Below w12.heap.size w12 W ∧ PBox W w12.heap.size (.slice A3 (bsOf n3 z3).length c3) (.int .i64 r3)) ⟨(Below.refl _ _).alloc (Nat.le_refl _) _, PBox.new w12 _ _⟩ ?_
  rintro w13 ⟨hb, hbox⟩
  clear kS1_0 kS1_1 kS1_2 kS1_3 kS1_4 kS1_5 kS2_0 kS2_1 kS2_2 kS2_3 kS2_4 kS2_5
  replace HB := Aside0.mk (HB.out.trans (hb.mono HB.out.size))
  replace HA := Aside0.mk (HA.out.below hb)
  replace HM := Aside0.mk (HM.out.below hb)
  replace Q1 := Aside0.mk (Q1.out.below hb)
  replace Q2 := Aside0.mk (Q2.out.below hb)
  replace Z1 := Aside0.mk (Z1.out.below hb)
  replace S1 := Aside0.mk (S1.out.below hb)
  replace R1 := Aside0.mk (R_bool_below R1.out hb)
  replace P1 := Aside0.mk (P1.out.below hb)
  replace Z2 := Aside0.mk (Z2.out.below hb)
  replace S2 := Aside0.mk (S2.out.below hb)
  replace R2 := Aside0.mk (R_bool_below R2.out hb)
  replace P2 := Aside0.mk (P2.out.below hb)
  replace Z3 := Aside0.mk (Z3.out.below hb)
  replace S3 := Aside0.mk (S3.out.below hb)
  replace R3 := Aside0.mk (R_bool_below R3.out hb)
  clear hb
  have P3 := Aside0.mk (hbox)
  clear hbox
  refine (hs4 w13 (wvOf v1) (wvOf v2) Z1.out Z2.out).mono ?_
  rintro e w14 ⟨v4, he, hS, hb⟩
  unfold setV at he
  subst he
  replace HB := Aside0.mk (HB.out.trans (hb.mono HB.out.size))
  replace HA := Aside0.mk (HA.out.below hb)
  replace HM := Aside0.mk (HM.out.below hb)
  replace Q1 := Aside0.mk (Q1.out.below hb)
  replace Q2 := Aside0.mk (Q2.out.below hb)
  replace Z1 := Aside0.mk (Z1.out.below hb)
  replace S1 := Aside0.mk (S1.out.below hb)
  replace R1 := Aside0.mk (R_bool_below R1.out hb)
  replace P1 := Aside0.mk (P1.out.below hb)
  replace Z2 := Aside0.mk (Z2.out.below hb)
  replace S2 := Aside0.mk (S2.out.below hb)
  replace R2 := Aside0.mk (R_bool_below R2.out hb)
  replace P2 := Aside0.mk (P2.out.below hb)
  replace Z3 := Aside0.mk (Z3.out.below hb)
  replace S3 := Aside0.mk (S3.out.below hb)
  replace R3 := Aside0.mk (R_bool_below R3.out hb)
  replace P3 := Aside0.mk (P3.out.below hb)
  clear hb
  have Z4 := Aside0.mk (hS)
  clear hS
  obtain ⟨kP1_0, kP1_1, kP1_2, kP1_3⟩ := (P1.out.below ((Below.refl _ _).alloc (Nat.le_refl _) (.cells #[.int .i64 n4, .int .i64 r4, wvOf v4] 28))).cells
  obtain ⟨kP2_0, kP2_1, kP2_2, kP2_3⟩ := (P2.out.below ((Below.refl _ _).alloc (Nat.le_refl _) (.cells #[.int .i64 n4, .int .i64 r4, wvOf v4] 28))).cells
  go_wp2_with (fail)
  refine calls_gen (fun W => Below w14.heap.size w14 W ∧ SBox W w14.heap.size (.int .i64 n4) (.int .i64 r4) (wvOf v4)) ⟨(Below.refl _ _).alloc (Nat.le_refl _) _, SBox.new w14 _ _ _⟩ ?_
  rintro w15 ⟨hb, hbox⟩
  clear kP1_0 kP1_1 kP1_2 kP1_3 kP2_0 kP2_1 kP2_2 kP2_3
  replace HB := Aside0.mk (HB.out.trans (hb.mono HB.out.size))
  replace HA := Aside0.mk (HA.out.below hb)
  replace HM := Aside0.mk (HM.out.below hb)
  replace Q1 := Aside0.mk (Q1.out.below hb)
  replace Q2 := Aside0.mk (Q2.out.below hb)
  replace Z1 := Aside0.mk (Z1.out.below hb)
  replace S1 := Aside0.mk (S1.out.below hb)
  replace R1 := Aside0.mk (R_bool_below R1.out hb)
  replace P1 := Aside0.mk (P1.out.below hb)
  replace Z2 := Aside0.mk (Z2.out.below hb)
  replace S2 := Aside0.mk (S2.out.below hb)
  replace R2 := Aside0.mk (R_bool_below R2.out hb)
  replace P2 := Aside0.mk (P2.out.below hb)
  replace Z3 := Aside0.mk (Z3.out.below hb)
  replace S3 := Aside0.mk (S3.out.below hb)
  replace R3 := Aside0.mk (R_bool_below R3.out hb)
  replace P3 := Aside0.mk (P3.out.below hb)
  replace Z4 := Aside0.mk (Z4.out.below hb)
  clear hb
  have S4 := Aside0.mk (hbox)
  clear hbox
  refine (hr4 w15 _ _ R1.out R2.out).mono ?_
  rintro e w16 ⟨u4, rfl, hR, hb⟩
  obtain ⟨A4, c4, rfl, _, _⟩ := Kd.R_reads hR
  replace HB := Aside0.mk (HB.out.trans (hb.mono HB.out.size))
  replace HA := Aside0.mk (HA.out.below hb)
  replace HM := Aside0.mk (HM.out.below hb)
  replace Q1 := Aside0.mk (Q1.out.below hb)
  replace Q2 := Aside0.mk (Q2.out.below hb)
  replace Z1 := Aside0.mk (Z1.out.below hb)
  replace S1 := Aside0.mk (S1.out.below hb)
  replace R1 := Aside0.mk (R_bool_below R1.out hb)
  replace P1 := Aside0.mk (P1.out.below hb)
  replace Z2 := Aside0.mk (Z2.out.below hb)
  replace S2 := Aside0.mk (S2.out.below hb)
  replace R2 := Aside0.mk (R_bool_below R2.out hb)
  replace P2 := Aside0.mk (P2.out.below hb)
  replace Z3 := Aside0.mk (Z3.out.below hb)
  replace S3 := Aside0.mk (S3.out.below hb)
  replace R3 := Aside0.mk (R_bool_below R3.out hb)
  replace P3 := Aside0.mk (P3.out.below hb)
  replace Z4 := Aside0.mk (Z4.out.below hb)
  replace S4 := Aside0.mk (S4.out.below hb)
  clear hb
  have R4 := Aside0.mk (hR)
  clear hR
  go_wp2_with (fail)
  have hd0 := ((Below.refl w16.heap.size w16).alloc (Nat.le_refl _) (.cells #[.slice A4 (bsOf n4 z4).length c4, .int .i64 r4] 48)).drew
  have hp4 := (PBox.new w16 (.slice A4 (bsOf n4 z4).length c4) (.int .i64 r4)).below ((Below.refl _ _).drew)
  refine wp_region_still (t := 28) (by kernel_rfl) [Fact.eq (.bool true), Fact.eq (.bool true), Fact.eq (.int .i64 e3), Fact.eq (.int .i64 e3), Fact.eq (.bool true), Fact.eq (.bool true), Fact.eq (.bool true), Fact.eq (.int .i64 e4), Fact.eq (.int .i64 e4), Fact.eq (.bool true), Fact.eq (.bool true), Fact.eq (.bool true), Fact.eq (.agg #[.int .i64 n3, .int .i64 r3, wvOf v3]), Fact.eq (.agg #[.slice A3 (bsOf n3 z3).length c3, .int .i64 r3]), Fact.eq (.int .i64 at_), Fact.eq (.bool true), Fact.eq (.bool true), Fact.eq (.bool true), Fact.eq (.agg #[.int .i64 n4, .int .i64 r4, wvOf v4]), Fact.eq (.agg #[.slice A4 (bsOf n4 z4).length c4, .int .i64 r4]), Fact.eq (.int .i64 at_), Fact.eq (.bool true), Fact.eq (.bool true), Fact.eq (.bool true), Fact.eq (.agg #[.int .i64 n1, .int .i64 r1, wvOf v1]), Fact.set n1 r1 (filt n1 (fun x => !inZ z1 x)), Fact.eq (.agg #[.slice A1 (bsOf n1 z1).length c1, .int .i64 r1]), Fact.ref r1 (bsOf n1 (filt n1 (fun x => !inZ z1 x))), Fact.eq (.int .i64 at_), Fact.eq (.bool true), Fact.eq (.bool true), Fact.eq (.bool true)]
    (fun W => Below w.heap.size w W ∧ SBox W w2.heap.size (.int .i64 n1) (.int .i64 r1) (wvOf v1) ∧ PBox W w4.heap.size (.slice A1 (bsOf n1 z1).length c1) (.int .i64 r1) ∧ IsSet W n1 r1 (wvOf v1) z1 ∧ Kd.bool.R 4 W 0 (fun _ => True) (.slice A1 (bsOf n1 z1).length c1) (bsOf n1 z1) ∧ SBox W w10.heap.size (.int .i64 n3) (.int .i64 r3) (wvOf v3) ∧ PBox W w12.heap.size (.slice A3 (bsOf n3 z3).length c3) (.int .i64 r3) ∧ IsSet W n3 r3 (wvOf v3) z3 ∧ Kd.bool.R 4 W 0 (fun _ => True) (.slice A3 (bsOf n3 z3).length c3) (bsOf n3 z3) ∧ SBox W w14.heap.size (.int .i64 n4) (.int .i64 r4) (wvOf v4) ∧ PBox W w16.heap.size (.slice A4 (bsOf n4 z4).length c4) (.int .i64 r4) ∧ IsSet W n4 r4 (wvOf v4) z4 ∧ Kd.bool.R 4 W 0 (fun _ => True) (.slice A4 (bsOf n4 z4).length c4) (bsOf n4 z4))
    (fun _ => True) 32 (by kernel_rfl) (by kernel_rfl) ?I0 ?I1 ?S1 ?steps ?done
  case I0 => exact ⟨HB.out.trans (hd0.mono HB.out.size), S1.out.below hd0, P1.out.below hd0, Z1.out.below hd0, R_bool_below R1.out hd0, S3.out.below hd0, P3.out.below hd0, Z3.out.below hd0, R_bool_below R3.out hd0, S4.out.below hd0, hp4, Z4.out.below hd0, R_bool_below R4.out hd0⟩
  case I1 => exact fun W W' ⟨h0, a1, a2, a3, a4, b1, b2, b3, b4, d1, d2, d3, d4⟩ hB => ⟨h0.trans (hB.mono h0.size), a1.below hB, a2.below hB, a3.below hB, R_bool_below a4 hB, b1.below hB, b2.below hB, b3.below hB, R_bool_below b4 hB, d1.below hB, d2.below hB, d3.below hB, R_bool_below d4 hB⟩
  case S1 => exact fun _ _ _ _ => trivial
  case steps =>
    intro mk hmk
    simp only [dstsOf, putAll, List.map_cons, List.map_nil, Nat.reduceAdd, Act.put, List.setIfInBounds_toArray, List.set_cons_zero, List.set_cons_succ] at hmk
    refine Steps.cons (i := 0) rfl ?s0 (Steps.cons (i := 1) rfl ?s1 (Steps.cons (i := 2) rfl ?s2 (Steps.cons (i := 3) rfl ?s3 (Steps.cons (i := 4) rfl ?s4 (Steps.cons (i := 5) rfl ?s5 (Steps.cons (i := 6) rfl ?s6 (Steps.cons (i := 7) rfl ?s7 (Steps.cons (i := 8) rfl ?s8 (Steps.cons (i := 9) rfl ?s9 (Steps.cons (i := 10) rfl ?s10 (Steps.cons (i := 11) rfl ?s11 (Steps.cons (i := 12) rfl ?s12 (Steps.cons (i := 13) rfl ?s13 (Steps.cons (i := 14) rfl ?s14 (Steps.cons (i := 15) rfl ?s15 (Steps.cons (i := 16) rfl ?s16 (Steps.cons (i := 17) rfl ?s17 (Steps.cons (i := 18) rfl ?s18 (Steps.cons (i := 19) rfl ?s19 (Steps.cons (i := 20) rfl ?s20 (Steps.cons (i := 21) rfl ?s21 (Steps.cons (i := 22) rfl ?s22 (Steps.cons (i := 23) rfl ?s23 (Steps.cons (i := 24) rfl ?s24 (Steps.cons (i := 25) rfl ?s25 (Steps.cons (i := 26) rfl ?s26 (Steps.cons (i := 27) rfl ?s27 (Steps.cons (i := 28) rfl ?s28 (Steps.cons (i := 29) rfl ?s29 (Steps.cons (i := 30) rfl ?s30 (Steps.cons (i := 31) rfl ?s31 (Steps.nil))))))))))))))))))))))))))))))))
    case s0 =>
      intro σ W hI hT
      obtain ⟨h0, hS1, hP1, hZ1, hR1, hS3, hP3, hZ3, hR3, hS4, hP4, hZ4, hR4⟩ := hI; obtain ⟨k0, k1, k2, _⟩ := hS1.cells; obtain ⟨k3, k4, k5, _⟩ := hS3.cells; obtain ⟨k6, k7, k8, _⟩ := hS4.cells; obtain ⟨j0, j1, _⟩ := hP1.cells; obtain ⟨j2, j3, _⟩ := hP3.cells; obtain ⟨j4, j5, _⟩ := hP4.cells
      clear hT
      refine .inl ⟨rfl, fun K hK => ?_⟩
      rw [hmk] at hK ⊢
      simp only [Act.put, List.setIfInBounds_toArray, List.set_cons_zero, List.set_cons_succ] at hK
      have HK := Aside0.mk hK
      clear hK
      go_wp2
      exact HK.out _ _ rfl (Below.refl _ _)
    case s1 =>
      intro σ W hI hT
      obtain ⟨h0, hS1, hP1, hZ1, hR1, hS3, hP3, hZ3, hR3, hS4, hP4, hZ4, hR4⟩ := hI; obtain ⟨k0, k1, k2, _⟩ := hS1.cells; obtain ⟨k3, k4, k5, _⟩ := hS3.cells; obtain ⟨k6, k7, k8, _⟩ := hS4.cells; obtain ⟨j0, j1, _⟩ := hP1.cells; obtain ⟨j2, j3, _⟩ := hP3.cells; obtain ⟨j4, j5, _⟩ := hP4.cells
      have e0 : σ 0 = .bool true := hT 0 (by kernel_rfl)
      clear hT
      refine .inl ⟨rfl, fun K hK => ?_⟩
      rw [hmk] at hK ⊢
      simp only [Act.put, List.setIfInBounds_toArray, List.set_cons_zero, List.set_cons_succ] at hK
      rw [e0] at hK ⊢
      clear e0
      have HK := Aside0.mk hK
      clear hK
      go_wp2
      exact HK.out _ _ rfl (Below.refl _ _)
    case s2 =>
      intro σ W hI hT
      obtain ⟨h0, hS1, hP1, hZ1, hR1, hS3, hP3, hZ3, hR3, hS4, hP4, hZ4, hR4⟩ := hI; obtain ⟨k0, k1, k2, _⟩ := hS1.cells; obtain ⟨k3, k4, k5, _⟩ := hS3.cells; obtain ⟨k6, k7, k8, _⟩ := hS4.cells; obtain ⟨j0, j1, _⟩ := hP1.cells; obtain ⟨j2, j3, _⟩ := hP3.cells; obtain ⟨j4, j5, _⟩ := hP4.cells
      have e1 : σ 1 = .bool true := hT 1 (by kernel_rfl)
      clear hT
      refine .inl ⟨by rw [hmk]; simp [Region.wanted, yielded, e1], fun K hK => ?_⟩
      rw [hmk] at hK ⊢
      simp only [Act.put, List.setIfInBounds_toArray, List.set_cons_zero, List.set_cons_succ] at hK
      rw [e1] at hK ⊢
      clear e1
      have HK := Aside0.mk hK
      clear hK
      go_wp2
      exact HK.out _ _ rfl (Below.refl _ _)
    case s3 =>
      intro σ W hI hT
      obtain ⟨h0, hS1, hP1, hZ1, hR1, hS3, hP3, hZ3, hR3, hS4, hP4, hZ4, hR4⟩ := hI; obtain ⟨k0, k1, k2, _⟩ := hS1.cells; obtain ⟨k3, k4, k5, _⟩ := hS3.cells; obtain ⟨k6, k7, k8, _⟩ := hS4.cells; obtain ⟨j0, j1, _⟩ := hP1.cells; obtain ⟨j2, j3, _⟩ := hP3.cells; obtain ⟨j4, j5, _⟩ := hP4.cells
      have e1 : σ 1 = .bool true := hT 1 (by kernel_rfl)
      clear hT
      refine .inl ⟨by rw [hmk]; simp [Region.wanted, yielded, e1], fun K hK => ?_⟩
      rw [hmk] at hK ⊢
      simp only [Act.put, List.setIfInBounds_toArray, List.set_cons_zero, List.set_cons_succ] at hK
      rw [e1] at hK ⊢
      clear e1
      have HK := Aside0.mk hK
      clear hK
      go_wp2
      exact HK.out _ _ rfl (Below.refl _ _)
    case s4 =>
      intro σ W hI hT
      obtain ⟨h0, hS1, hP1, hZ1, hR1, hS3, hP3, hZ3, hR3, hS4, hP4, hZ4, hR4⟩ := hI; obtain ⟨k0, k1, k2, _⟩ := hS1.cells; obtain ⟨k3, k4, k5, _⟩ := hS3.cells; obtain ⟨k6, k7, k8, _⟩ := hS4.cells; obtain ⟨j0, j1, _⟩ := hP1.cells; obtain ⟨j2, j3, _⟩ := hP3.cells; obtain ⟨j4, j5, _⟩ := hP4.cells
      have e1 : σ 1 = .bool true := hT 1 (by kernel_rfl)
      have e2 : σ 2 = .int .i64 e3 := hT 2 (by kernel_rfl)
      have e3 : σ 3 = .int .i64 e3 := hT 3 (by kernel_rfl)
      clear hT
      refine .inl ⟨by rw [hmk]; simp [Region.wanted, yielded, e1], fun K hK => ?_⟩
      rw [hmk] at hK ⊢
      simp only [Act.put, List.setIfInBounds_toArray, List.set_cons_zero, List.set_cons_succ] at hK
      rw [e1, e2, e3] at hK ⊢
      clear e1 e2 e3
      have HK := Aside0.mk hK
      clear hK
      go_wp2
      exact HK.out _ _ rfl (Below.refl _ _)
    case s5 =>
      intro σ W hI hT
      obtain ⟨h0, hS1, hP1, hZ1, hR1, hS3, hP3, hZ3, hR3, hS4, hP4, hZ4, hR4⟩ := hI; obtain ⟨k0, k1, k2, _⟩ := hS1.cells; obtain ⟨k3, k4, k5, _⟩ := hS3.cells; obtain ⟨k6, k7, k8, _⟩ := hS4.cells; obtain ⟨j0, j1, _⟩ := hP1.cells; obtain ⟨j2, j3, _⟩ := hP3.cells; obtain ⟨j4, j5, _⟩ := hP4.cells
      have e1 : σ 1 = .bool true := hT 1 (by kernel_rfl)
      have e4 : σ 4 = .bool true := hT 4 (by kernel_rfl)
      clear hT
      refine .inl ⟨rfl, fun K hK => ?_⟩
      rw [hmk] at hK ⊢
      simp only [Act.put, List.setIfInBounds_toArray, List.set_cons_zero, List.set_cons_succ] at hK
      rw [e1, e4] at hK ⊢
      clear e1 e4
      have HK := Aside0.mk hK
      clear hK
      go_wp2
      exact HK.out _ _ rfl (Below.refl _ _)
    case s6 =>
      intro σ W hI hT
      obtain ⟨h0, hS1, hP1, hZ1, hR1, hS3, hP3, hZ3, hR3, hS4, hP4, hZ4, hR4⟩ := hI; obtain ⟨k0, k1, k2, _⟩ := hS1.cells; obtain ⟨k3, k4, k5, _⟩ := hS3.cells; obtain ⟨k6, k7, k8, _⟩ := hS4.cells; obtain ⟨j0, j1, _⟩ := hP1.cells; obtain ⟨j2, j3, _⟩ := hP3.cells; obtain ⟨j4, j5, _⟩ := hP4.cells
      have e5 : σ 5 = .bool true := hT 5 (by kernel_rfl)
      clear hT
      refine .inl ⟨rfl, fun K hK => ?_⟩
      rw [hmk] at hK ⊢
      simp only [Act.put, List.setIfInBounds_toArray, List.set_cons_zero, List.set_cons_succ] at hK
      rw [e5] at hK ⊢
      clear e5
      have HK := Aside0.mk hK
      clear hK
      go_wp2
      exact HK.out _ _ rfl (Below.refl _ _)
    case s7 =>
      intro σ W hI hT
      obtain ⟨h0, hS1, hP1, hZ1, hR1, hS3, hP3, hZ3, hR3, hS4, hP4, hZ4, hR4⟩ := hI; obtain ⟨k0, k1, k2, _⟩ := hS1.cells; obtain ⟨k3, k4, k5, _⟩ := hS3.cells; obtain ⟨k6, k7, k8, _⟩ := hS4.cells; obtain ⟨j0, j1, _⟩ := hP1.cells; obtain ⟨j2, j3, _⟩ := hP3.cells; obtain ⟨j4, j5, _⟩ := hP4.cells
      have e6 : σ 6 = .bool true := hT 6 (by kernel_rfl)
      clear hT
      refine .inl ⟨by rw [hmk]; simp [Region.wanted, yielded, e6], fun K hK => ?_⟩
      rw [hmk] at hK ⊢
      simp only [Act.put, List.setIfInBounds_toArray, List.set_cons_zero, List.set_cons_succ] at hK
      rw [e6] at hK ⊢
      clear e6
      have HK := Aside0.mk hK
      clear hK
      go_wp2
      exact HK.out _ _ rfl (Below.refl _ _)
    case s8 =>
      intro σ W hI hT
      obtain ⟨h0, hS1, hP1, hZ1, hR1, hS3, hP3, hZ3, hR3, hS4, hP4, hZ4, hR4⟩ := hI; obtain ⟨k0, k1, k2, _⟩ := hS1.cells; obtain ⟨k3, k4, k5, _⟩ := hS3.cells; obtain ⟨k6, k7, k8, _⟩ := hS4.cells; obtain ⟨j0, j1, _⟩ := hP1.cells; obtain ⟨j2, j3, _⟩ := hP3.cells; obtain ⟨j4, j5, _⟩ := hP4.cells
      have e6 : σ 6 = .bool true := hT 6 (by kernel_rfl)
      clear hT
      refine .inl ⟨by rw [hmk]; simp [Region.wanted, yielded, e6], fun K hK => ?_⟩
      rw [hmk] at hK ⊢
      simp only [Act.put, List.setIfInBounds_toArray, List.set_cons_zero, List.set_cons_succ] at hK
      rw [e6] at hK ⊢
      clear e6
      have HK := Aside0.mk hK
      clear hK
      go_wp2
      exact HK.out _ _ rfl (Below.refl _ _)
    case s9 =>
      intro σ W hI hT
      obtain ⟨h0, hS1, hP1, hZ1, hR1, hS3, hP3, hZ3, hR3, hS4, hP4, hZ4, hR4⟩ := hI; obtain ⟨k0, k1, k2, _⟩ := hS1.cells; obtain ⟨k3, k4, k5, _⟩ := hS3.cells; obtain ⟨k6, k7, k8, _⟩ := hS4.cells; obtain ⟨j0, j1, _⟩ := hP1.cells; obtain ⟨j2, j3, _⟩ := hP3.cells; obtain ⟨j4, j5, _⟩ := hP4.cells
      have e6 : σ 6 = .bool true := hT 6 (by kernel_rfl)
      have e7 : σ 7 = .int .i64 e4 := hT 7 (by kernel_rfl)
      have e8 : σ 8 = .int .i64 e4 := hT 8 (by kernel_rfl)
      clear hT
      refine .inl ⟨by rw [hmk]; simp [Region.wanted, yielded, e6], fun K hK => ?_⟩
      rw [hmk] at hK ⊢
      simp only [Act.put, List.setIfInBounds_toArray, List.set_cons_zero, List.set_cons_succ] at hK
      rw [e6, e7, e8] at hK ⊢
      clear e6 e7 e8
      have HK := Aside0.mk hK
      clear hK
      go_wp2
      exact HK.out _ _ rfl (Below.refl _ _)
    case s10 =>
      intro σ W hI hT
      obtain ⟨h0, hS1, hP1, hZ1, hR1, hS3, hP3, hZ3, hR3, hS4, hP4, hZ4, hR4⟩ := hI; obtain ⟨k0, k1, k2, _⟩ := hS1.cells; obtain ⟨k3, k4, k5, _⟩ := hS3.cells; obtain ⟨k6, k7, k8, _⟩ := hS4.cells; obtain ⟨j0, j1, _⟩ := hP1.cells; obtain ⟨j2, j3, _⟩ := hP3.cells; obtain ⟨j4, j5, _⟩ := hP4.cells
      have e6 : σ 6 = .bool true := hT 6 (by kernel_rfl)
      have e9 : σ 9 = .bool true := hT 9 (by kernel_rfl)
      clear hT
      refine .inl ⟨rfl, fun K hK => ?_⟩
      rw [hmk] at hK ⊢
      simp only [Act.put, List.setIfInBounds_toArray, List.set_cons_zero, List.set_cons_succ] at hK
      rw [e6, e9] at hK ⊢
      clear e6 e9
      have HK := Aside0.mk hK
      clear hK
      go_wp2
      exact HK.out _ _ rfl (Below.refl _ _)
    case s11 =>
      intro σ W hI hT
      obtain ⟨h0, hS1, hP1, hZ1, hR1, hS3, hP3, hZ3, hR3, hS4, hP4, hZ4, hR4⟩ := hI; obtain ⟨k0, k1, k2, _⟩ := hS1.cells; obtain ⟨k3, k4, k5, _⟩ := hS3.cells; obtain ⟨k6, k7, k8, _⟩ := hS4.cells; obtain ⟨j0, j1, _⟩ := hP1.cells; obtain ⟨j2, j3, _⟩ := hP3.cells; obtain ⟨j4, j5, _⟩ := hP4.cells
      have e10 : σ 10 = .bool true := hT 10 (by kernel_rfl)
      clear hT
      refine .inl ⟨rfl, fun K hK => ?_⟩
      rw [hmk] at hK ⊢
      simp only [Act.put, List.setIfInBounds_toArray, List.set_cons_zero, List.set_cons_succ] at hK
      rw [e10] at hK ⊢
      clear e10
      have HK := Aside0.mk hK
      clear hK
      go_wp2
      exact HK.out _ _ rfl (Below.refl _ _)
    case s12 =>
      intro σ W hI hT
      obtain ⟨h0, hS1, hP1, hZ1, hR1, hS3, hP3, hZ3, hR3, hS4, hP4, hZ4, hR4⟩ := hI; obtain ⟨k0, k1, k2, _⟩ := hS1.cells; obtain ⟨k3, k4, k5, _⟩ := hS3.cells; obtain ⟨k6, k7, k8, _⟩ := hS4.cells; obtain ⟨j0, j1, _⟩ := hP1.cells; obtain ⟨j2, j3, _⟩ := hP3.cells; obtain ⟨j4, j5, _⟩ := hP4.cells
      have e11 : σ 11 = .bool true := hT 11 (by kernel_rfl)
      clear hT
      refine .inl ⟨by rw [hmk]; simp [Region.wanted, yielded, e11], fun K hK => ?_⟩
      rw [hmk] at hK ⊢
      simp only [Act.put, List.setIfInBounds_toArray, List.set_cons_zero, List.set_cons_succ] at hK
      rw [e11] at hK ⊢
      clear e11
      have HK := Aside0.mk hK
      clear hK
      go_wp2
      exact HK.out _ _ rfl (Below.refl _ _)
    case s13 =>
      intro σ W hI hT
      obtain ⟨h0, hS1, hP1, hZ1, hR1, hS3, hP3, hZ3, hR3, hS4, hP4, hZ4, hR4⟩ := hI; obtain ⟨k0, k1, k2, _⟩ := hS1.cells; obtain ⟨k3, k4, k5, _⟩ := hS3.cells; obtain ⟨k6, k7, k8, _⟩ := hS4.cells; obtain ⟨j0, j1, _⟩ := hP1.cells; obtain ⟨j2, j3, _⟩ := hP3.cells; obtain ⟨j4, j5, _⟩ := hP4.cells
      have e11 : σ 11 = .bool true := hT 11 (by kernel_rfl)
      clear hT
      refine .inl ⟨by rw [hmk]; simp [Region.wanted, yielded, e11], fun K hK => ?_⟩
      rw [hmk] at hK ⊢
      simp only [Act.put, List.setIfInBounds_toArray, List.set_cons_zero, List.set_cons_succ] at hK
      rw [e11] at hK ⊢
      clear e11
      have HK := Aside0.mk hK
      clear hK
      go_wp2
      exact HK.out _ _ rfl (Below.refl _ _)
    case s14 =>
      intro σ W hI hT
      obtain ⟨h0, hS1, hP1, hZ1, hR1, hS3, hP3, hZ3, hR3, hS4, hP4, hZ4, hR4⟩ := hI; obtain ⟨k0, k1, k2, _⟩ := hS1.cells; obtain ⟨k3, k4, k5, _⟩ := hS3.cells; obtain ⟨k6, k7, k8, _⟩ := hS4.cells; obtain ⟨j0, j1, _⟩ := hP1.cells; obtain ⟨j2, j3, _⟩ := hP3.cells; obtain ⟨j4, j5, _⟩ := hP4.cells
      have e11 : σ 11 = .bool true := hT 11 (by kernel_rfl)
      clear hT
      refine .inl ⟨by rw [hmk]; simp [Region.wanted, yielded, e11], fun K hK => ?_⟩
      rw [hmk] at hK ⊢
      simp only [Act.put, List.setIfInBounds_toArray, List.set_cons_zero, List.set_cons_succ] at hK
      rw [e11] at hK ⊢
      clear e11
      have HK := Aside0.mk hK
      clear hK
      go_wp2
      exact HK.out _ _ rfl (Below.refl _ _)
    case s15 =>
      intro σ W hI hT
      obtain ⟨h0, hS1, hP1, hZ1, hR1, hS3, hP3, hZ3, hR3, hS4, hP4, hZ4, hR4⟩ := hI; obtain ⟨k0, k1, k2, _⟩ := hS1.cells; obtain ⟨k3, k4, k5, _⟩ := hS3.cells; obtain ⟨k6, k7, k8, _⟩ := hS4.cells; obtain ⟨j0, j1, _⟩ := hP1.cells; obtain ⟨j2, j3, _⟩ := hP3.cells; obtain ⟨j4, j5, _⟩ := hP4.cells
      have e11 : σ 11 = .bool true := hT 11 (by kernel_rfl)
      have e12 : σ 12 = .agg #[.int .i64 n3, .int .i64 r3, wvOf v3] := hT 12 (by kernel_rfl)
      have e13 : σ 13 = .agg #[.slice A3 (bsOf n3 z3).length c3, .int .i64 r3] := hT 13 (by kernel_rfl)
      have e14 : σ 14 = .int .i64 at_ := hT 14 (by kernel_rfl)
      clear hT
      refine .inl ⟨by rw [hmk]; simp [Region.wanted, yielded, e11], fun K hK => ?_⟩
      rw [hmk] at hK ⊢
      simp only [Act.put, List.setIfInBounds_toArray, List.set_cons_zero, List.set_cons_succ] at hK
      rw [e11, e12, e13, e14] at hK ⊢
      clear e11 e12 e13 e14
      have HK := Aside0.mk hK
      clear hK
      have hcon := alike_any n3 r3 at_ (wvOf v3) _ z3 W hZ3 hR3
      unfold setV at hcon
      go_wp2_with (go_at_call 24; refine hcon.mono ?_; clear hcon; rintro e w' ⟨rfl, hb⟩)
      exact HK.out _ _ rfl hb
    case s16 =>
      intro σ W hI hT
      obtain ⟨h0, hS1, hP1, hZ1, hR1, hS3, hP3, hZ3, hR3, hS4, hP4, hZ4, hR4⟩ := hI; obtain ⟨k0, k1, k2, _⟩ := hS1.cells; obtain ⟨k3, k4, k5, _⟩ := hS3.cells; obtain ⟨k6, k7, k8, _⟩ := hS4.cells; obtain ⟨j0, j1, _⟩ := hP1.cells; obtain ⟨j2, j3, _⟩ := hP3.cells; obtain ⟨j4, j5, _⟩ := hP4.cells
      have e11 : σ 11 = .bool true := hT 11 (by kernel_rfl)
      have e15 : σ 15 = .bool true := hT 15 (by kernel_rfl)
      clear hT
      refine .inl ⟨rfl, fun K hK => ?_⟩
      rw [hmk] at hK ⊢
      simp only [Act.put, List.setIfInBounds_toArray, List.set_cons_zero, List.set_cons_succ] at hK
      rw [e11, e15] at hK ⊢
      clear e11 e15
      have HK := Aside0.mk hK
      clear hK
      go_wp2
      exact HK.out _ _ rfl (Below.refl _ _)
    case s17 =>
      intro σ W hI hT
      obtain ⟨h0, hS1, hP1, hZ1, hR1, hS3, hP3, hZ3, hR3, hS4, hP4, hZ4, hR4⟩ := hI; obtain ⟨k0, k1, k2, _⟩ := hS1.cells; obtain ⟨k3, k4, k5, _⟩ := hS3.cells; obtain ⟨k6, k7, k8, _⟩ := hS4.cells; obtain ⟨j0, j1, _⟩ := hP1.cells; obtain ⟨j2, j3, _⟩ := hP3.cells; obtain ⟨j4, j5, _⟩ := hP4.cells
      have e16 : σ 16 = .bool true := hT 16 (by kernel_rfl)
      clear hT
      refine .inl ⟨rfl, fun K hK => ?_⟩
      rw [hmk] at hK ⊢
      simp only [Act.put, List.setIfInBounds_toArray, List.set_cons_zero, List.set_cons_succ] at hK
      rw [e16] at hK ⊢
      clear e16
      have HK := Aside0.mk hK
      clear hK
      go_wp2
      exact HK.out _ _ rfl (Below.refl _ _)
    case s18 =>
      intro σ W hI hT
      obtain ⟨h0, hS1, hP1, hZ1, hR1, hS3, hP3, hZ3, hR3, hS4, hP4, hZ4, hR4⟩ := hI; obtain ⟨k0, k1, k2, _⟩ := hS1.cells; obtain ⟨k3, k4, k5, _⟩ := hS3.cells; obtain ⟨k6, k7, k8, _⟩ := hS4.cells; obtain ⟨j0, j1, _⟩ := hP1.cells; obtain ⟨j2, j3, _⟩ := hP3.cells; obtain ⟨j4, j5, _⟩ := hP4.cells
      have e17 : σ 17 = .bool true := hT 17 (by kernel_rfl)
      clear hT
      refine .inl ⟨by rw [hmk]; simp [Region.wanted, yielded, e17], fun K hK => ?_⟩
      rw [hmk] at hK ⊢
      simp only [Act.put, List.setIfInBounds_toArray, List.set_cons_zero, List.set_cons_succ] at hK
      rw [e17] at hK ⊢
      clear e17
      have HK := Aside0.mk hK
      clear hK
      go_wp2
      exact HK.out _ _ rfl (Below.refl _ _)
    case s19 =>
      intro σ W hI hT
      obtain ⟨h0, hS1, hP1, hZ1, hR1, hS3, hP3, hZ3, hR3, hS4, hP4, hZ4, hR4⟩ := hI; obtain ⟨k0, k1, k2, _⟩ := hS1.cells; obtain ⟨k3, k4, k5, _⟩ := hS3.cells; obtain ⟨k6, k7, k8, _⟩ := hS4.cells; obtain ⟨j0, j1, _⟩ := hP1.cells; obtain ⟨j2, j3, _⟩ := hP3.cells; obtain ⟨j4, j5, _⟩ := hP4.cells
      have e17 : σ 17 = .bool true := hT 17 (by kernel_rfl)
      clear hT
      refine .inl ⟨by rw [hmk]; simp [Region.wanted, yielded, e17], fun K hK => ?_⟩
      rw [hmk] at hK ⊢
      simp only [Act.put, List.setIfInBounds_toArray, List.set_cons_zero, List.set_cons_succ] at hK
      rw [e17] at hK ⊢
      clear e17
      have HK := Aside0.mk hK
      clear hK
      go_wp2
      exact HK.out _ _ rfl (Below.refl _ _)
    case s20 =>
      intro σ W hI hT
      obtain ⟨h0, hS1, hP1, hZ1, hR1, hS3, hP3, hZ3, hR3, hS4, hP4, hZ4, hR4⟩ := hI; obtain ⟨k0, k1, k2, _⟩ := hS1.cells; obtain ⟨k3, k4, k5, _⟩ := hS3.cells; obtain ⟨k6, k7, k8, _⟩ := hS4.cells; obtain ⟨j0, j1, _⟩ := hP1.cells; obtain ⟨j2, j3, _⟩ := hP3.cells; obtain ⟨j4, j5, _⟩ := hP4.cells
      have e17 : σ 17 = .bool true := hT 17 (by kernel_rfl)
      clear hT
      refine .inl ⟨by rw [hmk]; simp [Region.wanted, yielded, e17], fun K hK => ?_⟩
      rw [hmk] at hK ⊢
      simp only [Act.put, List.setIfInBounds_toArray, List.set_cons_zero, List.set_cons_succ] at hK
      rw [e17] at hK ⊢
      clear e17
      have HK := Aside0.mk hK
      clear hK
      go_wp2
      exact HK.out _ _ rfl (Below.refl _ _)
    case s21 =>
      intro σ W hI hT
      obtain ⟨h0, hS1, hP1, hZ1, hR1, hS3, hP3, hZ3, hR3, hS4, hP4, hZ4, hR4⟩ := hI; obtain ⟨k0, k1, k2, _⟩ := hS1.cells; obtain ⟨k3, k4, k5, _⟩ := hS3.cells; obtain ⟨k6, k7, k8, _⟩ := hS4.cells; obtain ⟨j0, j1, _⟩ := hP1.cells; obtain ⟨j2, j3, _⟩ := hP3.cells; obtain ⟨j4, j5, _⟩ := hP4.cells
      have e17 : σ 17 = .bool true := hT 17 (by kernel_rfl)
      have e18 : σ 18 = .agg #[.int .i64 n4, .int .i64 r4, wvOf v4] := hT 18 (by kernel_rfl)
      have e19 : σ 19 = .agg #[.slice A4 (bsOf n4 z4).length c4, .int .i64 r4] := hT 19 (by kernel_rfl)
      have e20 : σ 20 = .int .i64 at_ := hT 20 (by kernel_rfl)
      clear hT
      refine .inl ⟨by rw [hmk]; simp [Region.wanted, yielded, e17], fun K hK => ?_⟩
      rw [hmk] at hK ⊢
      simp only [Act.put, List.setIfInBounds_toArray, List.set_cons_zero, List.set_cons_succ] at hK
      rw [e17, e18, e19, e20] at hK ⊢
      clear e17 e18 e19 e20
      have HK := Aside0.mk hK
      clear hK
      have hcon := alike_any n4 r4 at_ (wvOf v4) _ z4 W hZ4 hR4
      unfold setV at hcon
      go_wp2_with (go_at_call 24; refine hcon.mono ?_; clear hcon; rintro e w' ⟨rfl, hb⟩)
      exact HK.out _ _ rfl hb
    case s22 =>
      intro σ W hI hT
      obtain ⟨h0, hS1, hP1, hZ1, hR1, hS3, hP3, hZ3, hR3, hS4, hP4, hZ4, hR4⟩ := hI; obtain ⟨k0, k1, k2, _⟩ := hS1.cells; obtain ⟨k3, k4, k5, _⟩ := hS3.cells; obtain ⟨k6, k7, k8, _⟩ := hS4.cells; obtain ⟨j0, j1, _⟩ := hP1.cells; obtain ⟨j2, j3, _⟩ := hP3.cells; obtain ⟨j4, j5, _⟩ := hP4.cells
      have e17 : σ 17 = .bool true := hT 17 (by kernel_rfl)
      have e21 : σ 21 = .bool true := hT 21 (by kernel_rfl)
      clear hT
      refine .inl ⟨rfl, fun K hK => ?_⟩
      rw [hmk] at hK ⊢
      simp only [Act.put, List.setIfInBounds_toArray, List.set_cons_zero, List.set_cons_succ] at hK
      rw [e17, e21] at hK ⊢
      clear e17 e21
      have HK := Aside0.mk hK
      clear hK
      go_wp2
      exact HK.out _ _ rfl (Below.refl _ _)
    case s23 =>
      intro σ W hI hT
      obtain ⟨h0, hS1, hP1, hZ1, hR1, hS3, hP3, hZ3, hR3, hS4, hP4, hZ4, hR4⟩ := hI; obtain ⟨k0, k1, k2, _⟩ := hS1.cells; obtain ⟨k3, k4, k5, _⟩ := hS3.cells; obtain ⟨k6, k7, k8, _⟩ := hS4.cells; obtain ⟨j0, j1, _⟩ := hP1.cells; obtain ⟨j2, j3, _⟩ := hP3.cells; obtain ⟨j4, j5, _⟩ := hP4.cells
      have e22 : σ 22 = .bool true := hT 22 (by kernel_rfl)
      clear hT
      refine .inl ⟨rfl, fun K hK => ?_⟩
      rw [hmk] at hK ⊢
      simp only [Act.put, List.setIfInBounds_toArray, List.set_cons_zero, List.set_cons_succ] at hK
      rw [e22] at hK ⊢
      clear e22
      have HK := Aside0.mk hK
      clear hK
      go_wp2
      exact HK.out _ _ rfl (Below.refl _ _)
    case s24 =>
      intro σ W hI hT
      obtain ⟨h0, hS1, hP1, hZ1, hR1, hS3, hP3, hZ3, hR3, hS4, hP4, hZ4, hR4⟩ := hI; obtain ⟨k0, k1, k2, _⟩ := hS1.cells; obtain ⟨k3, k4, k5, _⟩ := hS3.cells; obtain ⟨k6, k7, k8, _⟩ := hS4.cells; obtain ⟨j0, j1, _⟩ := hP1.cells; obtain ⟨j2, j3, _⟩ := hP3.cells; obtain ⟨j4, j5, _⟩ := hP4.cells
      have e23 : σ 23 = .bool true := hT 23 (by kernel_rfl)
      clear hT
      refine .inl ⟨by rw [hmk]; simp [Region.wanted, yielded, e23], fun K hK => ?_⟩
      rw [hmk] at hK ⊢
      simp only [Act.put, List.setIfInBounds_toArray, List.set_cons_zero, List.set_cons_succ] at hK
      rw [e23] at hK ⊢
      clear e23
      have HK := Aside0.mk hK
      clear hK
      go_wp2
      exact HK.out _ _ rfl (Below.refl _ _)
    case s25 =>
      intro σ W hI hT
      obtain ⟨h0, hS1, hP1, hZ1, hR1, hS3, hP3, hZ3, hR3, hS4, hP4, hZ4, hR4⟩ := hI; obtain ⟨k0, k1, k2, _⟩ := hS1.cells; obtain ⟨k3, k4, k5, _⟩ := hS3.cells; obtain ⟨k6, k7, k8, _⟩ := hS4.cells; obtain ⟨j0, j1, _⟩ := hP1.cells; obtain ⟨j2, j3, _⟩ := hP3.cells; obtain ⟨j4, j5, _⟩ := hP4.cells
      have e23 : σ 23 = .bool true := hT 23 (by kernel_rfl)
      have e24 : σ 24 = .agg #[.int .i64 n1, .int .i64 r1, wvOf v1] := hT 24 (by kernel_rfl)
      clear hT
      refine .inl ⟨by rw [hmk]; simp [Region.wanted, yielded, e23], fun K hK => ?_⟩
      rw [hmk] at hK ⊢
      simp only [Act.put, List.setIfInBounds_toArray, List.set_cons_zero, List.set_cons_succ] at hK
      rw [e23, e24] at hK ⊢
      clear e23 e24
      have HK := Aside0.mk hK
      clear hK
      have hcon := not_any n1 r1 (wvOf v1) z1 W hZ1
      unfold setV at hcon
      go_wp2_with (go_at_call 17; refine hcon.mono ?_; clear hcon; rintro e w' ⟨t, u, rfl, hS, hb⟩)
      exact HK.out _ _ ⟨t, u, rfl, hS⟩ hb
    case s26 =>
      intro σ W hI hT
      obtain ⟨h0, hS1, hP1, hZ1, hR1, hS3, hP3, hZ3, hR3, hS4, hP4, hZ4, hR4⟩ := hI; obtain ⟨k0, k1, k2, _⟩ := hS1.cells; obtain ⟨k3, k4, k5, _⟩ := hS3.cells; obtain ⟨k6, k7, k8, _⟩ := hS4.cells; obtain ⟨j0, j1, _⟩ := hP1.cells; obtain ⟨j2, j3, _⟩ := hP3.cells; obtain ⟨j4, j5, _⟩ := hP4.cells
      have e23 : σ 23 = .bool true := hT 23 (by kernel_rfl)
      clear hT
      refine .inl ⟨by rw [hmk]; simp [Region.wanted, yielded, e23], fun K hK => ?_⟩
      rw [hmk] at hK ⊢
      simp only [Act.put, List.setIfInBounds_toArray, List.set_cons_zero, List.set_cons_succ] at hK
      rw [e23] at hK ⊢
      clear e23
      have HK := Aside0.mk hK
      clear hK
      go_wp2
      exact HK.out _ _ rfl (Below.refl _ _)
    case s27 =>
      intro σ W hI hT
      obtain ⟨h0, hS1, hP1, hZ1, hR1, hS3, hP3, hZ3, hR3, hS4, hP4, hZ4, hR4⟩ := hI; obtain ⟨k0, k1, k2, _⟩ := hS1.cells; obtain ⟨k3, k4, k5, _⟩ := hS3.cells; obtain ⟨k6, k7, k8, _⟩ := hS4.cells; obtain ⟨j0, j1, _⟩ := hP1.cells; obtain ⟨j2, j3, _⟩ := hP3.cells; obtain ⟨j4, j5, _⟩ := hP4.cells
      have e23 : σ 23 = .bool true := hT 23 (by kernel_rfl)
      have e26 : σ 26 = .agg #[.slice A1 (bsOf n1 z1).length c1, .int .i64 r1] := hT 26 (by kernel_rfl)
      clear hT
      refine .inl ⟨by rw [hmk]; simp [Region.wanted, yielded, e23], fun K hK => ?_⟩
      rw [hmk] at hK ⊢
      simp only [Act.put, List.setIfInBounds_toArray, List.set_cons_zero, List.set_cons_succ] at hK
      rw [e23, e26] at hK ⊢
      clear e23 e26
      have HK := Aside0.mk hK
      clear hK
      have hcon := rnot_any n1 r1 z1 _ W hZ1.n1 hR1
      go_wp2_with (go_at_call 30; refine hcon.mono ?_; clear hcon; rintro e w' ⟨v, rfl, hv, hb⟩)
      exact HK.out _ _ ⟨v, rfl, hv⟩ hb
    case s28 =>
      intro σ W hI hT
      obtain ⟨h0, hS1, hP1, hZ1, hR1, hS3, hP3, hZ3, hR3, hS4, hP4, hZ4, hR4⟩ := hI; obtain ⟨k0, k1, k2, _⟩ := hS1.cells; obtain ⟨k3, k4, k5, _⟩ := hS3.cells; obtain ⟨k6, k7, k8, _⟩ := hS4.cells; obtain ⟨j0, j1, _⟩ := hP1.cells; obtain ⟨j2, j3, _⟩ := hP3.cells; obtain ⟨j4, j5, _⟩ := hP4.cells
      have e23 : σ 23 = .bool true := hT 23 (by kernel_rfl)
      clear hT
      refine .inl ⟨by rw [hmk]; simp [Region.wanted, yielded, e23], fun K hK => ?_⟩
      rw [hmk] at hK ⊢
      simp only [Act.put, List.setIfInBounds_toArray, List.set_cons_zero, List.set_cons_succ] at hK
      rw [e23] at hK ⊢
      clear e23
      have HK := Aside0.mk hK
      clear hK
      go_wp2
      exact HK.out _ _ rfl (Below.refl _ _)
    case s29 =>
      intro σ W hI hT
      obtain ⟨h0, hS1, hP1, hZ1, hR1, hS3, hP3, hZ3, hR3, hS4, hP4, hZ4, hR4⟩ := hI; obtain ⟨k0, k1, k2, _⟩ := hS1.cells; obtain ⟨k3, k4, k5, _⟩ := hS3.cells; obtain ⟨k6, k7, k8, _⟩ := hS4.cells; obtain ⟨j0, j1, _⟩ := hP1.cells; obtain ⟨j2, j3, _⟩ := hP3.cells; obtain ⟨j4, j5, _⟩ := hP4.cells
      have e23 : σ 23 = .bool true := hT 23 (by kernel_rfl)
      obtain ⟨t25, u25, e25, f25⟩ := hT 25 (by kernel_rfl)
      obtain ⟨u27, e27, f27⟩ := hT 27 (by kernel_rfl)
      have e28 : σ 28 = .int .i64 at_ := hT 28 (by kernel_rfl)
      clear hT
      refine .inl ⟨by rw [hmk]; simp [Region.wanted, yielded, e23], fun K hK => ?_⟩
      rw [hmk] at hK ⊢
      simp only [Act.put, List.setIfInBounds_toArray, List.set_cons_zero, List.set_cons_succ] at hK
      rw [e23, e25, e27, e28] at hK ⊢
      clear e23 e25 e27 e28
      have HK := Aside0.mk hK
      clear hK
      have hcon := alike_any n1 r1 at_ (.iface t25 u25) u27 _ W f25 f27
      unfold setV at hcon
      go_wp2_with (go_at_call 24; refine hcon.mono ?_; clear hcon; rintro e w' ⟨rfl, hb⟩)
      exact HK.out _ _ rfl hb
    case s30 =>
      intro σ W hI hT
      obtain ⟨h0, hS1, hP1, hZ1, hR1, hS3, hP3, hZ3, hR3, hS4, hP4, hZ4, hR4⟩ := hI; obtain ⟨k0, k1, k2, _⟩ := hS1.cells; obtain ⟨k3, k4, k5, _⟩ := hS3.cells; obtain ⟨k6, k7, k8, _⟩ := hS4.cells; obtain ⟨j0, j1, _⟩ := hP1.cells; obtain ⟨j2, j3, _⟩ := hP3.cells; obtain ⟨j4, j5, _⟩ := hP4.cells
      have e23 : σ 23 = .bool true := hT 23 (by kernel_rfl)
      have e29 : σ 29 = .bool true := hT 29 (by kernel_rfl)
      clear hT
      refine .inl ⟨rfl, fun K hK => ?_⟩
      rw [hmk] at hK ⊢
      simp only [Act.put, List.setIfInBounds_toArray, List.set_cons_zero, List.set_cons_succ] at hK
      rw [e23, e29] at hK ⊢
      clear e23 e29
      have HK := Aside0.mk hK
      clear hK
      go_wp2
      exact HK.out _ _ rfl (Below.refl _ _)
    case s31 =>
      intro σ W hI hT
      obtain ⟨h0, hS1, hP1, hZ1, hR1, hS3, hP3, hZ3, hR3, hS4, hP4, hZ4, hR4⟩ := hI; obtain ⟨k0, k1, k2, _⟩ := hS1.cells; obtain ⟨k3, k4, k5, _⟩ := hS3.cells; obtain ⟨k6, k7, k8, _⟩ := hS4.cells; obtain ⟨j0, j1, _⟩ := hP1.cells; obtain ⟨j2, j3, _⟩ := hP3.cells; obtain ⟨j4, j5, _⟩ := hP4.cells
      have e30 : σ 30 = .bool true := hT 30 (by kernel_rfl)
      clear hT
      refine .inl ⟨rfl, fun K hK => ?_⟩
      rw [hmk] at hK ⊢
      simp only [Act.put, List.setIfInBounds_toArray, List.set_cons_zero, List.set_cons_succ] at hK
      rw [e30] at hK ⊢
      clear e30
      have HK := Aside0.mk hK
      clear hK
      go_wp2
      exact HK.out _ _ rfl (Below.refl _ _)
  case done =>
    intro mk hmk σ W hI hS hT
    simp only [dstsOf, putAll, List.map_cons, List.map_nil, Nat.reduceAdd, Act.put, List.setIfInBounds_toArray, List.set_cons_zero, List.set_cons_succ] at hmk
    rw [hmk]
    have e6 : σ 31 = .bool true := hT 31 (by decide)
    rw [e6]
    clear hT e6
    go_wp2
    go_ret
    exact ⟨rfl, hI.1⟩
end Go.Proofs.Ytbjdnfnolhahgaa.F
