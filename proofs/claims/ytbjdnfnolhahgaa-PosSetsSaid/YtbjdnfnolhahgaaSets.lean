/- PosSets: the walk. -/
import Derived.Test.YtbjdnfnolhahgaaBoth
namespace Go.Proofs.Ytbjdnfnolhahgaa.F
open Go.RowKit Go.Shelf Go.Proofs.YtbjdnfnolhahgaaW.PrintWords
set_option linter.unusedVariables false
attribute [local go_sem] run_store_wv
set_option maxRecDepth 100000 in
set_option maxHeartbeats 8000000 in
theorem posSets (n rep tw at_ : Int) (A : Option Addr) (c : Nat) (l : List Int) (w : World) (hc : l.length ≤ c) (hA : IntArg w A l) :
    Calls Try.prog 7 #[.int .i64 n, .slice A l.length c, .int .i64 rep, .int .i64 tw, .int .i64 at_] w fun e w' => e = .returned (.bool true) ∧ Below w.heap.size w w' := by
  have hu28 := Try.underlying28
  have hu48 := Try.underlying48
  obtain ⟨m, hm⟩ : ∃ m, l.take 300 = m := ⟨_, rfl⟩
  obtain ⟨n1, r1, z1, e1, hs1, hr1⟩ := of_both n rep m (by rw [← hm, List.length_take]; omega)
  obtain ⟨n2, r2, z2, e2, hs2, hr2⟩ := all_both n rep
  obtain ⟨n3, r3, z3, e3, hs3, hr3⟩ := to_both n1 r1 tw z1
  have HB := Aside0.mk (Below.refl w.heap.size w)
  have HA := Aside0.mk (hA)
  clear hA
  go_enter Try.func7, Try.ntmps7
  go_wp2_with (fail)
  refine (shown_any w).mono ?_
  rintro e w1 ⟨rfl, hb⟩
  replace HB := Aside0.mk (HB.out.trans (hb.mono HB.out.size))
  replace HA := Aside0.mk (HA.out.below hb)
  clear hb
  go_wp2_with (fail)
  have hfew := few_any A c l w1 hc HA.out
  replace HA := Aside0.mk (HA.out.take 300)
  rw [hm] at hfew HA
  clear hm
  refine hfew.mono ?_
  clear hfew
  rintro e w' ⟨⟨c', rfl, hc'⟩, rfl⟩
  go_wp2_with (fail)
  refine (hs1 w1 A c' HA.out).mono ?_
  rintro e w2 ⟨v1, he, hS, hb⟩
  unfold setV at he
  subst he
  replace HB := Aside0.mk (HB.out.trans (hb.mono HB.out.size))
  replace HA := Aside0.mk (HA.out.below hb)
  clear hb
  have Z1 := Aside0.mk (hS)
  clear hS
  go_wp2_with (fail)
  refine calls_gen (fun W => Below w2.heap.size w2 W ∧ SBox W w2.heap.size (.int .i64 n1) (.int .i64 r1) (wvOf v1)) ⟨(Below.refl _ _).alloc (Nat.le_refl _) _, SBox.new w2 _ _ _⟩ ?_
  rintro w3 ⟨hb, hbox⟩
  replace HB := Aside0.mk (HB.out.trans (hb.mono HB.out.size))
  replace HA := Aside0.mk (HA.out.below hb)
  replace Z1 := Aside0.mk (Z1.out.below hb)
  clear hb
  have S1 := Aside0.mk (hbox)
  clear hbox
  refine (hr1 w3 A c' HA.out hc').mono ?_
  rintro e w4 ⟨u1, rfl, hR, hb⟩
  obtain ⟨A1, c1, rfl, _, _⟩ := Kd.R_reads hR
  replace HB := Aside0.mk (HB.out.trans (hb.mono HB.out.size))
  replace HA := Aside0.mk (HA.out.below hb)
  replace Z1 := Aside0.mk (Z1.out.below hb)
  replace S1 := Aside0.mk (S1.out.below hb)
  clear hb
  have R1 := Aside0.mk (hR)
  clear hR
  go_wp2_with (fail)
  refine calls_gen (fun W => Below w4.heap.size w4 W ∧ PBox W w4.heap.size (.slice A1 (bsOf n1 z1).length c1) (.int .i64 r1)) ⟨(Below.refl _ _).alloc (Nat.le_refl _) _, PBox.new w4 _ _⟩ ?_
  rintro w5 ⟨hb, hbox⟩
  replace HB := Aside0.mk (HB.out.trans (hb.mono HB.out.size))
  replace HA := Aside0.mk (HA.out.below hb)
  replace Z1 := Aside0.mk (Z1.out.below hb)
  replace S1 := Aside0.mk (S1.out.below hb)
  replace R1 := Aside0.mk (R_bool_below R1.out hb)
  clear hb
  have P1 := Aside0.mk (hbox)
  clear hbox
  refine (hs2 w5).mono ?_
  rintro e w6 ⟨v2, he, hS, hb⟩
  unfold setV at he
  subst he
  replace HB := Aside0.mk (HB.out.trans (hb.mono HB.out.size))
  replace HA := Aside0.mk (HA.out.below hb)
  replace Z1 := Aside0.mk (Z1.out.below hb)
  replace S1 := Aside0.mk (S1.out.below hb)
  replace R1 := Aside0.mk (R_bool_below R1.out hb)
  replace P1 := Aside0.mk (P1.out.below hb)
  clear hb
  have Z2 := Aside0.mk (hS)
  clear hS
  go_wp2_with (fail)
  refine calls_gen (fun W => Below w6.heap.size w6 W ∧ SBox W w6.heap.size (.int .i64 n2) (.int .i64 r2) (wvOf v2)) ⟨(Below.refl _ _).alloc (Nat.le_refl _) _, SBox.new w6 _ _ _⟩ ?_
  rintro w7 ⟨hb, hbox⟩
  replace HB := Aside0.mk (HB.out.trans (hb.mono HB.out.size))
  replace HA := Aside0.mk (HA.out.below hb)
  replace Z1 := Aside0.mk (Z1.out.below hb)
  replace S1 := Aside0.mk (S1.out.below hb)
  replace R1 := Aside0.mk (R_bool_below R1.out hb)
  replace P1 := Aside0.mk (P1.out.below hb)
  replace Z2 := Aside0.mk (Z2.out.below hb)
  clear hb
  have S2 := Aside0.mk (hbox)
  clear hbox
  refine (hr2 w7).mono ?_
  rintro e w8 ⟨u2, rfl, hR, hb⟩
  obtain ⟨A2, c2, rfl, _, _⟩ := Kd.R_reads hR
  replace HB := Aside0.mk (HB.out.trans (hb.mono HB.out.size))
  replace HA := Aside0.mk (HA.out.below hb)
  replace Z1 := Aside0.mk (Z1.out.below hb)
  replace S1 := Aside0.mk (S1.out.below hb)
  replace R1 := Aside0.mk (R_bool_below R1.out hb)
  replace P1 := Aside0.mk (P1.out.below hb)
  replace Z2 := Aside0.mk (Z2.out.below hb)
  replace S2 := Aside0.mk (S2.out.below hb)
  clear hb
  have R2 := Aside0.mk (hR)
  clear hR
  obtain ⟨kS1_0, kS1_1, kS1_2, kS1_3, kS1_4, kS1_5⟩ := (S1.out.below ((Below.refl _ _).alloc (Nat.le_refl _) (.cells #[.slice A2 (bsOf n2 z2).length c2, .int .i64 r2] 48))).cells
  obtain ⟨kP1_0, kP1_1, kP1_2, kP1_3⟩ := (P1.out.below ((Below.refl _ _).alloc (Nat.le_refl _) (.cells #[.slice A2 (bsOf n2 z2).length c2, .int .i64 r2] 48))).cells
  obtain ⟨kS2_0, kS2_1, kS2_2, kS2_3, kS2_4, kS2_5⟩ := (S2.out.below ((Below.refl _ _).alloc (Nat.le_refl _) (.cells #[.slice A2 (bsOf n2 z2).length c2, .int .i64 r2] 48))).cells
  go_wp2_with (fail)
  refine calls_gen (fun W => Below w8.heap.size w8 W ∧ PBox W w8.heap.size (.slice A2 (bsOf n2 z2).length c2) (.int .i64 r2)) ⟨(Below.refl _ _).alloc (Nat.le_refl _) _, PBox.new w8 _ _⟩ ?_
  rintro w9 ⟨hb, hbox⟩
  clear kS1_0 kS1_1 kS1_2 kS1_3 kS1_4 kS1_5 kP1_0 kP1_1 kP1_2 kP1_3 kS2_0 kS2_1 kS2_2 kS2_3 kS2_4 kS2_5
  replace HB := Aside0.mk (HB.out.trans (hb.mono HB.out.size))
  replace HA := Aside0.mk (HA.out.below hb)
  replace Z1 := Aside0.mk (Z1.out.below hb)
  replace S1 := Aside0.mk (S1.out.below hb)
  replace R1 := Aside0.mk (R_bool_below R1.out hb)
  replace P1 := Aside0.mk (P1.out.below hb)
  replace Z2 := Aside0.mk (Z2.out.below hb)
  replace S2 := Aside0.mk (S2.out.below hb)
  replace R2 := Aside0.mk (R_bool_below R2.out hb)
  clear hb
  have P2 := Aside0.mk (hbox)
  clear hbox
  refine (alike_any n1 r1 at_ (wvOf v1) _ z1 w9 Z1.out R1.out).mono ?_
  rintro e w10 ⟨rfl, hb⟩
  replace HB := Aside0.mk (HB.out.trans (hb.mono HB.out.size))
  replace HA := Aside0.mk (HA.out.below hb)
  replace Z1 := Aside0.mk (Z1.out.below hb)
  replace S1 := Aside0.mk (S1.out.below hb)
  replace R1 := Aside0.mk (R_bool_below R1.out hb)
  replace P1 := Aside0.mk (P1.out.below hb)
  replace Z2 := Aside0.mk (Z2.out.below hb)
  replace S2 := Aside0.mk (S2.out.below hb)
  replace R2 := Aside0.mk (R_bool_below R2.out hb)
  replace P2 := Aside0.mk (P2.out.below hb)
  clear hb
  obtain ⟨kS2_0, kS2_1, kS2_2, kS2_3, kS2_4, kS2_5⟩ := S2.out.cells
  obtain ⟨kP2_0, kP2_1, kP2_2, kP2_3⟩ := P2.out.cells
  go_wp2_with (fail)
  refine (alike_any n2 r2 at_ (wvOf v2) _ z2 w10 Z2.out R2.out).mono ?_
  clear kS2_0 kS2_1 kS2_2 kS2_3 kS2_4 kS2_5 kP2_0 kP2_1 kP2_2 kP2_3
  rintro e w11 ⟨rfl, hb⟩
  replace HB := Aside0.mk (HB.out.trans (hb.mono HB.out.size))
  replace HA := Aside0.mk (HA.out.below hb)
  replace Z1 := Aside0.mk (Z1.out.below hb)
  replace S1 := Aside0.mk (S1.out.below hb)
  replace R1 := Aside0.mk (R_bool_below R1.out hb)
  replace P1 := Aside0.mk (P1.out.below hb)
  replace Z2 := Aside0.mk (Z2.out.below hb)
  replace S2 := Aside0.mk (S2.out.below hb)
  replace R2 := Aside0.mk (R_bool_below R2.out hb)
  replace P2 := Aside0.mk (P2.out.below hb)
  clear hb
  obtain ⟨kS1_0, kS1_1, kS1_2, kS1_3, kS1_4, kS1_5⟩ := S1.out.cells
  go_wp2_with (fail)
  refine (hs3 w11 (wvOf v1) Z1.out).mono ?_
  clear kS1_0 kS1_1 kS1_2 kS1_3 kS1_4 kS1_5
  rintro e w12 ⟨v3, he, hS, hb⟩
  unfold setV at he
  subst he
  replace HB := Aside0.mk (HB.out.trans (hb.mono HB.out.size))
  replace HA := Aside0.mk (HA.out.below hb)
  replace Z1 := Aside0.mk (Z1.out.below hb)
  replace S1 := Aside0.mk (S1.out.below hb)
  replace R1 := Aside0.mk (R_bool_below R1.out hb)
  replace P1 := Aside0.mk (P1.out.below hb)
  replace Z2 := Aside0.mk (Z2.out.below hb)
  replace S2 := Aside0.mk (S2.out.below hb)
  replace R2 := Aside0.mk (R_bool_below R2.out hb)
  replace P2 := Aside0.mk (P2.out.below hb)
  clear hb
  have Z3 := Aside0.mk (hS)
  clear hS
  obtain ⟨kP1_0, kP1_1, kP1_2, kP1_3⟩ := (P1.out.below ((Below.refl _ _).alloc (Nat.le_refl _) (.cells #[.int .i64 n3, .int .i64 r3, wvOf v3] 28))).cells
  go_wp2_with (fail)
  refine calls_gen (fun W => Below w12.heap.size w12 W ∧ SBox W w12.heap.size (.int .i64 n3) (.int .i64 r3) (wvOf v3)) ⟨(Below.refl _ _).alloc (Nat.le_refl _) _, SBox.new w12 _ _ _⟩ ?_
  rintro w13 ⟨hb, hbox⟩
  clear kP1_0 kP1_1 kP1_2 kP1_3
  replace HB := Aside0.mk (HB.out.trans (hb.mono HB.out.size))
  replace HA := Aside0.mk (HA.out.below hb)
  replace Z1 := Aside0.mk (Z1.out.below hb)
  replace S1 := Aside0.mk (S1.out.below hb)
  replace R1 := Aside0.mk (R_bool_below R1.out hb)
  replace P1 := Aside0.mk (P1.out.below hb)
  replace Z2 := Aside0.mk (Z2.out.below hb)
  replace S2 := Aside0.mk (S2.out.below hb)
  replace R2 := Aside0.mk (R_bool_below R2.out hb)
  replace P2 := Aside0.mk (P2.out.below hb)
  replace Z3 := Aside0.mk (Z3.out.below hb)
  clear hb
  have S3 := Aside0.mk (hbox)
  clear hbox
  refine (hr3 w13 _ R1.out).mono ?_
  rintro e w14 ⟨u3, rfl, hR, hb⟩
  obtain ⟨A3, c3, rfl, _, _⟩ := Kd.R_reads hR
  replace HB := Aside0.mk (HB.out.trans (hb.mono HB.out.size))
  replace HA := Aside0.mk (HA.out.below hb)
  replace Z1 := Aside0.mk (Z1.out.below hb)
  replace S1 := Aside0.mk (S1.out.below hb)
  replace R1 := Aside0.mk (R_bool_below R1.out hb)
  replace P1 := Aside0.mk (P1.out.below hb)
  replace Z2 := Aside0.mk (Z2.out.below hb)
  replace S2 := Aside0.mk (S2.out.below hb)
  replace R2 := Aside0.mk (R_bool_below R2.out hb)
  replace P2 := Aside0.mk (P2.out.below hb)
  replace Z3 := Aside0.mk (Z3.out.below hb)
  replace S3 := Aside0.mk (S3.out.below hb)
  clear hb
  have R3 := Aside0.mk (hR)
  clear hR
  obtain ⟨kS3_0, kS3_1, kS3_2, kS3_3, kS3_4, kS3_5⟩ := (S3.out.below ((Below.refl _ _).alloc (Nat.le_refl _) (.cells #[.slice A3 (bsOf n3 z3).length c3, .int .i64 r3] 48))).cells
  go_wp2_with (fail)
  refine calls_gen (fun W => Below w14.heap.size w14 W ∧ PBox W w14.heap.size (.slice A3 (bsOf n3 z3).length c3) (.int .i64 r3)) ⟨(Below.refl _ _).alloc (Nat.le_refl _) _, PBox.new w14 _ _⟩ ?_
  rintro w15 ⟨hb, hbox⟩
  clear kS3_0 kS3_1 kS3_2 kS3_3 kS3_4 kS3_5
  replace HB := Aside0.mk (HB.out.trans (hb.mono HB.out.size))
  replace HA := Aside0.mk (HA.out.below hb)
  replace Z1 := Aside0.mk (Z1.out.below hb)
  replace S1 := Aside0.mk (S1.out.below hb)
  replace R1 := Aside0.mk (R_bool_below R1.out hb)
  replace P1 := Aside0.mk (P1.out.below hb)
  replace Z2 := Aside0.mk (Z2.out.below hb)
  replace S2 := Aside0.mk (S2.out.below hb)
  replace R2 := Aside0.mk (R_bool_below R2.out hb)
  replace P2 := Aside0.mk (P2.out.below hb)
  replace Z3 := Aside0.mk (Z3.out.below hb)
  replace S3 := Aside0.mk (S3.out.below hb)
  replace R3 := Aside0.mk (R_bool_below R3.out hb)
  clear hb
  have P3 := Aside0.mk (hbox)
  clear hbox
  refine (alike_any n3 r3 at_ (wvOf v3) _ z3 w15 Z3.out R3.out).mono ?_
  rintro e w16 ⟨rfl, hb⟩
  replace HB := Aside0.mk (HB.out.trans (hb.mono HB.out.size))
  replace HA := Aside0.mk (HA.out.below hb)
  replace Z1 := Aside0.mk (Z1.out.below hb)
  replace S1 := Aside0.mk (S1.out.below hb)
  replace R1 := Aside0.mk (R_bool_below R1.out hb)
  replace P1 := Aside0.mk (P1.out.below hb)
  replace Z2 := Aside0.mk (Z2.out.below hb)
  replace S2 := Aside0.mk (S2.out.below hb)
  replace R2 := Aside0.mk (R_bool_below R2.out hb)
  replace P2 := Aside0.mk (P2.out.below hb)
  replace Z3 := Aside0.mk (Z3.out.below hb)
  replace S3 := Aside0.mk (S3.out.below hb)
  replace R3 := Aside0.mk (R_bool_below R3.out hb)
  replace P3 := Aside0.mk (P3.out.below hb)
  clear hb
  go_wp2_with (fail)
  go_ret
  exact ⟨rfl, HB.out⟩
end Go.Proofs.Ytbjdnfnolhahgaa.F
