/- PosWays: the walk. -/
import Derived.Test.YtbjdnfnolhahgaaStab2
namespace Go.Proofs.Ytbjdnfnolhahgaa.F.G
open Go.RowKit Go.Shelf Go.Proofs.YtbjdnfnolhahgaaW.PrintWords Go.Proofs.YtbjdnfnolhahgaaW.PrintLast Go.Proofs.YtbjdnfnolhahgaaW.PrintMore
set_option linter.unusedVariables false
set_option maxRecDepth 100000 in
set_option maxHeartbeats 8000000 in
theorem posWays (n at_ : Int) (A : Option Addr) (c : Nat) (l : List Int) (A' : Option Addr) (c' : Nat) (l2 : List Int) (w : World) (hn0 : 0 ≤ n) (hn1 : n ≤ 255) (hl : l.length ≤ 1048576) (hc : l.length ≤ c) (hA : ArgOf .u8 w A l) (hb : ∀ x ∈ l, 0 ≤ x ∧ x ≤ 255)
    (hl2 : l2.length ≤ 1048576) (hc' : l2.length ≤ c') (hA2 : ArgOf .u8 w A' l2) (hb2 : ∀ x ∈ l2, 0 ≤ x ∧ x ≤ 255) :
    Calls Try.prog 8 #[.int .u8 n, .slice A l.length c, .slice A' l2.length c', .int .i64 at_] w fun e w' => e = .returned (.bool true) ∧ Below w.heap.size w w' := by
  have hu28 := Try.underlying28
  have HC := Aside0.mk (hA.C (by omega))
  have HC2 := Aside0.mk (hA2.C (by omega))
  clear hA hA2
  have HL := Aside0.mk hl
  have HL2 := Aside0.mk hl2
  have HE := Aside0.mk hb
  have HE2 := Aside0.mk hb2
  clear hl hb hl2 hb2
  go_enter Try.func8, Try.ntmps8
  go_wp2_with (fail)
  refine (shown_any w).mono ?_
  rintro e w1 ⟨rfl, hB1⟩
  have HB := Aside0.mk hB1
  clear hB1
  go_wp2_with (fail)
  generalize hK : 1 + n = M at *
  have HK := Aside0.mk (show 1 ≤ M ∧ M ≤ 256 by omega)
  clear hK
  have HW1 := HB
  go_loopg [11, 13] l.length (fun kq va vi w' => ∃ (x : Int) (zs : List Int), vi = .int .i64 x ∧ Aside0 (0 ≤ x ∧ x + kq = l.length ∧ zs = (l.take x.toNat).map (· % M)) ∧ Aside0 ((Kd.int .i64).R 3 w' w1.heap.size (fun _ => True) va zs) ∧ Aside0 (Below w1.heap.size w1 w'))
  case atStart => exact ⟨0, [], rfl, ⟨by simp⟩, ⟨Kd.R_nil _ _ _ _ _⟩, ⟨Below.refl _ _⟩⟩
  case round =>
    clear HB
    obtain ⟨x, zs, rfl, HX, HO, HB⟩ := hrel
    by_cases c3 : x < (l.length : Int)
    · cases gk with
      | zero => have := HX.out; omega
      | succ k1 =>
        have c3b : decide (x < (l.length : Int)) = true := decide_eq_true c3
        have p2 : 0 ≤ x := HX.out.1
        obtain ⟨ad, e_, hx⟩ := Kd.at_int (Kd.C_below HC.out HW1.out) x p2 c3
        cases e_
        replace hx := (HB.out.cell (World.block_lt_of_cell? w1 _ hx)).trans hx
        obtain ⟨he0, he1⟩ := HE.out _ (rd_mem p2 c3)
        have hk1 := HK.out.1
        have hk2 := HK.out.2
        have hlen : zs.length ≤ l.length := by rw [HX.out.2.2]; simp; omega
        have q2 := eq_true c3
        replace p2 := eq_true p2
        clear c3
        go_wp2_with ((with_reducible refine gate_builtin (b := .append) (xs := #[.tmp 38, .tmp 46]) rfl ?_); at_builtin; refine Kd.R_append (Kd.int .i64) (w0 := w1) w1.heap.size rfl (.tmp 38) (.tmp 46) 24 3 (.int .i64 0) 8 rfl Try.underlying24 info3 rfl (by decide) (by omega) u11 zs (rd l x % M) [.int .i64 (rd l x % M)] (fun _ => True) (fun _ => False) rfl rfl ?aP (fun _ hk => hk.elim) ?aF ?aO ?aB ?aS ?aL ?_; (case aP => exact rfl); (case aB => first | exact HB.out | exact below_alloc HB.out _); (case aF => exact (fun _ _ => trivial)); (case aO => first | exact HO.out | exact Kd.R_alloc HO.out _); (case aS => first | exact below_size HB.out | exact below_size (below_alloc HB.out _)); (case aL => have := HL.out; omega); intro vnew w9 ho hb hg hat; replace HB := Aside0.mk hb; replace HO := Aside0.mk ho; clear ho hb hg hat)
        go_roundg k1
        case measure => omega
        case rel =>
          refine ⟨wrap64 (x + 1), zs ++ [rd l x % M], rfl, ⟨?_⟩, HO, HB⟩
          have hx9 := HX.out
          have hl9 := HL.out
          have e1 : wrap64 (x + 1) = x + 1 := Go.IntWalk.wrap64_in _ (by omega)
          have q3 : x < (l.length : Int) := of_eq_true q2
          rw [e1]
          refine ⟨by omega, by omega, ?_⟩
          rw [hx9.2.2, show (x + 1).toNat = x.toNat + 1 from by omega, List.take_succ_eq_append_getElem (by omega), List.map_append, List.map_cons, List.map_nil]
          congr 2
          unfold rd
          rw [List.getD_eq_getElem?_getD, List.getElem?_eq_getElem (by omega)]
          rfl
    · have c3b : decide (x < (l.length : Int)) = false := decide_eq_false c3
      have hz : zs = l.map (· % M) := by rw [HX.out.2.2, List.take_of_length_le (by have := HX.out; omega)]
      subst hz
      clear HX c3
      go_wp2_with (fail)
      obtain ⟨wa, hwa⟩ : ∃ wa, wa = wr := ⟨_, rfl⟩
      subst hwa
      have HWa := Aside0.mk (HW1.out.trans (HB.out.mono HW1.out.size))
      have hR1 := rowI_below (b := 0) (Kd.R_lower HO.out (Nat.zero_le _)) (Below.refl _ _)
      have HR1 := Aside0.mk hR1
      clear hR1 HB HO
      go_loopg [12, 14] l2.length (fun kq va vi w' => ∃ (x : Int) (zs : List Int), vi = .int .i64 x ∧ Aside0 (0 ≤ x ∧ x + kq = l2.length ∧ zs = (l2.take x.toNat).map (· % M)) ∧ Aside0 ((Kd.int .i64).R 3 w' wa.heap.size (fun _ => True) va zs) ∧ Aside0 (Below wa.heap.size wa w'))
      case atStart => exact ⟨0, [], rfl, ⟨by simp⟩, ⟨Kd.R_nil _ _ _ _ _⟩, ⟨Below.refl _ _⟩⟩
      case round =>
        obtain ⟨x, zs, rfl, HX, HO, HB⟩ := hrel
        by_cases c3 : x < (l2.length : Int)
        · cases gk with
          | zero => have := HX.out; omega
          | succ k1 =>
            have c3b : decide (x < (l2.length : Int)) = true := decide_eq_true c3
            have p2 : 0 ≤ x := HX.out.1
            obtain ⟨ad, e_, hx⟩ := Kd.at_int (Kd.C_below HC2.out HWa.out) x p2 c3
            cases e_
            replace hx := (HB.out.cell (World.block_lt_of_cell? wa _ hx)).trans hx
            obtain ⟨he0, he1⟩ := HE2.out _ (rd_mem p2 c3)
            have hk1 := HK.out.1
            have hk2 := HK.out.2
            have hlen : zs.length ≤ l2.length := by rw [HX.out.2.2]; simp; omega
            have q2 := eq_true c3
            replace p2 := eq_true p2
            clear c3
            go_wp2_with ((with_reducible refine gate_builtin (b := .append) (xs := #[.tmp 54, .tmp 62]) rfl ?_); at_builtin; refine Kd.R_append (Kd.int .i64) (w0 := wa) wa.heap.size rfl (.tmp 54) (.tmp 62) 24 3 (.int .i64 0) 8 rfl Try.underlying24 info3 rfl (by decide) (by omega) u12 zs (rd l2 x % M) [.int .i64 (rd l2 x % M)] (fun _ => True) (fun _ => False) rfl rfl ?aP (fun _ hk => hk.elim) ?aF ?aO ?aB ?aS ?aL ?_; (case aP => exact rfl); (case aB => first | exact HB.out | exact below_alloc HB.out _); (case aF => exact (fun _ _ => trivial)); (case aO => first | exact HO.out | exact Kd.R_alloc HO.out _); (case aS => first | exact below_size HB.out | exact below_size (below_alloc HB.out _)); (case aL => have := HL2.out; omega); intro vnew w9 ho hb hg hat; replace HB := Aside0.mk hb; replace HO := Aside0.mk ho; clear ho hb hg hat)
            go_roundg k1
            case measure => omega
            case rel =>
              refine ⟨wrap64 (x + 1), zs ++ [rd l2 x % M], rfl, ⟨?_⟩, HO, HB⟩
              have hx9 := HX.out
              have hl9 := HL2.out
              have e1 : wrap64 (x + 1) = x + 1 := Go.IntWalk.wrap64_in _ (by omega)
              have q3 : x < (l2.length : Int) := of_eq_true q2
              rw [e1]
              refine ⟨by omega, by omega, ?_⟩
              rw [hx9.2.2, show (x + 1).toNat = x.toNat + 1 from by omega, List.take_succ_eq_append_getElem (by omega), List.map_append, List.map_cons, List.map_nil]
              congr 2
              unfold rd
              rw [List.getD_eq_getElem?_getD, List.getElem?_eq_getElem (by omega)]
              rfl
        · have c3b : decide (x < (l2.length : Int)) = false := decide_eq_false c3
          have hz : zs = l2.map (· % M) := by rw [HX.out.2.2, List.take_of_length_le (by have := HX.out; omega)]
          subst hz
          clear HX c3
          go_wp2_with (fail)
          obtain ⟨ws, hws⟩ : ∃ ws, ws = wr := ⟨_, rfl⟩
          subst hws
          replace HR1 := Aside0.mk (rowI_below HR1.out HB.out)
          obtain ⟨A2, c2, rfl, hc2, hC2⟩ := Kd.R_reads HO.out
          obtain ⟨A1, c1, rfl, hc1, hC1⟩ := Kd.R_reads HR1.out
          have hI1 := intArg_C hC1
          have hI2 := intArg_C hC2
          replace HB := Aside0.mk (HWa.out.trans (HB.out.mono HWa.out.size))
          clear hC1 hC2 HO HR1 HWa HW1
          obtain ⟨m1, hm1⟩ : ∃ m, (l.map (· % M)).take 300 = m := ⟨_, rfl⟩
          obtain ⟨m2, hm2⟩ : ∃ m, (l2.map (· % M)).take 300 = m := ⟨_, rfl⟩
          have hout1 := out_mod HK.out.1 hm1
          have hout2 := out_mod HK.out.1 hm2
          have hml1 : m1.length ≤ 300 := by rw [← hm1, List.length_take]; omega
          have hml2 : m2.length ≤ 300 := by rw [← hm2, List.length_take]; omega
          have hfew1 : ∀ W, Below ws.heap.size ws W → _ := fun W (h : Below ws.heap.size ws W) => few_any A1 c1 (l.map (· % M)) W hc1 (hI1.below h)
          have hfew2 : ∀ W, Below ws.heap.size ws W → _ := fun W (h : Below ws.heap.size ws W) => few_any A2 c2 (l2.map (· % M)) W hc2 (hI2.below h)
          replace hI1 := hI1.take 300
          replace hI2 := hI2.take 300
          rw [hm1] at hfew1 hI1
          rw [hm2] at hfew2 hI2
          have HF1 := Aside0.mk hfew1
          have HF2 := Aside0.mk hfew2
          clear hm1 hm2 hc1 hc2 hfew1 hfew2
          generalize (l.map (· % M)).length = lp at *
          generalize (l2.map (· % M)).length = lq at *
          have HWS := Aside0.mk (Below.refl ws.heap.size ws)
          refine (HF2.out ws HWS.out).mono ?_
          rintro e w' ⟨⟨d2, rfl, hd2⟩, rfl⟩
          go_wp2_with (fail)
          have hof2 := fun W (h : Below ws.heap.size ws W) => of_any M 2 A2 d2 m2 W (by omega) (hI2.below h) (fit_mod HK.out.1 HK.out.2 (by omega) (by omega)) hout2
          have hof1 := fun W d (h : Below ws.heap.size ws W) => of_any M 3 A1 d m1 W (by omega) (hI1.below h) (fit_mod HK.out.1 HK.out.2 (by omega) (by omega)) hout1
          generalize filt M (inZ m1) = zp at *
          generalize filt M (inZ m2) = zq at *
          have HO1 := Aside0.mk hof1
          clear hof1 hI1 hI2 hout1 hout2
          refine (hof2 ws HWS.out).mono ?_
          rintro e w2 ⟨t1, u1, he, hS, hb⟩
          unfold setV at he
          subst he
          replace HB := Aside0.mk (HB.out.trans (hb.mono HB.out.size))
          replace HWS := Aside0.mk (HWS.out.trans (hb.mono HWS.out.size))
          clear hb
          have Z1 := Aside0.mk (hS)
          clear hS
          clear hof2
          go_wp2_with (fail)
          refine calls_gen (fun W => Below w2.heap.size w2 W ∧ SBox W w2.heap.size (.int .i64 M) (.int .i64 2) (.iface t1 u1)) ⟨(Below.refl _ _).alloc (Nat.le_refl _) _, SBox.new w2 _ _ _⟩ ?_
          rintro w3 ⟨hb, hbox⟩
          replace HB := Aside0.mk (HB.out.trans (hb.mono HB.out.size))
          replace HWS := Aside0.mk (HWS.out.trans (hb.mono HWS.out.size))
          replace Z1 := Aside0.mk (Z1.out.below hb)
          clear hb
          have S1 := Aside0.mk (hbox)
          clear hbox
          refine (HF1.out w3 HWS.out).mono ?_
          rintro e w' ⟨⟨d1, rfl, hd1⟩, rfl⟩
          go_wp2_with (fail)
          refine (HO1.out w3 d1 HWS.out).mono ?_
          rintro e w4 ⟨t2, u2, he, hS, hb⟩
          unfold setV at he
          subst he
          replace HB := Aside0.mk (HB.out.trans (hb.mono HB.out.size))
          replace HWS := Aside0.mk (HWS.out.trans (hb.mono HWS.out.size))
          replace Z1 := Aside0.mk (Z1.out.below hb)
          replace S1 := Aside0.mk (S1.out.below hb)
          clear hb
          have Z2 := Aside0.mk (hS)
          clear hS
          clear HO1 HF1 HF2 HWS
          obtain ⟨kS1_0, kS1_1, kS1_2, kS1_3, kS1_4, kS1_5⟩ := (S1.out.below ((Below.refl _ _).alloc (Nat.le_refl _) (.cells #[.int .i64 M, .int .i64 3, .iface t2 u2] 28))).cells
          go_wp2_with (fail)
          refine calls_gen (fun W => Below w4.heap.size w4 W ∧ SBox W w4.heap.size (.int .i64 M) (.int .i64 3) (.iface t2 u2)) ⟨(Below.refl _ _).alloc (Nat.le_refl _) _, SBox.new w4 _ _ _⟩ ?_
          rintro w5 ⟨hb, hbox⟩
          clear kS1_0 kS1_1 kS1_2 kS1_3 kS1_4 kS1_5
          replace HB := Aside0.mk (HB.out.trans (hb.mono HB.out.size))
          replace Z1 := Aside0.mk (Z1.out.below hb)
          replace S1 := Aside0.mk (S1.out.below hb)
          replace Z2 := Aside0.mk (Z2.out.below hb)
          clear hb
          have S2 := Aside0.mk (hbox)
          clear hbox
          refine (and_any M 3 2 (.iface t2 u2) (.iface t1 u1) zp zq w5 Z2.out Z1.out).mono ?_
          rintro e w6 ⟨t3, u3, he, hS, hb⟩
          unfold setV at he
          subst he
          replace HB := Aside0.mk (HB.out.trans (hb.mono HB.out.size))
          replace Z1 := Aside0.mk (Z1.out.below hb)
          replace S1 := Aside0.mk (S1.out.below hb)
          replace Z2 := Aside0.mk (Z2.out.below hb)
          replace S2 := Aside0.mk (S2.out.below hb)
          clear hb
          have Z3 := Aside0.mk (hS)
          clear hS
          have hcm : filt M (fun x => inZ zq x && inZ zp x) = filt M (fun x => inZ zp x && inZ zq x) := filt_congr fun x _ _ => Bool.and_comm _ _
          generalize hzc : filt M (fun x => inZ zp x && inZ zq x) = zc at *
          have HCM := Aside0.mk hcm
          have HZC := Aside0.mk hzc
          clear hcm hzc
          have HLN := Aside0.mk (show zp.length ≤ 4096 ∧ zc.length ≤ 4096 by have := Z2.out.rising.length; have := Z3.out.rising.length; have := HK.out; omega)
          go_wp2_with (fail)
          have hb4 := (Below.refl w6.heap.size w6).alloc (Nat.le_refl _) (.cells #[.int .i64 M, .int .i64 3, .iface t3 u3] 28)
          have hs4 := SBox.new w6 (.int .i64 M) (.int .i64 3) (.iface t3 u3)
          generalize w6.alloc (.cells #[.int .i64 M, .int .i64 3, .iface t3 u3] 28) = wv at hb4 hs4 ⊢
          replace HB := Aside0.mk (HB.out.trans (hb4.mono HB.out.size))
          replace Z1 := Aside0.mk (Z1.out.below hb4)
          replace S1 := Aside0.mk (S1.out.below hb4)
          replace Z2 := Aside0.mk (Z2.out.below hb4)
          replace S2 := Aside0.mk (S2.out.below hb4)
          replace Z3 := Aside0.mk (Z3.out.below hb4)
          clear hb4
          have S3 := Aside0.mk (hs4)
          clear hs4
          go_loopg [21] 3 (fun kq vi w' => ∃ (x : Int), vi = .int .i64 x ∧ Aside0 (1 ≤ x ∧ x + kq = 4) ∧ Aside0 (Below w.heap.size w w') ∧ Aside0 (SBox w' w2.heap.size (.int .i64 M) (.int .i64 2) (.iface t1 u1)) ∧ Aside0 (IsSet w' M 2 (.iface t1 u1) zq) ∧ Aside0 (SBox w' w4.heap.size (.int .i64 M) (.int .i64 3) (.iface t2 u2)) ∧ Aside0 (IsSet w' M 3 (.iface t2 u2) zp) ∧ Aside0 (SBox w' w6.heap.size (.int .i64 M) (.int .i64 3) (.iface t3 u3)) ∧ Aside0 (IsSet w' M 3 (.iface t3 u3) zc))
          case atStart => exact ⟨1, rfl, ⟨by omega⟩, HB, S1, Z1, S2, Z2, S3, Z3⟩
          case round =>
            clear HB S1 Z1 S2 Z2 S3 Z3
            obtain ⟨x, rfl, HX, HB, S1, Z1, S2, Z2, S3, Z3⟩ := hrel
            by_cases c3 : x ≤ 3
            · cases gk with
              | zero => have := HX.out; omega
              | succ k1 =>
                  have HY := Aside0.mk c3
                  have c3b : decide (x ≤ 3) = true := decide_eq_true c3
                  replace c3 := eq_true c3
                  have hmx : mayB x = true := by unfold mayB; rw [decide_eq_true HX.out.1, decide_eq_true HY.out]; rfl
                  have hto := to_any M 3 x (.iface t2 u2) zp wr Z2.out hmx
                  clear hmx
                  obtain ⟨kS2_0, kS2_1, kS2_2, kS2_3, kS2_4, kS2_5⟩ := S2.out.cells
                  go_wp2_with (fail)
                  refine (hto).mono ?_
                  clear kS2_0 kS2_1 kS2_2 kS2_3 kS2_4 kS2_5
                  rintro e w7 ⟨t4, u4, he, hS, hb⟩
                  unfold setV at he
                  subst he
                  replace HB := Aside0.mk (HB.out.trans (hb.mono HB.out.size))
                  replace S1 := Aside0.mk (S1.out.below hb)
                  replace Z1 := Aside0.mk (Z1.out.below hb)
                  replace S2 := Aside0.mk (S2.out.below hb)
                  replace Z2 := Aside0.mk (Z2.out.below hb)
                  replace S3 := Aside0.mk (S3.out.below hb)
                  replace Z3 := Aside0.mk (Z3.out.below hb)
                  clear hb
                  have Z4 := Aside0.mk (hS)
                  clear hS
                  clear hto
                  obtain ⟨kS1_0, kS1_1, kS1_2, kS1_3, kS1_4, kS1_5⟩ := (S1.out.below ((Below.refl _ _).alloc (Nat.le_refl _) (.cells #[.int .i64 M, .int .i64 x, .iface t4 u4] 28))).cells
                  go_wp2_with (fail)
                  refine calls_gen (fun W => Below w7.heap.size w7 W ∧ SBox W w7.heap.size (.int .i64 M) (.int .i64 x) (.iface t4 u4)) ⟨(Below.refl _ _).alloc (Nat.le_refl _) _, SBox.new w7 _ _ _⟩ ?_
                  rintro w8 ⟨hb, hbox⟩
                  clear kS1_0 kS1_1 kS1_2 kS1_3 kS1_4 kS1_5
                  replace HB := Aside0.mk (HB.out.trans (hb.mono HB.out.size))
                  replace S1 := Aside0.mk (S1.out.below hb)
                  replace Z1 := Aside0.mk (Z1.out.below hb)
                  replace S2 := Aside0.mk (S2.out.below hb)
                  replace Z2 := Aside0.mk (Z2.out.below hb)
                  replace S3 := Aside0.mk (S3.out.below hb)
                  replace Z3 := Aside0.mk (Z3.out.below hb)
                  replace Z4 := Aside0.mk (Z4.out.below hb)
                  clear hb
                  have S4 := Aside0.mk (hbox)
                  clear hbox
                  refine (and_any M x 2 (.iface t4 u4) (.iface t1 u1) zp zq w8 Z4.out Z1.out).mono ?_
                  rintro e w9 ⟨t5, u5, he, hS, hb⟩
                  unfold setV at he
                  subst he
                  replace HB := Aside0.mk (HB.out.trans (hb.mono HB.out.size))
                  replace S1 := Aside0.mk (S1.out.below hb)
                  replace Z1 := Aside0.mk (Z1.out.below hb)
                  replace S2 := Aside0.mk (S2.out.below hb)
                  replace Z2 := Aside0.mk (Z2.out.below hb)
                  replace S3 := Aside0.mk (S3.out.below hb)
                  replace Z3 := Aside0.mk (Z3.out.below hb)
                  replace Z4 := Aside0.mk (Z4.out.below hb)
                  replace S4 := Aside0.mk (S4.out.below hb)
                  clear hb
                  have Z5 := Aside0.mk (hS)
                  clear hS
                  rw [HZC.out] at Z5
                  obtain ⟨kS1_0, kS1_1, kS1_2, kS1_3, kS1_4, kS1_5⟩ := (S1.out.below ((Below.refl _ _).alloc (Nat.le_refl _) (.cells #[.int .i64 M, .int .i64 x, .iface t5 u5] 28))).cells
                  obtain ⟨kS4_0, kS4_1, kS4_2, kS4_3, kS4_4, kS4_5⟩ := (S4.out.below ((Below.refl _ _).alloc (Nat.le_refl _) (.cells #[.int .i64 M, .int .i64 x, .iface t5 u5] 28))).cells
                  go_wp2_with (fail)
                  refine calls_gen (fun W => Below w9.heap.size w9 W ∧ SBox W w9.heap.size (.int .i64 M) (.int .i64 x) (.iface t5 u5)) ⟨(Below.refl _ _).alloc (Nat.le_refl _) _, SBox.new w9 _ _ _⟩ ?_
                  rintro w10 ⟨hb, hbox⟩
                  clear kS1_0 kS1_1 kS1_2 kS1_3 kS1_4 kS1_5 kS4_0 kS4_1 kS4_2 kS4_3 kS4_4 kS4_5
                  replace HB := Aside0.mk (HB.out.trans (hb.mono HB.out.size))
                  replace S1 := Aside0.mk (S1.out.below hb)
                  replace Z1 := Aside0.mk (Z1.out.below hb)
                  replace S2 := Aside0.mk (S2.out.below hb)
                  replace Z2 := Aside0.mk (Z2.out.below hb)
                  replace S3 := Aside0.mk (S3.out.below hb)
                  replace Z3 := Aside0.mk (Z3.out.below hb)
                  replace Z4 := Aside0.mk (Z4.out.below hb)
                  replace S4 := Aside0.mk (S4.out.below hb)
                  replace Z5 := Aside0.mk (Z5.out.below hb)
                  clear hb
                  have S5 := Aside0.mk (hbox)
                  clear hbox
                  refine (and_any M 2 x (.iface t1 u1) (.iface t4 u4) zq zp w10 Z1.out Z4.out).mono ?_
                  rintro e w11 ⟨t6, u6, he, hS, hb⟩
                  unfold setV at he
                  subst he
                  replace HB := Aside0.mk (HB.out.trans (hb.mono HB.out.size))
                  replace S1 := Aside0.mk (S1.out.below hb)
                  replace Z1 := Aside0.mk (Z1.out.below hb)
                  replace S2 := Aside0.mk (S2.out.below hb)
                  replace Z2 := Aside0.mk (Z2.out.below hb)
                  replace S3 := Aside0.mk (S3.out.below hb)
                  replace Z3 := Aside0.mk (Z3.out.below hb)
                  replace Z4 := Aside0.mk (Z4.out.below hb)
                  replace S4 := Aside0.mk (S4.out.below hb)
                  replace Z5 := Aside0.mk (Z5.out.below hb)
                  replace S5 := Aside0.mk (S5.out.below hb)
                  clear hb
                  have Z6 := Aside0.mk (hS)
                  clear hS
                  rw [HCM.out] at Z6
                  go_wp2_with (fail)
                  have hb4 := (Below.refl w11.heap.size w11).alloc (Nat.le_refl _) (.cells #[.int .i64 M, .int .i64 2, .iface t6 u6] 28)
                  have hs4 := SBox.new w11 (.int .i64 M) (.int .i64 2) (.iface t6 u6)
                  generalize w11.alloc (.cells #[.int .i64 M, .int .i64 2, .iface t6 u6] 28) = wx at hb4 hs4 ⊢
                  replace HB := Aside0.mk (HB.out.trans (hb4.mono HB.out.size))
                  replace S1 := Aside0.mk (S1.out.below hb4)
                  replace Z1 := Aside0.mk (Z1.out.below hb4)
                  replace S2 := Aside0.mk (S2.out.below hb4)
                  replace Z2 := Aside0.mk (Z2.out.below hb4)
                  replace S3 := Aside0.mk (S3.out.below hb4)
                  replace Z3 := Aside0.mk (Z3.out.below hb4)
                  replace Z4 := Aside0.mk (Z4.out.below hb4)
                  replace S4 := Aside0.mk (S4.out.below hb4)
                  replace Z5 := Aside0.mk (Z5.out.below hb4)
                  replace S5 := Aside0.mk (S5.out.below hb4)
                  replace Z6 := Aside0.mk (Z6.out.below hb4)
                  clear hb4
                  have S6 := Aside0.mk (hs4)
                  clear hs4
                  refine wp_region_still (t := 28) (by kernel_rfl) [Fact.eq (.int .i64 0), Fact.eq (.bool false), Fact.eq (.bool false), Fact.eq (.int .i64 0), Fact.eq (.bool false), Fact.eq (.bool false), Fact.eq (.bool false), Fact.eq (.int .i64 0), Fact.eq (.bool false), Fact.eq (.bool false), Fact.eq (.bool false), Fact.eq (.agg #[.int .i64 M, .int .i64 x, .iface t4 u4]), Fact.eq (.int .i64 x), Fact.eq (.int .i64 x), Fact.eq (.bool false), Fact.eq (.bool false), Fact.eq (.bool false), Fact.eq (.agg #[.int .i64 M, .int .i64 x, .iface t4 u4]), Fact.rowI zp, Fact.eq (.agg #[.int .i64 M, .int .i64 3, .iface t2 u2]), Fact.rowI zp, Fact.eq (.bool true), Fact.eq (.bool false), Fact.eq (.bool false), Fact.eq (.bool false), Fact.eq (.agg #[.int .i64 M, .int .i64 x, .iface t4 u4]), Fact.eq (.int .i64 at_), Fact.eq (.bool (inZ zp at_)), Fact.eq (.agg #[.int .i64 M, .int .i64 3, .iface t2 u2]), Fact.eq (.int .i64 at_), Fact.eq (.bool (inZ zp at_)), Fact.eq (.bool false), Fact.eq (.bool false), Fact.eq (.bool false), Fact.eq (.agg #[.int .i64 M, .int .i64 x, .iface t4 u4]), Fact.eq (.int .i64 at_), Fact.eq (.int .i64 (rankZ zp at_)), Fact.eq (.agg #[.int .i64 M, .int .i64 3, .iface t2 u2]), Fact.eq (.int .i64 at_), Fact.eq (.int .i64 (rankZ zp at_)), Fact.eq (.bool false), Fact.eq (.bool false)]
                    (fun W => Below wx.heap.size wx W)
                    (fun _ _ => True) 42 0 (by kernel_rfl) (by kernel_rfl) ?I0 ?I1 ?S1 ?hal ?steps ?done
                  case I0 => exact (Below.refl _ wx).drew
                  case I1 => exact fun W W' h hB => h.trans (hB.mono h.size)
                  case S1 => exact fun _ _ _ _ _ => trivial
                  case hal => exact fun o ho => by cases (show none = some o from ho)
                  case steps =>
                    intro mk hmk
                    simp only [dstsOf, putAll, List.map_cons, List.map_nil, Nat.reduceAdd, Act.put, List.setIfInBounds_toArray, List.set_cons_zero, List.set_cons_succ] at hmk
                    refine Steps.cons (i := 0) rfl ?s0 (Steps.cons (i := 1) rfl ?s1 (Steps.cons (i := 2) rfl ?s2 (Steps.cons (i := 3) rfl ?s3 (Steps.cons (i := 4) rfl ?s4 (Steps.cons (i := 5) rfl ?s5 (Steps.cons (i := 6) rfl ?s6 (Steps.cons (i := 7) rfl ?s7 (Steps.cons (i := 8) rfl ?s8 (Steps.cons (i := 9) rfl ?s9 (Steps.cons (i := 10) rfl ?s10 (Steps.cons (i := 11) rfl ?s11 (Steps.cons (i := 12) rfl ?s12 (Steps.cons (i := 13) rfl ?s13 (Steps.cons (i := 14) rfl ?s14 (Steps.cons (i := 15) rfl ?s15 (Steps.cons (i := 16) rfl ?s16 (Steps.cons (i := 17) rfl ?s17 (Steps.cons (i := 18) rfl ?s18 (Steps.cons (i := 19) rfl ?s19 (Steps.cons (i := 20) rfl ?s20 (Steps.cons (i := 21) rfl ?s21 (Steps.cons (i := 22) rfl ?s22 (Steps.cons (i := 23) rfl ?s23 (Steps.cons (i := 24) rfl ?s24 (Steps.cons (i := 25) rfl ?s25 (Steps.cons (i := 26) rfl ?s26 (Steps.cons (i := 27) rfl ?s27 (Steps.cons (i := 28) rfl ?s28 (Steps.cons (i := 29) rfl ?s29 (Steps.cons (i := 30) rfl ?s30 (Steps.cons (i := 31) rfl ?s31 (Steps.cons (i := 32) rfl ?s32 (Steps.cons (i := 33) rfl ?s33 (Steps.cons (i := 34) rfl ?s34 (Steps.cons (i := 35) rfl ?s35 (Steps.cons (i := 36) rfl ?s36 (Steps.cons (i := 37) rfl ?s37 (Steps.cons (i := 38) rfl ?s38 (Steps.cons (i := 39) rfl ?s39 (Steps.cons (i := 40) rfl ?s40 (Steps.cons (i := 41) rfl ?s41 (Steps.nil))))))))))))))))))))))))))))))))))))))))))
                    case s0 =>
                      intro σ W hI hT
                      obtain ⟨k20, k21, k22, _⟩ := (S2.out.below hI).cells; obtain ⟨k40, k41, k42, _⟩ := (S4.out.below hI).cells
                      clear hT
                      refine .inl ⟨rfl, fun K hK => ?_⟩
                      rw [hmk] at hK ⊢
                      simp only [Act.put, List.setIfInBounds_toArray, List.set_cons_zero, List.set_cons_succ] at hK
                      have HK := Aside0.mk hK
                      clear hK
                      go_wp2
                      exact HK.out _ _ rfl (Below.refl _ _)
                    case s1 =>
                      intro σ W hI hT
                      obtain ⟨k20, k21, k22, _⟩ := (S2.out.below hI).cells; obtain ⟨k40, k41, k42, _⟩ := (S4.out.below hI).cells
                      have e0 : σ 0 = .int .i64 0 := hT 0 (by kernel_rfl)
                      clear hT
                      refine .inl ⟨rfl, fun K hK => ?_⟩
                      rw [hmk] at hK ⊢
                      simp only [Act.put, List.setIfInBounds_toArray, List.set_cons_zero, List.set_cons_succ] at hK
                      rw [e0] at hK ⊢
                      clear e0
                      have HK := Aside0.mk hK
                      clear hK
                      go_wp2
                      exact HK.out _ _ rfl (Below.refl _ _)
                    case s2 =>
                      intro σ W hI hT
                      obtain ⟨k20, k21, k22, _⟩ := (S2.out.below hI).cells; obtain ⟨k40, k41, k42, _⟩ := (S4.out.below hI).cells
                      have e1 : σ 1 = .bool false := hT 1 (by kernel_rfl)
                      clear hT
                      refine .inl ⟨rfl, fun K hK => ?_⟩
                      rw [hmk] at hK ⊢
                      simp only [Act.put, List.setIfInBounds_toArray, List.set_cons_zero, List.set_cons_succ] at hK
                      rw [e1] at hK ⊢
                      clear e1
                      have HK := Aside0.mk hK
                      clear hK
                      go_wp2
                      exact HK.out _ _ rfl (Below.refl _ _)
                    case s3 =>
                      intro σ W hI hT
                      obtain ⟨k20, k21, k22, _⟩ := (S2.out.below hI).cells; obtain ⟨k40, k41, k42, _⟩ := (S4.out.below hI).cells
                      have e2 : σ 2 = .bool false := hT 2 (by kernel_rfl)
                      clear hT
                      refine .inl ⟨by rw [hmk]; simp [Region.wanted, yielded, e2], fun K hK => ?_⟩
                      rw [hmk] at hK ⊢
                      simp only [Act.put, List.setIfInBounds_toArray, List.set_cons_zero, List.set_cons_succ] at hK
                      rw [e2] at hK ⊢
                      clear e2
                      have HK := Aside0.mk hK
                      clear hK
                      go_wp2
                      exact HK.out _ _ rfl (Below.refl _ _)
                    case s4 =>
                      intro σ W hI hT
                      obtain ⟨k20, k21, k22, _⟩ := (S2.out.below hI).cells; obtain ⟨k40, k41, k42, _⟩ := (S4.out.below hI).cells
                      have e2 : σ 2 = .bool false := hT 2 (by kernel_rfl)
                      have e3 : σ 3 = .int .i64 0 := hT 3 (by kernel_rfl)
                      clear hT
                      refine .inl ⟨by rw [hmk]; simp [Region.wanted, yielded, e2], fun K hK => ?_⟩
                      rw [hmk] at hK ⊢
                      simp only [Act.put, List.setIfInBounds_toArray, List.set_cons_zero, List.set_cons_succ] at hK
                      rw [e2, e3] at hK ⊢
                      clear e2 e3
                      have HK := Aside0.mk hK
                      clear hK
                      go_wp2
                      exact HK.out _ _ rfl (Below.refl _ _)
                    case s5 =>
                      intro σ W hI hT
                      obtain ⟨k20, k21, k22, _⟩ := (S2.out.below hI).cells; obtain ⟨k40, k41, k42, _⟩ := (S4.out.below hI).cells
                      have e2 : σ 2 = .bool false := hT 2 (by kernel_rfl)
                      have e4 : σ 4 = .bool false := hT 4 (by kernel_rfl)
                      clear hT
                      refine .inl ⟨rfl, fun K hK => ?_⟩
                      rw [hmk] at hK ⊢
                      simp only [Act.put, List.setIfInBounds_toArray, List.set_cons_zero, List.set_cons_succ] at hK
                      rw [e2, e4] at hK ⊢
                      clear e2 e4
                      have HK := Aside0.mk hK
                      clear hK
                      go_wp2
                      exact HK.out _ _ rfl (Below.refl _ _)
                    case s6 =>
                      intro σ W hI hT
                      obtain ⟨k20, k21, k22, _⟩ := (S2.out.below hI).cells; obtain ⟨k40, k41, k42, _⟩ := (S4.out.below hI).cells
                      have e5 : σ 5 = .bool false := hT 5 (by kernel_rfl)
                      clear hT
                      refine .inl ⟨rfl, fun K hK => ?_⟩
                      rw [hmk] at hK ⊢
                      simp only [Act.put, List.setIfInBounds_toArray, List.set_cons_zero, List.set_cons_succ] at hK
                      rw [e5] at hK ⊢
                      clear e5
                      have HK := Aside0.mk hK
                      clear hK
                      go_wp2
                      exact HK.out _ _ rfl (Below.refl _ _)
                    case s7 =>
                      intro σ W hI hT
                      obtain ⟨k20, k21, k22, _⟩ := (S2.out.below hI).cells; obtain ⟨k40, k41, k42, _⟩ := (S4.out.below hI).cells
                      have e6 : σ 6 = .bool false := hT 6 (by kernel_rfl)
                      clear hT
                      refine .inl ⟨by rw [hmk]; simp [Region.wanted, yielded, e6], fun K hK => ?_⟩
                      rw [hmk] at hK ⊢
                      simp only [Act.put, List.setIfInBounds_toArray, List.set_cons_zero, List.set_cons_succ] at hK
                      rw [e6] at hK ⊢
                      clear e6
                      have HK := Aside0.mk hK
                      clear hK
                      go_wp2
                      exact HK.out _ _ rfl (Below.refl _ _)
                    case s8 =>
                      intro σ W hI hT
                      obtain ⟨k20, k21, k22, _⟩ := (S2.out.below hI).cells; obtain ⟨k40, k41, k42, _⟩ := (S4.out.below hI).cells
                      have e6 : σ 6 = .bool false := hT 6 (by kernel_rfl)
                      have e7 : σ 7 = .int .i64 0 := hT 7 (by kernel_rfl)
                      clear hT
                      refine .inl ⟨by rw [hmk]; simp [Region.wanted, yielded, e6], fun K hK => ?_⟩
                      rw [hmk] at hK ⊢
                      simp only [Act.put, List.setIfInBounds_toArray, List.set_cons_zero, List.set_cons_succ] at hK
                      rw [e6, e7] at hK ⊢
                      clear e6 e7
                      have HK := Aside0.mk hK
                      clear hK
                      go_wp2
                      exact HK.out _ _ rfl (Below.refl _ _)
                    case s9 =>
                      intro σ W hI hT
                      obtain ⟨k20, k21, k22, _⟩ := (S2.out.below hI).cells; obtain ⟨k40, k41, k42, _⟩ := (S4.out.below hI).cells
                      have e6 : σ 6 = .bool false := hT 6 (by kernel_rfl)
                      have e8 : σ 8 = .bool false := hT 8 (by kernel_rfl)
                      clear hT
                      refine .inl ⟨rfl, fun K hK => ?_⟩
                      rw [hmk] at hK ⊢
                      simp only [Act.put, List.setIfInBounds_toArray, List.set_cons_zero, List.set_cons_succ] at hK
                      rw [e6, e8] at hK ⊢
                      clear e6 e8
                      have HK := Aside0.mk hK
                      clear hK
                      go_wp2
                      exact HK.out _ _ rfl (Below.refl _ _)
                    case s10 =>
                      intro σ W hI hT
                      obtain ⟨k20, k21, k22, _⟩ := (S2.out.below hI).cells; obtain ⟨k40, k41, k42, _⟩ := (S4.out.below hI).cells
                      have e9 : σ 9 = .bool false := hT 9 (by kernel_rfl)
                      clear hT
                      refine .inl ⟨rfl, fun K hK => ?_⟩
                      rw [hmk] at hK ⊢
                      simp only [Act.put, List.setIfInBounds_toArray, List.set_cons_zero, List.set_cons_succ] at hK
                      rw [e9] at hK ⊢
                      clear e9
                      have HK := Aside0.mk hK
                      clear hK
                      go_wp2
                      exact HK.out _ _ rfl (Below.refl _ _)
                    case s11 =>
                      intro σ W hI hT
                      obtain ⟨k20, k21, k22, _⟩ := (S2.out.below hI).cells; obtain ⟨k40, k41, k42, _⟩ := (S4.out.below hI).cells
                      have e10 : σ 10 = .bool false := hT 10 (by kernel_rfl)
                      clear hT
                      refine .inl ⟨by rw [hmk]; simp [Region.wanted, yielded, e10], fun K hK => ?_⟩
                      rw [hmk] at hK ⊢
                      simp only [Act.put, List.setIfInBounds_toArray, List.set_cons_zero, List.set_cons_succ] at hK
                      rw [e10] at hK ⊢
                      clear e10
                      have HK := Aside0.mk hK
                      clear hK
                      go_wp2
                      exact HK.out _ _ rfl (Below.refl _ _)
                    case s12 =>
                      intro σ W hI hT
                      obtain ⟨k20, k21, k22, _⟩ := (S2.out.below hI).cells; obtain ⟨k40, k41, k42, _⟩ := (S4.out.below hI).cells
                      have e10 : σ 10 = .bool false := hT 10 (by kernel_rfl)
                      have e11 : σ 11 = .agg #[.int .i64 M, .int .i64 x, .iface t4 u4] := hT 11 (by kernel_rfl)
                      clear hT
                      refine .inl ⟨by rw [hmk]; simp [Region.wanted, yielded, e10], fun K hK => ?_⟩
                      rw [hmk] at hK ⊢
                      simp only [Act.put, List.setIfInBounds_toArray, List.set_cons_zero, List.set_cons_succ] at hK
                      rw [e10, e11] at hK ⊢
                      clear e10 e11
                      have HK := Aside0.mk hK
                      clear hK
                      have hcon := rep_any M x (.iface t4 u4) W
                      unfold setV at hcon
                      go_wp2_with (go_at_call 27; refine hcon.mono ?_; clear hcon; rintro e w' ⟨rfl, hb⟩)
                      exact HK.out _ _ rfl hb
                    case s13 =>
                      intro σ W hI hT
                      obtain ⟨k20, k21, k22, _⟩ := (S2.out.below hI).cells; obtain ⟨k40, k41, k42, _⟩ := (S4.out.below hI).cells
                      have e10 : σ 10 = .bool false := hT 10 (by kernel_rfl)
                      clear hT
                      refine .inl ⟨by rw [hmk]; simp [Region.wanted, yielded, e10], fun K hK => ?_⟩
                      rw [hmk] at hK ⊢
                      simp only [Act.put, List.setIfInBounds_toArray, List.set_cons_zero, List.set_cons_succ] at hK
                      rw [e10] at hK ⊢
                      clear e10
                      have HK := Aside0.mk hK
                      clear hK
                      go_wp2
                      exact HK.out _ _ rfl (Below.refl _ _)
                    case s14 =>
                      intro σ W hI hT
                      obtain ⟨k20, k21, k22, _⟩ := (S2.out.below hI).cells; obtain ⟨k40, k41, k42, _⟩ := (S4.out.below hI).cells
                      have e10 : σ 10 = .bool false := hT 10 (by kernel_rfl)
                      have e12 : σ 12 = .int .i64 x := hT 12 (by kernel_rfl)
                      have e13 : σ 13 = .int .i64 x := hT 13 (by kernel_rfl)
                      clear hT
                      refine .inl ⟨by rw [hmk]; simp [Region.wanted, yielded, e10], fun K hK => ?_⟩
                      rw [hmk] at hK ⊢
                      simp only [Act.put, List.setIfInBounds_toArray, List.set_cons_zero, List.set_cons_succ] at hK
                      rw [e10, e12, e13] at hK ⊢
                      clear e10 e12 e13
                      have HK := Aside0.mk hK
                      clear hK
                      go_wp2
                      exact HK.out _ _ rfl (Below.refl _ _)
                    case s15 =>
                      intro σ W hI hT
                      obtain ⟨k20, k21, k22, _⟩ := (S2.out.below hI).cells; obtain ⟨k40, k41, k42, _⟩ := (S4.out.below hI).cells
                      have e10 : σ 10 = .bool false := hT 10 (by kernel_rfl)
                      have e14 : σ 14 = .bool false := hT 14 (by kernel_rfl)
                      clear hT
                      refine .inl ⟨rfl, fun K hK => ?_⟩
                      rw [hmk] at hK ⊢
                      simp only [Act.put, List.setIfInBounds_toArray, List.set_cons_zero, List.set_cons_succ] at hK
                      rw [e10, e14] at hK ⊢
                      clear e10 e14
                      have HK := Aside0.mk hK
                      clear hK
                      go_wp2
                      exact HK.out _ _ rfl (Below.refl _ _)
                    case s16 =>
                      intro σ W hI hT
                      obtain ⟨k20, k21, k22, _⟩ := (S2.out.below hI).cells; obtain ⟨k40, k41, k42, _⟩ := (S4.out.below hI).cells
                      have e15 : σ 15 = .bool false := hT 15 (by kernel_rfl)
                      clear hT
                      refine .inl ⟨rfl, fun K hK => ?_⟩
                      rw [hmk] at hK ⊢
                      simp only [Act.put, List.setIfInBounds_toArray, List.set_cons_zero, List.set_cons_succ] at hK
                      rw [e15] at hK ⊢
                      clear e15
                      have HK := Aside0.mk hK
                      clear hK
                      go_wp2
                      exact HK.out _ _ rfl (Below.refl _ _)
                    case s17 =>
                      intro σ W hI hT
                      obtain ⟨k20, k21, k22, _⟩ := (S2.out.below hI).cells; obtain ⟨k40, k41, k42, _⟩ := (S4.out.below hI).cells
                      have e16 : σ 16 = .bool false := hT 16 (by kernel_rfl)
                      clear hT
                      refine .inl ⟨by rw [hmk]; simp [Region.wanted, yielded, e16], fun K hK => ?_⟩
                      rw [hmk] at hK ⊢
                      simp only [Act.put, List.setIfInBounds_toArray, List.set_cons_zero, List.set_cons_succ] at hK
                      rw [e16] at hK ⊢
                      clear e16
                      have HK := Aside0.mk hK
                      clear hK
                      go_wp2
                      exact HK.out _ _ rfl (Below.refl _ _)
                    case s18 =>
                      intro σ W hI hT
                      obtain ⟨k20, k21, k22, _⟩ := (S2.out.below hI).cells; obtain ⟨k40, k41, k42, _⟩ := (S4.out.below hI).cells
                      have e16 : σ 16 = .bool false := hT 16 (by kernel_rfl)
                      have e17 : σ 17 = .agg #[.int .i64 M, .int .i64 x, .iface t4 u4] := hT 17 (by kernel_rfl)
                      clear hT
                      refine .inl ⟨by rw [hmk]; simp [Region.wanted, yielded, e16], fun K hK => ?_⟩
                      rw [hmk] at hK ⊢
                      simp only [Act.put, List.setIfInBounds_toArray, List.set_cons_zero, List.set_cons_succ] at hK
                      rw [e16, e17] at hK ⊢
                      clear e16 e17
                      have HK := Aside0.mk hK
                      clear hK
                      have hcon := list_any M x (.iface t4 u4) zp W (Z4.out.below hI)
                      unfold setV at hcon
                      go_wp2_with (go_at_call 13; refine hcon.mono ?_; clear hcon; rintro e w' ⟨v, rfl, hr, hb⟩)
                      exact HK.out _ _ (rowI_own hr) hb
                    case s19 =>
                      intro σ W hI hT
                      obtain ⟨k20, k21, k22, _⟩ := (S2.out.below hI).cells; obtain ⟨k40, k41, k42, _⟩ := (S4.out.below hI).cells
                      have e16 : σ 16 = .bool false := hT 16 (by kernel_rfl)
                      clear hT
                      refine .inl ⟨by rw [hmk]; simp [Region.wanted, yielded, e16], fun K hK => ?_⟩
                      rw [hmk] at hK ⊢
                      simp only [Act.put, List.setIfInBounds_toArray, List.set_cons_zero, List.set_cons_succ] at hK
                      rw [e16] at hK ⊢
                      clear e16
                      have HK := Aside0.mk hK
                      clear hK
                      go_wp2
                      exact HK.out _ _ rfl (Below.refl _ _)
                    case s20 =>
                      intro σ W hI hT
                      obtain ⟨k20, k21, k22, _⟩ := (S2.out.below hI).cells; obtain ⟨k40, k41, k42, _⟩ := (S4.out.below hI).cells
                      have e16 : σ 16 = .bool false := hT 16 (by kernel_rfl)
                      have e19 : σ 19 = .agg #[.int .i64 M, .int .i64 3, .iface t2 u2] := hT 19 (by kernel_rfl)
                      clear hT
                      refine .inl ⟨by rw [hmk]; simp [Region.wanted, yielded, e16], fun K hK => ?_⟩
                      rw [hmk] at hK ⊢
                      simp only [Act.put, List.setIfInBounds_toArray, List.set_cons_zero, List.set_cons_succ] at hK
                      rw [e16, e19] at hK ⊢
                      clear e16 e19
                      have HK := Aside0.mk hK
                      clear hK
                      have hcon := list_any M 3 (.iface t2 u2) zp W (Z2.out.below hI)
                      unfold setV at hcon
                      go_wp2_with (go_at_call 13; refine hcon.mono ?_; clear hcon; rintro e w' ⟨v, rfl, hr, hb⟩)
                      exact HK.out _ _ (rowI_own hr) hb
                    case s21 =>
                      intro σ W hI hT
                      obtain ⟨k20, k21, k22, _⟩ := (S2.out.below hI).cells; obtain ⟨k40, k41, k42, _⟩ := (S4.out.below hI).cells
                      have e16 : σ 16 = .bool false := hT 16 (by kernel_rfl)
                      have f18 := hT 18 (by kernel_rfl)
                      have f20 := hT 20 (by kernel_rfl)
                      clear hT
                      refine .inl ⟨by rw [hmk]; simp [Region.wanted, yielded, e16], fun K hK => ?_⟩
                      rw [hmk] at hK ⊢
                      simp only [Act.put, List.setIfInBounds_toArray, List.set_cons_zero, List.set_cons_succ] at hK
                      rw [e16] at hK ⊢
                      clear e16
                      have HK := Aside0.mk hK
                      clear hK
                      obtain ⟨A1_, c1_, e1_, hc1, hC1⟩ := Kd.R_reads f18
                      obtain ⟨A2_, c2_, e2_, hc2, hC2⟩ := Kd.R_reads f20
                      rw [e1_, e2_] at HK ⊢
                      have hcon := ints_any A1_ c1_ zp A2_ c2_ zp W hC1 hc1 hC2 hc2 (by have := HLN.out; omega)
                      rw [decide_eq_true rfl] at hcon
                      go_wp2_with (go_at_call 21; refine hcon.mono ?_; clear hcon; rintro e w' ⟨rfl, hb⟩)
                      exact HK.out _ _ rfl hb
                    case s22 =>
                      intro σ W hI hT
                      obtain ⟨k20, k21, k22, _⟩ := (S2.out.below hI).cells; obtain ⟨k40, k41, k42, _⟩ := (S4.out.below hI).cells
                      have e16 : σ 16 = .bool false := hT 16 (by kernel_rfl)
                      have e21 : σ 21 = .bool true := hT 21 (by kernel_rfl)
                      clear hT
                      refine .inl ⟨by rw [hmk]; simp [Region.wanted, yielded, e16], fun K hK => ?_⟩
                      rw [hmk] at hK ⊢
                      simp only [Act.put, List.setIfInBounds_toArray, List.set_cons_zero, List.set_cons_succ] at hK
                      rw [e16, e21] at hK ⊢
                      clear e16 e21
                      have HK := Aside0.mk hK
                      clear hK
                      go_wp2
                      exact HK.out _ _ rfl (Below.refl _ _)
                    case s23 =>
                      intro σ W hI hT
                      obtain ⟨k20, k21, k22, _⟩ := (S2.out.below hI).cells; obtain ⟨k40, k41, k42, _⟩ := (S4.out.below hI).cells
                      have e16 : σ 16 = .bool false := hT 16 (by kernel_rfl)
                      have e22 : σ 22 = .bool false := hT 22 (by kernel_rfl)
                      clear hT
                      refine .inl ⟨rfl, fun K hK => ?_⟩
                      rw [hmk] at hK ⊢
                      simp only [Act.put, List.setIfInBounds_toArray, List.set_cons_zero, List.set_cons_succ] at hK
                      rw [e16, e22] at hK ⊢
                      clear e16 e22
                      have HK := Aside0.mk hK
                      clear hK
                      go_wp2
                      exact HK.out _ _ rfl (Below.refl _ _)
                    case s24 =>
                      intro σ W hI hT
                      obtain ⟨k20, k21, k22, _⟩ := (S2.out.below hI).cells; obtain ⟨k40, k41, k42, _⟩ := (S4.out.below hI).cells
                      have e23 : σ 23 = .bool false := hT 23 (by kernel_rfl)
                      clear hT
                      refine .inl ⟨rfl, fun K hK => ?_⟩
                      rw [hmk] at hK ⊢
                      simp only [Act.put, List.setIfInBounds_toArray, List.set_cons_zero, List.set_cons_succ] at hK
                      rw [e23] at hK ⊢
                      clear e23
                      have HK := Aside0.mk hK
                      clear hK
                      go_wp2
                      exact HK.out _ _ rfl (Below.refl _ _)
                    case s25 =>
                      intro σ W hI hT
                      obtain ⟨k20, k21, k22, _⟩ := (S2.out.below hI).cells; obtain ⟨k40, k41, k42, _⟩ := (S4.out.below hI).cells
                      have e24 : σ 24 = .bool false := hT 24 (by kernel_rfl)
                      clear hT
                      refine .inl ⟨by rw [hmk]; simp [Region.wanted, yielded, e24], fun K hK => ?_⟩
                      rw [hmk] at hK ⊢
                      simp only [Act.put, List.setIfInBounds_toArray, List.set_cons_zero, List.set_cons_succ] at hK
                      rw [e24] at hK ⊢
                      clear e24
                      have HK := Aside0.mk hK
                      clear hK
                      go_wp2
                      exact HK.out _ _ rfl (Below.refl _ _)
                    case s26 =>
                      intro σ W hI hT
                      obtain ⟨k20, k21, k22, _⟩ := (S2.out.below hI).cells; obtain ⟨k40, k41, k42, _⟩ := (S4.out.below hI).cells
                      have e24 : σ 24 = .bool false := hT 24 (by kernel_rfl)
                      clear hT
                      refine .inl ⟨by rw [hmk]; simp [Region.wanted, yielded, e24], fun K hK => ?_⟩
                      rw [hmk] at hK ⊢
                      simp only [Act.put, List.setIfInBounds_toArray, List.set_cons_zero, List.set_cons_succ] at hK
                      rw [e24] at hK ⊢
                      clear e24
                      have HK := Aside0.mk hK
                      clear hK
                      go_wp2
                      exact HK.out _ _ rfl (Below.refl _ _)
                    case s27 =>
                      intro σ W hI hT
                      obtain ⟨k20, k21, k22, _⟩ := (S2.out.below hI).cells; obtain ⟨k40, k41, k42, _⟩ := (S4.out.below hI).cells
                      have e24 : σ 24 = .bool false := hT 24 (by kernel_rfl)
                      have e25 : σ 25 = .agg #[.int .i64 M, .int .i64 x, .iface t4 u4] := hT 25 (by kernel_rfl)
                      have e26 : σ 26 = .int .i64 at_ := hT 26 (by kernel_rfl)
                      clear hT
                      refine .inl ⟨by rw [hmk]; simp [Region.wanted, yielded, e24], fun K hK => ?_⟩
                      rw [hmk] at hK ⊢
                      simp only [Act.put, List.setIfInBounds_toArray, List.set_cons_zero, List.set_cons_succ] at hK
                      rw [e24, e25, e26] at hK ⊢
                      clear e24 e25 e26
                      have HK := Aside0.mk hK
                      clear hK
                      have hcon := has_any at_ M x (.iface t4 u4) zp W (Z4.out.below hI)
                      unfold setV at hcon
                      go_wp2_with (go_at_call 15; refine hcon.mono ?_; clear hcon; rintro e w' ⟨rfl, hb⟩)
                      exact HK.out _ _ rfl hb
                    case s28 =>
                      intro σ W hI hT
                      obtain ⟨k20, k21, k22, _⟩ := (S2.out.below hI).cells; obtain ⟨k40, k41, k42, _⟩ := (S4.out.below hI).cells
                      have e24 : σ 24 = .bool false := hT 24 (by kernel_rfl)
                      clear hT
                      refine .inl ⟨by rw [hmk]; simp [Region.wanted, yielded, e24], fun K hK => ?_⟩
                      rw [hmk] at hK ⊢
                      simp only [Act.put, List.setIfInBounds_toArray, List.set_cons_zero, List.set_cons_succ] at hK
                      rw [e24] at hK ⊢
                      clear e24
                      have HK := Aside0.mk hK
                      clear hK
                      go_wp2
                      exact HK.out _ _ rfl (Below.refl _ _)
                    case s29 =>
                      intro σ W hI hT
                      obtain ⟨k20, k21, k22, _⟩ := (S2.out.below hI).cells; obtain ⟨k40, k41, k42, _⟩ := (S4.out.below hI).cells
                      have e24 : σ 24 = .bool false := hT 24 (by kernel_rfl)
                      clear hT
                      refine .inl ⟨by rw [hmk]; simp [Region.wanted, yielded, e24], fun K hK => ?_⟩
                      rw [hmk] at hK ⊢
                      simp only [Act.put, List.setIfInBounds_toArray, List.set_cons_zero, List.set_cons_succ] at hK
                      rw [e24] at hK ⊢
                      clear e24
                      have HK := Aside0.mk hK
                      clear hK
                      go_wp2
                      exact HK.out _ _ rfl (Below.refl _ _)
                    case s30 =>
                      intro σ W hI hT
                      obtain ⟨k20, k21, k22, _⟩ := (S2.out.below hI).cells; obtain ⟨k40, k41, k42, _⟩ := (S4.out.below hI).cells
                      have e24 : σ 24 = .bool false := hT 24 (by kernel_rfl)
                      have e28 : σ 28 = .agg #[.int .i64 M, .int .i64 3, .iface t2 u2] := hT 28 (by kernel_rfl)
                      have e29 : σ 29 = .int .i64 at_ := hT 29 (by kernel_rfl)
                      clear hT
                      refine .inl ⟨by rw [hmk]; simp [Region.wanted, yielded, e24], fun K hK => ?_⟩
                      rw [hmk] at hK ⊢
                      simp only [Act.put, List.setIfInBounds_toArray, List.set_cons_zero, List.set_cons_succ] at hK
                      rw [e24, e28, e29] at hK ⊢
                      clear e24 e28 e29
                      have HK := Aside0.mk hK
                      clear hK
                      have hcon := has_any at_ M 3 (.iface t2 u2) zp W (Z2.out.below hI)
                      unfold setV at hcon
                      go_wp2_with (go_at_call 15; refine hcon.mono ?_; clear hcon; rintro e w' ⟨rfl, hb⟩)
                      exact HK.out _ _ rfl hb
                    case s31 =>
                      intro σ W hI hT
                      obtain ⟨k20, k21, k22, _⟩ := (S2.out.below hI).cells; obtain ⟨k40, k41, k42, _⟩ := (S4.out.below hI).cells
                      have e24 : σ 24 = .bool false := hT 24 (by kernel_rfl)
                      have e27 : σ 27 = .bool (inZ zp at_) := hT 27 (by kernel_rfl)
                      have e30 : σ 30 = .bool (inZ zp at_) := hT 30 (by kernel_rfl)
                      clear hT
                      refine .inl ⟨by rw [hmk]; simp [Region.wanted, yielded, e24], fun K hK => ?_⟩
                      rw [hmk] at hK ⊢
                      simp only [Act.put, List.setIfInBounds_toArray, List.set_cons_zero, List.set_cons_succ] at hK
                      rw [e24, e27, e30] at hK ⊢
                      clear e24 e27 e30
                      have HK := Aside0.mk hK
                      clear hK
                      go_wp2
                      exact HK.out _ _ rfl (Below.refl _ _)
                    case s32 =>
                      intro σ W hI hT
                      obtain ⟨k20, k21, k22, _⟩ := (S2.out.below hI).cells; obtain ⟨k40, k41, k42, _⟩ := (S4.out.below hI).cells
                      have e24 : σ 24 = .bool false := hT 24 (by kernel_rfl)
                      have e31 : σ 31 = .bool false := hT 31 (by kernel_rfl)
                      clear hT
                      refine .inl ⟨rfl, fun K hK => ?_⟩
                      rw [hmk] at hK ⊢
                      simp only [Act.put, List.setIfInBounds_toArray, List.set_cons_zero, List.set_cons_succ] at hK
                      rw [e24, e31] at hK ⊢
                      clear e24 e31
                      have HK := Aside0.mk hK
                      clear hK
                      go_wp2
                      exact HK.out _ _ rfl (Below.refl _ _)
                    case s33 =>
                      intro σ W hI hT
                      obtain ⟨k20, k21, k22, _⟩ := (S2.out.below hI).cells; obtain ⟨k40, k41, k42, _⟩ := (S4.out.below hI).cells
                      have e32 : σ 32 = .bool false := hT 32 (by kernel_rfl)
                      clear hT
                      refine .inl ⟨rfl, fun K hK => ?_⟩
                      rw [hmk] at hK ⊢
                      simp only [Act.put, List.setIfInBounds_toArray, List.set_cons_zero, List.set_cons_succ] at hK
                      rw [e32] at hK ⊢
                      clear e32
                      have HK := Aside0.mk hK
                      clear hK
                      go_wp2
                      exact HK.out _ _ rfl (Below.refl _ _)
                    case s34 =>
                      intro σ W hI hT
                      obtain ⟨k20, k21, k22, _⟩ := (S2.out.below hI).cells; obtain ⟨k40, k41, k42, _⟩ := (S4.out.below hI).cells
                      have e33 : σ 33 = .bool false := hT 33 (by kernel_rfl)
                      clear hT
                      refine .inl ⟨by rw [hmk]; simp [Region.wanted, yielded, e33], fun K hK => ?_⟩
                      rw [hmk] at hK ⊢
                      simp only [Act.put, List.setIfInBounds_toArray, List.set_cons_zero, List.set_cons_succ] at hK
                      rw [e33] at hK ⊢
                      clear e33
                      have HK := Aside0.mk hK
                      clear hK
                      go_wp2
                      exact HK.out _ _ rfl (Below.refl _ _)
                    case s35 =>
                      intro σ W hI hT
                      obtain ⟨k20, k21, k22, _⟩ := (S2.out.below hI).cells; obtain ⟨k40, k41, k42, _⟩ := (S4.out.below hI).cells
                      have e33 : σ 33 = .bool false := hT 33 (by kernel_rfl)
                      clear hT
                      refine .inl ⟨by rw [hmk]; simp [Region.wanted, yielded, e33], fun K hK => ?_⟩
                      rw [hmk] at hK ⊢
                      simp only [Act.put, List.setIfInBounds_toArray, List.set_cons_zero, List.set_cons_succ] at hK
                      rw [e33] at hK ⊢
                      clear e33
                      have HK := Aside0.mk hK
                      clear hK
                      go_wp2
                      exact HK.out _ _ rfl (Below.refl _ _)
                    case s36 =>
                      intro σ W hI hT
                      obtain ⟨k20, k21, k22, _⟩ := (S2.out.below hI).cells; obtain ⟨k40, k41, k42, _⟩ := (S4.out.below hI).cells
                      have e33 : σ 33 = .bool false := hT 33 (by kernel_rfl)
                      have e34 : σ 34 = .agg #[.int .i64 M, .int .i64 x, .iface t4 u4] := hT 34 (by kernel_rfl)
                      have e35 : σ 35 = .int .i64 at_ := hT 35 (by kernel_rfl)
                      clear hT
                      refine .inl ⟨by rw [hmk]; simp [Region.wanted, yielded, e33], fun K hK => ?_⟩
                      rw [hmk] at hK ⊢
                      simp only [Act.put, List.setIfInBounds_toArray, List.set_cons_zero, List.set_cons_succ] at hK
                      rw [e33, e34, e35] at hK ⊢
                      clear e33 e34 e35
                      have HK := Aside0.mk hK
                      clear hK
                      have hcon := rank_any M x at_ (.iface t4 u4) zp W (Z4.out.below hI)
                      unfold setV at hcon
                      go_wp2_with (go_at_call 14; refine hcon.mono ?_; clear hcon; rintro e w' ⟨rfl, hb⟩)
                      exact HK.out _ _ rfl hb
                    case s37 =>
                      intro σ W hI hT
                      obtain ⟨k20, k21, k22, _⟩ := (S2.out.below hI).cells; obtain ⟨k40, k41, k42, _⟩ := (S4.out.below hI).cells
                      have e33 : σ 33 = .bool false := hT 33 (by kernel_rfl)
                      clear hT
                      refine .inl ⟨by rw [hmk]; simp [Region.wanted, yielded, e33], fun K hK => ?_⟩
                      rw [hmk] at hK ⊢
                      simp only [Act.put, List.setIfInBounds_toArray, List.set_cons_zero, List.set_cons_succ] at hK
                      rw [e33] at hK ⊢
                      clear e33
                      have HK := Aside0.mk hK
                      clear hK
                      go_wp2
                      exact HK.out _ _ rfl (Below.refl _ _)
                    case s38 =>
                      intro σ W hI hT
                      obtain ⟨k20, k21, k22, _⟩ := (S2.out.below hI).cells; obtain ⟨k40, k41, k42, _⟩ := (S4.out.below hI).cells
                      have e33 : σ 33 = .bool false := hT 33 (by kernel_rfl)
                      clear hT
                      refine .inl ⟨by rw [hmk]; simp [Region.wanted, yielded, e33], fun K hK => ?_⟩
                      rw [hmk] at hK ⊢
                      simp only [Act.put, List.setIfInBounds_toArray, List.set_cons_zero, List.set_cons_succ] at hK
                      rw [e33] at hK ⊢
                      clear e33
                      have HK := Aside0.mk hK
                      clear hK
                      go_wp2
                      exact HK.out _ _ rfl (Below.refl _ _)
                    case s39 =>
                      intro σ W hI hT
                      obtain ⟨k20, k21, k22, _⟩ := (S2.out.below hI).cells; obtain ⟨k40, k41, k42, _⟩ := (S4.out.below hI).cells
                      have e33 : σ 33 = .bool false := hT 33 (by kernel_rfl)
                      have e37 : σ 37 = .agg #[.int .i64 M, .int .i64 3, .iface t2 u2] := hT 37 (by kernel_rfl)
                      have e38 : σ 38 = .int .i64 at_ := hT 38 (by kernel_rfl)
                      clear hT
                      refine .inl ⟨by rw [hmk]; simp [Region.wanted, yielded, e33], fun K hK => ?_⟩
                      rw [hmk] at hK ⊢
                      simp only [Act.put, List.setIfInBounds_toArray, List.set_cons_zero, List.set_cons_succ] at hK
                      rw [e33, e37, e38] at hK ⊢
                      clear e33 e37 e38
                      have HK := Aside0.mk hK
                      clear hK
                      have hcon := rank_any M 3 at_ (.iface t2 u2) zp W (Z2.out.below hI)
                      unfold setV at hcon
                      go_wp2_with (go_at_call 14; refine hcon.mono ?_; clear hcon; rintro e w' ⟨rfl, hb⟩)
                      exact HK.out _ _ rfl hb
                    case s40 =>
                      intro σ W hI hT
                      obtain ⟨k20, k21, k22, _⟩ := (S2.out.below hI).cells; obtain ⟨k40, k41, k42, _⟩ := (S4.out.below hI).cells
                      have e33 : σ 33 = .bool false := hT 33 (by kernel_rfl)
                      have e36 : σ 36 = .int .i64 (rankZ zp at_) := hT 36 (by kernel_rfl)
                      have e39 : σ 39 = .int .i64 (rankZ zp at_) := hT 39 (by kernel_rfl)
                      clear hT
                      refine .inl ⟨by rw [hmk]; simp [Region.wanted, yielded, e33], fun K hK => ?_⟩
                      rw [hmk] at hK ⊢
                      simp only [Act.put, List.setIfInBounds_toArray, List.set_cons_zero, List.set_cons_succ] at hK
                      rw [e33, e36, e39] at hK ⊢
                      clear e33 e36 e39
                      have HK := Aside0.mk hK
                      clear hK
                      go_wp2
                      exact HK.out _ _ rfl (Below.refl _ _)
                    case s41 =>
                      intro σ W hI hT
                      obtain ⟨k20, k21, k22, _⟩ := (S2.out.below hI).cells; obtain ⟨k40, k41, k42, _⟩ := (S4.out.below hI).cells
                      have e33 : σ 33 = .bool false := hT 33 (by kernel_rfl)
                      have e40 : σ 40 = .bool false := hT 40 (by kernel_rfl)
                      clear hT
                      refine .inl ⟨rfl, fun K hK => ?_⟩
                      rw [hmk] at hK ⊢
                      simp only [Act.put, List.setIfInBounds_toArray, List.set_cons_zero, List.set_cons_succ] at hK
                      rw [e33, e40] at hK ⊢
                      clear e33 e40
                      have HK := Aside0.mk hK
                      clear hK
                      go_wp2
                      exact HK.out _ _ rfl (Below.refl _ _)
                  case done =>
                    intro mk hmk σ W hI hS hT
                    simp only [dstsOf, putAll, List.map_cons, List.map_nil, Nat.reduceAdd, Act.put, List.setIfInBounds_toArray, List.set_cons_zero, List.set_cons_succ] at hmk
                    rw [hmk]
                    have e41 : σ 41 = .bool false := hT 41 (by decide)
                    rw [e41]
                    clear hT e41
                    obtain ⟨wy, hw_⟩ : ∃ w_, w_ = W := ⟨_, rfl⟩
                    subst hw_
                    replace HB := Aside0.mk (HB.out.trans (hI.mono HB.out.size))
                    replace S1 := Aside0.mk (S1.out.below hI)
                    replace Z1 := Aside0.mk (Z1.out.below hI)
                    replace S2 := Aside0.mk (S2.out.below hI)
                    replace Z2 := Aside0.mk (Z2.out.below hI)
                    replace S3 := Aside0.mk (S3.out.below hI)
                    replace Z3 := Aside0.mk (Z3.out.below hI)
                    replace S5 := Aside0.mk (S5.out.below hI)
                    replace Z5 := Aside0.mk (Z5.out.below hI)
                    replace S6 := Aside0.mk (S6.out.below hI)
                    replace Z6 := Aside0.mk (Z6.out.below hI)
                    clear hI
                    go_wp2_with (fail)
                    refine wp_region_still (t := 28) (by kernel_rfl) [Fact.eq (.agg #[.int .i64 M, .int .i64 x, .iface t5 u5]), Fact.rowI zc, Fact.eq (.agg #[.int .i64 M, .int .i64 3, .iface t3 u3]), Fact.rowI zc, Fact.eq (.bool true), Fact.eq (.bool false), Fact.eq (.bool false), Fact.eq (.agg #[.int .i64 M, .int .i64 2, .iface t6 u6]), Fact.rowI zc, Fact.eq (.agg #[.int .i64 M, .int .i64 3, .iface t3 u3]), Fact.rowI zc, Fact.eq (.bool true), Fact.eq (.bool false), Fact.eq (.bool false)]
                      (fun W => Below wy.heap.size wy W)
                      (fun _ _ => True) 14 0 (by kernel_rfl) (by kernel_rfl) ?I0 ?I1 ?S1 ?hal ?steps ?done
                    case I0 => exact (Below.refl _ wy).drew
                    case I1 => exact fun W W' h hB => h.trans (hB.mono h.size)
                    case S1 => exact fun _ _ _ _ _ => trivial
                    case hal => exact fun o ho => by cases (show none = some o from ho)
                    case steps =>
                      intro mk hmk
                      simp only [dstsOf, putAll, List.map_cons, List.map_nil, Nat.reduceAdd, Act.put, List.setIfInBounds_toArray, List.set_cons_zero, List.set_cons_succ] at hmk
                      refine Steps.cons (i := 0) rfl ?s0 (Steps.cons (i := 1) rfl ?s1 (Steps.cons (i := 2) rfl ?s2 (Steps.cons (i := 3) rfl ?s3 (Steps.cons (i := 4) rfl ?s4 (Steps.cons (i := 5) rfl ?s5 (Steps.cons (i := 6) rfl ?s6 (Steps.cons (i := 7) rfl ?s7 (Steps.cons (i := 8) rfl ?s8 (Steps.cons (i := 9) rfl ?s9 (Steps.cons (i := 10) rfl ?s10 (Steps.cons (i := 11) rfl ?s11 (Steps.cons (i := 12) rfl ?s12 (Steps.cons (i := 13) rfl ?s13 (Steps.nil))))))))))))))
                      case s0 =>
                        intro σ W hI hT
                        obtain ⟨k30, k31, k32, _⟩ := (S3.out.below hI).cells; obtain ⟨k50, k51, k52, _⟩ := (S5.out.below hI).cells; obtain ⟨k60, k61, k62, _⟩ := (S6.out.below hI).cells
                        clear hT
                        refine .inl ⟨rfl, fun K hK => ?_⟩
                        rw [hmk] at hK ⊢
                        simp only [Act.put, List.setIfInBounds_toArray, List.set_cons_zero, List.set_cons_succ] at hK
                        have HK := Aside0.mk hK
                        clear hK
                        go_wp2
                        exact HK.out _ _ rfl (Below.refl _ _)
                      case s1 =>
                        intro σ W hI hT
                        obtain ⟨k30, k31, k32, _⟩ := (S3.out.below hI).cells; obtain ⟨k50, k51, k52, _⟩ := (S5.out.below hI).cells; obtain ⟨k60, k61, k62, _⟩ := (S6.out.below hI).cells
                        have e0 : σ 0 = .agg #[.int .i64 M, .int .i64 x, .iface t5 u5] := hT 0 (by kernel_rfl)
                        clear hT
                        refine .inl ⟨rfl, fun K hK => ?_⟩
                        rw [hmk] at hK ⊢
                        simp only [Act.put, List.setIfInBounds_toArray, List.set_cons_zero, List.set_cons_succ] at hK
                        rw [e0] at hK ⊢
                        clear e0
                        have HK := Aside0.mk hK
                        clear hK
                        have hcon := list_any M x (.iface t5 u5) zc W (Z5.out.below hI)
                        unfold setV at hcon
                        go_wp2_with (go_at_call 13; refine hcon.mono ?_; clear hcon; rintro e w' ⟨v, rfl, hr, hb⟩)
                        exact HK.out _ _ (rowI_own hr) hb
                      case s2 =>
                        intro σ W hI hT
                        obtain ⟨k30, k31, k32, _⟩ := (S3.out.below hI).cells; obtain ⟨k50, k51, k52, _⟩ := (S5.out.below hI).cells; obtain ⟨k60, k61, k62, _⟩ := (S6.out.below hI).cells
                        clear hT
                        refine .inl ⟨rfl, fun K hK => ?_⟩
                        rw [hmk] at hK ⊢
                        simp only [Act.put, List.setIfInBounds_toArray, List.set_cons_zero, List.set_cons_succ] at hK
                        have HK := Aside0.mk hK
                        clear hK
                        go_wp2
                        exact HK.out _ _ rfl (Below.refl _ _)
                      case s3 =>
                        intro σ W hI hT
                        obtain ⟨k30, k31, k32, _⟩ := (S3.out.below hI).cells; obtain ⟨k50, k51, k52, _⟩ := (S5.out.below hI).cells; obtain ⟨k60, k61, k62, _⟩ := (S6.out.below hI).cells
                        have e2 : σ 2 = .agg #[.int .i64 M, .int .i64 3, .iface t3 u3] := hT 2 (by kernel_rfl)
                        clear hT
                        refine .inl ⟨rfl, fun K hK => ?_⟩
                        rw [hmk] at hK ⊢
                        simp only [Act.put, List.setIfInBounds_toArray, List.set_cons_zero, List.set_cons_succ] at hK
                        rw [e2] at hK ⊢
                        clear e2
                        have HK := Aside0.mk hK
                        clear hK
                        have hcon := list_any M 3 (.iface t3 u3) zc W (Z3.out.below hI)
                        unfold setV at hcon
                        go_wp2_with (go_at_call 13; refine hcon.mono ?_; clear hcon; rintro e w' ⟨v, rfl, hr, hb⟩)
                        exact HK.out _ _ (rowI_own hr) hb
                      case s4 =>
                        intro σ W hI hT
                        obtain ⟨k30, k31, k32, _⟩ := (S3.out.below hI).cells; obtain ⟨k50, k51, k52, _⟩ := (S5.out.below hI).cells; obtain ⟨k60, k61, k62, _⟩ := (S6.out.below hI).cells
                        have f1 := hT 1 (by kernel_rfl)
                        have f3 := hT 3 (by kernel_rfl)
                        clear hT
                        refine .inl ⟨rfl, fun K hK => ?_⟩
                        rw [hmk] at hK ⊢
                        simp only [Act.put, List.setIfInBounds_toArray, List.set_cons_zero, List.set_cons_succ] at hK
                        have HK := Aside0.mk hK
                        clear hK
                        obtain ⟨A1_, c1_, e1_, hc1, hC1⟩ := Kd.R_reads f1
                        obtain ⟨A2_, c2_, e2_, hc2, hC2⟩ := Kd.R_reads f3
                        rw [e1_, e2_] at HK ⊢
                        have hcon := ints_any A1_ c1_ zc A2_ c2_ zc W hC1 hc1 hC2 hc2 (by have := HLN.out; omega)
                        rw [decide_eq_true rfl] at hcon
                        go_wp2_with (go_at_call 21; refine hcon.mono ?_; clear hcon; rintro e w' ⟨rfl, hb⟩)
                        exact HK.out _ _ rfl hb
                      case s5 =>
                        intro σ W hI hT
                        obtain ⟨k30, k31, k32, _⟩ := (S3.out.below hI).cells; obtain ⟨k50, k51, k52, _⟩ := (S5.out.below hI).cells; obtain ⟨k60, k61, k62, _⟩ := (S6.out.below hI).cells
                        have e4 : σ 4 = .bool true := hT 4 (by kernel_rfl)
                        clear hT
                        refine .inl ⟨rfl, fun K hK => ?_⟩
                        rw [hmk] at hK ⊢
                        simp only [Act.put, List.setIfInBounds_toArray, List.set_cons_zero, List.set_cons_succ] at hK
                        rw [e4] at hK ⊢
                        clear e4
                        have HK := Aside0.mk hK
                        clear hK
                        go_wp2
                        exact HK.out _ _ rfl (Below.refl _ _)
                      case s6 =>
                        intro σ W hI hT
                        obtain ⟨k30, k31, k32, _⟩ := (S3.out.below hI).cells; obtain ⟨k50, k51, k52, _⟩ := (S5.out.below hI).cells; obtain ⟨k60, k61, k62, _⟩ := (S6.out.below hI).cells
                        have e5 : σ 5 = .bool false := hT 5 (by kernel_rfl)
                        clear hT
                        refine .inl ⟨rfl, fun K hK => ?_⟩
                        rw [hmk] at hK ⊢
                        simp only [Act.put, List.setIfInBounds_toArray, List.set_cons_zero, List.set_cons_succ] at hK
                        rw [e5] at hK ⊢
                        clear e5
                        have HK := Aside0.mk hK
                        clear hK
                        go_wp2
                        exact HK.out _ _ rfl (Below.refl _ _)
                      case s7 =>
                        intro σ W hI hT
                        obtain ⟨k30, k31, k32, _⟩ := (S3.out.below hI).cells; obtain ⟨k50, k51, k52, _⟩ := (S5.out.below hI).cells; obtain ⟨k60, k61, k62, _⟩ := (S6.out.below hI).cells
                        have e6 : σ 6 = .bool false := hT 6 (by kernel_rfl)
                        clear hT
                        refine .inl ⟨by rw [hmk]; simp [Region.wanted, yielded, e6], fun K hK => ?_⟩
                        rw [hmk] at hK ⊢
                        simp only [Act.put, List.setIfInBounds_toArray, List.set_cons_zero, List.set_cons_succ] at hK
                        rw [e6] at hK ⊢
                        clear e6
                        have HK := Aside0.mk hK
                        clear hK
                        go_wp2
                        exact HK.out _ _ rfl (Below.refl _ _)
                      case s8 =>
                        intro σ W hI hT
                        obtain ⟨k30, k31, k32, _⟩ := (S3.out.below hI).cells; obtain ⟨k50, k51, k52, _⟩ := (S5.out.below hI).cells; obtain ⟨k60, k61, k62, _⟩ := (S6.out.below hI).cells
                        have e6 : σ 6 = .bool false := hT 6 (by kernel_rfl)
                        have e7 : σ 7 = .agg #[.int .i64 M, .int .i64 2, .iface t6 u6] := hT 7 (by kernel_rfl)
                        clear hT
                        refine .inl ⟨by rw [hmk]; simp [Region.wanted, yielded, e6], fun K hK => ?_⟩
                        rw [hmk] at hK ⊢
                        simp only [Act.put, List.setIfInBounds_toArray, List.set_cons_zero, List.set_cons_succ] at hK
                        rw [e6, e7] at hK ⊢
                        clear e6 e7
                        have HK := Aside0.mk hK
                        clear hK
                        have hcon := list_any M 2 (.iface t6 u6) zc W (Z6.out.below hI)
                        unfold setV at hcon
                        go_wp2_with (go_at_call 13; refine hcon.mono ?_; clear hcon; rintro e w' ⟨v, rfl, hr, hb⟩)
                        exact HK.out _ _ (rowI_own hr) hb
                      case s9 =>
                        intro σ W hI hT
                        obtain ⟨k30, k31, k32, _⟩ := (S3.out.below hI).cells; obtain ⟨k50, k51, k52, _⟩ := (S5.out.below hI).cells; obtain ⟨k60, k61, k62, _⟩ := (S6.out.below hI).cells
                        have e6 : σ 6 = .bool false := hT 6 (by kernel_rfl)
                        clear hT
                        refine .inl ⟨by rw [hmk]; simp [Region.wanted, yielded, e6], fun K hK => ?_⟩
                        rw [hmk] at hK ⊢
                        simp only [Act.put, List.setIfInBounds_toArray, List.set_cons_zero, List.set_cons_succ] at hK
                        rw [e6] at hK ⊢
                        clear e6
                        have HK := Aside0.mk hK
                        clear hK
                        go_wp2
                        exact HK.out _ _ rfl (Below.refl _ _)
                      case s10 =>
                        intro σ W hI hT
                        obtain ⟨k30, k31, k32, _⟩ := (S3.out.below hI).cells; obtain ⟨k50, k51, k52, _⟩ := (S5.out.below hI).cells; obtain ⟨k60, k61, k62, _⟩ := (S6.out.below hI).cells
                        have e6 : σ 6 = .bool false := hT 6 (by kernel_rfl)
                        have e9 : σ 9 = .agg #[.int .i64 M, .int .i64 3, .iface t3 u3] := hT 9 (by kernel_rfl)
                        clear hT
                        refine .inl ⟨by rw [hmk]; simp [Region.wanted, yielded, e6], fun K hK => ?_⟩
                        rw [hmk] at hK ⊢
                        simp only [Act.put, List.setIfInBounds_toArray, List.set_cons_zero, List.set_cons_succ] at hK
                        rw [e6, e9] at hK ⊢
                        clear e6 e9
                        have HK := Aside0.mk hK
                        clear hK
                        have hcon := list_any M 3 (.iface t3 u3) zc W (Z3.out.below hI)
                        unfold setV at hcon
                        go_wp2_with (go_at_call 13; refine hcon.mono ?_; clear hcon; rintro e w' ⟨v, rfl, hr, hb⟩)
                        exact HK.out _ _ (rowI_own hr) hb
                      case s11 =>
                        intro σ W hI hT
                        obtain ⟨k30, k31, k32, _⟩ := (S3.out.below hI).cells; obtain ⟨k50, k51, k52, _⟩ := (S5.out.below hI).cells; obtain ⟨k60, k61, k62, _⟩ := (S6.out.below hI).cells
                        have e6 : σ 6 = .bool false := hT 6 (by kernel_rfl)
                        have f8 := hT 8 (by kernel_rfl)
                        have f10 := hT 10 (by kernel_rfl)
                        clear hT
                        refine .inl ⟨by rw [hmk]; simp [Region.wanted, yielded, e6], fun K hK => ?_⟩
                        rw [hmk] at hK ⊢
                        simp only [Act.put, List.setIfInBounds_toArray, List.set_cons_zero, List.set_cons_succ] at hK
                        rw [e6] at hK ⊢
                        clear e6
                        have HK := Aside0.mk hK
                        clear hK
                        obtain ⟨A1_, c1_, e1_, hc1, hC1⟩ := Kd.R_reads f8
                        obtain ⟨A2_, c2_, e2_, hc2, hC2⟩ := Kd.R_reads f10
                        rw [e1_, e2_] at HK ⊢
                        have hcon := ints_any A1_ c1_ zc A2_ c2_ zc W hC1 hc1 hC2 hc2 (by have := HLN.out; omega)
                        rw [decide_eq_true rfl] at hcon
                        go_wp2_with (go_at_call 21; refine hcon.mono ?_; clear hcon; rintro e w' ⟨rfl, hb⟩)
                        exact HK.out _ _ rfl hb
                      case s12 =>
                        intro σ W hI hT
                        obtain ⟨k30, k31, k32, _⟩ := (S3.out.below hI).cells; obtain ⟨k50, k51, k52, _⟩ := (S5.out.below hI).cells; obtain ⟨k60, k61, k62, _⟩ := (S6.out.below hI).cells
                        have e6 : σ 6 = .bool false := hT 6 (by kernel_rfl)
                        have e11 : σ 11 = .bool true := hT 11 (by kernel_rfl)
                        clear hT
                        refine .inl ⟨by rw [hmk]; simp [Region.wanted, yielded, e6], fun K hK => ?_⟩
                        rw [hmk] at hK ⊢
                        simp only [Act.put, List.setIfInBounds_toArray, List.set_cons_zero, List.set_cons_succ] at hK
                        rw [e6, e11] at hK ⊢
                        clear e6 e11
                        have HK := Aside0.mk hK
                        clear hK
                        go_wp2
                        exact HK.out _ _ rfl (Below.refl _ _)
                      case s13 =>
                        intro σ W hI hT
                        obtain ⟨k30, k31, k32, _⟩ := (S3.out.below hI).cells; obtain ⟨k50, k51, k52, _⟩ := (S5.out.below hI).cells; obtain ⟨k60, k61, k62, _⟩ := (S6.out.below hI).cells
                        have e6 : σ 6 = .bool false := hT 6 (by kernel_rfl)
                        have e12 : σ 12 = .bool false := hT 12 (by kernel_rfl)
                        clear hT
                        refine .inl ⟨rfl, fun K hK => ?_⟩
                        rw [hmk] at hK ⊢
                        simp only [Act.put, List.setIfInBounds_toArray, List.set_cons_zero, List.set_cons_succ] at hK
                        rw [e6, e12] at hK ⊢
                        clear e6 e12
                        have HK := Aside0.mk hK
                        clear hK
                        go_wp2
                        exact HK.out _ _ rfl (Below.refl _ _)
                    case done =>
                      intro mk hmk σ W hI hS hT
                      simp only [dstsOf, putAll, List.map_cons, List.map_nil, Nat.reduceAdd, Act.put, List.setIfInBounds_toArray, List.set_cons_zero, List.set_cons_succ] at hmk
                      rw [hmk]
                      have e13 : σ 13 = .bool false := hT 13 (by decide)
                      rw [e13]
                      clear hT e13
                      replace HB := Aside0.mk (HB.out.trans (hI.mono HB.out.size))
                      replace S1 := Aside0.mk (S1.out.below hI)
                      replace Z1 := Aside0.mk (Z1.out.below hI)
                      replace S2 := Aside0.mk (S2.out.below hI)
                      replace Z2 := Aside0.mk (Z2.out.below hI)
                      replace S3 := Aside0.mk (S3.out.below hI)
                      replace Z3 := Aside0.mk (Z3.out.below hI)
                      clear hI
                      go_wp2_with (fail)
                      go_roundg k1
                      case measure => omega
                      case rel =>
                        refine ⟨wrap64 (x + 1), rfl, ⟨?_⟩, HB, S1, Z1, S2, Z2, S3, Z3⟩
                        have h1 := HX.out
                        have h2 := HY.out
                        rw [Go.IntWalk.wrap64_in _ (by omega)]
                        omega
            · have c3b : decide (x ≤ 3) = false := decide_eq_false c3
              clear c3
              go_wp2_with (fail)
              go_ret
              exact ⟨rfl, HB.out⟩
end Go.Proofs.Ytbjdnfnolhahgaa.F.G
