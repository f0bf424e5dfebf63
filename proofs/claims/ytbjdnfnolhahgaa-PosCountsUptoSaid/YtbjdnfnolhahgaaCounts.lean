/- PosCounts: the walk. -/
import Derived.Test.YtbjdnfnolhahgaaStab2
namespace Go.Proofs.Ytbjdnfnolhahgaa.F.G
open Go.RowKit Go.Shelf Go.Proofs.YtbjdnfnolhahgaaW.PrintWords Go.Proofs.YtbjdnfnolhahgaaW.PrintLast Go.Proofs.YtbjdnfnolhahgaaW.PrintMore
set_option linter.unusedVariables false
set_option maxRecDepth 100000 in
set_option maxHeartbeats 8000000 in
theorem posCounts (n ra rb : Int) (A : Option Addr) (c : Nat) (l : List Int) (A' : Option Addr) (c' : Nat) (l2 : List Int) (w : World) (hn0 : 0 ≤ n) (hn1 : n ≤ 255) (hra : 0 ≤ ra ∧ ra ≤ 255) (hrb : 0 ≤ rb ∧ rb ≤ 255) (hl : l.length ≤ 1048576) (hc : l.length ≤ c) (hA : ArgOf .u8 w A l) (hb : ∀ x ∈ l, 0 ≤ x ∧ x ≤ 255)
    (hl2 : l2.length ≤ 1048576) (hc' : l2.length ≤ c') (hA2 : ArgOf .u8 w A' l2) (hb2 : ∀ x ∈ l2, 0 ≤ x ∧ x ≤ 255) :
    Calls Try.prog 6 #[.int .u8 n, .slice A l.length c, .slice A' l2.length c', .agg #[.int .u8 ra, .int .u8 rb]] w fun e w' => e = .returned (.bool true) ∧ Below w.heap.size w w' := by
  have hu28 := Try.underlying28
  have HC := Aside0.mk (hA.C (by omega))
  have HC2 := Aside0.mk (hA2.C (by omega))
  clear hA hA2
  have HL := Aside0.mk hl
  have HL2 := Aside0.mk hl2
  have HE := Aside0.mk hb
  have HE2 := Aside0.mk hb2
  clear hl hb hl2 hb2
  go_enter Try.func6, Try.ntmps6
  go_wp2_with (fail)
  refine calls_gen (fun W => Below w.heap.size w W ∧ QBox 42 W w.heap.size (.int .u8 ra) (.int .u8 rb)) ⟨(Below.refl _ _).alloc (Nat.le_refl _) _, World.alloc_heap_new w _⟩ ?_
  rintro w0 ⟨hB0, hq⟩
  have HQ0 := Aside0.mk hq
  have HB := Aside0.mk hB0
  clear hB0 hq
  refine (shown_any w0).mono ?_
  rintro e w1 ⟨rfl, hB1⟩
  have HQ := Aside0.mk (HQ0.out.below hB1)
  replace HB := Aside0.mk (HB.out.trans (hB1.mono HB.out.size))
  clear hB1 HQ0
  go_wp2_with (fail)
  generalize hK : 1 + n = M at *
  have HK := Aside0.mk (show 1 ≤ M ∧ M ≤ 256 by omega)
  clear hK
  have HW1 := HB
  go_loopg [11, 13] l.length (fun kq va vi w' => ∃ (x : Int) (zs : List Int), vi = .int .i64 x ∧ Aside0 (0 ≤ x ∧ x + kq = l.length ∧ zs = (l.take x.toNat).map (· % M)) ∧ Aside0 ((Kd.int .i64).R 3 w' w1.heap.size (fun _ => True) va zs) ∧ Aside0 (Below w1.heap.size w1 w'))
  case atStart => exact ⟨0, [], rfl, ⟨by simp⟩, ⟨Kd.R_nil _ _ _ _ _⟩, ⟨Below.refl _ _⟩⟩
  case round =>
    clear HB
    obtain ⟨x, zs, rfl, HX, HO, HB⟩ := hrel
    by_cases c3 : x < (l.length : Int)
    · cases gk with
      | zero => have := HX.out; omega
      | succ k1 =>
        have c3b : decide (x < (l.length : Int)) = true := decide_eq_true c3
        have p2 : 0 ≤ x := HX.out.1
        obtain ⟨ad, e_, hx⟩ := Kd.at_int (Kd.C_below HC.out HW1.out) x p2 c3
        cases e_
        replace hx := (HB.out.cell (World.block_lt_of_cell? w1 _ hx)).trans hx
        obtain ⟨he0, he1⟩ := HE.out _ (rd_mem p2 c3)
        have hk1 := HK.out.1
        have hk2 := HK.out.2
        have hlen : zs.length ≤ l.length := by rw [HX.out.2.2]; simp; omega
        have q2 := eq_true c3
        replace p2 := eq_true p2
        clear c3
        go_wp2_with ((with_reducible refine gate_builtin (b := .append) (xs := #[.tmp 33, .tmp 41]) rfl ?_); at_builtin; refine Kd.R_append (Kd.int .i64) (w0 := w1) w1.heap.size rfl (.tmp 33) (.tmp 41) 24 3 (.int .i64 0) 8 rfl Try.underlying24 info3 rfl (by decide) (by omega) u11 zs (rd l x % M) [.int .i64 (rd l x % M)] (fun _ => True) (fun _ => False) rfl rfl ?aP (fun _ hk => hk.elim) ?aF ?aO ?aB ?aS ?aL ?_; (case aP => exact rfl); (case aB => first | exact HB.out | exact below_alloc HB.out _); (case aF => exact (fun _ _ => trivial)); (case aO => first | exact HO.out | exact Kd.R_alloc HO.out _); (case aS => first | exact below_size HB.out | exact below_size (below_alloc HB.out _)); (case aL => have := HL.out; omega); intro vnew w9 ho hb hg hat; replace HB := Aside0.mk hb; replace HO := Aside0.mk ho; clear ho hb hg hat)
        go_roundg k1
        case measure => omega
        case rel =>
          refine ⟨wrap64 (x + 1), zs ++ [rd l x % M], rfl, ⟨?_⟩, HO, HB⟩
          have hx9 := HX.out
          have hl9 := HL.out
          have e1 : wrap64 (x + 1) = x + 1 := Go.IntWalk.wrap64_in _ (by omega)
          have q3 : x < (l.length : Int) := of_eq_true q2
          rw [e1]
          refine ⟨by omega, by omega, ?_⟩
          rw [hx9.2.2, show (x + 1).toNat = x.toNat + 1 from by omega, List.take_succ_eq_append_getElem (by omega), List.map_append, List.map_cons, List.map_nil]
          congr 2
          unfold rd
          rw [List.getD_eq_getElem?_getD, List.getElem?_eq_getElem (by omega)]
          rfl
    · have c3b : decide (x < (l.length : Int)) = false := decide_eq_false c3
      have hz : zs = l.map (· % M) := by rw [HX.out.2.2, List.take_of_length_le (by have := HX.out; omega)]
      subst hz
      clear HX c3
      go_wp2_with (fail)
      obtain ⟨wa, hwa⟩ : ∃ wa, wa = wr := ⟨_, rfl⟩
      subst hwa
      have HWa := Aside0.mk (HW1.out.trans (HB.out.mono HW1.out.size))
      replace HQ := Aside0.mk (HQ.out.below HB.out)
      have hR1 := rowI_below (b := 0) (Kd.R_lower HO.out (Nat.zero_le _)) (Below.refl _ _)
      have HR1 := Aside0.mk hR1
      clear hR1 HB HO
      go_loopg [12, 14] l2.length (fun kq va vi w' => ∃ (x : Int) (zs : List Int), vi = .int .i64 x ∧ Aside0 (0 ≤ x ∧ x + kq = l2.length ∧ zs = (l2.take x.toNat).map (· % M)) ∧ Aside0 ((Kd.int .i64).R 3 w' wa.heap.size (fun _ => True) va zs) ∧ Aside0 (Below wa.heap.size wa w'))
      case atStart => exact ⟨0, [], rfl, ⟨by simp⟩, ⟨Kd.R_nil _ _ _ _ _⟩, ⟨Below.refl _ _⟩⟩
      case round =>
        obtain ⟨x, zs, rfl, HX, HO, HB⟩ := hrel
        by_cases c3 : x < (l2.length : Int)
        · cases gk with
          | zero => have := HX.out; omega
          | succ k1 =>
            have c3b : decide (x < (l2.length : Int)) = true := decide_eq_true c3
            have p2 : 0 ≤ x := HX.out.1
            obtain ⟨ad, e_, hx⟩ := Kd.at_int (Kd.C_below HC2.out HWa.out) x p2 c3
            cases e_
            replace hx := (HB.out.cell (World.block_lt_of_cell? wa _ hx)).trans hx
            obtain ⟨he0, he1⟩ := HE2.out _ (rd_mem p2 c3)
            have hk1 := HK.out.1
            have hk2 := HK.out.2
            have hlen : zs.length ≤ l2.length := by rw [HX.out.2.2]; simp; omega
            have q2 := eq_true c3
            replace p2 := eq_true p2
            clear c3
            go_wp2_with ((with_reducible refine gate_builtin (b := .append) (xs := #[.tmp 49, .tmp 57]) rfl ?_); at_builtin; refine Kd.R_append (Kd.int .i64) (w0 := wa) wa.heap.size rfl (.tmp 49) (.tmp 57) 24 3 (.int .i64 0) 8 rfl Try.underlying24 info3 rfl (by decide) (by omega) u12 zs (rd l2 x % M) [.int .i64 (rd l2 x % M)] (fun _ => True) (fun _ => False) rfl rfl ?aP (fun _ hk => hk.elim) ?aF ?aO ?aB ?aS ?aL ?_; (case aP => exact rfl); (case aB => first | exact HB.out | exact below_alloc HB.out _); (case aF => exact (fun _ _ => trivial)); (case aO => first | exact HO.out | exact Kd.R_alloc HO.out _); (case aS => first | exact below_size HB.out | exact below_size (below_alloc HB.out _)); (case aL => have := HL2.out; omega); intro vnew w9 ho hb hg hat; replace HB := Aside0.mk hb; replace HO := Aside0.mk ho; clear ho hb hg hat)
            go_roundg k1
            case measure => omega
            case rel =>
              refine ⟨wrap64 (x + 1), zs ++ [rd l2 x % M], rfl, ⟨?_⟩, HO, HB⟩
              have hx9 := HX.out
              have hl9 := HL2.out
              have e1 : wrap64 (x + 1) = x + 1 := Go.IntWalk.wrap64_in _ (by omega)
              have q3 : x < (l2.length : Int) := of_eq_true q2
              rw [e1]
              refine ⟨by omega, by omega, ?_⟩
              rw [hx9.2.2, show (x + 1).toNat = x.toNat + 1 from by omega, List.take_succ_eq_append_getElem (by omega), List.map_append, List.map_cons, List.map_nil]
              congr 2
              unfold rd
              rw [List.getD_eq_getElem?_getD, List.getElem?_eq_getElem (by omega)]
              rfl
        · have c3b : decide (x < (l2.length : Int)) = false := decide_eq_false c3
          have hz : zs = l2.map (· % M) := by rw [HX.out.2.2, List.take_of_length_le (by have := HX.out; omega)]
          subst hz
          clear HX c3
          go_wp2_with (fail)
          obtain ⟨ws, hws⟩ : ∃ ws, ws = wr := ⟨_, rfl⟩
          subst hws
          replace HR1 := Aside0.mk (rowI_below HR1.out HB.out)
          obtain ⟨A2, c2, rfl, hc2, hC2⟩ := Kd.R_reads HO.out
          obtain ⟨A1, c1, rfl, hc1, hC1⟩ := Kd.R_reads HR1.out
          have hI1 := intArg_C hC1
          have hI2 := intArg_C hC2
          replace HQ := Aside0.mk (HQ.out.below HB.out)
          replace HB := Aside0.mk (HWa.out.trans (HB.out.mono HWa.out.size))
          clear hC1 hC2 HO HR1 HWa HW1
          obtain ⟨m1, hm1⟩ : ∃ m, (l.map (· % M)).take 300 = m := ⟨_, rfl⟩
          obtain ⟨m2, hm2⟩ : ∃ m, (l2.map (· % M)).take 300 = m := ⟨_, rfl⟩
          have hout1 := out_mod HK.out.1 hm1
          have hout2 := out_mod HK.out.1 hm2
          have hml1 : m1.length ≤ 300 := by rw [← hm1, List.length_take]; omega
          have hml2 : m2.length ≤ 300 := by rw [← hm2, List.length_take]; omega
          have hfew1 : ∀ W, Below ws.heap.size ws W → _ := fun W (h : Below ws.heap.size ws W) => few_any A1 c1 (l.map (· % M)) W hc1 (hI1.below h)
          have hfew2 : ∀ W, Below ws.heap.size ws W → _ := fun W (h : Below ws.heap.size ws W) => few_any A2 c2 (l2.map (· % M)) W hc2 (hI2.below h)
          replace hI1 := hI1.take 300
          replace hI2 := hI2.take 300
          rw [hm1] at hfew1 hI1
          rw [hm2] at hfew2 hI2
          have HF1 := Aside0.mk hfew1
          have HF2 := Aside0.mk hfew2
          clear hm1 hm2 hc1 hc2 hfew1 hfew2
          generalize (l.map (· % M)).length = lp at *
          generalize (l2.map (· % M)).length = lq at *
          have hof1 : ∀ W d, Below ws.heap.size ws W → Calls Try.prog 11 #[.int .i64 M, .slice A1 m1.length d, .int .i64 (1 + ra % 3)] W (SetPostE M (1 + ra % 3) (filt M (inZ m1)) W) := fun W d h => of_any M (1 + ra % 3) A1 d m1 W (by omega) (hI1.below h) (fit_mod HK.out.1 HK.out.2 (by omega) (by omega)) hout1
          have hof2 : ∀ W d, Below ws.heap.size ws W → Calls Try.prog 11 #[.int .i64 M, .slice A2 m2.length d, .int .i64 (1 + rb % 3)] W (SetPostE M (1 + rb % 3) (filt M (inZ m2)) W) := fun W d h => of_any M (1 + rb % 3) A2 d m2 W (by omega) (hI2.below h) (fit_mod HK.out.1 HK.out.2 (by omega) (by omega)) hout2
          have HO1 := Aside0.mk hof1
          have HO2 := Aside0.mk hof2
          have HU := Aside0.mk (And.intro hra hrb)
          clear hof1 hof2 hI1 hI2 hout1 hout2 hml1 hml2 hra hrb
          generalize filt M (inZ m1) = za at *
          generalize filt M (inZ m2) = zb at *

          refine wp_region_still (t := 28) (by kernel_rfl) [Fact.eq (.int .i64 M), Fact.eq (.slice A1 lp c1), Fact.few A1 m1.length, Fact.eq (.pointer (some ⟨w.heap.size, 0, none⟩)), Fact.eq (.int .u8 ra), Fact.eq (.int .u8 (ra % 3)), Fact.eq (.int .i64 (ra % 3)), Fact.eq (.int .i64 (1 + ra % 3)), Fact.setE M (1 + ra % 3) za, Fact.setE M (1 + ra % 3) za, Fact.set M (1 + ra % 3) za, Fact.eq (.int .i64 0), Fact.box ws.heap.size, Fact.top, Fact.eq (.int .i64 0)]
            (fun W => Below ws.heap.size ws W)
            (StBox M (1 + ra % 3) za) 13 12 (by kernel_rfl) (by kernel_rfl) ?I0 ?I1 ?S1 ?hal ?steps ?done
          case I0 => exact (Below.refl _ ws).drew
          case I1 => exact fun W W' h hB => h.trans (hB.mono h.size)
          case S1 => exact fun u W W' h hB => h.below hB
          case hal => exact fun o ho => by obtain rfl := Option.some.inj (show some _ = some o from ho); kernel_rfl
          case steps =>
            intro mk hmk
            simp only [dstsOf, putAll, List.map_cons, List.map_nil, Nat.reduceAdd, Act.put, List.setIfInBounds_toArray, List.set_cons_zero, List.set_cons_succ] at hmk
            refine Steps.cons (i := 0) rfl ?s0 (Steps.cons (i := 1) rfl ?s1 (Steps.cons (i := 2) rfl ?s2 (Steps.cons (i := 3) rfl ?s3 (Steps.cons (i := 4) rfl ?s4 (Steps.cons (i := 5) rfl ?s5 (Steps.cons (i := 6) rfl ?s6 (Steps.cons (i := 7) rfl ?s7 (Steps.cons (i := 8) rfl ?s8 (Steps.cons (i := 9) rfl ?s9 (Steps.cons (i := 10) rfl ?s10 (Steps.cons (i := 11) rfl ?s11 (Steps.cons (i := 12) rfl ?s12 (Steps.store (i := 13) rfl ?s13 (Steps.cons (i := 14) rfl ?s14 (Steps.nil)))))))))))))))
            case s0 =>
              intro σ W hI hT
              obtain ⟨j0, j1, j2, j3⟩ := (HQ.out.below hI).cells
              clear hT
              refine .inl ⟨rfl, fun K hK => ?_⟩
              rw [hmk] at hK ⊢
              simp only [Act.put, List.setIfInBounds_toArray, List.set_cons_zero, List.set_cons_succ] at hK
              have HK := Aside0.mk hK
              clear hK
              go_wp2
              exact HK.out _ _ rfl (Below.refl _ _)
            case s1 =>
              intro σ W hI hT
              obtain ⟨j0, j1, j2, j3⟩ := (HQ.out.below hI).cells
              clear hT
              refine .inl ⟨rfl, fun K hK => ?_⟩
              rw [hmk] at hK ⊢
              simp only [Act.put, List.setIfInBounds_toArray, List.set_cons_zero, List.set_cons_succ] at hK
              have HK := Aside0.mk hK
              clear hK
              go_wp2
              exact HK.out _ _ rfl (Below.refl _ _)
            case s2 =>
              intro σ W hI hT
              obtain ⟨j0, j1, j2, j3⟩ := (HQ.out.below hI).cells
              have e1 : σ 1 = .slice A1 lp c1 := hT 1 (by kernel_rfl)
              clear hT
              refine .inl ⟨rfl, fun K hK => ?_⟩
              rw [hmk] at hK ⊢
              simp only [Act.put, List.setIfInBounds_toArray, List.set_cons_zero, List.set_cons_succ] at hK
              rw [e1] at hK ⊢
              clear e1
              have HK := Aside0.mk hK
              clear hK
              have hcon := HF1.out W hI
              go_wp2_with (go_at_call 12; refine hcon.mono ?_; clear hcon; rintro e w' ⟨⟨c', rfl, hc'⟩, rfl⟩)
              exact HK.out _ _ ⟨c', rfl, hc'⟩ (Below.refl _ _)
            case s3 =>
              intro σ W hI hT
              obtain ⟨j0, j1, j2, j3⟩ := (HQ.out.below hI).cells
              clear hT
              refine .inl ⟨rfl, fun K hK => ?_⟩
              rw [hmk] at hK ⊢
              simp only [Act.put, List.setIfInBounds_toArray, List.set_cons_zero, List.set_cons_succ] at hK
              have HK := Aside0.mk hK
              clear hK
              go_wp2
              exact HK.out _ _ rfl (Below.refl _ _)
            case s4 =>
              intro σ W hI hT
              obtain ⟨j0, j1, j2, j3⟩ := (HQ.out.below hI).cells
              have e3 : σ 3 = .pointer (some ⟨w.heap.size, 0, none⟩) := hT 3 (by kernel_rfl)
              clear hT
              refine .inl ⟨rfl, fun K hK => ?_⟩
              rw [hmk] at hK ⊢
              simp only [Act.put, List.setIfInBounds_toArray, List.set_cons_zero, List.set_cons_succ] at hK
              rw [e3] at hK ⊢
              clear e3
              have HK := Aside0.mk hK
              clear hK
              go_wp2
              exact HK.out _ _ rfl (Below.refl _ _)
            case s5 =>
              intro σ W hI hT
              obtain ⟨j0, j1, j2, j3⟩ := (HQ.out.below hI).cells
              have e4 : σ 4 = .int .u8 ra := hT 4 (by kernel_rfl)
              clear hT
              refine .inl ⟨rfl, fun K hK => ?_⟩
              rw [hmk] at hK ⊢
              simp only [Act.put, List.setIfInBounds_toArray, List.set_cons_zero, List.set_cons_succ] at hK
              rw [e4] at hK ⊢
              clear e4
              have HK := Aside0.mk hK
              clear hK
              have hb0 := HU.out
              go_wp2
              exact HK.out _ _ rfl (Below.refl _ _)
            case s6 =>
              intro σ W hI hT
              obtain ⟨j0, j1, j2, j3⟩ := (HQ.out.below hI).cells
              have e5 : σ 5 = .int .u8 (ra % 3) := hT 5 (by kernel_rfl)
              clear hT
              refine .inl ⟨rfl, fun K hK => ?_⟩
              rw [hmk] at hK ⊢
              simp only [Act.put, List.setIfInBounds_toArray, List.set_cons_zero, List.set_cons_succ] at hK
              rw [e5] at hK ⊢
              clear e5
              have HK := Aside0.mk hK
              clear hK
              have hb0 := HU.out
              go_wp2
              exact HK.out _ _ rfl (Below.refl _ _)
            case s7 =>
              intro σ W hI hT
              obtain ⟨j0, j1, j2, j3⟩ := (HQ.out.below hI).cells
              have e6 : σ 6 = .int .i64 (ra % 3) := hT 6 (by kernel_rfl)
              clear hT
              refine .inl ⟨rfl, fun K hK => ?_⟩
              rw [hmk] at hK ⊢
              simp only [Act.put, List.setIfInBounds_toArray, List.set_cons_zero, List.set_cons_succ] at hK
              rw [e6] at hK ⊢
              clear e6
              have HK := Aside0.mk hK
              clear hK
              have hb0 := HU.out
              go_wp2
              exact HK.out _ _ rfl (Below.refl _ _)
            case s8 =>
              intro σ W hI hT
              obtain ⟨j0, j1, j2, j3⟩ := (HQ.out.below hI).cells
              have e0 : σ 0 = .int .i64 M := hT 0 (by kernel_rfl)
              obtain ⟨c2_, e2, f2⟩ := hT 2 (by kernel_rfl)
              have e7 : σ 7 = .int .i64 (1 + ra % 3) := hT 7 (by kernel_rfl)
              clear hT
              refine .inl ⟨rfl, fun K hK => ?_⟩
              rw [hmk] at hK ⊢
              simp only [Act.put, List.setIfInBounds_toArray, List.set_cons_zero, List.set_cons_succ] at hK
              rw [e0, e2, e7] at hK ⊢
              clear e0 e2 e7
              have HK := Aside0.mk hK
              clear hK
              have hcon := HO1.out W c2_ hI
              unfold SetPostE setV at hcon
              go_wp2_with (go_at_call 11; refine hcon.mono ?_; clear hcon; rintro e w' ⟨t, u, rfl, hS, hb⟩)
              exact HK.out _ _ ⟨t, u, rfl, hS⟩ hb
            case s9 =>
              intro σ W hI hT
              obtain ⟨j0, j1, j2, j3⟩ := (HQ.out.below hI).cells
              obtain ⟨t8, u8, e8, f8⟩ := hT 8 (by kernel_rfl)
              clear hT
              refine .inl ⟨rfl, fun K hK => ?_⟩
              rw [hmk] at hK ⊢
              simp only [Act.put, List.setIfInBounds_toArray, List.set_cons_zero, List.set_cons_succ] at hK
              rw [e8] at hK ⊢
              clear e8
              have HK := Aside0.mk hK
              clear hK
              go_wp2
              exact HK.out _ _ ⟨_, _, rfl, f8⟩ (Below.refl _ _)
            case s10 =>
              intro σ W hI hT
              obtain ⟨j0, j1, j2, j3⟩ := (HQ.out.below hI).cells
              obtain ⟨t9, u9, e9, f9⟩ := hT 9 (by kernel_rfl)
              clear hT
              refine .inl ⟨rfl, fun K hK => ?_⟩
              rw [hmk] at hK ⊢
              simp only [Act.put, List.setIfInBounds_toArray, List.set_cons_zero, List.set_cons_succ] at hK
              rw [e9] at hK ⊢
              clear e9
              have HK := Aside0.mk hK
              clear hK
              go_wp2
              exact HK.out _ _ ⟨_, _, rfl, f9⟩ (Below.refl _ _)
            case s11 =>
              intro σ W hI hT
              obtain ⟨j0, j1, j2, j3⟩ := (HQ.out.below hI).cells
              obtain ⟨t9, u9, e9, f9⟩ := hT 9 (by kernel_rfl)
              clear hT
              refine .inl ⟨rfl, fun K hK => ?_⟩
              rw [hmk] at hK ⊢
              simp only [Act.put, List.setIfInBounds_toArray, List.set_cons_zero, List.set_cons_succ] at hK
              rw [e9] at hK ⊢
              clear e9
              have HK := Aside0.mk hK
              clear hK
              go_wp2
              exact HK.out _ _ rfl (Below.refl _ _)
            case s12 =>
              intro σ W hI hT
              obtain ⟨j0, j1, j2, j3⟩ := (HQ.out.below hI).cells
              clear hT
              refine .inl ⟨rfl, fun K hK => ?_⟩
              rw [hmk] at hK ⊢
              simp only [Act.put, List.setIfInBounds_toArray, List.set_cons_zero, List.set_cons_succ] at hK
              have HK := Aside0.mk hK
              clear hK
              go_wp2
              exact HK.out _ _ ⟨_, _, _, _, rfl, hI.size, SBox.new W _ _ _⟩ ((Below.refl _ W).alloc (Nat.le_refl _) _)
            case s13 =>
              intro σ W hI hT
              obtain ⟨j0, j1, j2, j3⟩ := (HQ.out.below hI).cells
              obtain ⟨t10, u10, e10, f10⟩ := hT 10 (by kernel_rfl)
              obtain ⟨b12, x12, y12, z12, e12, hb12, hx12⟩ := hT 12 (by kernel_rfl)
              clear hT
              refine ⟨rfl, fun K hK => ?_⟩
              rw [hmk] at hK ⊢
              simp only [Act.put] at hK
              rw [e10, e12] at hK ⊢
              clear e10 e12
              have HK := Aside0.mk hK
              clear hK
              obtain ⟨c1_, c2_, c3_, c4_, c5_, c6_⟩ := hx12.cells
              go_wp2
              exact HK.out undef _ trivial (set3_still hx12 _ _ _) (below_set3 hI hb12 _ _ _) ⟨b12, _, _, rfl, hx12.set _ _ _, isSet_still f10 (set3_still hx12 _ _ _)⟩
            case s14 =>
              intro σ W hI hT
              obtain ⟨j0, j1, j2, j3⟩ := (HQ.out.below hI).cells
              have e11 : σ 11 = .int .i64 0 := hT 11 (by kernel_rfl)
              clear hT
              refine .inl ⟨rfl, fun K hK => ?_⟩
              rw [hmk] at hK ⊢
              simp only [Act.put, List.setIfInBounds_toArray, List.set_cons_zero, List.set_cons_succ] at hK
              rw [e11] at hK ⊢
              clear e11
              have HK := Aside0.mk hK
              clear hK
              go_wp2
              exact HK.out _ _ rfl (Below.refl _ _)
          case done =>
            intro mk hmk σ W hI hS hT
            simp only [dstsOf, putAll, List.map_cons, List.map_nil, Nat.reduceAdd, Act.put, List.setIfInBounds_toArray, List.set_cons_zero, List.set_cons_succ] at hmk
            rw [hmk]
            have e14 : σ 14 = .int .i64 0 := hT 14 (by decide)
            obtain ⟨b1, t1, u1, e12, hb, hSS⟩ := hS (by decide)
            rw [e12, e14]
            clear hT e12 e14 hS
            clear HF1 HO1
            obtain ⟨wt, hw_⟩ : ∃ w_, w_ = W := ⟨_, rfl⟩
            subst hw_
            replace HB := Aside0.mk (HB.out.trans (hI.mono HB.out.size))
            replace HQ := Aside0.mk (HQ.out.below hI)
            have hf := fun W' (h : Below wt.heap.size wt W') => HF2.out W' (hI.trans (h.mono hI.size))
            replace HF2 := Aside0.mk hf
            clear hf
            have hf := fun W' d (h : Below wt.heap.size wt W') => HO2.out W' d (hI.trans (h.mono hI.size))
            replace HO2 := Aside0.mk hf
            clear hf
            have S1 := Aside0.mk hb
            have Z1 := Aside0.mk hSS
            clear hb hSS hI
            go_wp2_with (fail)
            refine wp_region_still (t := 28) (by kernel_rfl) [Fact.eq (.int .i64 M), Fact.eq (.slice A2 lq c2), Fact.few A2 m2.length, Fact.eq (.pointer (some ⟨w.heap.size, 1, none⟩)), Fact.eq (.int .u8 rb), Fact.eq (.int .u8 (rb % 3)), Fact.eq (.int .i64 (rb % 3)), Fact.eq (.int .i64 (1 + rb % 3)), Fact.setE M (1 + rb % 3) zb, Fact.setE M (1 + rb % 3) zb, Fact.set M (1 + rb % 3) zb, Fact.eq (.int .i64 0), Fact.box wt.heap.size, Fact.top, Fact.eq (.int .i64 0)]
              (fun W => Below wt.heap.size wt W)
              (StBox M (1 + rb % 3) zb) 13 12 (by kernel_rfl) (by kernel_rfl) ?I0 ?I1 ?S1 ?hal ?steps ?done
            case I0 => exact (Below.refl _ wt).drew
            case I1 => exact fun W W' h hB => h.trans (hB.mono h.size)
            case S1 => exact fun u W W' h hB => h.below hB
            case hal => exact fun o ho => by obtain rfl := Option.some.inj (show some _ = some o from ho); kernel_rfl
            case steps =>
              intro mk hmk
              simp only [dstsOf, putAll, List.map_cons, List.map_nil, Nat.reduceAdd, Act.put, List.setIfInBounds_toArray, List.set_cons_zero, List.set_cons_succ] at hmk
              refine Steps.cons (i := 0) rfl ?s0 (Steps.cons (i := 1) rfl ?s1 (Steps.cons (i := 2) rfl ?s2 (Steps.cons (i := 3) rfl ?s3 (Steps.cons (i := 4) rfl ?s4 (Steps.cons (i := 5) rfl ?s5 (Steps.cons (i := 6) rfl ?s6 (Steps.cons (i := 7) rfl ?s7 (Steps.cons (i := 8) rfl ?s8 (Steps.cons (i := 9) rfl ?s9 (Steps.cons (i := 10) rfl ?s10 (Steps.cons (i := 11) rfl ?s11 (Steps.cons (i := 12) rfl ?s12 (Steps.store (i := 13) rfl ?s13 (Steps.cons (i := 14) rfl ?s14 (Steps.nil)))))))))))))))
              case s0 =>
                intro σ W hI hT
                obtain ⟨j0, j1, j2, j3⟩ := (HQ.out.below hI).cells
                clear hT
                refine .inl ⟨rfl, fun K hK => ?_⟩
                rw [hmk] at hK ⊢
                simp only [Act.put, List.setIfInBounds_toArray, List.set_cons_zero, List.set_cons_succ] at hK
                have HK := Aside0.mk hK
                clear hK
                go_wp2
                exact HK.out _ _ rfl (Below.refl _ _)
              case s1 =>
                intro σ W hI hT
                obtain ⟨j0, j1, j2, j3⟩ := (HQ.out.below hI).cells
                clear hT
                refine .inl ⟨rfl, fun K hK => ?_⟩
                rw [hmk] at hK ⊢
                simp only [Act.put, List.setIfInBounds_toArray, List.set_cons_zero, List.set_cons_succ] at hK
                have HK := Aside0.mk hK
                clear hK
                go_wp2
                exact HK.out _ _ rfl (Below.refl _ _)
              case s2 =>
                intro σ W hI hT
                obtain ⟨j0, j1, j2, j3⟩ := (HQ.out.below hI).cells
                have e1 : σ 1 = .slice A2 lq c2 := hT 1 (by kernel_rfl)
                clear hT
                refine .inl ⟨rfl, fun K hK => ?_⟩
                rw [hmk] at hK ⊢
                simp only [Act.put, List.setIfInBounds_toArray, List.set_cons_zero, List.set_cons_succ] at hK
                rw [e1] at hK ⊢
                clear e1
                have HK := Aside0.mk hK
                clear hK
                have hcon := HF2.out W hI
                go_wp2_with (go_at_call 12; refine hcon.mono ?_; clear hcon; rintro e w' ⟨⟨c', rfl, hc'⟩, rfl⟩)
                exact HK.out _ _ ⟨c', rfl, hc'⟩ (Below.refl _ _)
              case s3 =>
                intro σ W hI hT
                obtain ⟨j0, j1, j2, j3⟩ := (HQ.out.below hI).cells
                clear hT
                refine .inl ⟨rfl, fun K hK => ?_⟩
                rw [hmk] at hK ⊢
                simp only [Act.put, List.setIfInBounds_toArray, List.set_cons_zero, List.set_cons_succ] at hK
                have HK := Aside0.mk hK
                clear hK
                go_wp2
                exact HK.out _ _ rfl (Below.refl _ _)
              case s4 =>
                intro σ W hI hT
                obtain ⟨j0, j1, j2, j3⟩ := (HQ.out.below hI).cells
                have e3 : σ 3 = .pointer (some ⟨w.heap.size, 1, none⟩) := hT 3 (by kernel_rfl)
                clear hT
                refine .inl ⟨rfl, fun K hK => ?_⟩
                rw [hmk] at hK ⊢
                simp only [Act.put, List.setIfInBounds_toArray, List.set_cons_zero, List.set_cons_succ] at hK
                rw [e3] at hK ⊢
                clear e3
                have HK := Aside0.mk hK
                clear hK
                go_wp2
                exact HK.out _ _ rfl (Below.refl _ _)
              case s5 =>
                intro σ W hI hT
                obtain ⟨j0, j1, j2, j3⟩ := (HQ.out.below hI).cells
                have e4 : σ 4 = .int .u8 rb := hT 4 (by kernel_rfl)
                clear hT
                refine .inl ⟨rfl, fun K hK => ?_⟩
                rw [hmk] at hK ⊢
                simp only [Act.put, List.setIfInBounds_toArray, List.set_cons_zero, List.set_cons_succ] at hK
                rw [e4] at hK ⊢
                clear e4
                have HK := Aside0.mk hK
                clear hK
                have hb0 := HU.out
                go_wp2
                exact HK.out _ _ rfl (Below.refl _ _)
              case s6 =>
                intro σ W hI hT
                obtain ⟨j0, j1, j2, j3⟩ := (HQ.out.below hI).cells
                have e5 : σ 5 = .int .u8 (rb % 3) := hT 5 (by kernel_rfl)
                clear hT
                refine .inl ⟨rfl, fun K hK => ?_⟩
                rw [hmk] at hK ⊢
                simp only [Act.put, List.setIfInBounds_toArray, List.set_cons_zero, List.set_cons_succ] at hK
                rw [e5] at hK ⊢
                clear e5
                have HK := Aside0.mk hK
                clear hK
                have hb0 := HU.out
                go_wp2
                exact HK.out _ _ rfl (Below.refl _ _)
              case s7 =>
                intro σ W hI hT
                obtain ⟨j0, j1, j2, j3⟩ := (HQ.out.below hI).cells
                have e6 : σ 6 = .int .i64 (rb % 3) := hT 6 (by kernel_rfl)
                clear hT
                refine .inl ⟨rfl, fun K hK => ?_⟩
                rw [hmk] at hK ⊢
                simp only [Act.put, List.setIfInBounds_toArray, List.set_cons_zero, List.set_cons_succ] at hK
                rw [e6] at hK ⊢
                clear e6
                have HK := Aside0.mk hK
                clear hK
                have hb0 := HU.out
                go_wp2
                exact HK.out _ _ rfl (Below.refl _ _)
              case s8 =>
                intro σ W hI hT
                obtain ⟨j0, j1, j2, j3⟩ := (HQ.out.below hI).cells
                have e0 : σ 0 = .int .i64 M := hT 0 (by kernel_rfl)
                obtain ⟨c2_, e2, f2⟩ := hT 2 (by kernel_rfl)
                have e7 : σ 7 = .int .i64 (1 + rb % 3) := hT 7 (by kernel_rfl)
                clear hT
                refine .inl ⟨rfl, fun K hK => ?_⟩
                rw [hmk] at hK ⊢
                simp only [Act.put, List.setIfInBounds_toArray, List.set_cons_zero, List.set_cons_succ] at hK
                rw [e0, e2, e7] at hK ⊢
                clear e0 e2 e7
                have HK := Aside0.mk hK
                clear hK
                have hcon := HO2.out W c2_ hI
                unfold SetPostE setV at hcon
                go_wp2_with (go_at_call 11; refine hcon.mono ?_; clear hcon; rintro e w' ⟨t, u, rfl, hS, hb⟩)
                exact HK.out _ _ ⟨t, u, rfl, hS⟩ hb
              case s9 =>
                intro σ W hI hT
                obtain ⟨j0, j1, j2, j3⟩ := (HQ.out.below hI).cells
                obtain ⟨t8, u8, e8, f8⟩ := hT 8 (by kernel_rfl)
                clear hT
                refine .inl ⟨rfl, fun K hK => ?_⟩
                rw [hmk] at hK ⊢
                simp only [Act.put, List.setIfInBounds_toArray, List.set_cons_zero, List.set_cons_succ] at hK
                rw [e8] at hK ⊢
                clear e8
                have HK := Aside0.mk hK
                clear hK
                go_wp2
                exact HK.out _ _ ⟨_, _, rfl, f8⟩ (Below.refl _ _)
              case s10 =>
                intro σ W hI hT
                obtain ⟨j0, j1, j2, j3⟩ := (HQ.out.below hI).cells
                obtain ⟨t9, u9, e9, f9⟩ := hT 9 (by kernel_rfl)
                clear hT
                refine .inl ⟨rfl, fun K hK => ?_⟩
                rw [hmk] at hK ⊢
                simp only [Act.put, List.setIfInBounds_toArray, List.set_cons_zero, List.set_cons_succ] at hK
                rw [e9] at hK ⊢
                clear e9
                have HK := Aside0.mk hK
                clear hK
                go_wp2
                exact HK.out _ _ ⟨_, _, rfl, f9⟩ (Below.refl _ _)
              case s11 =>
                intro σ W hI hT
                obtain ⟨j0, j1, j2, j3⟩ := (HQ.out.below hI).cells
                obtain ⟨t9, u9, e9, f9⟩ := hT 9 (by kernel_rfl)
                clear hT
                refine .inl ⟨rfl, fun K hK => ?_⟩
                rw [hmk] at hK ⊢
                simp only [Act.put, List.setIfInBounds_toArray, List.set_cons_zero, List.set_cons_succ] at hK
                rw [e9] at hK ⊢
                clear e9
                have HK := Aside0.mk hK
                clear hK
                go_wp2
                exact HK.out _ _ rfl (Below.refl _ _)
              case s12 =>
                intro σ W hI hT
                obtain ⟨j0, j1, j2, j3⟩ := (HQ.out.below hI).cells
                clear hT
                refine .inl ⟨rfl, fun K hK => ?_⟩
                rw [hmk] at hK ⊢
                simp only [Act.put, List.setIfInBounds_toArray, List.set_cons_zero, List.set_cons_succ] at hK
                have HK := Aside0.mk hK
                clear hK
                go_wp2
                exact HK.out _ _ ⟨_, _, _, _, rfl, hI.size, SBox.new W _ _ _⟩ ((Below.refl _ W).alloc (Nat.le_refl _) _)
              case s13 =>
                intro σ W hI hT
                obtain ⟨j0, j1, j2, j3⟩ := (HQ.out.below hI).cells
                obtain ⟨t10, u10, e10, f10⟩ := hT 10 (by kernel_rfl)
                obtain ⟨b12, x12, y12, z12, e12, hb12, hx12⟩ := hT 12 (by kernel_rfl)
                clear hT
                refine ⟨rfl, fun K hK => ?_⟩
                rw [hmk] at hK ⊢
                simp only [Act.put] at hK
                rw [e10, e12] at hK ⊢
                clear e10 e12
                have HK := Aside0.mk hK
                clear hK
                obtain ⟨c1_, c2_, c3_, c4_, c5_, c6_⟩ := hx12.cells
                go_wp2
                exact HK.out undef _ trivial (set3_still hx12 _ _ _) (below_set3 hI hb12 _ _ _) ⟨b12, _, _, rfl, hx12.set _ _ _, isSet_still f10 (set3_still hx12 _ _ _)⟩
              case s14 =>
                intro σ W hI hT
                obtain ⟨j0, j1, j2, j3⟩ := (HQ.out.below hI).cells
                have e11 : σ 11 = .int .i64 0 := hT 11 (by kernel_rfl)
                clear hT
                refine .inl ⟨rfl, fun K hK => ?_⟩
                rw [hmk] at hK ⊢
                simp only [Act.put, List.setIfInBounds_toArray, List.set_cons_zero, List.set_cons_succ] at hK
                rw [e11] at hK ⊢
                clear e11
                have HK := Aside0.mk hK
                clear hK
                go_wp2
                exact HK.out _ _ rfl (Below.refl _ _)
            case done =>
              intro mk hmk σ W hI hS hT
              simp only [dstsOf, putAll, List.map_cons, List.map_nil, Nat.reduceAdd, Act.put, List.setIfInBounds_toArray, List.set_cons_zero, List.set_cons_succ] at hmk
              rw [hmk]
              have e14 : σ 14 = .int .i64 0 := hT 14 (by decide)
              obtain ⟨b2, t2, u2, e12, hb, hSS⟩ := hS (by decide)
              rw [e12, e14]
              clear hT e12 e14 hS
              clear HF2 HO2
              obtain ⟨wu, hw_⟩ : ∃ w_, w_ = W := ⟨_, rfl⟩
              subst hw_
              replace HB := Aside0.mk (HB.out.trans (hI.mono HB.out.size))
              replace HQ := Aside0.mk (HQ.out.below hI)
              replace S1 := Aside0.mk (S1.out.below hI)
              replace Z1 := Aside0.mk (Z1.out.below hI)
              have S2 := Aside0.mk hb
              have Z2 := Aside0.mk hSS
              clear hb hSS hI
              clear HQ
              obtain ⟨kS1_0, kS1_1, kS1_2, kS1_3, kS1_4, kS1_5⟩ := S1.out.cells
              obtain ⟨kS2_0, kS2_1, kS2_2, kS2_3, kS2_4, kS2_5⟩ := S2.out.cells
              go_wp2_with (fail)
              refine (and_any M (1 + ra % 3) (1 + rb % 3) (.iface t1 u1) (.iface t2 u2) za zb wu Z1.out Z2.out).mono ?_
              clear kS1_0 kS1_1 kS1_2 kS1_3 kS1_4 kS1_5 kS2_0 kS2_1 kS2_2 kS2_3 kS2_4 kS2_5
              rintro e w2 ⟨t3, u3, he, hS, hb⟩
              unfold setV at he
              subst he
              replace HB := Aside0.mk (HB.out.trans (hb.mono HB.out.size))
              replace S1 := Aside0.mk (S1.out.below hb)
              replace Z1 := Aside0.mk (Z1.out.below hb)
              replace S2 := Aside0.mk (S2.out.below hb)
              replace Z2 := Aside0.mk (Z2.out.below hb)
              clear hb
              have Z3 := Aside0.mk (hS)
              clear hS
              obtain ⟨kS1_0, kS1_1, kS1_2, kS1_3, kS1_4, kS1_5⟩ := (S1.out.below ((Below.refl _ _).alloc (Nat.le_refl _) (.cells #[.int .i64 M, .int .i64 (1 + ra % 3), .iface t3 u3] 28))).cells
              obtain ⟨kS2_0, kS2_1, kS2_2, kS2_3, kS2_4, kS2_5⟩ := (S2.out.below ((Below.refl _ _).alloc (Nat.le_refl _) (.cells #[.int .i64 M, .int .i64 (1 + ra % 3), .iface t3 u3] 28))).cells
              go_wp2_with (fail)
              refine calls_gen (fun W => Below w2.heap.size w2 W ∧ SBox W w2.heap.size (.int .i64 M) (.int .i64 (1 + ra % 3)) (.iface t3 u3)) ⟨(Below.refl _ _).alloc (Nat.le_refl _) _, SBox.new w2 _ _ _⟩ ?_
              rintro w3 ⟨hb, hbox⟩
              clear kS1_0 kS1_1 kS1_2 kS1_3 kS1_4 kS1_5 kS2_0 kS2_1 kS2_2 kS2_3 kS2_4 kS2_5
              replace HB := Aside0.mk (HB.out.trans (hb.mono HB.out.size))
              replace S1 := Aside0.mk (S1.out.below hb)
              replace Z1 := Aside0.mk (Z1.out.below hb)
              replace S2 := Aside0.mk (S2.out.below hb)
              replace Z2 := Aside0.mk (Z2.out.below hb)
              replace Z3 := Aside0.mk (Z3.out.below hb)
              clear hb
              have S3 := Aside0.mk (hbox)
              clear hbox
              refine (or_any M (1 + ra % 3) (1 + rb % 3) (.iface t1 u1) (.iface t2 u2) za zb w3 Z1.out Z2.out).mono ?_
              rintro e w4 ⟨t4, u4, he, hS, hb⟩
              unfold setV at he
              subst he
              replace HB := Aside0.mk (HB.out.trans (hb.mono HB.out.size))
              replace S1 := Aside0.mk (S1.out.below hb)
              replace Z1 := Aside0.mk (Z1.out.below hb)
              replace S2 := Aside0.mk (S2.out.below hb)
              replace Z2 := Aside0.mk (Z2.out.below hb)
              replace Z3 := Aside0.mk (Z3.out.below hb)
              replace S3 := Aside0.mk (S3.out.below hb)
              clear hb
              have Z4 := Aside0.mk (hS)
              clear hS
              have hsum := filt_both M (inZ za) (inZ zb)
              rw [inZ_eq Z1.out.rising, inZ_eq Z2.out.rising] at hsum
              have hnot := filt_not M (inZ za)
              rw [inZ_eq Z1.out.rising] at hnot
              generalize hzc : filt M (fun x => inZ za x && inZ zb x) = zc at *
              generalize hzd : filt M (fun x => inZ za x || inZ zb x) = zd at *
              generalize hze : filt M (fun x => !inZ za x) = ze at *
              have HZE := Aside0.mk hze
              have HSM := Aside0.mk (show (zc.length : Int) + (zd.length : Int) = (za.length : Int) + (zb.length : Int) by omega)
              have HNT := Aside0.mk (show (ze.length : Int) = M - (za.length : Int) by have := HK.out; omega)
              have HLN := Aside0.mk (show zc.length ≤ 4096 ∧ zd.length ≤ 4096 ∧ za.length ≤ 4096 ∧ zb.length ≤ 4096 by have := Z1.out.rising.length; have := Z2.out.rising.length; have := Z3.out.rising.length; have := Z4.out.rising.length; have := HK.out; omega)
              clear hsum hnot hzc hzd hze
              go_wp2_with (fail)
              have hb4 := (Below.refl w4.heap.size w4).alloc (Nat.le_refl _) (.cells #[.int .i64 M, .int .i64 (1 + ra % 3), .iface t4 u4] 28)
              have hs4 := SBox.new w4 (.int .i64 M) (.int .i64 (1 + ra % 3)) (.iface t4 u4)
              generalize w4.alloc (.cells #[.int .i64 M, .int .i64 (1 + ra % 3), .iface t4 u4] 28) = wv at hb4 hs4 ⊢
              replace HB := Aside0.mk (HB.out.trans (hb4.mono HB.out.size))
              replace S1 := Aside0.mk (S1.out.below hb4)
              replace Z1 := Aside0.mk (Z1.out.below hb4)
              replace S2 := Aside0.mk (S2.out.below hb4)
              replace Z2 := Aside0.mk (Z2.out.below hb4)
              replace Z3 := Aside0.mk (Z3.out.below hb4)
              replace S3 := Aside0.mk (S3.out.below hb4)
              replace Z4 := Aside0.mk (Z4.out.below hb4)
              clear hb4
              have S4 := Aside0.mk (hs4)
              clear hs4
              have HM0 := HK
              clear HK
              refine wp_region_still (t := 28) (by kernel_rfl) [Fact.eq (.bool true), Fact.eq (.bool true), Fact.eq (.int .i64 0), Fact.eq (.bool true), Fact.eq (.bool true), Fact.eq (.bool true), Fact.eq (.int .i64 0), Fact.eq (.bool true), Fact.eq (.bool true), Fact.eq (.bool true), Fact.eq (.int .i64 0), Fact.eq (.bool true), Fact.eq (.bool true), Fact.eq (.bool true), Fact.eq (.int .i64 0), Fact.eq (.bool true), Fact.eq (.bool true), Fact.eq (.bool true), Fact.eq (.agg #[.int .i64 M, .int .i64 (1 + ra % 3), .iface t3 u3]), Fact.rowI zc, Fact.eq (.int .i64 zc.length), Fact.eq (.agg #[.int .i64 M, .int .i64 (1 + ra % 3), .iface t4 u4]), Fact.rowI zd, Fact.eq (.int .i64 zd.length), Fact.eq (.int .i64 ((zc.length : Int) + (zd.length : Int))), Fact.eq (.agg #[.int .i64 M, .int .i64 (1 + ra % 3), .iface t1 u1]), Fact.rowI za, Fact.eq (.int .i64 za.length), Fact.eq (.agg #[.int .i64 M, .int .i64 (1 + rb % 3), .iface t2 u2]), Fact.rowI zb, Fact.eq (.int .i64 zb.length), Fact.eq (.int .i64 ((za.length : Int) + (zb.length : Int))), Fact.eq (.bool true), Fact.eq (.bool true), Fact.eq (.bool true), Fact.eq (.agg #[.int .i64 M, .int .i64 (1 + ra % 3), .iface t1 u1]), Fact.set M (1 + ra % 3) ze, Fact.rowI ze, Fact.eq (.int .i64 ze.length), Fact.eq (.int .i64 M), Fact.eq (.agg #[.int .i64 M, .int .i64 (1 + ra % 3), .iface t1 u1]), Fact.rowI za, Fact.eq (.int .i64 za.length), Fact.eq (.int .i64 (M - (za.length : Int))), Fact.eq (.bool true), Fact.eq (.bool true), Fact.eq (.bool true)]
                (fun W => Below wv.heap.size wv W)
                (fun _ _ => True) 47 0 (by kernel_rfl) (by kernel_rfl) ?I0 ?I1 ?S1 ?hal ?steps ?done
              case I0 => exact (Below.refl _ wv).drew
              case I1 => exact fun W W' h hB => h.trans (hB.mono h.size)
              case S1 => exact fun _ _ _ _ _ => trivial
              case hal => exact fun o ho => by cases (show none = some o from ho)
              case steps =>
                intro mk hmk
                simp only [dstsOf, putAll, List.map_cons, List.map_nil, Nat.reduceAdd, Act.put, List.setIfInBounds_toArray, List.set_cons_zero, List.set_cons_succ] at hmk
                refine Steps.cons (i := 0) rfl ?s0 (Steps.cons (i := 1) rfl ?s1 (Steps.cons (i := 2) rfl ?s2 (Steps.cons (i := 3) rfl ?s3 (Steps.cons (i := 4) rfl ?s4 (Steps.cons (i := 5) rfl ?s5 (Steps.cons (i := 6) rfl ?s6 (Steps.cons (i := 7) rfl ?s7 (Steps.cons (i := 8) rfl ?s8 (Steps.cons (i := 9) rfl ?s9 (Steps.cons (i := 10) rfl ?s10 (Steps.cons (i := 11) rfl ?s11 (Steps.cons (i := 12) rfl ?s12 (Steps.cons (i := 13) rfl ?s13 (Steps.cons (i := 14) rfl ?s14 (Steps.cons (i := 15) rfl ?s15 (Steps.cons (i := 16) rfl ?s16 (Steps.cons (i := 17) rfl ?s17 (Steps.cons (i := 18) rfl ?s18 (Steps.cons (i := 19) rfl ?s19 (Steps.cons (i := 20) rfl ?s20 (Steps.cons (i := 21) rfl ?s21 (Steps.cons (i := 22) rfl ?s22 (Steps.cons (i := 23) rfl ?s23 (Steps.cons (i := 24) rfl ?s24 (Steps.cons (i := 25) rfl ?s25 (Steps.cons (i := 26) rfl ?s26 (Steps.cons (i := 27) rfl ?s27 (Steps.cons (i := 28) rfl ?s28 (Steps.cons (i := 29) rfl ?s29 (Steps.cons (i := 30) rfl ?s30 (Steps.cons (i := 31) rfl ?s31 (Steps.cons (i := 32) rfl ?s32 (Steps.cons (i := 33) rfl ?s33 (Steps.cons (i := 34) rfl ?s34 (Steps.cons (i := 35) rfl ?s35 (Steps.cons (i := 36) rfl ?s36 (Steps.cons (i := 37) rfl ?s37 (Steps.cons (i := 38) rfl ?s38 (Steps.cons (i := 39) rfl ?s39 (Steps.cons (i := 40) rfl ?s40 (Steps.cons (i := 41) rfl ?s41 (Steps.cons (i := 42) rfl ?s42 (Steps.cons (i := 43) rfl ?s43 (Steps.cons (i := 44) rfl ?s44 (Steps.cons (i := 45) rfl ?s45 (Steps.cons (i := 46) rfl ?s46 (Steps.nil)))))))))))))))))))))))))))))))))))))))))))))))
                case s0 =>
                  intro σ W hI hT
                  obtain ⟨k10, k11, k12, _⟩ := (S1.out.below hI).cells; obtain ⟨k20, k21, k22, _⟩ := (S2.out.below hI).cells; obtain ⟨k30, k31, k32, _⟩ := (S3.out.below hI).cells; obtain ⟨k40, k41, k42, _⟩ := (S4.out.below hI).cells
                  clear hT
                  refine .inl ⟨rfl, fun K hK => ?_⟩
                  rw [hmk] at hK ⊢
                  simp only [Act.put, List.setIfInBounds_toArray, List.set_cons_zero, List.set_cons_succ] at hK
                  have HK := Aside0.mk hK
                  clear hK
                  go_wp2
                  exact HK.out _ _ rfl (Below.refl _ _)
                case s1 =>
                  intro σ W hI hT
                  obtain ⟨k10, k11, k12, _⟩ := (S1.out.below hI).cells; obtain ⟨k20, k21, k22, _⟩ := (S2.out.below hI).cells; obtain ⟨k30, k31, k32, _⟩ := (S3.out.below hI).cells; obtain ⟨k40, k41, k42, _⟩ := (S4.out.below hI).cells
                  have e0 : σ 0 = .bool true := hT 0 (by kernel_rfl)
                  clear hT
                  refine .inl ⟨rfl, fun K hK => ?_⟩
                  rw [hmk] at hK ⊢
                  simp only [Act.put, List.setIfInBounds_toArray, List.set_cons_zero, List.set_cons_succ] at hK
                  rw [e0] at hK ⊢
                  clear e0
                  have HK := Aside0.mk hK
                  clear hK
                  go_wp2
                  exact HK.out _ _ rfl (Below.refl _ _)
                case s2 =>
                  intro σ W hI hT
                  obtain ⟨k10, k11, k12, _⟩ := (S1.out.below hI).cells; obtain ⟨k20, k21, k22, _⟩ := (S2.out.below hI).cells; obtain ⟨k30, k31, k32, _⟩ := (S3.out.below hI).cells; obtain ⟨k40, k41, k42, _⟩ := (S4.out.below hI).cells
                  have e1 : σ 1 = .bool true := hT 1 (by kernel_rfl)
                  clear hT
                  refine .inl ⟨by rw [hmk]; simp [Region.wanted, yielded, e1], fun K hK => ?_⟩
                  rw [hmk] at hK ⊢
                  simp only [Act.put, List.setIfInBounds_toArray, List.set_cons_zero, List.set_cons_succ] at hK
                  rw [e1] at hK ⊢
                  clear e1
                  have HK := Aside0.mk hK
                  clear hK
                  go_wp2
                  exact HK.out _ _ rfl (Below.refl _ _)
                case s3 =>
                  intro σ W hI hT
                  obtain ⟨k10, k11, k12, _⟩ := (S1.out.below hI).cells; obtain ⟨k20, k21, k22, _⟩ := (S2.out.below hI).cells; obtain ⟨k30, k31, k32, _⟩ := (S3.out.below hI).cells; obtain ⟨k40, k41, k42, _⟩ := (S4.out.below hI).cells
                  have e1 : σ 1 = .bool true := hT 1 (by kernel_rfl)
                  have e2 : σ 2 = .int .i64 0 := hT 2 (by kernel_rfl)
                  clear hT
                  refine .inl ⟨by rw [hmk]; simp [Region.wanted, yielded, e1], fun K hK => ?_⟩
                  rw [hmk] at hK ⊢
                  simp only [Act.put, List.setIfInBounds_toArray, List.set_cons_zero, List.set_cons_succ] at hK
                  rw [e1, e2] at hK ⊢
                  clear e1 e2
                  have HK := Aside0.mk hK
                  clear hK
                  go_wp2
                  exact HK.out _ _ rfl (Below.refl _ _)
                case s4 =>
                  intro σ W hI hT
                  obtain ⟨k10, k11, k12, _⟩ := (S1.out.below hI).cells; obtain ⟨k20, k21, k22, _⟩ := (S2.out.below hI).cells; obtain ⟨k30, k31, k32, _⟩ := (S3.out.below hI).cells; obtain ⟨k40, k41, k42, _⟩ := (S4.out.below hI).cells
                  have e1 : σ 1 = .bool true := hT 1 (by kernel_rfl)
                  have e3 : σ 3 = .bool true := hT 3 (by kernel_rfl)
                  clear hT
                  refine .inl ⟨rfl, fun K hK => ?_⟩
                  rw [hmk] at hK ⊢
                  simp only [Act.put, List.setIfInBounds_toArray, List.set_cons_zero, List.set_cons_succ] at hK
                  rw [e1, e3] at hK ⊢
                  clear e1 e3
                  have HK := Aside0.mk hK
                  clear hK
                  go_wp2
                  exact HK.out _ _ rfl (Below.refl _ _)
                case s5 =>
                  intro σ W hI hT
                  obtain ⟨k10, k11, k12, _⟩ := (S1.out.below hI).cells; obtain ⟨k20, k21, k22, _⟩ := (S2.out.below hI).cells; obtain ⟨k30, k31, k32, _⟩ := (S3.out.below hI).cells; obtain ⟨k40, k41, k42, _⟩ := (S4.out.below hI).cells
                  have e4 : σ 4 = .bool true := hT 4 (by kernel_rfl)
                  clear hT
                  refine .inl ⟨rfl, fun K hK => ?_⟩
                  rw [hmk] at hK ⊢
                  simp only [Act.put, List.setIfInBounds_toArray, List.set_cons_zero, List.set_cons_succ] at hK
                  rw [e4] at hK ⊢
                  clear e4
                  have HK := Aside0.mk hK
                  clear hK
                  go_wp2
                  exact HK.out _ _ rfl (Below.refl _ _)
                case s6 =>
                  intro σ W hI hT
                  obtain ⟨k10, k11, k12, _⟩ := (S1.out.below hI).cells; obtain ⟨k20, k21, k22, _⟩ := (S2.out.below hI).cells; obtain ⟨k30, k31, k32, _⟩ := (S3.out.below hI).cells; obtain ⟨k40, k41, k42, _⟩ := (S4.out.below hI).cells
                  have e5 : σ 5 = .bool true := hT 5 (by kernel_rfl)
                  clear hT
                  refine .inl ⟨by rw [hmk]; simp [Region.wanted, yielded, e5], fun K hK => ?_⟩
                  rw [hmk] at hK ⊢
                  simp only [Act.put, List.setIfInBounds_toArray, List.set_cons_zero, List.set_cons_succ] at hK
                  rw [e5] at hK ⊢
                  clear e5
                  have HK := Aside0.mk hK
                  clear hK
                  go_wp2
                  exact HK.out _ _ rfl (Below.refl _ _)
                case s7 =>
                  intro σ W hI hT
                  obtain ⟨k10, k11, k12, _⟩ := (S1.out.below hI).cells; obtain ⟨k20, k21, k22, _⟩ := (S2.out.below hI).cells; obtain ⟨k30, k31, k32, _⟩ := (S3.out.below hI).cells; obtain ⟨k40, k41, k42, _⟩ := (S4.out.below hI).cells
                  have e5 : σ 5 = .bool true := hT 5 (by kernel_rfl)
                  have e6 : σ 6 = .int .i64 0 := hT 6 (by kernel_rfl)
                  clear hT
                  refine .inl ⟨by rw [hmk]; simp [Region.wanted, yielded, e5], fun K hK => ?_⟩
                  rw [hmk] at hK ⊢
                  simp only [Act.put, List.setIfInBounds_toArray, List.set_cons_zero, List.set_cons_succ] at hK
                  rw [e5, e6] at hK ⊢
                  clear e5 e6
                  have HK := Aside0.mk hK
                  clear hK
                  go_wp2
                  exact HK.out _ _ rfl (Below.refl _ _)
                case s8 =>
                  intro σ W hI hT
                  obtain ⟨k10, k11, k12, _⟩ := (S1.out.below hI).cells; obtain ⟨k20, k21, k22, _⟩ := (S2.out.below hI).cells; obtain ⟨k30, k31, k32, _⟩ := (S3.out.below hI).cells; obtain ⟨k40, k41, k42, _⟩ := (S4.out.below hI).cells
                  have e5 : σ 5 = .bool true := hT 5 (by kernel_rfl)
                  have e7 : σ 7 = .bool true := hT 7 (by kernel_rfl)
                  clear hT
                  refine .inl ⟨rfl, fun K hK => ?_⟩
                  rw [hmk] at hK ⊢
                  simp only [Act.put, List.setIfInBounds_toArray, List.set_cons_zero, List.set_cons_succ] at hK
                  rw [e5, e7] at hK ⊢
                  clear e5 e7
                  have HK := Aside0.mk hK
                  clear hK
                  go_wp2
                  exact HK.out _ _ rfl (Below.refl _ _)
                case s9 =>
                  intro σ W hI hT
                  obtain ⟨k10, k11, k12, _⟩ := (S1.out.below hI).cells; obtain ⟨k20, k21, k22, _⟩ := (S2.out.below hI).cells; obtain ⟨k30, k31, k32, _⟩ := (S3.out.below hI).cells; obtain ⟨k40, k41, k42, _⟩ := (S4.out.below hI).cells
                  have e8 : σ 8 = .bool true := hT 8 (by kernel_rfl)
                  clear hT
                  refine .inl ⟨rfl, fun K hK => ?_⟩
                  rw [hmk] at hK ⊢
                  simp only [Act.put, List.setIfInBounds_toArray, List.set_cons_zero, List.set_cons_succ] at hK
                  rw [e8] at hK ⊢
                  clear e8
                  have HK := Aside0.mk hK
                  clear hK
                  go_wp2
                  exact HK.out _ _ rfl (Below.refl _ _)
                case s10 =>
                  intro σ W hI hT
                  obtain ⟨k10, k11, k12, _⟩ := (S1.out.below hI).cells; obtain ⟨k20, k21, k22, _⟩ := (S2.out.below hI).cells; obtain ⟨k30, k31, k32, _⟩ := (S3.out.below hI).cells; obtain ⟨k40, k41, k42, _⟩ := (S4.out.below hI).cells
                  have e9 : σ 9 = .bool true := hT 9 (by kernel_rfl)
                  clear hT
                  refine .inl ⟨by rw [hmk]; simp [Region.wanted, yielded, e9], fun K hK => ?_⟩
                  rw [hmk] at hK ⊢
                  simp only [Act.put, List.setIfInBounds_toArray, List.set_cons_zero, List.set_cons_succ] at hK
                  rw [e9] at hK ⊢
                  clear e9
                  have HK := Aside0.mk hK
                  clear hK
                  go_wp2
                  exact HK.out _ _ rfl (Below.refl _ _)
                case s11 =>
                  intro σ W hI hT
                  obtain ⟨k10, k11, k12, _⟩ := (S1.out.below hI).cells; obtain ⟨k20, k21, k22, _⟩ := (S2.out.below hI).cells; obtain ⟨k30, k31, k32, _⟩ := (S3.out.below hI).cells; obtain ⟨k40, k41, k42, _⟩ := (S4.out.below hI).cells
                  have e9 : σ 9 = .bool true := hT 9 (by kernel_rfl)
                  have e10 : σ 10 = .int .i64 0 := hT 10 (by kernel_rfl)
                  clear hT
                  refine .inl ⟨by rw [hmk]; simp [Region.wanted, yielded, e9], fun K hK => ?_⟩
                  rw [hmk] at hK ⊢
                  simp only [Act.put, List.setIfInBounds_toArray, List.set_cons_zero, List.set_cons_succ] at hK
                  rw [e9, e10] at hK ⊢
                  clear e9 e10
                  have HK := Aside0.mk hK
                  clear hK
                  go_wp2
                  exact HK.out _ _ rfl (Below.refl _ _)
                case s12 =>
                  intro σ W hI hT
                  obtain ⟨k10, k11, k12, _⟩ := (S1.out.below hI).cells; obtain ⟨k20, k21, k22, _⟩ := (S2.out.below hI).cells; obtain ⟨k30, k31, k32, _⟩ := (S3.out.below hI).cells; obtain ⟨k40, k41, k42, _⟩ := (S4.out.below hI).cells
                  have e9 : σ 9 = .bool true := hT 9 (by kernel_rfl)
                  have e11 : σ 11 = .bool true := hT 11 (by kernel_rfl)
                  clear hT
                  refine .inl ⟨rfl, fun K hK => ?_⟩
                  rw [hmk] at hK ⊢
                  simp only [Act.put, List.setIfInBounds_toArray, List.set_cons_zero, List.set_cons_succ] at hK
                  rw [e9, e11] at hK ⊢
                  clear e9 e11
                  have HK := Aside0.mk hK
                  clear hK
                  go_wp2
                  exact HK.out _ _ rfl (Below.refl _ _)
                case s13 =>
                  intro σ W hI hT
                  obtain ⟨k10, k11, k12, _⟩ := (S1.out.below hI).cells; obtain ⟨k20, k21, k22, _⟩ := (S2.out.below hI).cells; obtain ⟨k30, k31, k32, _⟩ := (S3.out.below hI).cells; obtain ⟨k40, k41, k42, _⟩ := (S4.out.below hI).cells
                  have e12 : σ 12 = .bool true := hT 12 (by kernel_rfl)
                  clear hT
                  refine .inl ⟨rfl, fun K hK => ?_⟩
                  rw [hmk] at hK ⊢
                  simp only [Act.put, List.setIfInBounds_toArray, List.set_cons_zero, List.set_cons_succ] at hK
                  rw [e12] at hK ⊢
                  clear e12
                  have HK := Aside0.mk hK
                  clear hK
                  go_wp2
                  exact HK.out _ _ rfl (Below.refl _ _)
                case s14 =>
                  intro σ W hI hT
                  obtain ⟨k10, k11, k12, _⟩ := (S1.out.below hI).cells; obtain ⟨k20, k21, k22, _⟩ := (S2.out.below hI).cells; obtain ⟨k30, k31, k32, _⟩ := (S3.out.below hI).cells; obtain ⟨k40, k41, k42, _⟩ := (S4.out.below hI).cells
                  have e13 : σ 13 = .bool true := hT 13 (by kernel_rfl)
                  clear hT
                  refine .inl ⟨by rw [hmk]; simp [Region.wanted, yielded, e13], fun K hK => ?_⟩
                  rw [hmk] at hK ⊢
                  simp only [Act.put, List.setIfInBounds_toArray, List.set_cons_zero, List.set_cons_succ] at hK
                  rw [e13] at hK ⊢
                  clear e13
                  have HK := Aside0.mk hK
                  clear hK
                  go_wp2
                  exact HK.out _ _ rfl (Below.refl _ _)
                case s15 =>
                  intro σ W hI hT
                  obtain ⟨k10, k11, k12, _⟩ := (S1.out.below hI).cells; obtain ⟨k20, k21, k22, _⟩ := (S2.out.below hI).cells; obtain ⟨k30, k31, k32, _⟩ := (S3.out.below hI).cells; obtain ⟨k40, k41, k42, _⟩ := (S4.out.below hI).cells
                  have e13 : σ 13 = .bool true := hT 13 (by kernel_rfl)
                  have e14 : σ 14 = .int .i64 0 := hT 14 (by kernel_rfl)
                  clear hT
                  refine .inl ⟨by rw [hmk]; simp [Region.wanted, yielded, e13], fun K hK => ?_⟩
                  rw [hmk] at hK ⊢
                  simp only [Act.put, List.setIfInBounds_toArray, List.set_cons_zero, List.set_cons_succ] at hK
                  rw [e13, e14] at hK ⊢
                  clear e13 e14
                  have HK := Aside0.mk hK
                  clear hK
                  go_wp2
                  exact HK.out _ _ rfl (Below.refl _ _)
                case s16 =>
                  intro σ W hI hT
                  obtain ⟨k10, k11, k12, _⟩ := (S1.out.below hI).cells; obtain ⟨k20, k21, k22, _⟩ := (S2.out.below hI).cells; obtain ⟨k30, k31, k32, _⟩ := (S3.out.below hI).cells; obtain ⟨k40, k41, k42, _⟩ := (S4.out.below hI).cells
                  have e13 : σ 13 = .bool true := hT 13 (by kernel_rfl)
                  have e15 : σ 15 = .bool true := hT 15 (by kernel_rfl)
                  clear hT
                  refine .inl ⟨rfl, fun K hK => ?_⟩
                  rw [hmk] at hK ⊢
                  simp only [Act.put, List.setIfInBounds_toArray, List.set_cons_zero, List.set_cons_succ] at hK
                  rw [e13, e15] at hK ⊢
                  clear e13 e15
                  have HK := Aside0.mk hK
                  clear hK
                  go_wp2
                  exact HK.out _ _ rfl (Below.refl _ _)
                case s17 =>
                  intro σ W hI hT
                  obtain ⟨k10, k11, k12, _⟩ := (S1.out.below hI).cells; obtain ⟨k20, k21, k22, _⟩ := (S2.out.below hI).cells; obtain ⟨k30, k31, k32, _⟩ := (S3.out.below hI).cells; obtain ⟨k40, k41, k42, _⟩ := (S4.out.below hI).cells
                  have e16 : σ 16 = .bool true := hT 16 (by kernel_rfl)
                  clear hT
                  refine .inl ⟨rfl, fun K hK => ?_⟩
                  rw [hmk] at hK ⊢
                  simp only [Act.put, List.setIfInBounds_toArray, List.set_cons_zero, List.set_cons_succ] at hK
                  rw [e16] at hK ⊢
                  clear e16
                  have HK := Aside0.mk hK
                  clear hK
                  go_wp2
                  exact HK.out _ _ rfl (Below.refl _ _)
                case s18 =>
                  intro σ W hI hT
                  obtain ⟨k10, k11, k12, _⟩ := (S1.out.below hI).cells; obtain ⟨k20, k21, k22, _⟩ := (S2.out.below hI).cells; obtain ⟨k30, k31, k32, _⟩ := (S3.out.below hI).cells; obtain ⟨k40, k41, k42, _⟩ := (S4.out.below hI).cells
                  have e17 : σ 17 = .bool true := hT 17 (by kernel_rfl)
                  clear hT
                  refine .inl ⟨by rw [hmk]; simp [Region.wanted, yielded, e17], fun K hK => ?_⟩
                  rw [hmk] at hK ⊢
                  simp only [Act.put, List.setIfInBounds_toArray, List.set_cons_zero, List.set_cons_succ] at hK
                  rw [e17] at hK ⊢
                  clear e17
                  have HK := Aside0.mk hK
                  clear hK
                  go_wp2
                  exact HK.out _ _ rfl (Below.refl _ _)
                case s19 =>
                  intro σ W hI hT
                  obtain ⟨k10, k11, k12, _⟩ := (S1.out.below hI).cells; obtain ⟨k20, k21, k22, _⟩ := (S2.out.below hI).cells; obtain ⟨k30, k31, k32, _⟩ := (S3.out.below hI).cells; obtain ⟨k40, k41, k42, _⟩ := (S4.out.below hI).cells
                  have e17 : σ 17 = .bool true := hT 17 (by kernel_rfl)
                  have e18 : σ 18 = .agg #[.int .i64 M, .int .i64 (1 + ra % 3), .iface t3 u3] := hT 18 (by kernel_rfl)
                  clear hT
                  refine .inl ⟨by rw [hmk]; simp [Region.wanted, yielded, e17], fun K hK => ?_⟩
                  rw [hmk] at hK ⊢
                  simp only [Act.put, List.setIfInBounds_toArray, List.set_cons_zero, List.set_cons_succ] at hK
                  rw [e17, e18] at hK ⊢
                  clear e17 e18
                  have HK := Aside0.mk hK
                  clear hK
                  have hcon := list_any M (1 + ra % 3) (.iface t3 u3) zc W (Z3.out.below hI)
                  unfold setV at hcon
                  go_wp2_with (go_at_call 13; refine hcon.mono ?_; clear hcon; rintro e w' ⟨v, rfl, hr, hb⟩)
                  exact HK.out _ _ (rowI_own hr) hb
                case s20 =>
                  intro σ W hI hT
                  obtain ⟨k10, k11, k12, _⟩ := (S1.out.below hI).cells; obtain ⟨k20, k21, k22, _⟩ := (S2.out.below hI).cells; obtain ⟨k30, k31, k32, _⟩ := (S3.out.below hI).cells; obtain ⟨k40, k41, k42, _⟩ := (S4.out.below hI).cells
                  have e17 : σ 17 = .bool true := hT 17 (by kernel_rfl)
                  have f19 := hT 19 (by kernel_rfl)
                  clear hT
                  refine .inl ⟨by rw [hmk]; simp [Region.wanted, yielded, e17], fun K hK => ?_⟩
                  rw [hmk] at hK ⊢
                  simp only [Act.put, List.setIfInBounds_toArray, List.set_cons_zero, List.set_cons_succ] at hK
                  rw [e17] at hK ⊢
                  clear e17
                  have HK := Aside0.mk hK
                  clear hK
                  obtain ⟨A_, c_, e_, _, _⟩ := Kd.R_reads f19
                  rw [e_] at HK ⊢
                  go_wp2
                  exact HK.out _ _ rfl (Below.refl _ _)
                case s21 =>
                  intro σ W hI hT
                  obtain ⟨k10, k11, k12, _⟩ := (S1.out.below hI).cells; obtain ⟨k20, k21, k22, _⟩ := (S2.out.below hI).cells; obtain ⟨k30, k31, k32, _⟩ := (S3.out.below hI).cells; obtain ⟨k40, k41, k42, _⟩ := (S4.out.below hI).cells
                  have e17 : σ 17 = .bool true := hT 17 (by kernel_rfl)
                  clear hT
                  refine .inl ⟨by rw [hmk]; simp [Region.wanted, yielded, e17], fun K hK => ?_⟩
                  rw [hmk] at hK ⊢
                  simp only [Act.put, List.setIfInBounds_toArray, List.set_cons_zero, List.set_cons_succ] at hK
                  rw [e17] at hK ⊢
                  clear e17
                  have HK := Aside0.mk hK
                  clear hK
                  go_wp2
                  exact HK.out _ _ rfl (Below.refl _ _)
                case s22 =>
                  intro σ W hI hT
                  obtain ⟨k10, k11, k12, _⟩ := (S1.out.below hI).cells; obtain ⟨k20, k21, k22, _⟩ := (S2.out.below hI).cells; obtain ⟨k30, k31, k32, _⟩ := (S3.out.below hI).cells; obtain ⟨k40, k41, k42, _⟩ := (S4.out.below hI).cells
                  have e17 : σ 17 = .bool true := hT 17 (by kernel_rfl)
                  have e21 : σ 21 = .agg #[.int .i64 M, .int .i64 (1 + ra % 3), .iface t4 u4] := hT 21 (by kernel_rfl)
                  clear hT
                  refine .inl ⟨by rw [hmk]; simp [Region.wanted, yielded, e17], fun K hK => ?_⟩
                  rw [hmk] at hK ⊢
                  simp only [Act.put, List.setIfInBounds_toArray, List.set_cons_zero, List.set_cons_succ] at hK
                  rw [e17, e21] at hK ⊢
                  clear e17 e21
                  have HK := Aside0.mk hK
                  clear hK
                  have hcon := list_any M (1 + ra % 3) (.iface t4 u4) zd W (Z4.out.below hI)
                  unfold setV at hcon
                  go_wp2_with (go_at_call 13; refine hcon.mono ?_; clear hcon; rintro e w' ⟨v, rfl, hr, hb⟩)
                  exact HK.out _ _ (rowI_own hr) hb
                case s23 =>
                  intro σ W hI hT
                  obtain ⟨k10, k11, k12, _⟩ := (S1.out.below hI).cells; obtain ⟨k20, k21, k22, _⟩ := (S2.out.below hI).cells; obtain ⟨k30, k31, k32, _⟩ := (S3.out.below hI).cells; obtain ⟨k40, k41, k42, _⟩ := (S4.out.below hI).cells
                  have e17 : σ 17 = .bool true := hT 17 (by kernel_rfl)
                  have f22 := hT 22 (by kernel_rfl)
                  clear hT
                  refine .inl ⟨by rw [hmk]; simp [Region.wanted, yielded, e17], fun K hK => ?_⟩
                  rw [hmk] at hK ⊢
                  simp only [Act.put, List.setIfInBounds_toArray, List.set_cons_zero, List.set_cons_succ] at hK
                  rw [e17] at hK ⊢
                  clear e17
                  have HK := Aside0.mk hK
                  clear hK
                  obtain ⟨A_, c_, e_, _, _⟩ := Kd.R_reads f22
                  rw [e_] at HK ⊢
                  go_wp2
                  exact HK.out _ _ rfl (Below.refl _ _)
                case s24 =>
                  intro σ W hI hT
                  obtain ⟨k10, k11, k12, _⟩ := (S1.out.below hI).cells; obtain ⟨k20, k21, k22, _⟩ := (S2.out.below hI).cells; obtain ⟨k30, k31, k32, _⟩ := (S3.out.below hI).cells; obtain ⟨k40, k41, k42, _⟩ := (S4.out.below hI).cells
                  have e17 : σ 17 = .bool true := hT 17 (by kernel_rfl)
                  have e20 : σ 20 = .int .i64 zc.length := hT 20 (by kernel_rfl)
                  have e23 : σ 23 = .int .i64 zd.length := hT 23 (by kernel_rfl)
                  clear hT
                  refine .inl ⟨by rw [hmk]; simp [Region.wanted, yielded, e17], fun K hK => ?_⟩
                  rw [hmk] at hK ⊢
                  simp only [Act.put, List.setIfInBounds_toArray, List.set_cons_zero, List.set_cons_succ] at hK
                  rw [e17, e20, e23] at hK ⊢
                  clear e17 e20 e23
                  have HK := Aside0.mk hK
                  clear hK
                  have hln := HLN.out
                  have hk0 := HM0.out
                  go_wp2
                  exact HK.out _ _ rfl (Below.refl _ _)
                case s25 =>
                  intro σ W hI hT
                  obtain ⟨k10, k11, k12, _⟩ := (S1.out.below hI).cells; obtain ⟨k20, k21, k22, _⟩ := (S2.out.below hI).cells; obtain ⟨k30, k31, k32, _⟩ := (S3.out.below hI).cells; obtain ⟨k40, k41, k42, _⟩ := (S4.out.below hI).cells
                  have e17 : σ 17 = .bool true := hT 17 (by kernel_rfl)
                  clear hT
                  refine .inl ⟨by rw [hmk]; simp [Region.wanted, yielded, e17], fun K hK => ?_⟩
                  rw [hmk] at hK ⊢
                  simp only [Act.put, List.setIfInBounds_toArray, List.set_cons_zero, List.set_cons_succ] at hK
                  rw [e17] at hK ⊢
                  clear e17
                  have HK := Aside0.mk hK
                  clear hK
                  go_wp2
                  exact HK.out _ _ rfl (Below.refl _ _)
                case s26 =>
                  intro σ W hI hT
                  obtain ⟨k10, k11, k12, _⟩ := (S1.out.below hI).cells; obtain ⟨k20, k21, k22, _⟩ := (S2.out.below hI).cells; obtain ⟨k30, k31, k32, _⟩ := (S3.out.below hI).cells; obtain ⟨k40, k41, k42, _⟩ := (S4.out.below hI).cells
                  have e17 : σ 17 = .bool true := hT 17 (by kernel_rfl)
                  have e25 : σ 25 = .agg #[.int .i64 M, .int .i64 (1 + ra % 3), .iface t1 u1] := hT 25 (by kernel_rfl)
                  clear hT
                  refine .inl ⟨by rw [hmk]; simp [Region.wanted, yielded, e17], fun K hK => ?_⟩
                  rw [hmk] at hK ⊢
                  simp only [Act.put, List.setIfInBounds_toArray, List.set_cons_zero, List.set_cons_succ] at hK
                  rw [e17, e25] at hK ⊢
                  clear e17 e25
                  have HK := Aside0.mk hK
                  clear hK
                  have hcon := list_any M (1 + ra % 3) (.iface t1 u1) za W (Z1.out.below hI)
                  unfold setV at hcon
                  go_wp2_with (go_at_call 13; refine hcon.mono ?_; clear hcon; rintro e w' ⟨v, rfl, hr, hb⟩)
                  exact HK.out _ _ (rowI_own hr) hb
                case s27 =>
                  intro σ W hI hT
                  obtain ⟨k10, k11, k12, _⟩ := (S1.out.below hI).cells; obtain ⟨k20, k21, k22, _⟩ := (S2.out.below hI).cells; obtain ⟨k30, k31, k32, _⟩ := (S3.out.below hI).cells; obtain ⟨k40, k41, k42, _⟩ := (S4.out.below hI).cells
                  have e17 : σ 17 = .bool true := hT 17 (by kernel_rfl)
                  have f26 := hT 26 (by kernel_rfl)
                  clear hT
                  refine .inl ⟨by rw [hmk]; simp [Region.wanted, yielded, e17], fun K hK => ?_⟩
                  rw [hmk] at hK ⊢
                  simp only [Act.put, List.setIfInBounds_toArray, List.set_cons_zero, List.set_cons_succ] at hK
                  rw [e17] at hK ⊢
                  clear e17
                  have HK := Aside0.mk hK
                  clear hK
                  obtain ⟨A_, c_, e_, _, _⟩ := Kd.R_reads f26
                  rw [e_] at HK ⊢
                  go_wp2
                  exact HK.out _ _ rfl (Below.refl _ _)
                case s28 =>
                  intro σ W hI hT
                  obtain ⟨k10, k11, k12, _⟩ := (S1.out.below hI).cells; obtain ⟨k20, k21, k22, _⟩ := (S2.out.below hI).cells; obtain ⟨k30, k31, k32, _⟩ := (S3.out.below hI).cells; obtain ⟨k40, k41, k42, _⟩ := (S4.out.below hI).cells
                  have e17 : σ 17 = .bool true := hT 17 (by kernel_rfl)
                  clear hT
                  refine .inl ⟨by rw [hmk]; simp [Region.wanted, yielded, e17], fun K hK => ?_⟩
                  rw [hmk] at hK ⊢
                  simp only [Act.put, List.setIfInBounds_toArray, List.set_cons_zero, List.set_cons_succ] at hK
                  rw [e17] at hK ⊢
                  clear e17
                  have HK := Aside0.mk hK
                  clear hK
                  go_wp2
                  exact HK.out _ _ rfl (Below.refl _ _)
                case s29 =>
                  intro σ W hI hT
                  obtain ⟨k10, k11, k12, _⟩ := (S1.out.below hI).cells; obtain ⟨k20, k21, k22, _⟩ := (S2.out.below hI).cells; obtain ⟨k30, k31, k32, _⟩ := (S3.out.below hI).cells; obtain ⟨k40, k41, k42, _⟩ := (S4.out.below hI).cells
                  have e17 : σ 17 = .bool true := hT 17 (by kernel_rfl)
                  have e28 : σ 28 = .agg #[.int .i64 M, .int .i64 (1 + rb % 3), .iface t2 u2] := hT 28 (by kernel_rfl)
                  clear hT
                  refine .inl ⟨by rw [hmk]; simp [Region.wanted, yielded, e17], fun K hK => ?_⟩
                  rw [hmk] at hK ⊢
                  simp only [Act.put, List.setIfInBounds_toArray, List.set_cons_zero, List.set_cons_succ] at hK
                  rw [e17, e28] at hK ⊢
                  clear e17 e28
                  have HK := Aside0.mk hK
                  clear hK
                  have hcon := list_any M (1 + rb % 3) (.iface t2 u2) zb W (Z2.out.below hI)
                  unfold setV at hcon
                  go_wp2_with (go_at_call 13; refine hcon.mono ?_; clear hcon; rintro e w' ⟨v, rfl, hr, hb⟩)
                  exact HK.out _ _ (rowI_own hr) hb
                case s30 =>
                  intro σ W hI hT
                  obtain ⟨k10, k11, k12, _⟩ := (S1.out.below hI).cells; obtain ⟨k20, k21, k22, _⟩ := (S2.out.below hI).cells; obtain ⟨k30, k31, k32, _⟩ := (S3.out.below hI).cells; obtain ⟨k40, k41, k42, _⟩ := (S4.out.below hI).cells
                  have e17 : σ 17 = .bool true := hT 17 (by kernel_rfl)
                  have f29 := hT 29 (by kernel_rfl)
                  clear hT
                  refine .inl ⟨by rw [hmk]; simp [Region.wanted, yielded, e17], fun K hK => ?_⟩
                  rw [hmk] at hK ⊢
                  simp only [Act.put, List.setIfInBounds_toArray, List.set_cons_zero, List.set_cons_succ] at hK
                  rw [e17] at hK ⊢
                  clear e17
                  have HK := Aside0.mk hK
                  clear hK
                  obtain ⟨A_, c_, e_, _, _⟩ := Kd.R_reads f29
                  rw [e_] at HK ⊢
                  go_wp2
                  exact HK.out _ _ rfl (Below.refl _ _)
                case s31 =>
                  intro σ W hI hT
                  obtain ⟨k10, k11, k12, _⟩ := (S1.out.below hI).cells; obtain ⟨k20, k21, k22, _⟩ := (S2.out.below hI).cells; obtain ⟨k30, k31, k32, _⟩ := (S3.out.below hI).cells; obtain ⟨k40, k41, k42, _⟩ := (S4.out.below hI).cells
                  have e17 : σ 17 = .bool true := hT 17 (by kernel_rfl)
                  have e27 : σ 27 = .int .i64 za.length := hT 27 (by kernel_rfl)
                  have e30 : σ 30 = .int .i64 zb.length := hT 30 (by kernel_rfl)
                  clear hT
                  refine .inl ⟨by rw [hmk]; simp [Region.wanted, yielded, e17], fun K hK => ?_⟩
                  rw [hmk] at hK ⊢
                  simp only [Act.put, List.setIfInBounds_toArray, List.set_cons_zero, List.set_cons_succ] at hK
                  rw [e17, e27, e30] at hK ⊢
                  clear e17 e27 e30
                  have HK := Aside0.mk hK
                  clear hK
                  have hln := HLN.out
                  have hk0 := HM0.out
                  go_wp2
                  exact HK.out _ _ rfl (Below.refl _ _)
                case s32 =>
                  intro σ W hI hT
                  obtain ⟨k10, k11, k12, _⟩ := (S1.out.below hI).cells; obtain ⟨k20, k21, k22, _⟩ := (S2.out.below hI).cells; obtain ⟨k30, k31, k32, _⟩ := (S3.out.below hI).cells; obtain ⟨k40, k41, k42, _⟩ := (S4.out.below hI).cells
                  have e17 : σ 17 = .bool true := hT 17 (by kernel_rfl)
                  have e24 : σ 24 = .int .i64 ((zc.length : Int) + (zd.length : Int)) := hT 24 (by kernel_rfl)
                  have e31 : σ 31 = .int .i64 ((za.length : Int) + (zb.length : Int)) := hT 31 (by kernel_rfl)
                  clear hT
                  refine .inl ⟨by rw [hmk]; simp [Region.wanted, yielded, e17], fun K hK => ?_⟩
                  rw [hmk] at hK ⊢
                  simp only [Act.put, List.setIfInBounds_toArray, List.set_cons_zero, List.set_cons_succ] at hK
                  rw [e17, e24, e31] at hK ⊢
                  clear e17 e24 e31
                  have HK := Aside0.mk hK
                  clear hK
                  have hs := HSM.out
                  go_wp2
                  exact HK.out _ _ rfl (Below.refl _ _)
                case s33 =>
                  intro σ W hI hT
                  obtain ⟨k10, k11, k12, _⟩ := (S1.out.below hI).cells; obtain ⟨k20, k21, k22, _⟩ := (S2.out.below hI).cells; obtain ⟨k30, k31, k32, _⟩ := (S3.out.below hI).cells; obtain ⟨k40, k41, k42, _⟩ := (S4.out.below hI).cells
                  have e17 : σ 17 = .bool true := hT 17 (by kernel_rfl)
                  have e32 : σ 32 = .bool true := hT 32 (by kernel_rfl)
                  clear hT
                  refine .inl ⟨rfl, fun K hK => ?_⟩
                  rw [hmk] at hK ⊢
                  simp only [Act.put, List.setIfInBounds_toArray, List.set_cons_zero, List.set_cons_succ] at hK
                  rw [e17, e32] at hK ⊢
                  clear e17 e32
                  have HK := Aside0.mk hK
                  clear hK
                  go_wp2
                  exact HK.out _ _ rfl (Below.refl _ _)
                case s34 =>
                  intro σ W hI hT
                  obtain ⟨k10, k11, k12, _⟩ := (S1.out.below hI).cells; obtain ⟨k20, k21, k22, _⟩ := (S2.out.below hI).cells; obtain ⟨k30, k31, k32, _⟩ := (S3.out.below hI).cells; obtain ⟨k40, k41, k42, _⟩ := (S4.out.below hI).cells
                  have e33 : σ 33 = .bool true := hT 33 (by kernel_rfl)
                  clear hT
                  refine .inl ⟨rfl, fun K hK => ?_⟩
                  rw [hmk] at hK ⊢
                  simp only [Act.put, List.setIfInBounds_toArray, List.set_cons_zero, List.set_cons_succ] at hK
                  rw [e33] at hK ⊢
                  clear e33
                  have HK := Aside0.mk hK
                  clear hK
                  go_wp2
                  exact HK.out _ _ rfl (Below.refl _ _)
                case s35 =>
                  intro σ W hI hT
                  obtain ⟨k10, k11, k12, _⟩ := (S1.out.below hI).cells; obtain ⟨k20, k21, k22, _⟩ := (S2.out.below hI).cells; obtain ⟨k30, k31, k32, _⟩ := (S3.out.below hI).cells; obtain ⟨k40, k41, k42, _⟩ := (S4.out.below hI).cells
                  have e34 : σ 34 = .bool true := hT 34 (by kernel_rfl)
                  clear hT
                  refine .inl ⟨by rw [hmk]; simp [Region.wanted, yielded, e34], fun K hK => ?_⟩
                  rw [hmk] at hK ⊢
                  simp only [Act.put, List.setIfInBounds_toArray, List.set_cons_zero, List.set_cons_succ] at hK
                  rw [e34] at hK ⊢
                  clear e34
                  have HK := Aside0.mk hK
                  clear hK
                  go_wp2
                  exact HK.out _ _ rfl (Below.refl _ _)
                case s36 =>
                  intro σ W hI hT
                  obtain ⟨k10, k11, k12, _⟩ := (S1.out.below hI).cells; obtain ⟨k20, k21, k22, _⟩ := (S2.out.below hI).cells; obtain ⟨k30, k31, k32, _⟩ := (S3.out.below hI).cells; obtain ⟨k40, k41, k42, _⟩ := (S4.out.below hI).cells
                  have e34 : σ 34 = .bool true := hT 34 (by kernel_rfl)
                  have e35 : σ 35 = .agg #[.int .i64 M, .int .i64 (1 + ra % 3), .iface t1 u1] := hT 35 (by kernel_rfl)
                  clear hT
                  refine .inl ⟨by rw [hmk]; simp [Region.wanted, yielded, e34], fun K hK => ?_⟩
                  rw [hmk] at hK ⊢
                  simp only [Act.put, List.setIfInBounds_toArray, List.set_cons_zero, List.set_cons_succ] at hK
                  rw [e34, e35] at hK ⊢
                  clear e34 e35
                  have HK := Aside0.mk hK
                  clear hK
                  have hcon := not_any M (1 + ra % 3) (.iface t1 u1) za W (Z1.out.below hI)
                  rw [HZE.out] at hcon
                  unfold SetPost setV at hcon
                  go_wp2_with (go_at_call 17; refine hcon.mono ?_; clear hcon; rintro e w' ⟨t, u, rfl, hS, hb⟩)
                  exact HK.out _ _ ⟨t, u, rfl, hS⟩ hb
                case s37 =>
                  intro σ W hI hT
                  obtain ⟨k10, k11, k12, _⟩ := (S1.out.below hI).cells; obtain ⟨k20, k21, k22, _⟩ := (S2.out.below hI).cells; obtain ⟨k30, k31, k32, _⟩ := (S3.out.below hI).cells; obtain ⟨k40, k41, k42, _⟩ := (S4.out.below hI).cells
                  have e34 : σ 34 = .bool true := hT 34 (by kernel_rfl)
                  obtain ⟨t36, u36, e36, f36⟩ := hT 36 (by kernel_rfl)
                  clear hT
                  refine .inl ⟨by rw [hmk]; simp [Region.wanted, yielded, e34], fun K hK => ?_⟩
                  rw [hmk] at hK ⊢
                  simp only [Act.put, List.setIfInBounds_toArray, List.set_cons_zero, List.set_cons_succ] at hK
                  rw [e34, e36] at hK ⊢
                  clear e34 e36
                  have HK := Aside0.mk hK
                  clear hK
                  have hcon := list_any M (1 + ra % 3) (.iface t36 u36) ze W f36
                  unfold setV at hcon
                  go_wp2_with (go_at_call 13; refine hcon.mono ?_; clear hcon; rintro e w' ⟨v, rfl, hr, hb⟩)
                  exact HK.out _ _ (rowI_own hr) hb
                case s38 =>
                  intro σ W hI hT
                  obtain ⟨k10, k11, k12, _⟩ := (S1.out.below hI).cells; obtain ⟨k20, k21, k22, _⟩ := (S2.out.below hI).cells; obtain ⟨k30, k31, k32, _⟩ := (S3.out.below hI).cells; obtain ⟨k40, k41, k42, _⟩ := (S4.out.below hI).cells
                  have e34 : σ 34 = .bool true := hT 34 (by kernel_rfl)
                  have f37 := hT 37 (by kernel_rfl)
                  clear hT
                  refine .inl ⟨by rw [hmk]; simp [Region.wanted, yielded, e34], fun K hK => ?_⟩
                  rw [hmk] at hK ⊢
                  simp only [Act.put, List.setIfInBounds_toArray, List.set_cons_zero, List.set_cons_succ] at hK
                  rw [e34] at hK ⊢
                  clear e34
                  have HK := Aside0.mk hK
                  clear hK
                  obtain ⟨A_, c_, e_, _, _⟩ := Kd.R_reads f37
                  rw [e_] at HK ⊢
                  go_wp2
                  exact HK.out _ _ rfl (Below.refl _ _)
                case s39 =>
                  intro σ W hI hT
                  obtain ⟨k10, k11, k12, _⟩ := (S1.out.below hI).cells; obtain ⟨k20, k21, k22, _⟩ := (S2.out.below hI).cells; obtain ⟨k30, k31, k32, _⟩ := (S3.out.below hI).cells; obtain ⟨k40, k41, k42, _⟩ := (S4.out.below hI).cells
                  have e34 : σ 34 = .bool true := hT 34 (by kernel_rfl)
                  clear hT
                  refine .inl ⟨by rw [hmk]; simp [Region.wanted, yielded, e34], fun K hK => ?_⟩
                  rw [hmk] at hK ⊢
                  simp only [Act.put, List.setIfInBounds_toArray, List.set_cons_zero, List.set_cons_succ] at hK
                  rw [e34] at hK ⊢
                  clear e34
                  have HK := Aside0.mk hK
                  clear hK
                  go_wp2
                  exact HK.out _ _ rfl (Below.refl _ _)
                case s40 =>
                  intro σ W hI hT
                  obtain ⟨k10, k11, k12, _⟩ := (S1.out.below hI).cells; obtain ⟨k20, k21, k22, _⟩ := (S2.out.below hI).cells; obtain ⟨k30, k31, k32, _⟩ := (S3.out.below hI).cells; obtain ⟨k40, k41, k42, _⟩ := (S4.out.below hI).cells
                  have e34 : σ 34 = .bool true := hT 34 (by kernel_rfl)
                  clear hT
                  refine .inl ⟨by rw [hmk]; simp [Region.wanted, yielded, e34], fun K hK => ?_⟩
                  rw [hmk] at hK ⊢
                  simp only [Act.put, List.setIfInBounds_toArray, List.set_cons_zero, List.set_cons_succ] at hK
                  rw [e34] at hK ⊢
                  clear e34
                  have HK := Aside0.mk hK
                  clear hK
                  go_wp2
                  exact HK.out _ _ rfl (Below.refl _ _)
                case s41 =>
                  intro σ W hI hT
                  obtain ⟨k10, k11, k12, _⟩ := (S1.out.below hI).cells; obtain ⟨k20, k21, k22, _⟩ := (S2.out.below hI).cells; obtain ⟨k30, k31, k32, _⟩ := (S3.out.below hI).cells; obtain ⟨k40, k41, k42, _⟩ := (S4.out.below hI).cells
                  have e34 : σ 34 = .bool true := hT 34 (by kernel_rfl)
                  have e40 : σ 40 = .agg #[.int .i64 M, .int .i64 (1 + ra % 3), .iface t1 u1] := hT 40 (by kernel_rfl)
                  clear hT
                  refine .inl ⟨by rw [hmk]; simp [Region.wanted, yielded, e34], fun K hK => ?_⟩
                  rw [hmk] at hK ⊢
                  simp only [Act.put, List.setIfInBounds_toArray, List.set_cons_zero, List.set_cons_succ] at hK
                  rw [e34, e40] at hK ⊢
                  clear e34 e40
                  have HK := Aside0.mk hK
                  clear hK
                  have hcon := list_any M (1 + ra % 3) (.iface t1 u1) za W (Z1.out.below hI)
                  unfold setV at hcon
                  go_wp2_with (go_at_call 13; refine hcon.mono ?_; clear hcon; rintro e w' ⟨v, rfl, hr, hb⟩)
                  exact HK.out _ _ (rowI_own hr) hb
                case s42 =>
                  intro σ W hI hT
                  obtain ⟨k10, k11, k12, _⟩ := (S1.out.below hI).cells; obtain ⟨k20, k21, k22, _⟩ := (S2.out.below hI).cells; obtain ⟨k30, k31, k32, _⟩ := (S3.out.below hI).cells; obtain ⟨k40, k41, k42, _⟩ := (S4.out.below hI).cells
                  have e34 : σ 34 = .bool true := hT 34 (by kernel_rfl)
                  have f41 := hT 41 (by kernel_rfl)
                  clear hT
                  refine .inl ⟨by rw [hmk]; simp [Region.wanted, yielded, e34], fun K hK => ?_⟩
                  rw [hmk] at hK ⊢
                  simp only [Act.put, List.setIfInBounds_toArray, List.set_cons_zero, List.set_cons_succ] at hK
                  rw [e34] at hK ⊢
                  clear e34
                  have HK := Aside0.mk hK
                  clear hK
                  obtain ⟨A_, c_, e_, _, _⟩ := Kd.R_reads f41
                  rw [e_] at HK ⊢
                  go_wp2
                  exact HK.out _ _ rfl (Below.refl _ _)
                case s43 =>
                  intro σ W hI hT
                  obtain ⟨k10, k11, k12, _⟩ := (S1.out.below hI).cells; obtain ⟨k20, k21, k22, _⟩ := (S2.out.below hI).cells; obtain ⟨k30, k31, k32, _⟩ := (S3.out.below hI).cells; obtain ⟨k40, k41, k42, _⟩ := (S4.out.below hI).cells
                  have e34 : σ 34 = .bool true := hT 34 (by kernel_rfl)
                  have e39 : σ 39 = .int .i64 M := hT 39 (by kernel_rfl)
                  have e42 : σ 42 = .int .i64 za.length := hT 42 (by kernel_rfl)
                  clear hT
                  refine .inl ⟨by rw [hmk]; simp [Region.wanted, yielded, e34], fun K hK => ?_⟩
                  rw [hmk] at hK ⊢
                  simp only [Act.put, List.setIfInBounds_toArray, List.set_cons_zero, List.set_cons_succ] at hK
                  rw [e34, e39, e42] at hK ⊢
                  clear e34 e39 e42
                  have HK := Aside0.mk hK
                  clear hK
                  have hln := HLN.out
                  have hk0 := HM0.out
                  go_wp2
                  exact HK.out _ _ rfl (Below.refl _ _)
                case s44 =>
                  intro σ W hI hT
                  obtain ⟨k10, k11, k12, _⟩ := (S1.out.below hI).cells; obtain ⟨k20, k21, k22, _⟩ := (S2.out.below hI).cells; obtain ⟨k30, k31, k32, _⟩ := (S3.out.below hI).cells; obtain ⟨k40, k41, k42, _⟩ := (S4.out.below hI).cells
                  have e34 : σ 34 = .bool true := hT 34 (by kernel_rfl)
                  have e38 : σ 38 = .int .i64 ze.length := hT 38 (by kernel_rfl)
                  have e43 : σ 43 = .int .i64 (M - (za.length : Int)) := hT 43 (by kernel_rfl)
                  clear hT
                  refine .inl ⟨by rw [hmk]; simp [Region.wanted, yielded, e34], fun K hK => ?_⟩
                  rw [hmk] at hK ⊢
                  simp only [Act.put, List.setIfInBounds_toArray, List.set_cons_zero, List.set_cons_succ] at hK
                  rw [e34, e38, e43] at hK ⊢
                  clear e34 e38 e43
                  have HK := Aside0.mk hK
                  clear hK
                  have hs := HNT.out
                  go_wp2
                  exact HK.out _ _ rfl (Below.refl _ _)
                case s45 =>
                  intro σ W hI hT
                  obtain ⟨k10, k11, k12, _⟩ := (S1.out.below hI).cells; obtain ⟨k20, k21, k22, _⟩ := (S2.out.below hI).cells; obtain ⟨k30, k31, k32, _⟩ := (S3.out.below hI).cells; obtain ⟨k40, k41, k42, _⟩ := (S4.out.below hI).cells
                  have e34 : σ 34 = .bool true := hT 34 (by kernel_rfl)
                  have e44 : σ 44 = .bool true := hT 44 (by kernel_rfl)
                  clear hT
                  refine .inl ⟨rfl, fun K hK => ?_⟩
                  rw [hmk] at hK ⊢
                  simp only [Act.put, List.setIfInBounds_toArray, List.set_cons_zero, List.set_cons_succ] at hK
                  rw [e34, e44] at hK ⊢
                  clear e34 e44
                  have HK := Aside0.mk hK
                  clear hK
                  go_wp2
                  exact HK.out _ _ rfl (Below.refl _ _)
                case s46 =>
                  intro σ W hI hT
                  obtain ⟨k10, k11, k12, _⟩ := (S1.out.below hI).cells; obtain ⟨k20, k21, k22, _⟩ := (S2.out.below hI).cells; obtain ⟨k30, k31, k32, _⟩ := (S3.out.below hI).cells; obtain ⟨k40, k41, k42, _⟩ := (S4.out.below hI).cells
                  have e45 : σ 45 = .bool true := hT 45 (by kernel_rfl)
                  clear hT
                  refine .inl ⟨rfl, fun K hK => ?_⟩
                  rw [hmk] at hK ⊢
                  simp only [Act.put, List.setIfInBounds_toArray, List.set_cons_zero, List.set_cons_succ] at hK
                  rw [e45] at hK ⊢
                  clear e45
                  have HK := Aside0.mk hK
                  clear hK
                  go_wp2
                  exact HK.out _ _ rfl (Below.refl _ _)
              case done =>
                intro mk hmk σ W hI hS hT
                simp only [dstsOf, putAll, List.map_cons, List.map_nil, Nat.reduceAdd, Act.put, List.setIfInBounds_toArray, List.set_cons_zero, List.set_cons_succ] at hmk
                rw [hmk]
                have e46 : σ 46 = .bool true := hT 46 (by decide)
                rw [e46]
                clear hT e46
                go_wp2_with (fail)
                go_ret
                exact ⟨rfl, HB.out.trans (hI.mono HB.out.size)⟩
end Go.Proofs.Ytbjdnfnolhahgaa.F.G
