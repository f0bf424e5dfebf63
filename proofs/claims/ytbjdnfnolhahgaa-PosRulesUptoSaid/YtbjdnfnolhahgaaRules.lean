/- PosRules: the walk. -/
import Derived.Test.YtbjdnfnolhahgaaStab2
namespace Go.Proofs.Ytbjdnfnolhahgaa.F.G
open Go.RowKit Go.Shelf Go.Proofs.YtbjdnfnolhahgaaW.PrintWords Go.Proofs.YtbjdnfnolhahgaaW.PrintLast Go.Proofs.YtbjdnfnolhahgaaW.PrintMore
set_option linter.unusedVariables false
/-- The rules, of plain lists. -/
theorem rules (M : Int) (za zb : List Int) (ha : Rising M za) (h0 : 0 ≤ M) :
    filt M (fun x => inZ (filt M (fun x => !inZ za x)) x || inZ (filt M (fun x => !inZ zb x)) x) = filt M (fun x => !inZ (filt M (fun x => inZ za x && inZ zb x)) x) ∧
    filt M (fun x => !inZ (filt M (fun x => !inZ za x)) x) = za ∧
    ((filt M (fun x => inZ za x || inZ (filt M (fun x => !inZ za x)) x)).length : Int) = M ∧
    filt M (fun x => inZ za x && inZ (filt M (fun x => !inZ za x)) x) = [] := by
  have hin : ∀ (p : Int → Bool) x, 0 ≤ x → x < M → inZ (filt M p) x = p x := fun p x h0 h1 => by
    unfold inZ
    rw [Bool.eq_iff_iff, decide_eq_true_eq, mem_filt]
    exact ⟨fun h => h.2.2, fun h => ⟨h0, h1, h⟩⟩
  refine ⟨filt_congr fun x h0 h1 => ?_, ?_, ?_, ?_⟩
  · rw [hin _ x h0 h1, hin _ x h0 h1, hin _ x h0 h1]
    cases inZ za x <;> cases inZ zb x <;> rfl
  · refine (filt_congr fun x h0 h1 => ?_).trans (inZ_eq ha)
    rw [hin _ x h0 h1, Bool.not_not]
  · have e : filt M (fun x => inZ za x || inZ (filt M (fun x => !inZ za x)) x) = filt M (fun _ => true) := filt_congr fun x h0 h1 => by
      rw [hin _ x h0 h1]
      cases inZ za x <;> rfl
    rw [e]
    unfold filt
    rw [List.filter_eq_self.2 (fun _ _ => rfl)]
    simp
    omega
  · refine List.eq_nil_iff_forall_not_mem.2 (fun x hx => ?_)
    obtain ⟨h0, h1, h2⟩ := mem_filt.1 hx
    rw [hin _ x h0 h1] at h2
    cases h : inZ za x <;> simp [h] at h2
set_option maxRecDepth 100000 in
set_option maxHeartbeats 8000000 in
theorem posRules (n ra rb : Int) (A : Option Addr) (c : Nat) (l : List Int) (A' : Option Addr) (c' : Nat) (l2 : List Int) (w : World) (hn0 : 0 ≤ n) (hn1 : n ≤ 255) (hra : 0 ≤ ra ∧ ra ≤ 255) (hrb : 0 ≤ rb ∧ rb ≤ 255) (hl : l.length ≤ 1048576) (hc : l.length ≤ c) (hA : ArgOf .u8 w A l) (hb : ∀ x ∈ l, 0 ≤ x ∧ x ≤ 255)
    (hl2 : l2.length ≤ 1048576) (hc' : l2.length ≤ c') (hA2 : ArgOf .u8 w A' l2) (hb2 : ∀ x ∈ l2, 0 ≤ x ∧ x ≤ 255) :
    Calls Try.prog 5 #[.int .u8 n, .slice A l.length c, .slice A' l2.length c', .agg #[.int .u8 ra, .int .u8 rb]] w fun e w' => e = .returned (.bool true) ∧ Below w.heap.size w w' := by
  have hu28 := Try.underlying28
  have HC := Aside0.mk (hA.C (by omega))
  have HC2 := Aside0.mk (hA2.C (by omega))
  clear hA hA2
  have HL := Aside0.mk hl
  have HL2 := Aside0.mk hl2
  have HE := Aside0.mk hb
  have HE2 := Aside0.mk hb2
  clear hl hb hl2 hb2
  go_enter Try.func5, Try.ntmps5
  go_wp2_with (fail)
  refine calls_gen (fun W => Below w.heap.size w W ∧ QBox 42 W w.heap.size (.int .u8 ra) (.int .u8 rb)) ⟨(Below.refl _ _).alloc (Nat.le_refl _) _, World.alloc_heap_new w _⟩ ?_
  rintro w0 ⟨hB0, hq⟩
  have HQ0 := Aside0.mk hq
  have HB := Aside0.mk hB0
  clear hB0 hq
  refine (shown_any w0).mono ?_
  rintro e w1 ⟨rfl, hB1⟩
  have HQ := Aside0.mk (HQ0.out.below hB1)
  replace HB := Aside0.mk (HB.out.trans (hB1.mono HB.out.size))
  clear hB1 HQ0
  go_wp2_with (fail)
  generalize hK : 1 + n = M at *
  have HK := Aside0.mk (show 1 ≤ M ∧ M ≤ 256 by omega)
  clear hK
  have HW1 := HB
  go_loopg [11, 13] l.length (fun kq va vi w' => ∃ (x : Int) (zs : List Int), vi = .int .i64 x ∧ Aside0 (0 ≤ x ∧ x + kq = l.length ∧ zs = (l.take x.toNat).map (· % M)) ∧ Aside0 ((Kd.int .i64).R 3 w' w1.heap.size (fun _ => True) va zs) ∧ Aside0 (Below w1.heap.size w1 w'))
  case atStart => exact ⟨0, [], rfl, ⟨by simp⟩, ⟨Kd.R_nil _ _ _ _ _⟩, ⟨Below.refl _ _⟩⟩
  case round =>
    clear HB
    obtain ⟨x, zs, rfl, HX, HO, HB⟩ := hrel
    by_cases c3 : x < (l.length : Int)
    · cases gk with
      | zero => have := HX.out; omega
      | succ k1 =>
        have c3b : decide (x < (l.length : Int)) = true := decide_eq_true c3
        have p2 : 0 ≤ x := HX.out.1
        obtain ⟨ad, e_, hx⟩ := Kd.at_int (Kd.C_below HC.out HW1.out) x p2 c3
        cases e_
        replace hx := (HB.out.cell (World.block_lt_of_cell? w1 _ hx)).trans hx
        obtain ⟨he0, he1⟩ := HE.out _ (rd_mem p2 c3)
        have hk1 := HK.out.1
        have hk2 := HK.out.2
        have hlen : zs.length ≤ l.length := by rw [HX.out.2.2]; simp; omega
        have q2 := eq_true c3
        replace p2 := eq_true p2
        clear c3
        go_wp2_with ((with_reducible refine gate_builtin (b := .append) (xs := #[.tmp 37, .tmp 45]) rfl ?_); at_builtin; refine Kd.R_append (Kd.int .i64) (w0 := w1) w1.heap.size rfl (.tmp 37) (.tmp 45) 24 3 (.int .i64 0) 8 rfl Try.underlying24 info3 rfl (by decide) (by omega) u11 zs (rd l x % M) [.int .i64 (rd l x % M)] (fun _ => True) (fun _ => False) rfl rfl ?aP (fun _ hk => hk.elim) ?aF ?aO ?aB ?aS ?aL ?_; (case aP => exact rfl); (case aB => first | exact HB.out | exact below_alloc HB.out _); (case aF => exact (fun _ _ => trivial)); (case aO => first | exact HO.out | exact Kd.R_alloc HO.out _); (case aS => first | exact below_size HB.out | exact below_size (below_alloc HB.out _)); (case aL => have := HL.out; omega); intro vnew w9 ho hb hg hat; replace HB := Aside0.mk hb; replace HO := Aside0.mk ho; clear ho hb hg hat)
        go_roundg k1
        case measure => omega
        case rel =>
          refine ⟨wrap64 (x + 1), zs ++ [rd l x % M], rfl, ⟨?_⟩, HO, HB⟩
          have hx9 := HX.out
          have hl9 := HL.out
          have e1 : wrap64 (x + 1) = x + 1 := Go.IntWalk.wrap64_in _ (by omega)
          have q3 : x < (l.length : Int) := of_eq_true q2
          rw [e1]
          refine ⟨by omega, by omega, ?_⟩
          rw [hx9.2.2, show (x + 1).toNat = x.toNat + 1 from by omega, List.take_succ_eq_append_getElem (by omega), List.map_append, List.map_cons, List.map_nil]
          congr 2
          unfold rd
          rw [List.getD_eq_getElem?_getD, List.getElem?_eq_getElem (by omega)]
          rfl
    · have c3b : decide (x < (l.length : Int)) = false := decide_eq_false c3
      have hz : zs = l.map (· % M) := by rw [HX.out.2.2, List.take_of_length_le (by have := HX.out; omega)]
      subst hz
      clear HX c3
      go_wp2_with (fail)
      obtain ⟨wa, hwa⟩ : ∃ wa, wa = wr := ⟨_, rfl⟩
      subst hwa
      have HWa := Aside0.mk (HW1.out.trans (HB.out.mono HW1.out.size))
      replace HQ := Aside0.mk (HQ.out.below HB.out)
      have hR1 := rowI_below (b := 0) (Kd.R_lower HO.out (Nat.zero_le _)) (Below.refl _ _)
      have HR1 := Aside0.mk hR1
      clear hR1 HB HO
      go_loopg [12, 14] l2.length (fun kq va vi w' => ∃ (x : Int) (zs : List Int), vi = .int .i64 x ∧ Aside0 (0 ≤ x ∧ x + kq = l2.length ∧ zs = (l2.take x.toNat).map (· % M)) ∧ Aside0 ((Kd.int .i64).R 3 w' wa.heap.size (fun _ => True) va zs) ∧ Aside0 (Below wa.heap.size wa w'))
      case atStart => exact ⟨0, [], rfl, ⟨by simp⟩, ⟨Kd.R_nil _ _ _ _ _⟩, ⟨Below.refl _ _⟩⟩
      case round =>
        obtain ⟨x, zs, rfl, HX, HO, HB⟩ := hrel
        by_cases c3 : x < (l2.length : Int)
        · cases gk with
          | zero => have := HX.out; omega
          | succ k1 =>
            have c3b : decide (x < (l2.length : Int)) = true := decide_eq_true c3
            have p2 : 0 ≤ x := HX.out.1
            obtain ⟨ad, e_, hx⟩ := Kd.at_int (Kd.C_below HC2.out HWa.out) x p2 c3
            cases e_
            replace hx := (HB.out.cell (World.block_lt_of_cell? wa _ hx)).trans hx
            obtain ⟨he0, he1⟩ := HE2.out _ (rd_mem p2 c3)
            have hk1 := HK.out.1
            have hk2 := HK.out.2
            have hlen : zs.length ≤ l2.length := by rw [HX.out.2.2]; simp; omega
            have q2 := eq_true c3
            replace p2 := eq_true p2
            clear c3
            go_wp2_with ((with_reducible refine gate_builtin (b := .append) (xs := #[.tmp 53, .tmp 61]) rfl ?_); at_builtin; refine Kd.R_append (Kd.int .i64) (w0 := wa) wa.heap.size rfl (.tmp 53) (.tmp 61) 24 3 (.int .i64 0) 8 rfl Try.underlying24 info3 rfl (by decide) (by omega) u12 zs (rd l2 x % M) [.int .i64 (rd l2 x % M)] (fun _ => True) (fun _ => False) rfl rfl ?aP (fun _ hk => hk.elim) ?aF ?aO ?aB ?aS ?aL ?_; (case aP => exact rfl); (case aB => first | exact HB.out | exact below_alloc HB.out _); (case aF => exact (fun _ _ => trivial)); (case aO => first | exact HO.out | exact Kd.R_alloc HO.out _); (case aS => first | exact below_size HB.out | exact below_size (below_alloc HB.out _)); (case aL => have := HL2.out; omega); intro vnew w9 ho hb hg hat; replace HB := Aside0.mk hb; replace HO := Aside0.mk ho; clear ho hb hg hat)
            go_roundg k1
            case measure => omega
            case rel =>
              refine ⟨wrap64 (x + 1), zs ++ [rd l2 x % M], rfl, ⟨?_⟩, HO, HB⟩
              have hx9 := HX.out
              have hl9 := HL2.out
              have e1 : wrap64 (x + 1) = x + 1 := Go.IntWalk.wrap64_in _ (by omega)
              have q3 : x < (l2.length : Int) := of_eq_true q2
              rw [e1]
              refine ⟨by omega, by omega, ?_⟩
              rw [hx9.2.2, show (x + 1).toNat = x.toNat + 1 from by omega, List.take_succ_eq_append_getElem (by omega), List.map_append, List.map_cons, List.map_nil]
              congr 2
              unfold rd
              rw [List.getD_eq_getElem?_getD, List.getElem?_eq_getElem (by omega)]
              rfl
        · have c3b : decide (x < (l2.length : Int)) = false := decide_eq_false c3
          have hz : zs = l2.map (· % M) := by rw [HX.out.2.2, List.take_of_length_le (by have := HX.out; omega)]
          subst hz
          clear HX c3
          go_wp2_with (fail)
          obtain ⟨ws, hws⟩ : ∃ ws, ws = wr := ⟨_, rfl⟩
          subst hws
          replace HR1 := Aside0.mk (rowI_below HR1.out HB.out)
          obtain ⟨A2, c2, rfl, hc2, hC2⟩ := Kd.R_reads HO.out
          obtain ⟨A1, c1, rfl, hc1, hC1⟩ := Kd.R_reads HR1.out
          have hI1 := intArg_C hC1
          have hI2 := intArg_C hC2
          replace HQ := Aside0.mk (HQ.out.below HB.out)
          replace HB := Aside0.mk (HWa.out.trans (HB.out.mono HWa.out.size))
          clear hC1 hC2 HO HR1 HWa HW1
          obtain ⟨m1, hm1⟩ : ∃ m, (l.map (· % M)).take 300 = m := ⟨_, rfl⟩
          obtain ⟨m2, hm2⟩ : ∃ m, (l2.map (· % M)).take 300 = m := ⟨_, rfl⟩
          have hout1 := out_mod HK.out.1 hm1
          have hout2 := out_mod HK.out.1 hm2
          have hml1 : m1.length ≤ 300 := by rw [← hm1, List.length_take]; omega
          have hml2 : m2.length ≤ 300 := by rw [← hm2, List.length_take]; omega
          have hfew1 : ∀ W, Below ws.heap.size ws W → _ := fun W (h : Below ws.heap.size ws W) => few_any A1 c1 (l.map (· % M)) W hc1 (hI1.below h)
          have hfew2 : ∀ W, Below ws.heap.size ws W → _ := fun W (h : Below ws.heap.size ws W) => few_any A2 c2 (l2.map (· % M)) W hc2 (hI2.below h)
          replace hI1 := hI1.take 300
          replace hI2 := hI2.take 300
          rw [hm1] at hfew1 hI1
          rw [hm2] at hfew2 hI2
          have HF1 := Aside0.mk hfew1
          have HF2 := Aside0.mk hfew2
          clear hm1 hm2 hc1 hc2 hfew1 hfew2
          generalize (l.map (· % M)).length = lp at *
          generalize (l2.map (· % M)).length = lq at *
          have hof1 : ∀ W d, Below ws.heap.size ws W → Calls Try.prog 11 #[.int .i64 M, .slice A1 m1.length d, .int .i64 (1 + ra % 3)] W (SetPostE M (1 + ra % 3) (filt M (inZ m1)) W) := fun W d h => of_any M (1 + ra % 3) A1 d m1 W (by omega) (hI1.below h) (fit_mod HK.out.1 HK.out.2 (by omega) (by omega)) hout1
          have hof2 : ∀ W d, Below ws.heap.size ws W → Calls Try.prog 11 #[.int .i64 M, .slice A2 m2.length d, .int .i64 (1 + rb % 3)] W (SetPostE M (1 + rb % 3) (filt M (inZ m2)) W) := fun W d h => of_any M (1 + rb % 3) A2 d m2 W (by omega) (hI2.below h) (fit_mod HK.out.1 HK.out.2 (by omega) (by omega)) hout2
          have HO1 := Aside0.mk hof1
          have HO2 := Aside0.mk hof2
          have HU := Aside0.mk (And.intro hra hrb)
          clear hof1 hof2 hI1 hI2 hout1 hout2 hml1 hml2 hra hrb
          generalize filt M (inZ m1) = za at *
          generalize filt M (inZ m2) = zb at *

          refine wp_region_still (t := 28) (by kernel_rfl) [Fact.eq (.int .i64 M), Fact.eq (.slice A1 lp c1), Fact.few A1 m1.length, Fact.eq (.pointer (some ⟨w.heap.size, 0, none⟩)), Fact.eq (.int .u8 ra), Fact.eq (.int .u8 (ra % 3)), Fact.eq (.int .i64 (ra % 3)), Fact.eq (.int .i64 (1 + ra % 3)), Fact.setE M (1 + ra % 3) za, Fact.setE M (1 + ra % 3) za, Fact.set M (1 + ra % 3) za, Fact.eq (.int .i64 0), Fact.box ws.heap.size, Fact.top, Fact.eq (.int .i64 0)]
            (fun W => Below ws.heap.size ws W)
            (StBox M (1 + ra % 3) za) 13 12 (by kernel_rfl) (by kernel_rfl) ?I0 ?I1 ?S1 ?hal ?steps ?done
          case I0 => exact (Below.refl _ ws).drew
          case I1 => exact fun W W' h hB => h.trans (hB.mono h.size)
          case S1 => exact fun u W W' h hB => h.below hB
          case hal => exact fun o ho => by obtain rfl := Option.some.inj (show some _ = some o from ho); kernel_rfl
          case steps =>
            intro mk hmk
            simp only [dstsOf, putAll, List.map_cons, List.map_nil, Nat.reduceAdd, Act.put, List.setIfInBounds_toArray, List.set_cons_zero, List.set_cons_succ] at hmk
            refine Steps.cons (i := 0) rfl ?s0 (Steps.cons (i := 1) rfl ?s1 (Steps.cons (i := 2) rfl ?s2 (Steps.cons (i := 3) rfl ?s3 (Steps.cons (i := 4) rfl ?s4 (Steps.cons (i := 5) rfl ?s5 (Steps.cons (i := 6) rfl ?s6 (Steps.cons (i := 7) rfl ?s7 (Steps.cons (i := 8) rfl ?s8 (Steps.cons (i := 9) rfl ?s9 (Steps.cons (i := 10) rfl ?s10 (Steps.cons (i := 11) rfl ?s11 (Steps.cons (i := 12) rfl ?s12 (Steps.store (i := 13) rfl ?s13 (Steps.cons (i := 14) rfl ?s14 (Steps.nil)))))))))))))))
            case s0 =>
              intro σ W hI hT
              obtain ⟨j0, j1, j2, j3⟩ := (HQ.out.below hI).cells
              clear hT
              refine .inl ⟨rfl, fun K hK => ?_⟩
              rw [hmk] at hK ⊢
              simp only [Act.put, List.setIfInBounds_toArray, List.set_cons_zero, List.set_cons_succ] at hK
              have HK := Aside0.mk hK
              clear hK
              go_wp2
              exact HK.out _ _ rfl (Below.refl _ _)
            case s1 =>
              intro σ W hI hT
              obtain ⟨j0, j1, j2, j3⟩ := (HQ.out.below hI).cells
              clear hT
              refine .inl ⟨rfl, fun K hK => ?_⟩
              rw [hmk] at hK ⊢
              simp only [Act.put, List.setIfInBounds_toArray, List.set_cons_zero, List.set_cons_succ] at hK
              have HK := Aside0.mk hK
              clear hK
              go_wp2
              exact HK.out _ _ rfl (Below.refl _ _)
            case s2 =>
              intro σ W hI hT
              obtain ⟨j0, j1, j2, j3⟩ := (HQ.out.below hI).cells
              have e1 : σ 1 = .slice A1 lp c1 := hT 1 (by kernel_rfl)
              clear hT
              refine .inl ⟨rfl, fun K hK => ?_⟩
              rw [hmk] at hK ⊢
              simp only [Act.put, List.setIfInBounds_toArray, List.set_cons_zero, List.set_cons_succ] at hK
              rw [e1] at hK ⊢
              clear e1
              have HK := Aside0.mk hK
              clear hK
              have hcon := HF1.out W hI
              go_wp2_with (go_at_call 12; refine hcon.mono ?_; clear hcon; rintro e w' ⟨⟨c', rfl, hc'⟩, rfl⟩)
              exact HK.out _ _ ⟨c', rfl, hc'⟩ (Below.refl _ _)
            case s3 =>
              intro σ W hI hT
              obtain ⟨j0, j1, j2, j3⟩ := (HQ.out.below hI).cells
              clear hT
              refine .inl ⟨rfl, fun K hK => ?_⟩
              rw [hmk] at hK ⊢
              simp only [Act.put, List.setIfInBounds_toArray, List.set_cons_zero, List.set_cons_succ] at hK
              have HK := Aside0.mk hK
              clear hK
              go_wp2
              exact HK.out _ _ rfl (Below.refl _ _)
            case s4 =>
              intro σ W hI hT
              obtain ⟨j0, j1, j2, j3⟩ := (HQ.out.below hI).cells
              have e3 : σ 3 = .pointer (some ⟨w.heap.size, 0, none⟩) := hT 3 (by kernel_rfl)
              clear hT
              refine .inl ⟨rfl, fun K hK => ?_⟩
              rw [hmk] at hK ⊢
              simp only [Act.put, List.setIfInBounds_toArray, List.set_cons_zero, List.set_cons_succ] at hK
              rw [e3] at hK ⊢
              clear e3
              have HK := Aside0.mk hK
              clear hK
              go_wp2
              exact HK.out _ _ rfl (Below.refl _ _)
            case s5 =>
              intro σ W hI hT
              obtain ⟨j0, j1, j2, j3⟩ := (HQ.out.below hI).cells
              have e4 : σ 4 = .int .u8 ra := hT 4 (by kernel_rfl)
              clear hT
              refine .inl ⟨rfl, fun K hK => ?_⟩
              rw [hmk] at hK ⊢
              simp only [Act.put, List.setIfInBounds_toArray, List.set_cons_zero, List.set_cons_succ] at hK
              rw [e4] at hK ⊢
              clear e4
              have HK := Aside0.mk hK
              clear hK
              have hb0 := HU.out
              go_wp2
              exact HK.out _ _ rfl (Below.refl _ _)
            case s6 =>
              intro σ W hI hT
              obtain ⟨j0, j1, j2, j3⟩ := (HQ.out.below hI).cells
              have e5 : σ 5 = .int .u8 (ra % 3) := hT 5 (by kernel_rfl)
              clear hT
              refine .inl ⟨rfl, fun K hK => ?_⟩
              rw [hmk] at hK ⊢
              simp only [Act.put, List.setIfInBounds_toArray, List.set_cons_zero, List.set_cons_succ] at hK
              rw [e5] at hK ⊢
              clear e5
              have HK := Aside0.mk hK
              clear hK
              have hb0 := HU.out
              go_wp2
              exact HK.out _ _ rfl (Below.refl _ _)
            case s7 =>
              intro σ W hI hT
              obtain ⟨j0, j1, j2, j3⟩ := (HQ.out.below hI).cells
              have e6 : σ 6 = .int .i64 (ra % 3) := hT 6 (by kernel_rfl)
              clear hT
              refine .inl ⟨rfl, fun K hK => ?_⟩
              rw [hmk] at hK ⊢
              simp only [Act.put, List.setIfInBounds_toArray, List.set_cons_zero, List.set_cons_succ] at hK
              rw [e6] at hK ⊢
              clear e6
              have HK := Aside0.mk hK
              clear hK
              have hb0 := HU.out
              go_wp2
              exact HK.out _ _ rfl (Below.refl _ _)
            case s8 =>
              intro σ W hI hT
              obtain ⟨j0, j1, j2, j3⟩ := (HQ.out.below hI).cells
              have e0 : σ 0 = .int .i64 M := hT 0 (by kernel_rfl)
              obtain ⟨c2_, e2, f2⟩ := hT 2 (by kernel_rfl)
              have e7 : σ 7 = .int .i64 (1 + ra % 3) := hT 7 (by kernel_rfl)
              clear hT
              refine .inl ⟨rfl, fun K hK => ?_⟩
              rw [hmk] at hK ⊢
              simp only [Act.put, List.setIfInBounds_toArray, List.set_cons_zero, List.set_cons_succ] at hK
              rw [e0, e2, e7] at hK ⊢
              clear e0 e2 e7
              have HK := Aside0.mk hK
              clear hK
              have hcon := HO1.out W c2_ hI
              unfold SetPostE setV at hcon
              go_wp2_with (go_at_call 11; refine hcon.mono ?_; clear hcon; rintro e w' ⟨t, u, rfl, hS, hb⟩)
              exact HK.out _ _ ⟨t, u, rfl, hS⟩ hb
            case s9 =>
              intro σ W hI hT
              obtain ⟨j0, j1, j2, j3⟩ := (HQ.out.below hI).cells
              obtain ⟨t8, u8, e8, f8⟩ := hT 8 (by kernel_rfl)
              clear hT
              refine .inl ⟨rfl, fun K hK => ?_⟩
              rw [hmk] at hK ⊢
              simp only [Act.put, List.setIfInBounds_toArray, List.set_cons_zero, List.set_cons_succ] at hK
              rw [e8] at hK ⊢
              clear e8
              have HK := Aside0.mk hK
              clear hK
              go_wp2
              exact HK.out _ _ ⟨_, _, rfl, f8⟩ (Below.refl _ _)
            case s10 =>
              intro σ W hI hT
              obtain ⟨j0, j1, j2, j3⟩ := (HQ.out.below hI).cells
              obtain ⟨t9, u9, e9, f9⟩ := hT 9 (by kernel_rfl)
              clear hT
              refine .inl ⟨rfl, fun K hK => ?_⟩
              rw [hmk] at hK ⊢
              simp only [Act.put, List.setIfInBounds_toArray, List.set_cons_zero, List.set_cons_succ] at hK
              rw [e9] at hK ⊢
              clear e9
              have HK := Aside0.mk hK
              clear hK
              go_wp2
              exact HK.out _ _ ⟨_, _, rfl, f9⟩ (Below.refl _ _)
            case s11 =>
              intro σ W hI hT
              obtain ⟨j0, j1, j2, j3⟩ := (HQ.out.below hI).cells
              obtain ⟨t9, u9, e9, f9⟩ := hT 9 (by kernel_rfl)
              clear hT
              refine .inl ⟨rfl, fun K hK => ?_⟩
              rw [hmk] at hK ⊢
              simp only [Act.put, List.setIfInBounds_toArray, List.set_cons_zero, List.set_cons_succ] at hK
              rw [e9] at hK ⊢
              clear e9
              have HK := Aside0.mk hK
              clear hK
              go_wp2
              exact HK.out _ _ rfl (Below.refl _ _)
            case s12 =>
              intro σ W hI hT
              obtain ⟨j0, j1, j2, j3⟩ := (HQ.out.below hI).cells
              clear hT
              refine .inl ⟨rfl, fun K hK => ?_⟩
              rw [hmk] at hK ⊢
              simp only [Act.put, List.setIfInBounds_toArray, List.set_cons_zero, List.set_cons_succ] at hK
              have HK := Aside0.mk hK
              clear hK
              go_wp2
              exact HK.out _ _ ⟨_, _, _, _, rfl, hI.size, SBox.new W _ _ _⟩ ((Below.refl _ W).alloc (Nat.le_refl _) _)
            case s13 =>
              intro σ W hI hT
              obtain ⟨j0, j1, j2, j3⟩ := (HQ.out.below hI).cells
              obtain ⟨t10, u10, e10, f10⟩ := hT 10 (by kernel_rfl)
              obtain ⟨b12, x12, y12, z12, e12, hb12, hx12⟩ := hT 12 (by kernel_rfl)
              clear hT
              refine ⟨rfl, fun K hK => ?_⟩
              rw [hmk] at hK ⊢
              simp only [Act.put] at hK
              rw [e10, e12] at hK ⊢
              clear e10 e12
              have HK := Aside0.mk hK
              clear hK
              obtain ⟨c1_, c2_, c3_, c4_, c5_, c6_⟩ := hx12.cells
              go_wp2
              exact HK.out undef _ trivial (set3_still hx12 _ _ _) (below_set3 hI hb12 _ _ _) ⟨b12, _, _, rfl, hx12.set _ _ _, isSet_still f10 (set3_still hx12 _ _ _)⟩
            case s14 =>
              intro σ W hI hT
              obtain ⟨j0, j1, j2, j3⟩ := (HQ.out.below hI).cells
              have e11 : σ 11 = .int .i64 0 := hT 11 (by kernel_rfl)
              clear hT
              refine .inl ⟨rfl, fun K hK => ?_⟩
              rw [hmk] at hK ⊢
              simp only [Act.put, List.setIfInBounds_toArray, List.set_cons_zero, List.set_cons_succ] at hK
              rw [e11] at hK ⊢
              clear e11
              have HK := Aside0.mk hK
              clear hK
              go_wp2
              exact HK.out _ _ rfl (Below.refl _ _)
          case done =>
            intro mk hmk σ W hI hS hT
            simp only [dstsOf, putAll, List.map_cons, List.map_nil, Nat.reduceAdd, Act.put, List.setIfInBounds_toArray, List.set_cons_zero, List.set_cons_succ] at hmk
            rw [hmk]
            have e14 : σ 14 = .int .i64 0 := hT 14 (by decide)
            obtain ⟨b1, t1, u1, e12, hb, hSS⟩ := hS (by decide)
            rw [e12, e14]
            clear hT e12 e14 hS
            clear HF1 HO1
            obtain ⟨wt, hw_⟩ : ∃ w_, w_ = W := ⟨_, rfl⟩
            subst hw_
            replace HB := Aside0.mk (HB.out.trans (hI.mono HB.out.size))
            replace HQ := Aside0.mk (HQ.out.below hI)
            have hf := fun W' (h : Below wt.heap.size wt W') => HF2.out W' (hI.trans (h.mono hI.size))
            replace HF2 := Aside0.mk hf
            clear hf
            have hf := fun W' d (h : Below wt.heap.size wt W') => HO2.out W' d (hI.trans (h.mono hI.size))
            replace HO2 := Aside0.mk hf
            clear hf
            have S1 := Aside0.mk hb
            have Z1 := Aside0.mk hSS
            clear hb hSS hI
            go_wp2_with (fail)
            refine wp_region_still (t := 28) (by kernel_rfl) [Fact.eq (.int .i64 M), Fact.eq (.slice A2 lq c2), Fact.few A2 m2.length, Fact.eq (.pointer (some ⟨w.heap.size, 1, none⟩)), Fact.eq (.int .u8 rb), Fact.eq (.int .u8 (rb % 3)), Fact.eq (.int .i64 (rb % 3)), Fact.eq (.int .i64 (1 + rb % 3)), Fact.setE M (1 + rb % 3) zb, Fact.setE M (1 + rb % 3) zb, Fact.set M (1 + rb % 3) zb, Fact.eq (.int .i64 0), Fact.box wt.heap.size, Fact.top, Fact.eq (.int .i64 0)]
              (fun W => Below wt.heap.size wt W)
              (StBox M (1 + rb % 3) zb) 13 12 (by kernel_rfl) (by kernel_rfl) ?I0 ?I1 ?S1 ?hal ?steps ?done
            case I0 => exact (Below.refl _ wt).drew
            case I1 => exact fun W W' h hB => h.trans (hB.mono h.size)
            case S1 => exact fun u W W' h hB => h.below hB
            case hal => exact fun o ho => by obtain rfl := Option.some.inj (show some _ = some o from ho); kernel_rfl
            case steps =>
              intro mk hmk
              simp only [dstsOf, putAll, List.map_cons, List.map_nil, Nat.reduceAdd, Act.put, List.setIfInBounds_toArray, List.set_cons_zero, List.set_cons_succ] at hmk
              refine Steps.cons (i := 0) rfl ?s0 (Steps.cons (i := 1) rfl ?s1 (Steps.cons (i := 2) rfl ?s2 (Steps.cons (i := 3) rfl ?s3 (Steps.cons (i := 4) rfl ?s4 (Steps.cons (i := 5) rfl ?s5 (Steps.cons (i := 6) rfl ?s6 (Steps.cons (i := 7) rfl ?s7 (Steps.cons (i := 8) rfl ?s8 (Steps.cons (i := 9) rfl ?s9 (Steps.cons (i := 10) rfl ?s10 (Steps.cons (i := 11) rfl ?s11 (Steps.cons (i := 12) rfl ?s12 (Steps.store (i := 13) rfl ?s13 (Steps.cons (i := 14) rfl ?s14 (Steps.nil)))))))))))))))
              case s0 =>
                intro σ W hI hT
                obtain ⟨j0, j1, j2, j3⟩ := (HQ.out.below hI).cells
                clear hT
                refine .inl ⟨rfl, fun K hK => ?_⟩
                rw [hmk] at hK ⊢
                simp only [Act.put, List.setIfInBounds_toArray, List.set_cons_zero, List.set_cons_succ] at hK
                have HK := Aside0.mk hK
                clear hK
                go_wp2
                exact HK.out _ _ rfl (Below.refl _ _)
              case s1 =>
                intro σ W hI hT
                obtain ⟨j0, j1, j2, j3⟩ := (HQ.out.below hI).cells
                clear hT
                refine .inl ⟨rfl, fun K hK => ?_⟩
                rw [hmk] at hK ⊢
                simp only [Act.put, List.setIfInBounds_toArray, List.set_cons_zero, List.set_cons_succ] at hK
                have HK := Aside0.mk hK
                clear hK
                go_wp2
                exact HK.out _ _ rfl (Below.refl _ _)
              case s2 =>
                intro σ W hI hT
                obtain ⟨j0, j1, j2, j3⟩ := (HQ.out.below hI).cells
                have e1 : σ 1 = .slice A2 lq c2 := hT 1 (by kernel_rfl)
                clear hT
                refine .inl ⟨rfl, fun K hK => ?_⟩
                rw [hmk] at hK ⊢
                simp only [Act.put, List.setIfInBounds_toArray, List.set_cons_zero, List.set_cons_succ] at hK
                rw [e1] at hK ⊢
                clear e1
                have HK := Aside0.mk hK
                clear hK
                have hcon := HF2.out W hI
                go_wp2_with (go_at_call 12; refine hcon.mono ?_; clear hcon; rintro e w' ⟨⟨c', rfl, hc'⟩, rfl⟩)
                exact HK.out _ _ ⟨c', rfl, hc'⟩ (Below.refl _ _)
              case s3 =>
                intro σ W hI hT
                obtain ⟨j0, j1, j2, j3⟩ := (HQ.out.below hI).cells
                clear hT
                refine .inl ⟨rfl, fun K hK => ?_⟩
                rw [hmk] at hK ⊢
                simp only [Act.put, List.setIfInBounds_toArray, List.set_cons_zero, List.set_cons_succ] at hK
                have HK := Aside0.mk hK
                clear hK
                go_wp2
                exact HK.out _ _ rfl (Below.refl _ _)
              case s4 =>
                intro σ W hI hT
                obtain ⟨j0, j1, j2, j3⟩ := (HQ.out.below hI).cells
                have e3 : σ 3 = .pointer (some ⟨w.heap.size, 1, none⟩) := hT 3 (by kernel_rfl)
                clear hT
                refine .inl ⟨rfl, fun K hK => ?_⟩
                rw [hmk] at hK ⊢
                simp only [Act.put, List.setIfInBounds_toArray, List.set_cons_zero, List.set_cons_succ] at hK
                rw [e3] at hK ⊢
                clear e3
                have HK := Aside0.mk hK
                clear hK
                go_wp2
                exact HK.out _ _ rfl (Below.refl _ _)
              case s5 =>
                intro σ W hI hT
                obtain ⟨j0, j1, j2, j3⟩ := (HQ.out.below hI).cells
                have e4 : σ 4 = .int .u8 rb := hT 4 (by kernel_rfl)
                clear hT
                refine .inl ⟨rfl, fun K hK => ?_⟩
                rw [hmk] at hK ⊢
                simp only [Act.put, List.setIfInBounds_toArray, List.set_cons_zero, List.set_cons_succ] at hK
                rw [e4] at hK ⊢
                clear e4
                have HK := Aside0.mk hK
                clear hK
                have hb0 := HU.out
                go_wp2
                exact HK.out _ _ rfl (Below.refl _ _)
              case s6 =>
                intro σ W hI hT
                obtain ⟨j0, j1, j2, j3⟩ := (HQ.out.below hI).cells
                have e5 : σ 5 = .int .u8 (rb % 3) := hT 5 (by kernel_rfl)
                clear hT
                refine .inl ⟨rfl, fun K hK => ?_⟩
                rw [hmk] at hK ⊢
                simp only [Act.put, List.setIfInBounds_toArray, List.set_cons_zero, List.set_cons_succ] at hK
                rw [e5] at hK ⊢
                clear e5
                have HK := Aside0.mk hK
                clear hK
                have hb0 := HU.out
                go_wp2
                exact HK.out _ _ rfl (Below.refl _ _)
              case s7 =>
                intro σ W hI hT
                obtain ⟨j0, j1, j2, j3⟩ := (HQ.out.below hI).cells
                have e6 : σ 6 = .int .i64 (rb % 3) := hT 6 (by kernel_rfl)
                clear hT
                refine .inl ⟨rfl, fun K hK => ?_⟩
                rw [hmk] at hK ⊢
                simp only [Act.put, List.setIfInBounds_toArray, List.set_cons_zero, List.set_cons_succ] at hK
                rw [e6] at hK ⊢
                clear e6
                have HK := Aside0.mk hK
                clear hK
                have hb0 := HU.out
                go_wp2
                exact HK.out _ _ rfl (Below.refl _ _)
              case s8 =>
                intro σ W hI hT
                obtain ⟨j0, j1, j2, j3⟩ := (HQ.out.below hI).cells
                have e0 : σ 0 = .int .i64 M := hT 0 (by kernel_rfl)
                obtain ⟨c2_, e2, f2⟩ := hT 2 (by kernel_rfl)
                have e7 : σ 7 = .int .i64 (1 + rb % 3) := hT 7 (by kernel_rfl)
                clear hT
                refine .inl ⟨rfl, fun K hK => ?_⟩
                rw [hmk] at hK ⊢
                simp only [Act.put, List.setIfInBounds_toArray, List.set_cons_zero, List.set_cons_succ] at hK
                rw [e0, e2, e7] at hK ⊢
                clear e0 e2 e7
                have HK := Aside0.mk hK
                clear hK
                have hcon := HO2.out W c2_ hI
                unfold SetPostE setV at hcon
                go_wp2_with (go_at_call 11; refine hcon.mono ?_; clear hcon; rintro e w' ⟨t, u, rfl, hS, hb⟩)
                exact HK.out _ _ ⟨t, u, rfl, hS⟩ hb
              case s9 =>
                intro σ W hI hT
                obtain ⟨j0, j1, j2, j3⟩ := (HQ.out.below hI).cells
                obtain ⟨t8, u8, e8, f8⟩ := hT 8 (by kernel_rfl)
                clear hT
                refine .inl ⟨rfl, fun K hK => ?_⟩
                rw [hmk] at hK ⊢
                simp only [Act.put, List.setIfInBounds_toArray, List.set_cons_zero, List.set_cons_succ] at hK
                rw [e8] at hK ⊢
                clear e8
                have HK := Aside0.mk hK
                clear hK
                go_wp2
                exact HK.out _ _ ⟨_, _, rfl, f8⟩ (Below.refl _ _)
              case s10 =>
                intro σ W hI hT
                obtain ⟨j0, j1, j2, j3⟩ := (HQ.out.below hI).cells
                obtain ⟨t9, u9, e9, f9⟩ := hT 9 (by kernel_rfl)
                clear hT
                refine .inl ⟨rfl, fun K hK => ?_⟩
                rw [hmk] at hK ⊢
                simp only [Act.put, List.setIfInBounds_toArray, List.set_cons_zero, List.set_cons_succ] at hK
                rw [e9] at hK ⊢
                clear e9
                have HK := Aside0.mk hK
                clear hK
                go_wp2
                exact HK.out _ _ ⟨_, _, rfl, f9⟩ (Below.refl _ _)
              case s11 =>
                intro σ W hI hT
                obtain ⟨j0, j1, j2, j3⟩ := (HQ.out.below hI).cells
                obtain ⟨t9, u9, e9, f9⟩ := hT 9 (by kernel_rfl)
                clear hT
                refine .inl ⟨rfl, fun K hK => ?_⟩
                rw [hmk] at hK ⊢
                simp only [Act.put, List.setIfInBounds_toArray, List.set_cons_zero, List.set_cons_succ] at hK
                rw [e9] at hK ⊢
                clear e9
                have HK := Aside0.mk hK
                clear hK
                go_wp2
                exact HK.out _ _ rfl (Below.refl _ _)
              case s12 =>
                intro σ W hI hT
                obtain ⟨j0, j1, j2, j3⟩ := (HQ.out.below hI).cells
                clear hT
                refine .inl ⟨rfl, fun K hK => ?_⟩
                rw [hmk] at hK ⊢
                simp only [Act.put, List.setIfInBounds_toArray, List.set_cons_zero, List.set_cons_succ] at hK
                have HK := Aside0.mk hK
                clear hK
                go_wp2
                exact HK.out _ _ ⟨_, _, _, _, rfl, hI.size, SBox.new W _ _ _⟩ ((Below.refl _ W).alloc (Nat.le_refl _) _)
              case s13 =>
                intro σ W hI hT
                obtain ⟨j0, j1, j2, j3⟩ := (HQ.out.below hI).cells
                obtain ⟨t10, u10, e10, f10⟩ := hT 10 (by kernel_rfl)
                obtain ⟨b12, x12, y12, z12, e12, hb12, hx12⟩ := hT 12 (by kernel_rfl)
                clear hT
                refine ⟨rfl, fun K hK => ?_⟩
                rw [hmk] at hK ⊢
                simp only [Act.put] at hK
                rw [e10, e12] at hK ⊢
                clear e10 e12
                have HK := Aside0.mk hK
                clear hK
                obtain ⟨c1_, c2_, c3_, c4_, c5_, c6_⟩ := hx12.cells
                go_wp2
                exact HK.out undef _ trivial (set3_still hx12 _ _ _) (below_set3 hI hb12 _ _ _) ⟨b12, _, _, rfl, hx12.set _ _ _, isSet_still f10 (set3_still hx12 _ _ _)⟩
              case s14 =>
                intro σ W hI hT
                obtain ⟨j0, j1, j2, j3⟩ := (HQ.out.below hI).cells
                have e11 : σ 11 = .int .i64 0 := hT 11 (by kernel_rfl)
                clear hT
                refine .inl ⟨rfl, fun K hK => ?_⟩
                rw [hmk] at hK ⊢
                simp only [Act.put, List.setIfInBounds_toArray, List.set_cons_zero, List.set_cons_succ] at hK
                rw [e11] at hK ⊢
                clear e11
                have HK := Aside0.mk hK
                clear hK
                go_wp2
                exact HK.out _ _ rfl (Below.refl _ _)
            case done =>
              intro mk hmk σ W hI hS hT
              simp only [dstsOf, putAll, List.map_cons, List.map_nil, Nat.reduceAdd, Act.put, List.setIfInBounds_toArray, List.set_cons_zero, List.set_cons_succ] at hmk
              rw [hmk]
              have e14 : σ 14 = .int .i64 0 := hT 14 (by decide)
              obtain ⟨b2, t2, u2, e12, hb, hSS⟩ := hS (by decide)
              rw [e12, e14]
              clear hT e12 e14 hS
              clear HF2 HO2
              obtain ⟨wu, hw_⟩ : ∃ w_, w_ = W := ⟨_, rfl⟩
              subst hw_
              replace HB := Aside0.mk (HB.out.trans (hI.mono HB.out.size))
              replace HQ := Aside0.mk (HQ.out.below hI)
              replace S1 := Aside0.mk (S1.out.below hI)
              replace Z1 := Aside0.mk (Z1.out.below hI)
              have S2 := Aside0.mk hb
              have Z2 := Aside0.mk hSS
              clear hb hSS hI
              clear HQ
              obtain ⟨kS1_0, kS1_1, kS1_2, kS1_3, kS1_4, kS1_5⟩ := S1.out.cells
              obtain ⟨kS2_0, kS2_1, kS2_2, kS2_3, kS2_4, kS2_5⟩ := S2.out.cells
              go_wp2_with (fail)
              refine (and_any M (1 + ra % 3) (1 + rb % 3) (.iface t1 u1) (.iface t2 u2) za zb wu Z1.out Z2.out).mono ?_
              clear kS1_0 kS1_1 kS1_2 kS1_3 kS1_4 kS1_5 kS2_0 kS2_1 kS2_2 kS2_3 kS2_4 kS2_5
              rintro e w2 ⟨t3, u3, he, hS, hb⟩
              unfold setV at he
              subst he
              replace HB := Aside0.mk (HB.out.trans (hb.mono HB.out.size))
              replace S1 := Aside0.mk (S1.out.below hb)
              replace Z1 := Aside0.mk (Z1.out.below hb)
              replace S2 := Aside0.mk (S2.out.below hb)
              replace Z2 := Aside0.mk (Z2.out.below hb)
              clear hb
              have Z3 := Aside0.mk (hS)
              clear hS
              have hq := rules M za zb Z1.out.rising (by have := HK.out; omega)
              generalize hzc : filt M (fun x => inZ za x && inZ zb x) = zc at *
              generalize hna : filt M (fun x => !inZ za x) = na at *
              generalize hnb : filt M (fun x => !inZ zb x) = nb at *
              generalize hzx : filt M (fun x => !inZ zc x) = zx at *
              generalize hal : filt M (fun x => inZ za x || inZ na x) = zall at *
              have HQQ := Aside0.mk hq
              have HNA := Aside0.mk hna
              have HNB := Aside0.mk hnb
              have HZX := Aside0.mk hzx
              have HAL := Aside0.mk hal
              clear hq hzc hna hnb hzx hal
              go_wp2_with (fail)
              have hb4 := (Below.refl w2.heap.size w2).alloc (Nat.le_refl _) (.cells #[.int .i64 M, .int .i64 (1 + ra % 3), .iface t3 u3] 28)
              have hs4 := SBox.new w2 (.int .i64 M) (.int .i64 (1 + ra % 3)) (.iface t3 u3)
              generalize w2.alloc (.cells #[.int .i64 M, .int .i64 (1 + ra % 3), .iface t3 u3] 28) = wv at hb4 hs4 ⊢
              replace HB := Aside0.mk (HB.out.trans (hb4.mono HB.out.size))
              replace S1 := Aside0.mk (S1.out.below hb4)
              replace Z1 := Aside0.mk (Z1.out.below hb4)
              replace S2 := Aside0.mk (S2.out.below hb4)
              replace Z2 := Aside0.mk (Z2.out.below hb4)
              replace Z3 := Aside0.mk (Z3.out.below hb4)
              clear hb4
              have S3 := Aside0.mk (hs4)
              clear hs4
              refine wp_region_still (t := 28) (by kernel_rfl) [Fact.eq (.agg #[.int .i64 M, .int .i64 (1 + ra % 3), .iface t1 u1]), Fact.set M (1 + ra % 3) na, Fact.eq (.agg #[.int .i64 M, .int .i64 (1 + rb % 3), .iface t2 u2]), Fact.set M (1 + rb % 3) nb, Fact.setE M (1 + ra % 3) zx, Fact.setE M (1 + ra % 3) zx, Fact.set M (1 + ra % 3) zx, Fact.eq (.int .i64 0), Fact.box wv.heap.size, Fact.top, Fact.eq (.int .i64 0)]
                (fun W => Below wv.heap.size wv W)
                (StBox M (1 + ra % 3) zx) 9 8 (by kernel_rfl) (by kernel_rfl) ?I0 ?I1 ?S1 ?hal ?steps ?done
              case I0 => exact (Below.refl _ wv).drew
              case I1 => exact fun W W' h hB => h.trans (hB.mono h.size)
              case S1 => exact fun u W W' h hB => h.below hB
              case hal => exact fun o ho => by obtain rfl := Option.some.inj (show some _ = some o from ho); kernel_rfl
              case steps =>
                intro mk hmk
                simp only [dstsOf, putAll, List.map_cons, List.map_nil, Nat.reduceAdd, Act.put, List.setIfInBounds_toArray, List.set_cons_zero, List.set_cons_succ] at hmk
                refine Steps.cons (i := 0) rfl ?s0 (Steps.cons (i := 1) rfl ?s1 (Steps.cons (i := 2) rfl ?s2 (Steps.cons (i := 3) rfl ?s3 (Steps.cons (i := 4) rfl ?s4 (Steps.cons (i := 5) rfl ?s5 (Steps.cons (i := 6) rfl ?s6 (Steps.cons (i := 7) rfl ?s7 (Steps.cons (i := 8) rfl ?s8 (Steps.store (i := 9) rfl ?s9 (Steps.cons (i := 10) rfl ?s10 (Steps.nil)))))))))))
                case s0 =>
                  intro σ W hI hT
                  obtain ⟨k10, k11, k12, _⟩ := (S1.out.below hI).cells; obtain ⟨k20, k21, k22, _⟩ := (S2.out.below hI).cells
                  clear hT
                  refine .inl ⟨rfl, fun K hK => ?_⟩
                  rw [hmk] at hK ⊢
                  simp only [Act.put, List.setIfInBounds_toArray, List.set_cons_zero, List.set_cons_succ] at hK
                  have HK := Aside0.mk hK
                  clear hK
                  go_wp2
                  exact HK.out _ _ rfl (Below.refl _ _)
                case s1 =>
                  intro σ W hI hT
                  obtain ⟨k10, k11, k12, _⟩ := (S1.out.below hI).cells; obtain ⟨k20, k21, k22, _⟩ := (S2.out.below hI).cells
                  have e0 : σ 0 = .agg #[.int .i64 M, .int .i64 (1 + ra % 3), .iface t1 u1] := hT 0 (by kernel_rfl)
                  clear hT
                  refine .inl ⟨rfl, fun K hK => ?_⟩
                  rw [hmk] at hK ⊢
                  simp only [Act.put, List.setIfInBounds_toArray, List.set_cons_zero, List.set_cons_succ] at hK
                  rw [e0] at hK ⊢
                  clear e0
                  have HK := Aside0.mk hK
                  clear hK
                  have hcon := not_any M (1 + ra % 3) (.iface t1 u1) za W (Z1.out.below hI)
                  rw [HNA.out] at hcon
                  unfold SetPost setV at hcon
                  go_wp2_with (go_at_call 17; refine hcon.mono ?_; clear hcon; rintro e w' ⟨t, u, rfl, hS, hb⟩)
                  exact HK.out _ _ ⟨t, u, rfl, hS⟩ hb
                case s2 =>
                  intro σ W hI hT
                  obtain ⟨k10, k11, k12, _⟩ := (S1.out.below hI).cells; obtain ⟨k20, k21, k22, _⟩ := (S2.out.below hI).cells
                  clear hT
                  refine .inl ⟨rfl, fun K hK => ?_⟩
                  rw [hmk] at hK ⊢
                  simp only [Act.put, List.setIfInBounds_toArray, List.set_cons_zero, List.set_cons_succ] at hK
                  have HK := Aside0.mk hK
                  clear hK
                  go_wp2
                  exact HK.out _ _ rfl (Below.refl _ _)
                case s3 =>
                  intro σ W hI hT
                  obtain ⟨k10, k11, k12, _⟩ := (S1.out.below hI).cells; obtain ⟨k20, k21, k22, _⟩ := (S2.out.below hI).cells
                  have e2 : σ 2 = .agg #[.int .i64 M, .int .i64 (1 + rb % 3), .iface t2 u2] := hT 2 (by kernel_rfl)
                  clear hT
                  refine .inl ⟨rfl, fun K hK => ?_⟩
                  rw [hmk] at hK ⊢
                  simp only [Act.put, List.setIfInBounds_toArray, List.set_cons_zero, List.set_cons_succ] at hK
                  rw [e2] at hK ⊢
                  clear e2
                  have HK := Aside0.mk hK
                  clear hK
                  have hcon := not_any M (1 + rb % 3) (.iface t2 u2) zb W (Z2.out.below hI)
                  rw [HNB.out] at hcon
                  unfold SetPost setV at hcon
                  go_wp2_with (go_at_call 17; refine hcon.mono ?_; clear hcon; rintro e w' ⟨t, u, rfl, hS, hb⟩)
                  exact HK.out _ _ ⟨t, u, rfl, hS⟩ hb
                case s4 =>
                  intro σ W hI hT
                  obtain ⟨k10, k11, k12, _⟩ := (S1.out.below hI).cells; obtain ⟨k20, k21, k22, _⟩ := (S2.out.below hI).cells
                  obtain ⟨t1, u1, e1, f1⟩ := hT 1 (by kernel_rfl)
                  obtain ⟨t3, u3, e3, f3⟩ := hT 3 (by kernel_rfl)
                  clear hT
                  refine .inl ⟨rfl, fun K hK => ?_⟩
                  rw [hmk] at hK ⊢
                  simp only [Act.put, List.setIfInBounds_toArray, List.set_cons_zero, List.set_cons_succ] at hK
                  rw [e1, e3] at hK ⊢
                  clear e1 e3
                  have HK := Aside0.mk hK
                  clear hK
                  have hcon := or_any M (1 + ra % 3) (1 + rb % 3) (.iface t1 u1) (.iface t3 u3) na nb W f1 f3
                  rw [HQQ.out.1] at hcon
                  unfold SetPostE setV at hcon
                  go_wp2_with (go_at_call 20; refine hcon.mono ?_; clear hcon; rintro e w' ⟨t, u, rfl, hS, hb⟩)
                  exact HK.out _ _ ⟨t, u, rfl, hS⟩ hb
                case s5 =>
                  intro σ W hI hT
                  obtain ⟨k10, k11, k12, _⟩ := (S1.out.below hI).cells; obtain ⟨k20, k21, k22, _⟩ := (S2.out.below hI).cells
                  obtain ⟨t4, u4, e4, f4⟩ := hT 4 (by kernel_rfl)
                  clear hT
                  refine .inl ⟨rfl, fun K hK => ?_⟩
                  rw [hmk] at hK ⊢
                  simp only [Act.put, List.setIfInBounds_toArray, List.set_cons_zero, List.set_cons_succ] at hK
                  rw [e4] at hK ⊢
                  clear e4
                  have HK := Aside0.mk hK
                  clear hK
                  go_wp2
                  exact HK.out _ _ ⟨_, _, rfl, f4⟩ (Below.refl _ _)
                case s6 =>
                  intro σ W hI hT
                  obtain ⟨k10, k11, k12, _⟩ := (S1.out.below hI).cells; obtain ⟨k20, k21, k22, _⟩ := (S2.out.below hI).cells
                  obtain ⟨t5, u5, e5, f5⟩ := hT 5 (by kernel_rfl)
                  clear hT
                  refine .inl ⟨rfl, fun K hK => ?_⟩
                  rw [hmk] at hK ⊢
                  simp only [Act.put, List.setIfInBounds_toArray, List.set_cons_zero, List.set_cons_succ] at hK
                  rw [e5] at hK ⊢
                  clear e5
                  have HK := Aside0.mk hK
                  clear hK
                  go_wp2
                  exact HK.out _ _ ⟨_, _, rfl, f5⟩ (Below.refl _ _)
                case s7 =>
                  intro σ W hI hT
                  obtain ⟨k10, k11, k12, _⟩ := (S1.out.below hI).cells; obtain ⟨k20, k21, k22, _⟩ := (S2.out.below hI).cells
                  obtain ⟨t5, u5, e5, f5⟩ := hT 5 (by kernel_rfl)
                  clear hT
                  refine .inl ⟨rfl, fun K hK => ?_⟩
                  rw [hmk] at hK ⊢
                  simp only [Act.put, List.setIfInBounds_toArray, List.set_cons_zero, List.set_cons_succ] at hK
                  rw [e5] at hK ⊢
                  clear e5
                  have HK := Aside0.mk hK
                  clear hK
                  go_wp2
                  exact HK.out _ _ rfl (Below.refl _ _)
                case s8 =>
                  intro σ W hI hT
                  obtain ⟨k10, k11, k12, _⟩ := (S1.out.below hI).cells; obtain ⟨k20, k21, k22, _⟩ := (S2.out.below hI).cells
                  clear hT
                  refine .inl ⟨rfl, fun K hK => ?_⟩
                  rw [hmk] at hK ⊢
                  simp only [Act.put, List.setIfInBounds_toArray, List.set_cons_zero, List.set_cons_succ] at hK
                  have HK := Aside0.mk hK
                  clear hK
                  go_wp2
                  exact HK.out _ _ ⟨_, _, _, _, rfl, hI.size, SBox.new W _ _ _⟩ ((Below.refl _ W).alloc (Nat.le_refl _) _)
                case s9 =>
                  intro σ W hI hT
                  obtain ⟨k10, k11, k12, _⟩ := (S1.out.below hI).cells; obtain ⟨k20, k21, k22, _⟩ := (S2.out.below hI).cells
                  obtain ⟨t6, u6, e6, f6⟩ := hT 6 (by kernel_rfl)
                  obtain ⟨b8, x8, y8, z8, e8, hb8, hx8⟩ := hT 8 (by kernel_rfl)
                  clear hT
                  refine ⟨rfl, fun K hK => ?_⟩
                  rw [hmk] at hK ⊢
                  simp only [Act.put] at hK
                  rw [e6, e8] at hK ⊢
                  clear e6 e8
                  have HK := Aside0.mk hK
                  clear hK
                  obtain ⟨c1_, c2_, c3_, c4_, c5_, c6_⟩ := hx8.cells
                  go_wp2
                  exact HK.out undef _ trivial (set3_still hx8 _ _ _) (below_set3 hI hb8 _ _ _) ⟨b8, _, _, rfl, hx8.set _ _ _, isSet_still f6 (set3_still hx8 _ _ _)⟩
                case s10 =>
                  intro σ W hI hT
                  obtain ⟨k10, k11, k12, _⟩ := (S1.out.below hI).cells; obtain ⟨k20, k21, k22, _⟩ := (S2.out.below hI).cells
                  have e7 : σ 7 = .int .i64 0 := hT 7 (by kernel_rfl)
                  clear hT
                  refine .inl ⟨rfl, fun K hK => ?_⟩
                  rw [hmk] at hK ⊢
                  simp only [Act.put, List.setIfInBounds_toArray, List.set_cons_zero, List.set_cons_succ] at hK
                  rw [e7] at hK ⊢
                  clear e7
                  have HK := Aside0.mk hK
                  clear hK
                  go_wp2
                  exact HK.out _ _ rfl (Below.refl _ _)
              case done =>
                intro mk hmk σ W hI hS hT
                simp only [dstsOf, putAll, List.map_cons, List.map_nil, Nat.reduceAdd, Act.put, List.setIfInBounds_toArray, List.set_cons_zero, List.set_cons_succ] at hmk
                rw [hmk]
                have e10 : σ 10 = .int .i64 0 := hT 10 (by decide)
                obtain ⟨b5, t5, u5, e8, hb, hSS⟩ := hS (by decide)
                rw [e8, e10]
                clear hT e8 e10 hS
                obtain ⟨wx, hw_⟩ : ∃ w_, w_ = W := ⟨_, rfl⟩
                subst hw_
                replace HB := Aside0.mk (HB.out.trans (hI.mono HB.out.size))
                replace S1 := Aside0.mk (S1.out.below hI)
                replace Z1 := Aside0.mk (Z1.out.below hI)
                replace S2 := Aside0.mk (S2.out.below hI)
                replace Z2 := Aside0.mk (Z2.out.below hI)
                replace S3 := Aside0.mk (S3.out.below hI)
                replace Z3 := Aside0.mk (Z3.out.below hI)
                have S5 := Aside0.mk hb
                have Z5 := Aside0.mk hSS
                clear hb hSS hI
                go_wp2_with (fail)
                refine wp_region_still (t := 28) (by kernel_rfl) [Fact.eq (.agg #[.int .i64 M, .int .i64 (1 + ra % 3), .iface t1 u1]), Fact.eq (.agg #[.int .i64 M, .int .i64 (1 + ra % 3), .iface t1 u1]), Fact.set M (1 + ra % 3) na, Fact.setE M (1 + ra % 3) zall, Fact.setE M (1 + ra % 3) zall, Fact.set M (1 + ra % 3) zall, Fact.eq (.int .i64 0), Fact.box wx.heap.size, Fact.top, Fact.eq (.int .i64 0)]
                  (fun W => Below wx.heap.size wx W)
                  (StBox M (1 + ra % 3) zall) 8 7 (by kernel_rfl) (by kernel_rfl) ?I0 ?I1 ?S1 ?hal ?steps ?done
                case I0 => exact (Below.refl _ wx).drew
                case I1 => exact fun W W' h hB => h.trans (hB.mono h.size)
                case S1 => exact fun u W W' h hB => h.below hB
                case hal => exact fun o ho => by obtain rfl := Option.some.inj (show some _ = some o from ho); kernel_rfl
                case steps =>
                  intro mk hmk
                  simp only [dstsOf, putAll, List.map_cons, List.map_nil, Nat.reduceAdd, Act.put, List.setIfInBounds_toArray, List.set_cons_zero, List.set_cons_succ] at hmk
                  refine Steps.cons (i := 0) rfl ?s0 (Steps.cons (i := 1) rfl ?s1 (Steps.cons (i := 2) rfl ?s2 (Steps.cons (i := 3) rfl ?s3 (Steps.cons (i := 4) rfl ?s4 (Steps.cons (i := 5) rfl ?s5 (Steps.cons (i := 6) rfl ?s6 (Steps.cons (i := 7) rfl ?s7 (Steps.store (i := 8) rfl ?s8 (Steps.cons (i := 9) rfl ?s9 (Steps.nil))))))))))
                  case s0 =>
                    intro σ W hI hT
                    obtain ⟨k10, k11, k12, _⟩ := (S1.out.below hI).cells
                    clear hT
                    refine .inl ⟨rfl, fun K hK => ?_⟩
                    rw [hmk] at hK ⊢
                    simp only [Act.put, List.setIfInBounds_toArray, List.set_cons_zero, List.set_cons_succ] at hK
                    have HK := Aside0.mk hK
                    clear hK
                    go_wp2
                    exact HK.out _ _ rfl (Below.refl _ _)
                  case s1 =>
                    intro σ W hI hT
                    obtain ⟨k10, k11, k12, _⟩ := (S1.out.below hI).cells
                    clear hT
                    refine .inl ⟨rfl, fun K hK => ?_⟩
                    rw [hmk] at hK ⊢
                    simp only [Act.put, List.setIfInBounds_toArray, List.set_cons_zero, List.set_cons_succ] at hK
                    have HK := Aside0.mk hK
                    clear hK
                    go_wp2
                    exact HK.out _ _ rfl (Below.refl _ _)
                  case s2 =>
                    intro σ W hI hT
                    obtain ⟨k10, k11, k12, _⟩ := (S1.out.below hI).cells
                    have e1 : σ 1 = .agg #[.int .i64 M, .int .i64 (1 + ra % 3), .iface t1 u1] := hT 1 (by kernel_rfl)
                    clear hT
                    refine .inl ⟨rfl, fun K hK => ?_⟩
                    rw [hmk] at hK ⊢
                    simp only [Act.put, List.setIfInBounds_toArray, List.set_cons_zero, List.set_cons_succ] at hK
                    rw [e1] at hK ⊢
                    clear e1
                    have HK := Aside0.mk hK
                    clear hK
                    have hcon := not_any M (1 + ra % 3) (.iface t1 u1) za W (Z1.out.below hI)
                    rw [HNA.out] at hcon
                    unfold SetPost setV at hcon
                    go_wp2_with (go_at_call 17; refine hcon.mono ?_; clear hcon; rintro e w' ⟨t, u, rfl, hS, hb⟩)
                    exact HK.out _ _ ⟨t, u, rfl, hS⟩ hb
                  case s3 =>
                    intro σ W hI hT
                    obtain ⟨k10, k11, k12, _⟩ := (S1.out.below hI).cells
                    have e0 : σ 0 = .agg #[.int .i64 M, .int .i64 (1 + ra % 3), .iface t1 u1] := hT 0 (by kernel_rfl)
                    obtain ⟨t2, u2, e2, f2⟩ := hT 2 (by kernel_rfl)
                    clear hT
                    refine .inl ⟨rfl, fun K hK => ?_⟩
                    rw [hmk] at hK ⊢
                    simp only [Act.put, List.setIfInBounds_toArray, List.set_cons_zero, List.set_cons_succ] at hK
                    rw [e0, e2] at hK ⊢
                    clear e0 e2
                    have HK := Aside0.mk hK
                    clear hK
                    have hcon := or_any M (1 + ra % 3) (1 + ra % 3) (.iface t1 u1) (.iface t2 u2) za na W (Z1.out.below hI) f2
                    rw [HAL.out] at hcon
                    unfold SetPostE setV at hcon
                    go_wp2_with (go_at_call 20; refine hcon.mono ?_; clear hcon; rintro e w' ⟨t, u, rfl, hS, hb⟩)
                    exact HK.out _ _ ⟨t, u, rfl, hS⟩ hb
                  case s4 =>
                    intro σ W hI hT
                    obtain ⟨k10, k11, k12, _⟩ := (S1.out.below hI).cells
                    obtain ⟨t3, u3, e3, f3⟩ := hT 3 (by kernel_rfl)
                    clear hT
                    refine .inl ⟨rfl, fun K hK => ?_⟩
                    rw [hmk] at hK ⊢
                    simp only [Act.put, List.setIfInBounds_toArray, List.set_cons_zero, List.set_cons_succ] at hK
                    rw [e3] at hK ⊢
                    clear e3
                    have HK := Aside0.mk hK
                    clear hK
                    go_wp2
                    exact HK.out _ _ ⟨_, _, rfl, f3⟩ (Below.refl _ _)
                  case s5 =>
                    intro σ W hI hT
                    obtain ⟨k10, k11, k12, _⟩ := (S1.out.below hI).cells
                    obtain ⟨t4, u4, e4, f4⟩ := hT 4 (by kernel_rfl)
                    clear hT
                    refine .inl ⟨rfl, fun K hK => ?_⟩
                    rw [hmk] at hK ⊢
                    simp only [Act.put, List.setIfInBounds_toArray, List.set_cons_zero, List.set_cons_succ] at hK
                    rw [e4] at hK ⊢
                    clear e4
                    have HK := Aside0.mk hK
                    clear hK
                    go_wp2
                    exact HK.out _ _ ⟨_, _, rfl, f4⟩ (Below.refl _ _)
                  case s6 =>
                    intro σ W hI hT
                    obtain ⟨k10, k11, k12, _⟩ := (S1.out.below hI).cells
                    obtain ⟨t4, u4, e4, f4⟩ := hT 4 (by kernel_rfl)
                    clear hT
                    refine .inl ⟨rfl, fun K hK => ?_⟩
                    rw [hmk] at hK ⊢
                    simp only [Act.put, List.setIfInBounds_toArray, List.set_cons_zero, List.set_cons_succ] at hK
                    rw [e4] at hK ⊢
                    clear e4
                    have HK := Aside0.mk hK
                    clear hK
                    go_wp2
                    exact HK.out _ _ rfl (Below.refl _ _)
                  case s7 =>
                    intro σ W hI hT
                    obtain ⟨k10, k11, k12, _⟩ := (S1.out.below hI).cells
                    clear hT
                    refine .inl ⟨rfl, fun K hK => ?_⟩
                    rw [hmk] at hK ⊢
                    simp only [Act.put, List.setIfInBounds_toArray, List.set_cons_zero, List.set_cons_succ] at hK
                    have HK := Aside0.mk hK
                    clear hK
                    go_wp2
                    exact HK.out _ _ ⟨_, _, _, _, rfl, hI.size, SBox.new W _ _ _⟩ ((Below.refl _ W).alloc (Nat.le_refl _) _)
                  case s8 =>
                    intro σ W hI hT
                    obtain ⟨k10, k11, k12, _⟩ := (S1.out.below hI).cells
                    obtain ⟨t5, u5, e5, f5⟩ := hT 5 (by kernel_rfl)
                    obtain ⟨b7, x7, y7, z7, e7, hb7, hx7⟩ := hT 7 (by kernel_rfl)
                    clear hT
                    refine ⟨rfl, fun K hK => ?_⟩
                    rw [hmk] at hK ⊢
                    simp only [Act.put] at hK
                    rw [e5, e7] at hK ⊢
                    clear e5 e7
                    have HK := Aside0.mk hK
                    clear hK
                    obtain ⟨c1_, c2_, c3_, c4_, c5_, c6_⟩ := hx7.cells
                    go_wp2
                    exact HK.out undef _ trivial (set3_still hx7 _ _ _) (below_set3 hI hb7 _ _ _) ⟨b7, _, _, rfl, hx7.set _ _ _, isSet_still f5 (set3_still hx7 _ _ _)⟩
                  case s9 =>
                    intro σ W hI hT
                    obtain ⟨k10, k11, k12, _⟩ := (S1.out.below hI).cells
                    have e6 : σ 6 = .int .i64 0 := hT 6 (by kernel_rfl)
                    clear hT
                    refine .inl ⟨rfl, fun K hK => ?_⟩
                    rw [hmk] at hK ⊢
                    simp only [Act.put, List.setIfInBounds_toArray, List.set_cons_zero, List.set_cons_succ] at hK
                    rw [e6] at hK ⊢
                    clear e6
                    have HK := Aside0.mk hK
                    clear hK
                    go_wp2
                    exact HK.out _ _ rfl (Below.refl _ _)
                case done =>
                  intro mk hmk σ W hI hS hT
                  simp only [dstsOf, putAll, List.map_cons, List.map_nil, Nat.reduceAdd, Act.put, List.setIfInBounds_toArray, List.set_cons_zero, List.set_cons_succ] at hmk
                  rw [hmk]
                  have e9 : σ 9 = .int .i64 0 := hT 9 (by decide)
                  obtain ⟨b6, t6, u6, e7, hb, hSS⟩ := hS (by decide)
                  rw [e7, e9]
                  clear hT e7 e9 hS
                  obtain ⟨wy, hw_⟩ : ∃ w_, w_ = W := ⟨_, rfl⟩
                  subst hw_
                  replace HB := Aside0.mk (HB.out.trans (hI.mono HB.out.size))
                  replace S1 := Aside0.mk (S1.out.below hI)
                  replace Z1 := Aside0.mk (Z1.out.below hI)
                  replace S2 := Aside0.mk (S2.out.below hI)
                  replace Z2 := Aside0.mk (Z2.out.below hI)
                  replace S3 := Aside0.mk (S3.out.below hI)
                  replace Z3 := Aside0.mk (Z3.out.below hI)
                  replace S5 := Aside0.mk (S5.out.below hI)
                  replace Z5 := Aside0.mk (Z5.out.below hI)
                  have S6 := Aside0.mk hb
                  have Z6 := Aside0.mk hSS
                  clear hb hSS hI
                  go_wp2_with (fail)
                  refine wp_region_still (t := 28) (by kernel_rfl) [Fact.eq (.agg #[.int .i64 M, .int .i64 (1 + ra % 3), .iface t1 u1]), Fact.eq (.agg #[.int .i64 M, .int .i64 (1 + ra % 3), .iface t1 u1]), Fact.set M (1 + ra % 3) na, Fact.setE M (1 + ra % 3) ([] : List Int), Fact.setE M (1 + ra % 3) ([] : List Int), Fact.set M (1 + ra % 3) ([] : List Int), Fact.eq (.int .i64 0), Fact.box wy.heap.size, Fact.top, Fact.eq (.int .i64 0)]
                    (fun W => Below wy.heap.size wy W)
                    (StBox M (1 + ra % 3) ([] : List Int)) 8 7 (by kernel_rfl) (by kernel_rfl) ?I0 ?I1 ?S1 ?hal ?steps ?done
                  case I0 => exact (Below.refl _ wy).drew
                  case I1 => exact fun W W' h hB => h.trans (hB.mono h.size)
                  case S1 => exact fun u W W' h hB => h.below hB
                  case hal => exact fun o ho => by obtain rfl := Option.some.inj (show some _ = some o from ho); kernel_rfl
                  case steps =>
                    intro mk hmk
                    simp only [dstsOf, putAll, List.map_cons, List.map_nil, Nat.reduceAdd, Act.put, List.setIfInBounds_toArray, List.set_cons_zero, List.set_cons_succ] at hmk
                    refine Steps.cons (i := 0) rfl ?s0 (Steps.cons (i := 1) rfl ?s1 (Steps.cons (i := 2) rfl ?s2 (Steps.cons (i := 3) rfl ?s3 (Steps.cons (i := 4) rfl ?s4 (Steps.cons (i := 5) rfl ?s5 (Steps.cons (i := 6) rfl ?s6 (Steps.cons (i := 7) rfl ?s7 (Steps.store (i := 8) rfl ?s8 (Steps.cons (i := 9) rfl ?s9 (Steps.nil))))))))))
                    case s0 =>
                      intro σ W hI hT
                      obtain ⟨k10, k11, k12, _⟩ := (S1.out.below hI).cells
                      clear hT
                      refine .inl ⟨rfl, fun K hK => ?_⟩
                      rw [hmk] at hK ⊢
                      simp only [Act.put, List.setIfInBounds_toArray, List.set_cons_zero, List.set_cons_succ] at hK
                      have HK := Aside0.mk hK
                      clear hK
                      go_wp2
                      exact HK.out _ _ rfl (Below.refl _ _)
                    case s1 =>
                      intro σ W hI hT
                      obtain ⟨k10, k11, k12, _⟩ := (S1.out.below hI).cells
                      clear hT
                      refine .inl ⟨rfl, fun K hK => ?_⟩
                      rw [hmk] at hK ⊢
                      simp only [Act.put, List.setIfInBounds_toArray, List.set_cons_zero, List.set_cons_succ] at hK
                      have HK := Aside0.mk hK
                      clear hK
                      go_wp2
                      exact HK.out _ _ rfl (Below.refl _ _)
                    case s2 =>
                      intro σ W hI hT
                      obtain ⟨k10, k11, k12, _⟩ := (S1.out.below hI).cells
                      have e1 : σ 1 = .agg #[.int .i64 M, .int .i64 (1 + ra % 3), .iface t1 u1] := hT 1 (by kernel_rfl)
                      clear hT
                      refine .inl ⟨rfl, fun K hK => ?_⟩
                      rw [hmk] at hK ⊢
                      simp only [Act.put, List.setIfInBounds_toArray, List.set_cons_zero, List.set_cons_succ] at hK
                      rw [e1] at hK ⊢
                      clear e1
                      have HK := Aside0.mk hK
                      clear hK
                      have hcon := not_any M (1 + ra % 3) (.iface t1 u1) za W (Z1.out.below hI)
                      rw [HNA.out] at hcon
                      unfold SetPost setV at hcon
                      go_wp2_with (go_at_call 17; refine hcon.mono ?_; clear hcon; rintro e w' ⟨t, u, rfl, hS, hb⟩)
                      exact HK.out _ _ ⟨t, u, rfl, hS⟩ hb
                    case s3 =>
                      intro σ W hI hT
                      obtain ⟨k10, k11, k12, _⟩ := (S1.out.below hI).cells
                      have e0 : σ 0 = .agg #[.int .i64 M, .int .i64 (1 + ra % 3), .iface t1 u1] := hT 0 (by kernel_rfl)
                      obtain ⟨t2, u2, e2, f2⟩ := hT 2 (by kernel_rfl)
                      clear hT
                      refine .inl ⟨rfl, fun K hK => ?_⟩
                      rw [hmk] at hK ⊢
                      simp only [Act.put, List.setIfInBounds_toArray, List.set_cons_zero, List.set_cons_succ] at hK
                      rw [e0, e2] at hK ⊢
                      clear e0 e2
                      have HK := Aside0.mk hK
                      clear hK
                      have hcon := and_any M (1 + ra % 3) (1 + ra % 3) (.iface t1 u1) (.iface t2 u2) za na W (Z1.out.below hI) f2
                      rw [HQQ.out.2.2.2] at hcon
                      unfold SetPostE setV at hcon
                      go_wp2_with (go_at_call 19; refine hcon.mono ?_; clear hcon; rintro e w' ⟨t, u, rfl, hS, hb⟩)
                      exact HK.out _ _ ⟨t, u, rfl, hS⟩ hb
                    case s4 =>
                      intro σ W hI hT
                      obtain ⟨k10, k11, k12, _⟩ := (S1.out.below hI).cells
                      obtain ⟨t3, u3, e3, f3⟩ := hT 3 (by kernel_rfl)
                      clear hT
                      refine .inl ⟨rfl, fun K hK => ?_⟩
                      rw [hmk] at hK ⊢
                      simp only [Act.put, List.setIfInBounds_toArray, List.set_cons_zero, List.set_cons_succ] at hK
                      rw [e3] at hK ⊢
                      clear e3
                      have HK := Aside0.mk hK
                      clear hK
                      go_wp2
                      exact HK.out _ _ ⟨_, _, rfl, f3⟩ (Below.refl _ _)
                    case s5 =>
                      intro σ W hI hT
                      obtain ⟨k10, k11, k12, _⟩ := (S1.out.below hI).cells
                      obtain ⟨t4, u4, e4, f4⟩ := hT 4 (by kernel_rfl)
                      clear hT
                      refine .inl ⟨rfl, fun K hK => ?_⟩
                      rw [hmk] at hK ⊢
                      simp only [Act.put, List.setIfInBounds_toArray, List.set_cons_zero, List.set_cons_succ] at hK
                      rw [e4] at hK ⊢
                      clear e4
                      have HK := Aside0.mk hK
                      clear hK
                      go_wp2
                      exact HK.out _ _ ⟨_, _, rfl, f4⟩ (Below.refl _ _)
                    case s6 =>
                      intro σ W hI hT
                      obtain ⟨k10, k11, k12, _⟩ := (S1.out.below hI).cells
                      obtain ⟨t4, u4, e4, f4⟩ := hT 4 (by kernel_rfl)
                      clear hT
                      refine .inl ⟨rfl, fun K hK => ?_⟩
                      rw [hmk] at hK ⊢
                      simp only [Act.put, List.setIfInBounds_toArray, List.set_cons_zero, List.set_cons_succ] at hK
                      rw [e4] at hK ⊢
                      clear e4
                      have HK := Aside0.mk hK
                      clear hK
                      go_wp2
                      exact HK.out _ _ rfl (Below.refl _ _)
                    case s7 =>
                      intro σ W hI hT
                      obtain ⟨k10, k11, k12, _⟩ := (S1.out.below hI).cells
                      clear hT
                      refine .inl ⟨rfl, fun K hK => ?_⟩
                      rw [hmk] at hK ⊢
                      simp only [Act.put, List.setIfInBounds_toArray, List.set_cons_zero, List.set_cons_succ] at hK
                      have HK := Aside0.mk hK
                      clear hK
                      go_wp2
                      exact HK.out _ _ ⟨_, _, _, _, rfl, hI.size, SBox.new W _ _ _⟩ ((Below.refl _ W).alloc (Nat.le_refl _) _)
                    case s8 =>
                      intro σ W hI hT
                      obtain ⟨k10, k11, k12, _⟩ := (S1.out.below hI).cells
                      obtain ⟨t5, u5, e5, f5⟩ := hT 5 (by kernel_rfl)
                      obtain ⟨b7, x7, y7, z7, e7, hb7, hx7⟩ := hT 7 (by kernel_rfl)
                      clear hT
                      refine ⟨rfl, fun K hK => ?_⟩
                      rw [hmk] at hK ⊢
                      simp only [Act.put] at hK
                      rw [e5, e7] at hK ⊢
                      clear e5 e7
                      have HK := Aside0.mk hK
                      clear hK
                      obtain ⟨c1_, c2_, c3_, c4_, c5_, c6_⟩ := hx7.cells
                      go_wp2
                      exact HK.out undef _ trivial (set3_still hx7 _ _ _) (below_set3 hI hb7 _ _ _) ⟨b7, _, _, rfl, hx7.set _ _ _, isSet_still f5 (set3_still hx7 _ _ _)⟩
                    case s9 =>
                      intro σ W hI hT
                      obtain ⟨k10, k11, k12, _⟩ := (S1.out.below hI).cells
                      have e6 : σ 6 = .int .i64 0 := hT 6 (by kernel_rfl)
                      clear hT
                      refine .inl ⟨rfl, fun K hK => ?_⟩
                      rw [hmk] at hK ⊢
                      simp only [Act.put, List.setIfInBounds_toArray, List.set_cons_zero, List.set_cons_succ] at hK
                      rw [e6] at hK ⊢
                      clear e6
                      have HK := Aside0.mk hK
                      clear hK
                      go_wp2
                      exact HK.out _ _ rfl (Below.refl _ _)
                  case done =>
                    intro mk hmk σ W hI hS hT
                    simp only [dstsOf, putAll, List.map_cons, List.map_nil, Nat.reduceAdd, Act.put, List.setIfInBounds_toArray, List.set_cons_zero, List.set_cons_succ] at hmk
                    rw [hmk]
                    have e9 : σ 9 = .int .i64 0 := hT 9 (by decide)
                    obtain ⟨b7, t7, u7, e7, hb, hSS⟩ := hS (by decide)
                    rw [e7, e9]
                    clear hT e7 e9 hS
                    obtain ⟨wz, hw_⟩ : ∃ w_, w_ = W := ⟨_, rfl⟩
                    subst hw_
                    replace HB := Aside0.mk (HB.out.trans (hI.mono HB.out.size))
                    replace S1 := Aside0.mk (S1.out.below hI)
                    replace Z1 := Aside0.mk (Z1.out.below hI)
                    replace S2 := Aside0.mk (S2.out.below hI)
                    replace Z2 := Aside0.mk (Z2.out.below hI)
                    replace S3 := Aside0.mk (S3.out.below hI)
                    replace Z3 := Aside0.mk (Z3.out.below hI)
                    replace S5 := Aside0.mk (S5.out.below hI)
                    replace Z5 := Aside0.mk (Z5.out.below hI)
                    replace S6 := Aside0.mk (S6.out.below hI)
                    replace Z6 := Aside0.mk (Z6.out.below hI)
                    have S7 := Aside0.mk hb
                    have Z7 := Aside0.mk hSS
                    clear hb hSS hI
                    go_wp2_with (fail)
                    have HLN := Aside0.mk (show zx.length ≤ 4096 ∧ za.length ≤ 4096 by have := Z1.out.rising.length; have := Z5.out.rising.length; have := HK.out; omega)
                    refine wp_region_still (t := 28) (by kernel_rfl) [Fact.eq (.bool true), Fact.eq (.bool true), Fact.eq (.agg #[.int .i64 M, .int .i64 (1 + ra % 3), .iface t3 u3]), Fact.set M (1 + ra % 3) zx, Fact.rowI zx, Fact.eq (.agg #[.int .i64 M, .int .i64 (1 + ra % 3), .iface t5 u5]), Fact.rowI zx, Fact.eq (.bool true), Fact.eq (.bool true), Fact.eq (.bool true), Fact.eq (.agg #[.int .i64 M, .int .i64 (1 + ra % 3), .iface t1 u1]), Fact.set M (1 + ra % 3) na, Fact.set M (1 + ra % 3) za, Fact.rowI za, Fact.eq (.agg #[.int .i64 M, .int .i64 (1 + ra % 3), .iface t1 u1]), Fact.rowI za, Fact.eq (.bool true), Fact.eq (.bool true), Fact.eq (.bool true), Fact.eq (.agg #[.int .i64 M, .int .i64 (1 + ra % 3), .iface t6 u6]), Fact.rowI zall, Fact.eq (.int .i64 zall.length), Fact.eq (.int .i64 M), Fact.eq (.bool true), Fact.eq (.bool true), Fact.eq (.bool true), Fact.eq (.agg #[.int .i64 M, .int .i64 (1 + ra % 3), .iface t7 u7]), Fact.rowI ([] : List Int), Fact.eq (.int .i64 0), Fact.eq (.bool true), Fact.eq (.bool true), Fact.eq (.bool true)]
                      (fun W => Below wz.heap.size wz W)
                      (fun _ _ => True) 32 0 (by kernel_rfl) (by kernel_rfl) ?I0 ?I1 ?S1 ?hal ?steps ?done
                    case I0 => exact (Below.refl _ wz).drew
                    case I1 => exact fun W W' h hB => h.trans (hB.mono h.size)
                    case S1 => exact fun _ _ _ _ _ => trivial
                    case hal => exact fun o ho => by cases (show none = some o from ho)
                    case steps =>
                      intro mk hmk
                      simp only [dstsOf, putAll, List.map_cons, List.map_nil, Nat.reduceAdd, Act.put, List.setIfInBounds_toArray, List.set_cons_zero, List.set_cons_succ] at hmk
                      refine Steps.cons (i := 0) rfl ?s0 (Steps.cons (i := 1) rfl ?s1 (Steps.cons (i := 2) rfl ?s2 (Steps.cons (i := 3) rfl ?s3 (Steps.cons (i := 4) rfl ?s4 (Steps.cons (i := 5) rfl ?s5 (Steps.cons (i := 6) rfl ?s6 (Steps.cons (i := 7) rfl ?s7 (Steps.cons (i := 8) rfl ?s8 (Steps.cons (i := 9) rfl ?s9 (Steps.cons (i := 10) rfl ?s10 (Steps.cons (i := 11) rfl ?s11 (Steps.cons (i := 12) rfl ?s12 (Steps.cons (i := 13) rfl ?s13 (Steps.cons (i := 14) rfl ?s14 (Steps.cons (i := 15) rfl ?s15 (Steps.cons (i := 16) rfl ?s16 (Steps.cons (i := 17) rfl ?s17 (Steps.cons (i := 18) rfl ?s18 (Steps.cons (i := 19) rfl ?s19 (Steps.cons (i := 20) rfl ?s20 (Steps.cons (i := 21) rfl ?s21 (Steps.cons (i := 22) rfl ?s22 (Steps.cons (i := 23) rfl ?s23 (Steps.cons (i := 24) rfl ?s24 (Steps.cons (i := 25) rfl ?s25 (Steps.cons (i := 26) rfl ?s26 (Steps.cons (i := 27) rfl ?s27 (Steps.cons (i := 28) rfl ?s28 (Steps.cons (i := 29) rfl ?s29 (Steps.cons (i := 30) rfl ?s30 (Steps.cons (i := 31) rfl ?s31 (Steps.nil))))))))))))))))))))))))))))))))
                      case s0 =>
                        intro σ W hI hT
                        obtain ⟨k10, k11, k12, _⟩ := (S1.out.below hI).cells; obtain ⟨k30, k31, k32, _⟩ := (S3.out.below hI).cells; obtain ⟨k50, k51, k52, _⟩ := (S5.out.below hI).cells; obtain ⟨k60, k61, k62, _⟩ := (S6.out.below hI).cells; obtain ⟨k70, k71, k72, _⟩ := (S7.out.below hI).cells
                        clear hT
                        refine .inl ⟨rfl, fun K hK => ?_⟩
                        rw [hmk] at hK ⊢
                        simp only [Act.put, List.setIfInBounds_toArray, List.set_cons_zero, List.set_cons_succ] at hK
                        have HK := Aside0.mk hK
                        clear hK
                        go_wp2
                        exact HK.out _ _ rfl (Below.refl _ _)
                      case s1 =>
                        intro σ W hI hT
                        obtain ⟨k10, k11, k12, _⟩ := (S1.out.below hI).cells; obtain ⟨k30, k31, k32, _⟩ := (S3.out.below hI).cells; obtain ⟨k50, k51, k52, _⟩ := (S5.out.below hI).cells; obtain ⟨k60, k61, k62, _⟩ := (S6.out.below hI).cells; obtain ⟨k70, k71, k72, _⟩ := (S7.out.below hI).cells
                        have e0 : σ 0 = .bool true := hT 0 (by kernel_rfl)
                        clear hT
                        refine .inl ⟨rfl, fun K hK => ?_⟩
                        rw [hmk] at hK ⊢
                        simp only [Act.put, List.setIfInBounds_toArray, List.set_cons_zero, List.set_cons_succ] at hK
                        rw [e0] at hK ⊢
                        clear e0
                        have HK := Aside0.mk hK
                        clear hK
                        go_wp2
                        exact HK.out _ _ rfl (Below.refl _ _)
                      case s2 =>
                        intro σ W hI hT
                        obtain ⟨k10, k11, k12, _⟩ := (S1.out.below hI).cells; obtain ⟨k30, k31, k32, _⟩ := (S3.out.below hI).cells; obtain ⟨k50, k51, k52, _⟩ := (S5.out.below hI).cells; obtain ⟨k60, k61, k62, _⟩ := (S6.out.below hI).cells; obtain ⟨k70, k71, k72, _⟩ := (S7.out.below hI).cells
                        have e1 : σ 1 = .bool true := hT 1 (by kernel_rfl)
                        clear hT
                        refine .inl ⟨by rw [hmk]; simp [Region.wanted, yielded, e1], fun K hK => ?_⟩
                        rw [hmk] at hK ⊢
                        simp only [Act.put, List.setIfInBounds_toArray, List.set_cons_zero, List.set_cons_succ] at hK
                        rw [e1] at hK ⊢
                        clear e1
                        have HK := Aside0.mk hK
                        clear hK
                        go_wp2
                        exact HK.out _ _ rfl (Below.refl _ _)
                      case s3 =>
                        intro σ W hI hT
                        obtain ⟨k10, k11, k12, _⟩ := (S1.out.below hI).cells; obtain ⟨k30, k31, k32, _⟩ := (S3.out.below hI).cells; obtain ⟨k50, k51, k52, _⟩ := (S5.out.below hI).cells; obtain ⟨k60, k61, k62, _⟩ := (S6.out.below hI).cells; obtain ⟨k70, k71, k72, _⟩ := (S7.out.below hI).cells
                        have e1 : σ 1 = .bool true := hT 1 (by kernel_rfl)
                        have e2 : σ 2 = .agg #[.int .i64 M, .int .i64 (1 + ra % 3), .iface t3 u3] := hT 2 (by kernel_rfl)
                        clear hT
                        refine .inl ⟨by rw [hmk]; simp [Region.wanted, yielded, e1], fun K hK => ?_⟩
                        rw [hmk] at hK ⊢
                        simp only [Act.put, List.setIfInBounds_toArray, List.set_cons_zero, List.set_cons_succ] at hK
                        rw [e1, e2] at hK ⊢
                        clear e1 e2
                        have HK := Aside0.mk hK
                        clear hK
                        have hcon := not_any M (1 + ra % 3) (.iface t3 u3) zc W (Z3.out.below hI)
                        rw [HZX.out] at hcon
                        unfold SetPost setV at hcon
                        go_wp2_with (go_at_call 17; refine hcon.mono ?_; clear hcon; rintro e w' ⟨t, u, rfl, hS, hb⟩)
                        exact HK.out _ _ ⟨t, u, rfl, hS⟩ hb
                      case s4 =>
                        intro σ W hI hT
                        obtain ⟨k10, k11, k12, _⟩ := (S1.out.below hI).cells; obtain ⟨k30, k31, k32, _⟩ := (S3.out.below hI).cells; obtain ⟨k50, k51, k52, _⟩ := (S5.out.below hI).cells; obtain ⟨k60, k61, k62, _⟩ := (S6.out.below hI).cells; obtain ⟨k70, k71, k72, _⟩ := (S7.out.below hI).cells
                        have e1 : σ 1 = .bool true := hT 1 (by kernel_rfl)
                        obtain ⟨t3, u3, e3, f3⟩ := hT 3 (by kernel_rfl)
                        clear hT
                        refine .inl ⟨by rw [hmk]; simp [Region.wanted, yielded, e1], fun K hK => ?_⟩
                        rw [hmk] at hK ⊢
                        simp only [Act.put, List.setIfInBounds_toArray, List.set_cons_zero, List.set_cons_succ] at hK
                        rw [e1, e3] at hK ⊢
                        clear e1 e3
                        have HK := Aside0.mk hK
                        clear hK
                        have hcon := list_any M (1 + ra % 3) (.iface t3 u3) zx W f3
                        unfold setV at hcon
                        go_wp2_with (go_at_call 13; refine hcon.mono ?_; clear hcon; rintro e w' ⟨v, rfl, hr, hb⟩)
                        exact HK.out _ _ (rowI_own hr) hb
                      case s5 =>
                        intro σ W hI hT
                        obtain ⟨k10, k11, k12, _⟩ := (S1.out.below hI).cells; obtain ⟨k30, k31, k32, _⟩ := (S3.out.below hI).cells; obtain ⟨k50, k51, k52, _⟩ := (S5.out.below hI).cells; obtain ⟨k60, k61, k62, _⟩ := (S6.out.below hI).cells; obtain ⟨k70, k71, k72, _⟩ := (S7.out.below hI).cells
                        have e1 : σ 1 = .bool true := hT 1 (by kernel_rfl)
                        clear hT
                        refine .inl ⟨by rw [hmk]; simp [Region.wanted, yielded, e1], fun K hK => ?_⟩
                        rw [hmk] at hK ⊢
                        simp only [Act.put, List.setIfInBounds_toArray, List.set_cons_zero, List.set_cons_succ] at hK
                        rw [e1] at hK ⊢
                        clear e1
                        have HK := Aside0.mk hK
                        clear hK
                        go_wp2
                        exact HK.out _ _ rfl (Below.refl _ _)
                      case s6 =>
                        intro σ W hI hT
                        obtain ⟨k10, k11, k12, _⟩ := (S1.out.below hI).cells; obtain ⟨k30, k31, k32, _⟩ := (S3.out.below hI).cells; obtain ⟨k50, k51, k52, _⟩ := (S5.out.below hI).cells; obtain ⟨k60, k61, k62, _⟩ := (S6.out.below hI).cells; obtain ⟨k70, k71, k72, _⟩ := (S7.out.below hI).cells
                        have e1 : σ 1 = .bool true := hT 1 (by kernel_rfl)
                        have e5 : σ 5 = .agg #[.int .i64 M, .int .i64 (1 + ra % 3), .iface t5 u5] := hT 5 (by kernel_rfl)
                        clear hT
                        refine .inl ⟨by rw [hmk]; simp [Region.wanted, yielded, e1], fun K hK => ?_⟩
                        rw [hmk] at hK ⊢
                        simp only [Act.put, List.setIfInBounds_toArray, List.set_cons_zero, List.set_cons_succ] at hK
                        rw [e1, e5] at hK ⊢
                        clear e1 e5
                        have HK := Aside0.mk hK
                        clear hK
                        have hcon := list_any M (1 + ra % 3) (.iface t5 u5) zx W (Z5.out.below hI)
                        unfold setV at hcon
                        go_wp2_with (go_at_call 13; refine hcon.mono ?_; clear hcon; rintro e w' ⟨v, rfl, hr, hb⟩)
                        exact HK.out _ _ (rowI_own hr) hb
                      case s7 =>
                        intro σ W hI hT
                        obtain ⟨k10, k11, k12, _⟩ := (S1.out.below hI).cells; obtain ⟨k30, k31, k32, _⟩ := (S3.out.below hI).cells; obtain ⟨k50, k51, k52, _⟩ := (S5.out.below hI).cells; obtain ⟨k60, k61, k62, _⟩ := (S6.out.below hI).cells; obtain ⟨k70, k71, k72, _⟩ := (S7.out.below hI).cells
                        have e1 : σ 1 = .bool true := hT 1 (by kernel_rfl)
                        have f4 := hT 4 (by kernel_rfl)
                        have f6 := hT 6 (by kernel_rfl)
                        clear hT
                        refine .inl ⟨by rw [hmk]; simp [Region.wanted, yielded, e1], fun K hK => ?_⟩
                        rw [hmk] at hK ⊢
                        simp only [Act.put, List.setIfInBounds_toArray, List.set_cons_zero, List.set_cons_succ] at hK
                        rw [e1] at hK ⊢
                        clear e1
                        have HK := Aside0.mk hK
                        clear hK
                        obtain ⟨A1_, c1_, e1_, hc1, hC1⟩ := Kd.R_reads f4
                        obtain ⟨A2_, c2_, e2_, hc2, hC2⟩ := Kd.R_reads f6
                        rw [e1_, e2_] at HK ⊢
                        have hcon := ints_any A1_ c1_ zx A2_ c2_ zx W hC1 hc1 hC2 hc2 (by have := HLN.out; omega)
                        rw [decide_eq_true rfl] at hcon
                        go_wp2_with (go_at_call 21; refine hcon.mono ?_; clear hcon; rintro e w' ⟨rfl, hb⟩)
                        exact HK.out _ _ rfl hb
                      case s8 =>
                        intro σ W hI hT
                        obtain ⟨k10, k11, k12, _⟩ := (S1.out.below hI).cells; obtain ⟨k30, k31, k32, _⟩ := (S3.out.below hI).cells; obtain ⟨k50, k51, k52, _⟩ := (S5.out.below hI).cells; obtain ⟨k60, k61, k62, _⟩ := (S6.out.below hI).cells; obtain ⟨k70, k71, k72, _⟩ := (S7.out.below hI).cells
                        have e1 : σ 1 = .bool true := hT 1 (by kernel_rfl)
                        have e7 : σ 7 = .bool true := hT 7 (by kernel_rfl)
                        clear hT
                        refine .inl ⟨rfl, fun K hK => ?_⟩
                        rw [hmk] at hK ⊢
                        simp only [Act.put, List.setIfInBounds_toArray, List.set_cons_zero, List.set_cons_succ] at hK
                        rw [e1, e7] at hK ⊢
                        clear e1 e7
                        have HK := Aside0.mk hK
                        clear hK
                        go_wp2
                        exact HK.out _ _ rfl (Below.refl _ _)
                      case s9 =>
                        intro σ W hI hT
                        obtain ⟨k10, k11, k12, _⟩ := (S1.out.below hI).cells; obtain ⟨k30, k31, k32, _⟩ := (S3.out.below hI).cells; obtain ⟨k50, k51, k52, _⟩ := (S5.out.below hI).cells; obtain ⟨k60, k61, k62, _⟩ := (S6.out.below hI).cells; obtain ⟨k70, k71, k72, _⟩ := (S7.out.below hI).cells
                        have e8 : σ 8 = .bool true := hT 8 (by kernel_rfl)
                        clear hT
                        refine .inl ⟨rfl, fun K hK => ?_⟩
                        rw [hmk] at hK ⊢
                        simp only [Act.put, List.setIfInBounds_toArray, List.set_cons_zero, List.set_cons_succ] at hK
                        rw [e8] at hK ⊢
                        clear e8
                        have HK := Aside0.mk hK
                        clear hK
                        go_wp2
                        exact HK.out _ _ rfl (Below.refl _ _)
                      case s10 =>
                        intro σ W hI hT
                        obtain ⟨k10, k11, k12, _⟩ := (S1.out.below hI).cells; obtain ⟨k30, k31, k32, _⟩ := (S3.out.below hI).cells; obtain ⟨k50, k51, k52, _⟩ := (S5.out.below hI).cells; obtain ⟨k60, k61, k62, _⟩ := (S6.out.below hI).cells; obtain ⟨k70, k71, k72, _⟩ := (S7.out.below hI).cells
                        have e9 : σ 9 = .bool true := hT 9 (by kernel_rfl)
                        clear hT
                        refine .inl ⟨by rw [hmk]; simp [Region.wanted, yielded, e9], fun K hK => ?_⟩
                        rw [hmk] at hK ⊢
                        simp only [Act.put, List.setIfInBounds_toArray, List.set_cons_zero, List.set_cons_succ] at hK
                        rw [e9] at hK ⊢
                        clear e9
                        have HK := Aside0.mk hK
                        clear hK
                        go_wp2
                        exact HK.out _ _ rfl (Below.refl _ _)
                      case s11 =>
                        intro σ W hI hT
                        obtain ⟨k10, k11, k12, _⟩ := (S1.out.below hI).cells; obtain ⟨k30, k31, k32, _⟩ := (S3.out.below hI).cells; obtain ⟨k50, k51, k52, _⟩ := (S5.out.below hI).cells; obtain ⟨k60, k61, k62, _⟩ := (S6.out.below hI).cells; obtain ⟨k70, k71, k72, _⟩ := (S7.out.below hI).cells
                        have e9 : σ 9 = .bool true := hT 9 (by kernel_rfl)
                        have e10 : σ 10 = .agg #[.int .i64 M, .int .i64 (1 + ra % 3), .iface t1 u1] := hT 10 (by kernel_rfl)
                        clear hT
                        refine .inl ⟨by rw [hmk]; simp [Region.wanted, yielded, e9], fun K hK => ?_⟩
                        rw [hmk] at hK ⊢
                        simp only [Act.put, List.setIfInBounds_toArray, List.set_cons_zero, List.set_cons_succ] at hK
                        rw [e9, e10] at hK ⊢
                        clear e9 e10
                        have HK := Aside0.mk hK
                        clear hK
                        have hcon := not_any M (1 + ra % 3) (.iface t1 u1) za W (Z1.out.below hI)
                        rw [HNA.out] at hcon
                        unfold SetPost setV at hcon
                        go_wp2_with (go_at_call 17; refine hcon.mono ?_; clear hcon; rintro e w' ⟨t, u, rfl, hS, hb⟩)
                        exact HK.out _ _ ⟨t, u, rfl, hS⟩ hb
                      case s12 =>
                        intro σ W hI hT
                        obtain ⟨k10, k11, k12, _⟩ := (S1.out.below hI).cells; obtain ⟨k30, k31, k32, _⟩ := (S3.out.below hI).cells; obtain ⟨k50, k51, k52, _⟩ := (S5.out.below hI).cells; obtain ⟨k60, k61, k62, _⟩ := (S6.out.below hI).cells; obtain ⟨k70, k71, k72, _⟩ := (S7.out.below hI).cells
                        have e9 : σ 9 = .bool true := hT 9 (by kernel_rfl)
                        obtain ⟨t11, u11, e11, f11⟩ := hT 11 (by kernel_rfl)
                        clear hT
                        refine .inl ⟨by rw [hmk]; simp [Region.wanted, yielded, e9], fun K hK => ?_⟩
                        rw [hmk] at hK ⊢
                        simp only [Act.put, List.setIfInBounds_toArray, List.set_cons_zero, List.set_cons_succ] at hK
                        rw [e9, e11] at hK ⊢
                        clear e9 e11
                        have HK := Aside0.mk hK
                        clear hK
                        have hcon := not_any M (1 + ra % 3) (.iface t11 u11) na W f11
                        rw [HQQ.out.2.1] at hcon
                        unfold SetPost setV at hcon
                        go_wp2_with (go_at_call 17; refine hcon.mono ?_; clear hcon; rintro e w' ⟨t, u, rfl, hS, hb⟩)
                        exact HK.out _ _ ⟨t, u, rfl, hS⟩ hb
                      case s13 =>
                        intro σ W hI hT
                        obtain ⟨k10, k11, k12, _⟩ := (S1.out.below hI).cells; obtain ⟨k30, k31, k32, _⟩ := (S3.out.below hI).cells; obtain ⟨k50, k51, k52, _⟩ := (S5.out.below hI).cells; obtain ⟨k60, k61, k62, _⟩ := (S6.out.below hI).cells; obtain ⟨k70, k71, k72, _⟩ := (S7.out.below hI).cells
                        have e9 : σ 9 = .bool true := hT 9 (by kernel_rfl)
                        obtain ⟨t12, u12, e12, f12⟩ := hT 12 (by kernel_rfl)
                        clear hT
                        refine .inl ⟨by rw [hmk]; simp [Region.wanted, yielded, e9], fun K hK => ?_⟩
                        rw [hmk] at hK ⊢
                        simp only [Act.put, List.setIfInBounds_toArray, List.set_cons_zero, List.set_cons_succ] at hK
                        rw [e9, e12] at hK ⊢
                        clear e9 e12
                        have HK := Aside0.mk hK
                        clear hK
                        have hcon := list_any M (1 + ra % 3) (.iface t12 u12) za W f12
                        unfold setV at hcon
                        go_wp2_with (go_at_call 13; refine hcon.mono ?_; clear hcon; rintro e w' ⟨v, rfl, hr, hb⟩)
                        exact HK.out _ _ (rowI_own hr) hb
                      case s14 =>
                        intro σ W hI hT
                        obtain ⟨k10, k11, k12, _⟩ := (S1.out.below hI).cells; obtain ⟨k30, k31, k32, _⟩ := (S3.out.below hI).cells; obtain ⟨k50, k51, k52, _⟩ := (S5.out.below hI).cells; obtain ⟨k60, k61, k62, _⟩ := (S6.out.below hI).cells; obtain ⟨k70, k71, k72, _⟩ := (S7.out.below hI).cells
                        have e9 : σ 9 = .bool true := hT 9 (by kernel_rfl)
                        clear hT
                        refine .inl ⟨by rw [hmk]; simp [Region.wanted, yielded, e9], fun K hK => ?_⟩
                        rw [hmk] at hK ⊢
                        simp only [Act.put, List.setIfInBounds_toArray, List.set_cons_zero, List.set_cons_succ] at hK
                        rw [e9] at hK ⊢
                        clear e9
                        have HK := Aside0.mk hK
                        clear hK
                        go_wp2
                        exact HK.out _ _ rfl (Below.refl _ _)
                      case s15 =>
                        intro σ W hI hT
                        obtain ⟨k10, k11, k12, _⟩ := (S1.out.below hI).cells; obtain ⟨k30, k31, k32, _⟩ := (S3.out.below hI).cells; obtain ⟨k50, k51, k52, _⟩ := (S5.out.below hI).cells; obtain ⟨k60, k61, k62, _⟩ := (S6.out.below hI).cells; obtain ⟨k70, k71, k72, _⟩ := (S7.out.below hI).cells
                        have e9 : σ 9 = .bool true := hT 9 (by kernel_rfl)
                        have e14 : σ 14 = .agg #[.int .i64 M, .int .i64 (1 + ra % 3), .iface t1 u1] := hT 14 (by kernel_rfl)
                        clear hT
                        refine .inl ⟨by rw [hmk]; simp [Region.wanted, yielded, e9], fun K hK => ?_⟩
                        rw [hmk] at hK ⊢
                        simp only [Act.put, List.setIfInBounds_toArray, List.set_cons_zero, List.set_cons_succ] at hK
                        rw [e9, e14] at hK ⊢
                        clear e9 e14
                        have HK := Aside0.mk hK
                        clear hK
                        have hcon := list_any M (1 + ra % 3) (.iface t1 u1) za W (Z1.out.below hI)
                        unfold setV at hcon
                        go_wp2_with (go_at_call 13; refine hcon.mono ?_; clear hcon; rintro e w' ⟨v, rfl, hr, hb⟩)
                        exact HK.out _ _ (rowI_own hr) hb
                      case s16 =>
                        intro σ W hI hT
                        obtain ⟨k10, k11, k12, _⟩ := (S1.out.below hI).cells; obtain ⟨k30, k31, k32, _⟩ := (S3.out.below hI).cells; obtain ⟨k50, k51, k52, _⟩ := (S5.out.below hI).cells; obtain ⟨k60, k61, k62, _⟩ := (S6.out.below hI).cells; obtain ⟨k70, k71, k72, _⟩ := (S7.out.below hI).cells
                        have e9 : σ 9 = .bool true := hT 9 (by kernel_rfl)
                        have f13 := hT 13 (by kernel_rfl)
                        have f15 := hT 15 (by kernel_rfl)
                        clear hT
                        refine .inl ⟨by rw [hmk]; simp [Region.wanted, yielded, e9], fun K hK => ?_⟩
                        rw [hmk] at hK ⊢
                        simp only [Act.put, List.setIfInBounds_toArray, List.set_cons_zero, List.set_cons_succ] at hK
                        rw [e9] at hK ⊢
                        clear e9
                        have HK := Aside0.mk hK
                        clear hK
                        obtain ⟨A1_, c1_, e1_, hc1, hC1⟩ := Kd.R_reads f13
                        obtain ⟨A2_, c2_, e2_, hc2, hC2⟩ := Kd.R_reads f15
                        rw [e1_, e2_] at HK ⊢
                        have hcon := ints_any A1_ c1_ za A2_ c2_ za W hC1 hc1 hC2 hc2 (by have := HLN.out; omega)
                        rw [decide_eq_true rfl] at hcon
                        go_wp2_with (go_at_call 21; refine hcon.mono ?_; clear hcon; rintro e w' ⟨rfl, hb⟩)
                        exact HK.out _ _ rfl hb
                      case s17 =>
                        intro σ W hI hT
                        obtain ⟨k10, k11, k12, _⟩ := (S1.out.below hI).cells; obtain ⟨k30, k31, k32, _⟩ := (S3.out.below hI).cells; obtain ⟨k50, k51, k52, _⟩ := (S5.out.below hI).cells; obtain ⟨k60, k61, k62, _⟩ := (S6.out.below hI).cells; obtain ⟨k70, k71, k72, _⟩ := (S7.out.below hI).cells
                        have e9 : σ 9 = .bool true := hT 9 (by kernel_rfl)
                        have e16 : σ 16 = .bool true := hT 16 (by kernel_rfl)
                        clear hT
                        refine .inl ⟨rfl, fun K hK => ?_⟩
                        rw [hmk] at hK ⊢
                        simp only [Act.put, List.setIfInBounds_toArray, List.set_cons_zero, List.set_cons_succ] at hK
                        rw [e9, e16] at hK ⊢
                        clear e9 e16
                        have HK := Aside0.mk hK
                        clear hK
                        go_wp2
                        exact HK.out _ _ rfl (Below.refl _ _)
                      case s18 =>
                        intro σ W hI hT
                        obtain ⟨k10, k11, k12, _⟩ := (S1.out.below hI).cells; obtain ⟨k30, k31, k32, _⟩ := (S3.out.below hI).cells; obtain ⟨k50, k51, k52, _⟩ := (S5.out.below hI).cells; obtain ⟨k60, k61, k62, _⟩ := (S6.out.below hI).cells; obtain ⟨k70, k71, k72, _⟩ := (S7.out.below hI).cells
                        have e17 : σ 17 = .bool true := hT 17 (by kernel_rfl)
                        clear hT
                        refine .inl ⟨rfl, fun K hK => ?_⟩
                        rw [hmk] at hK ⊢
                        simp only [Act.put, List.setIfInBounds_toArray, List.set_cons_zero, List.set_cons_succ] at hK
                        rw [e17] at hK ⊢
                        clear e17
                        have HK := Aside0.mk hK
                        clear hK
                        go_wp2
                        exact HK.out _ _ rfl (Below.refl _ _)
                      case s19 =>
                        intro σ W hI hT
                        obtain ⟨k10, k11, k12, _⟩ := (S1.out.below hI).cells; obtain ⟨k30, k31, k32, _⟩ := (S3.out.below hI).cells; obtain ⟨k50, k51, k52, _⟩ := (S5.out.below hI).cells; obtain ⟨k60, k61, k62, _⟩ := (S6.out.below hI).cells; obtain ⟨k70, k71, k72, _⟩ := (S7.out.below hI).cells
                        have e18 : σ 18 = .bool true := hT 18 (by kernel_rfl)
                        clear hT
                        refine .inl ⟨by rw [hmk]; simp [Region.wanted, yielded, e18], fun K hK => ?_⟩
                        rw [hmk] at hK ⊢
                        simp only [Act.put, List.setIfInBounds_toArray, List.set_cons_zero, List.set_cons_succ] at hK
                        rw [e18] at hK ⊢
                        clear e18
                        have HK := Aside0.mk hK
                        clear hK
                        go_wp2
                        exact HK.out _ _ rfl (Below.refl _ _)
                      case s20 =>
                        intro σ W hI hT
                        obtain ⟨k10, k11, k12, _⟩ := (S1.out.below hI).cells; obtain ⟨k30, k31, k32, _⟩ := (S3.out.below hI).cells; obtain ⟨k50, k51, k52, _⟩ := (S5.out.below hI).cells; obtain ⟨k60, k61, k62, _⟩ := (S6.out.below hI).cells; obtain ⟨k70, k71, k72, _⟩ := (S7.out.below hI).cells
                        have e18 : σ 18 = .bool true := hT 18 (by kernel_rfl)
                        have e19 : σ 19 = .agg #[.int .i64 M, .int .i64 (1 + ra % 3), .iface t6 u6] := hT 19 (by kernel_rfl)
                        clear hT
                        refine .inl ⟨by rw [hmk]; simp [Region.wanted, yielded, e18], fun K hK => ?_⟩
                        rw [hmk] at hK ⊢
                        simp only [Act.put, List.setIfInBounds_toArray, List.set_cons_zero, List.set_cons_succ] at hK
                        rw [e18, e19] at hK ⊢
                        clear e18 e19
                        have HK := Aside0.mk hK
                        clear hK
                        have hcon := list_any M (1 + ra % 3) (.iface t6 u6) zall W (Z6.out.below hI)
                        unfold setV at hcon
                        go_wp2_with (go_at_call 13; refine hcon.mono ?_; clear hcon; rintro e w' ⟨v, rfl, hr, hb⟩)
                        exact HK.out _ _ (rowI_own hr) hb
                      case s21 =>
                        intro σ W hI hT
                        obtain ⟨k10, k11, k12, _⟩ := (S1.out.below hI).cells; obtain ⟨k30, k31, k32, _⟩ := (S3.out.below hI).cells; obtain ⟨k50, k51, k52, _⟩ := (S5.out.below hI).cells; obtain ⟨k60, k61, k62, _⟩ := (S6.out.below hI).cells; obtain ⟨k70, k71, k72, _⟩ := (S7.out.below hI).cells
                        have e18 : σ 18 = .bool true := hT 18 (by kernel_rfl)
                        have f20 := hT 20 (by kernel_rfl)
                        clear hT
                        refine .inl ⟨by rw [hmk]; simp [Region.wanted, yielded, e18], fun K hK => ?_⟩
                        rw [hmk] at hK ⊢
                        simp only [Act.put, List.setIfInBounds_toArray, List.set_cons_zero, List.set_cons_succ] at hK
                        rw [e18] at hK ⊢
                        clear e18
                        have HK := Aside0.mk hK
                        clear hK
                        obtain ⟨A_, c_, e_, _, _⟩ := Kd.R_reads f20
                        rw [e_] at HK ⊢
                        go_wp2
                        exact HK.out _ _ rfl (Below.refl _ _)
                      case s22 =>
                        intro σ W hI hT
                        obtain ⟨k10, k11, k12, _⟩ := (S1.out.below hI).cells; obtain ⟨k30, k31, k32, _⟩ := (S3.out.below hI).cells; obtain ⟨k50, k51, k52, _⟩ := (S5.out.below hI).cells; obtain ⟨k60, k61, k62, _⟩ := (S6.out.below hI).cells; obtain ⟨k70, k71, k72, _⟩ := (S7.out.below hI).cells
                        have e18 : σ 18 = .bool true := hT 18 (by kernel_rfl)
                        clear hT
                        refine .inl ⟨by rw [hmk]; simp [Region.wanted, yielded, e18], fun K hK => ?_⟩
                        rw [hmk] at hK ⊢
                        simp only [Act.put, List.setIfInBounds_toArray, List.set_cons_zero, List.set_cons_succ] at hK
                        rw [e18] at hK ⊢
                        clear e18
                        have HK := Aside0.mk hK
                        clear hK
                        go_wp2
                        exact HK.out _ _ rfl (Below.refl _ _)
                      case s23 =>
                        intro σ W hI hT
                        obtain ⟨k10, k11, k12, _⟩ := (S1.out.below hI).cells; obtain ⟨k30, k31, k32, _⟩ := (S3.out.below hI).cells; obtain ⟨k50, k51, k52, _⟩ := (S5.out.below hI).cells; obtain ⟨k60, k61, k62, _⟩ := (S6.out.below hI).cells; obtain ⟨k70, k71, k72, _⟩ := (S7.out.below hI).cells
                        have e18 : σ 18 = .bool true := hT 18 (by kernel_rfl)
                        have e21 : σ 21 = .int .i64 zall.length := hT 21 (by kernel_rfl)
                        have e22 : σ 22 = .int .i64 M := hT 22 (by kernel_rfl)
                        clear hT
                        refine .inl ⟨by rw [hmk]; simp [Region.wanted, yielded, e18], fun K hK => ?_⟩
                        rw [hmk] at hK ⊢
                        simp only [Act.put, List.setIfInBounds_toArray, List.set_cons_zero, List.set_cons_succ] at hK
                        rw [e18, e21, e22] at hK ⊢
                        clear e18 e21 e22
                        have HK := Aside0.mk hK
                        clear hK
                        have hs := HQQ.out.2.2.1
                        go_wp2
                        exact HK.out _ _ rfl (Below.refl _ _)
                      case s24 =>
                        intro σ W hI hT
                        obtain ⟨k10, k11, k12, _⟩ := (S1.out.below hI).cells; obtain ⟨k30, k31, k32, _⟩ := (S3.out.below hI).cells; obtain ⟨k50, k51, k52, _⟩ := (S5.out.below hI).cells; obtain ⟨k60, k61, k62, _⟩ := (S6.out.below hI).cells; obtain ⟨k70, k71, k72, _⟩ := (S7.out.below hI).cells
                        have e18 : σ 18 = .bool true := hT 18 (by kernel_rfl)
                        have e23 : σ 23 = .bool true := hT 23 (by kernel_rfl)
                        clear hT
                        refine .inl ⟨rfl, fun K hK => ?_⟩
                        rw [hmk] at hK ⊢
                        simp only [Act.put, List.setIfInBounds_toArray, List.set_cons_zero, List.set_cons_succ] at hK
                        rw [e18, e23] at hK ⊢
                        clear e18 e23
                        have HK := Aside0.mk hK
                        clear hK
                        go_wp2
                        exact HK.out _ _ rfl (Below.refl _ _)
                      case s25 =>
                        intro σ W hI hT
                        obtain ⟨k10, k11, k12, _⟩ := (S1.out.below hI).cells; obtain ⟨k30, k31, k32, _⟩ := (S3.out.below hI).cells; obtain ⟨k50, k51, k52, _⟩ := (S5.out.below hI).cells; obtain ⟨k60, k61, k62, _⟩ := (S6.out.below hI).cells; obtain ⟨k70, k71, k72, _⟩ := (S7.out.below hI).cells
                        have e24 : σ 24 = .bool true := hT 24 (by kernel_rfl)
                        clear hT
                        refine .inl ⟨rfl, fun K hK => ?_⟩
                        rw [hmk] at hK ⊢
                        simp only [Act.put, List.setIfInBounds_toArray, List.set_cons_zero, List.set_cons_succ] at hK
                        rw [e24] at hK ⊢
                        clear e24
                        have HK := Aside0.mk hK
                        clear hK
                        go_wp2
                        exact HK.out _ _ rfl (Below.refl _ _)
                      case s26 =>
                        intro σ W hI hT
                        obtain ⟨k10, k11, k12, _⟩ := (S1.out.below hI).cells; obtain ⟨k30, k31, k32, _⟩ := (S3.out.below hI).cells; obtain ⟨k50, k51, k52, _⟩ := (S5.out.below hI).cells; obtain ⟨k60, k61, k62, _⟩ := (S6.out.below hI).cells; obtain ⟨k70, k71, k72, _⟩ := (S7.out.below hI).cells
                        have e25 : σ 25 = .bool true := hT 25 (by kernel_rfl)
                        clear hT
                        refine .inl ⟨by rw [hmk]; simp [Region.wanted, yielded, e25], fun K hK => ?_⟩
                        rw [hmk] at hK ⊢
                        simp only [Act.put, List.setIfInBounds_toArray, List.set_cons_zero, List.set_cons_succ] at hK
                        rw [e25] at hK ⊢
                        clear e25
                        have HK := Aside0.mk hK
                        clear hK
                        go_wp2
                        exact HK.out _ _ rfl (Below.refl _ _)
                      case s27 =>
                        intro σ W hI hT
                        obtain ⟨k10, k11, k12, _⟩ := (S1.out.below hI).cells; obtain ⟨k30, k31, k32, _⟩ := (S3.out.below hI).cells; obtain ⟨k50, k51, k52, _⟩ := (S5.out.below hI).cells; obtain ⟨k60, k61, k62, _⟩ := (S6.out.below hI).cells; obtain ⟨k70, k71, k72, _⟩ := (S7.out.below hI).cells
                        have e25 : σ 25 = .bool true := hT 25 (by kernel_rfl)
                        have e26 : σ 26 = .agg #[.int .i64 M, .int .i64 (1 + ra % 3), .iface t7 u7] := hT 26 (by kernel_rfl)
                        clear hT
                        refine .inl ⟨by rw [hmk]; simp [Region.wanted, yielded, e25], fun K hK => ?_⟩
                        rw [hmk] at hK ⊢
                        simp only [Act.put, List.setIfInBounds_toArray, List.set_cons_zero, List.set_cons_succ] at hK
                        rw [e25, e26] at hK ⊢
                        clear e25 e26
                        have HK := Aside0.mk hK
                        clear hK
                        have hcon := list_any M (1 + ra % 3) (.iface t7 u7) ([] : List Int) W (Z7.out.below hI)
                        unfold setV at hcon
                        go_wp2_with (go_at_call 13; refine hcon.mono ?_; clear hcon; rintro e w' ⟨v, rfl, hr, hb⟩)
                        exact HK.out _ _ (rowI_own hr) hb
                      case s28 =>
                        intro σ W hI hT
                        obtain ⟨k10, k11, k12, _⟩ := (S1.out.below hI).cells; obtain ⟨k30, k31, k32, _⟩ := (S3.out.below hI).cells; obtain ⟨k50, k51, k52, _⟩ := (S5.out.below hI).cells; obtain ⟨k60, k61, k62, _⟩ := (S6.out.below hI).cells; obtain ⟨k70, k71, k72, _⟩ := (S7.out.below hI).cells
                        have e25 : σ 25 = .bool true := hT 25 (by kernel_rfl)
                        have f27 := hT 27 (by kernel_rfl)
                        clear hT
                        refine .inl ⟨by rw [hmk]; simp [Region.wanted, yielded, e25], fun K hK => ?_⟩
                        rw [hmk] at hK ⊢
                        simp only [Act.put, List.setIfInBounds_toArray, List.set_cons_zero, List.set_cons_succ] at hK
                        rw [e25] at hK ⊢
                        clear e25
                        have HK := Aside0.mk hK
                        clear hK
                        obtain ⟨A_, c_, e_, _, _⟩ := Kd.R_reads f27
                        rw [e_] at HK ⊢
                        go_wp2
                        exact HK.out _ _ rfl (Below.refl _ _)
                      case s29 =>
                        intro σ W hI hT
                        obtain ⟨k10, k11, k12, _⟩ := (S1.out.below hI).cells; obtain ⟨k30, k31, k32, _⟩ := (S3.out.below hI).cells; obtain ⟨k50, k51, k52, _⟩ := (S5.out.below hI).cells; obtain ⟨k60, k61, k62, _⟩ := (S6.out.below hI).cells; obtain ⟨k70, k71, k72, _⟩ := (S7.out.below hI).cells
                        have e25 : σ 25 = .bool true := hT 25 (by kernel_rfl)
                        have e28 : σ 28 = .int .i64 0 := hT 28 (by kernel_rfl)
                        clear hT
                        refine .inl ⟨by rw [hmk]; simp [Region.wanted, yielded, e25], fun K hK => ?_⟩
                        rw [hmk] at hK ⊢
                        simp only [Act.put, List.setIfInBounds_toArray, List.set_cons_zero, List.set_cons_succ] at hK
                        rw [e25, e28] at hK ⊢
                        clear e25 e28
                        have HK := Aside0.mk hK
                        clear hK
                        go_wp2
                        exact HK.out _ _ rfl (Below.refl _ _)
                      case s30 =>
                        intro σ W hI hT
                        obtain ⟨k10, k11, k12, _⟩ := (S1.out.below hI).cells; obtain ⟨k30, k31, k32, _⟩ := (S3.out.below hI).cells; obtain ⟨k50, k51, k52, _⟩ := (S5.out.below hI).cells; obtain ⟨k60, k61, k62, _⟩ := (S6.out.below hI).cells; obtain ⟨k70, k71, k72, _⟩ := (S7.out.below hI).cells
                        have e25 : σ 25 = .bool true := hT 25 (by kernel_rfl)
                        have e29 : σ 29 = .bool true := hT 29 (by kernel_rfl)
                        clear hT
                        refine .inl ⟨rfl, fun K hK => ?_⟩
                        rw [hmk] at hK ⊢
                        simp only [Act.put, List.setIfInBounds_toArray, List.set_cons_zero, List.set_cons_succ] at hK
                        rw [e25, e29] at hK ⊢
                        clear e25 e29
                        have HK := Aside0.mk hK
                        clear hK
                        go_wp2
                        exact HK.out _ _ rfl (Below.refl _ _)
                      case s31 =>
                        intro σ W hI hT
                        obtain ⟨k10, k11, k12, _⟩ := (S1.out.below hI).cells; obtain ⟨k30, k31, k32, _⟩ := (S3.out.below hI).cells; obtain ⟨k50, k51, k52, _⟩ := (S5.out.below hI).cells; obtain ⟨k60, k61, k62, _⟩ := (S6.out.below hI).cells; obtain ⟨k70, k71, k72, _⟩ := (S7.out.below hI).cells
                        have e30 : σ 30 = .bool true := hT 30 (by kernel_rfl)
                        clear hT
                        refine .inl ⟨rfl, fun K hK => ?_⟩
                        rw [hmk] at hK ⊢
                        simp only [Act.put, List.setIfInBounds_toArray, List.set_cons_zero, List.set_cons_succ] at hK
                        rw [e30] at hK ⊢
                        clear e30
                        have HK := Aside0.mk hK
                        clear hK
                        go_wp2
                        exact HK.out _ _ rfl (Below.refl _ _)
                    case done =>
                      intro mk hmk σ W hI hS hT
                      simp only [dstsOf, putAll, List.map_cons, List.map_nil, Nat.reduceAdd, Act.put, List.setIfInBounds_toArray, List.set_cons_zero, List.set_cons_succ] at hmk
                      rw [hmk]
                      have e31 : σ 31 = .bool true := hT 31 (by decide)
                      rw [e31]
                      clear hT e31
                      go_wp2_with (fail)
                      go_ret
                      exact ⟨rfl, HB.out.trans (hI.mono HB.out.size)⟩
end Go.Proofs.Ytbjdnfnolhahgaa.F.G
