/- PosRanks: the walk. -/
import Derived.Test.YtbjdnfnolhahgaaMod
namespace Go.Proofs.Ytbjdnfnolhahgaa.F
open Go.RowKit Go.Shelf Go.Proofs.YtbjdnfnolhahgaaW.PrintWords Go.Proofs.YtbjdnfnolhahgaaW.PrintLast Go.Proofs.YtbjdnfnolhahgaaW.PrintMore
set_option linter.unusedVariables false
attribute [local go_sem] run_store_wv
set_option maxRecDepth 100000 in
set_option maxHeartbeats 4000000 in
theorem posRanks (n rep : Int) (A : Option Addr) (c : Nat) (l : List Int) (w : World) (hn0 : 0 ≤ n) (hn1 : n ≤ 255) (hr0 : 0 ≤ rep) (hr1 : rep ≤ 255) (hl : l.length ≤ 1048576) (hc : l.length ≤ c) (hA : ArgOf .u8 w A l) (hb : ∀ x ∈ l, 0 ≤ x ∧ x ≤ 255) :
    Calls Try.prog 3 #[.int .u8 n, .slice A l.length c, .int .u8 rep] w fun e w' => e = .returned (.bool true) ∧ Below w.heap.size w w' := by
  have hu28 := Try.underlying28
  have HC := Aside0.mk (hA.C (by omega))
  clear hA
  have HL := Aside0.mk hl
  have HE := Aside0.mk hb
  clear hl hb
  go_enter Try.func3, Try.ntmps3
  go_wp2_with (go_at_call 10; refine (shown_any w).mono ?_; rintro e w1 ⟨rfl, hB1⟩; have HB := Aside0.mk hB1; clear hB1)
  generalize hK : 1 + n = M at *
  have HK := Aside0.mk (show 1 ≤ M ∧ M ≤ 256 by omega)
  go_loopg [9, 10] l.length (fun kq va vi w' => ∃ (x : Int) (zs : List Int), vi = .int .i64 x ∧ Aside0 (0 ≤ x ∧ x + kq = l.length ∧ zs = (l.take x.toNat).map (· % M)) ∧ Aside0 ((Kd.int .i64).R 3 w' w.heap.size (fun _ => True) va zs) ∧ Aside0 (Below w.heap.size w w'))
  case atStart => exact ⟨0, [], rfl, ⟨by simp⟩, ⟨Kd.R_nil _ _ _ _ _⟩, HB⟩
  case round =>
    clear HB
    obtain ⟨x, zs, rfl, HX, HO, HB⟩ := hrel
    by_cases c3 : x < (l.length : Int)
    · cases gk with
      | zero => have := HX.out; omega
      | succ k1 =>
        have c3b : decide (x < (l.length : Int)) = true := decide_eq_true c3
        have p2 : 0 ≤ x := HX.out.1
        obtain ⟨ad, e_, hx⟩ := Kd.at_int HC.out x p2 c3
        cases e_
        replace hx := (HB.out.cell (World.block_lt_of_cell? w _ hx)).trans hx
        obtain ⟨he0, he1⟩ := HE.out _ (rd_mem p2 c3)
        have hk1 := HK.out.1
        have hk2 := HK.out.2
        have hlen : zs.length ≤ l.length := by rw [HX.out.2.2]; simp; omega
        have q2 := eq_true c3
        replace p2 := eq_true p2
        clear c3
        go_wp2_with ((with_reducible refine gate_builtin (b := .append) (xs := #[.tmp 25, .tmp 33]) rfl ?_); at_builtin; refine Kd.R_append (Kd.int .i64) (w0 := w) w.heap.size rfl (.tmp 25) (.tmp 33) 24 3 (.int .i64 0) 8 rfl Try.underlying24 info3 rfl (by decide) (by omega) u9 zs (rd l x % M) [.int .i64 (rd l x % M)] (fun _ => True) (fun _ => False) rfl rfl ?aP (fun _ hk => hk.elim) ?aF ?aO ?aB ?aS ?aL ?_; (case aP => exact rfl); (case aB => first | exact HB.out | exact below_alloc HB.out _); (case aF => exact (fun _ _ => trivial)); (case aO => first | exact HO.out | exact Kd.R_alloc HO.out _); (case aS => first | exact below_size HB.out | exact below_size (below_alloc HB.out _)); (case aL => have := HL.out; omega); intro vnew w9 ho hb hg hat; replace HB := Aside0.mk hb; replace HO := Aside0.mk ho; clear ho hb hg hat)
        go_roundg k1
        case measure => omega
        case rel =>
          refine ⟨wrap64 (x + 1), zs ++ [rd l x % M], rfl, ⟨?_⟩, HO, HB⟩
          have hx9 := HX.out
          have hl9 := HL.out
          have e1 : wrap64 (x + 1) = x + 1 := Go.IntWalk.wrap64_in _ (by omega)
          have q3 : x < (l.length : Int) := of_eq_true q2
          rw [e1]
          refine ⟨by omega, by omega, ?_⟩
          rw [hx9.2.2, show (x + 1).toNat = x.toNat + 1 from by omega, List.take_succ_eq_append_getElem (by omega), List.map_append, List.map_cons, List.map_nil]
          congr 2
          unfold rd
          rw [List.getD_eq_getElem?_getD, List.getElem?_eq_getElem (by omega)]
          rfl
    · have c3b : decide (x < (l.length : Int)) = false := decide_eq_false c3
      have hz : zs = l.map (· % M) := by rw [HX.out.2.2, List.take_of_length_le (by have := HX.out; omega)]
      subst hz
      clear HX c3
      obtain ⟨A9, c9, rfl, hc9, hC9⟩ := Kd.R_reads HO.out
      have hA9 := intArg_C hC9
      clear hC9
      obtain ⟨m, hm⟩ : ∃ m, (l.map (· % M)).take 300 = m := ⟨_, rfl⟩
      have hout := out_mod HK.out.1 hm
      have hml : m.length ≤ 300 := by rw [← hm, List.length_take]; omega
      have hfew := few_any A9 c9 (l.map (· % M)) wr hc9 hA9
      have HA := Aside0.mk (hA9.take 300)
      rw [hm] at hfew HA
      clear hm hA9 HO hc9
      generalize hlm : (l.map (· % M)).length = lm at *
      clear hlm
      go_wp2_with (fail)
      refine hfew.mono ?_
      clear hfew
      rintro e w' ⟨⟨d, rfl, hd⟩, rfl⟩
      go_wp2_with (fail)
      generalize hr : 1 + rep % 3 = r at *
      have hof := of_any M r A9 d m wr (by omega) HA.out (fit_mod HK.out.1 HK.out.2 (by omega) (by omega)) hout
      have hris := rising_filt M (inZ m)
      clear hr hout hml
      generalize filt M (inZ m) = zs at *
      refine hof.mono ?_
      clear hof
      rintro e w2 ⟨t, u, he, hS, hb⟩
      unfold setV at he
      subst he
      replace HB := Aside0.mk (HB.out.trans (hb.mono HB.out.size))
      replace HA := Aside0.mk (HA.out.below hb)
      clear hb
      have Z := Aside0.mk (hS)
      clear hS
      go_wp2_with (fail)
      refine calls_gen (fun W => Below w2.heap.size w2 W ∧ SBox W w2.heap.size (.int .i64 M) (.int .i64 r) (.iface t u)) ⟨(Below.refl _ _).alloc (Nat.le_refl _) _, SBox.new w2 _ _ _⟩ ?_
      rintro w3 ⟨hb, hbox⟩
      replace HB := Aside0.mk (HB.out.trans (hb.mono HB.out.size))
      replace HA := Aside0.mk (HA.out.below hb)
      replace Z := Aside0.mk (Z.out.below hb)
      clear hb
      have S := Aside0.mk (hbox)
      clear hbox
      refine (list_any M r (.iface t u) zs w3 Z.out).mono ?_
      rintro e w4 ⟨v4, rfl, hr4, hb⟩
      replace HB := Aside0.mk (HB.out.trans (hb.mono HB.out.size))
      replace HA := Aside0.mk (HA.out.below hb)
      replace Z := Aside0.mk (Z.out.below hb)
      replace S := Aside0.mk (S.out.below hb)
      clear hb
      have hr4' := rowI_own hr4
      obtain ⟨A4, c4, rfl, hc4, _⟩ := Kd.R_reads hr4'
      have O := Aside0.mk (hr4')
      clear hr4 hr4'
      have HR := Aside0.mk hris
      clear hris
      go_wp2_with (fail)
      go_loopg [14] zs.length (fun kq vi w' => ∃ (x : Int), vi = .int .i64 x ∧ Aside0 (0 ≤ x ∧ x + kq = zs.length) ∧ Aside0 (Below w.heap.size w w') ∧ Aside0 (IsSet w' M r (.iface t u) zs) ∧ Aside0 (SBox w' w2.heap.size (.int .i64 M) (.int .i64 r) (.iface t u)) ∧ Aside0 ((Kd.int .i64).R 3 w' 0 (fun _ => True) (.slice A4 zs.length c4) zs))
      case atStart => exact ⟨0, rfl, ⟨by omega⟩, HB, Z, S, O⟩
      case round =>
        clear HB Z S O HA
        obtain ⟨x, rfl, HX, HB, Z, S, O⟩ := hrel
        have HN := Aside0.mk Z.out.n1
        have HZ := Aside0.mk Z.out.rising.length
        by_cases c3 : x < (zs.length : Int)
        · cases gk with
          | zero => have := HX.out; omega
          | succ k1 =>
            have HY := Aside0.mk (And.intro HX.out.1 c3)
            have c3b : decide (x < (zs.length : Int)) = true := decide_eq_true c3
            have c3c := eq_true c3
            clear c3
            by_cases hq4 : 0 < x
            · have HQ := Aside0.mk hq4
              go_wp2_with (fail)
              refine wp_region_still (t := 28) (by kernel_rfl) [Fact.eq (.agg #[.int .i64 M, .int .i64 r, .iface t u]), Fact.eq (.slice A4 zs.length c4), Fact.eq (.int .i64 x), Fact.eq (.pointer (some ((A4.getD ⟨0, 0, none⟩).add x.toNat))), Fact.eq (.int .i64 (rd zs x)), Fact.eq (.int .i64 x), Fact.eq (.int .i64 x), Fact.eq (.bool false), Fact.eq (.bool false), Fact.eq (.agg #[.int .i64 M, .int .i64 r, .iface t u]), Fact.eq (.slice A4 zs.length c4), Fact.eq (.int .i64 x), Fact.eq (.pointer (some ((A4.getD ⟨0, 0, none⟩).add x.toNat))), Fact.eq (.int .i64 (rd zs x)), Fact.eq (.bool true), Fact.eq (.bool false), Fact.eq (.bool false), Fact.eq (.bool false), Fact.eq (.int .i64 x), Fact.eq (.bool true), Fact.eq (.bool true), Fact.eq (.slice A4 zs.length c4), Fact.eq (.int .i64 x), Fact.eq (.pointer (some ((A4.getD ⟨0, 0, none⟩).add x.toNat))), Fact.eq (.int .i64 (rd zs x)), Fact.eq (.slice A4 zs.length c4), Fact.eq (.int .i64 x), Fact.eq (.int .i64 (x - 1)), Fact.eq (.pointer (some ((A4.getD ⟨0, 0, none⟩).add (x.toNat - 1)))), Fact.eq (.int .i64 (rd zs (x - 1))), Fact.eq (.bool false), Fact.eq (.bool false), Fact.eq (.bool false)]
                (fun W => Below w.heap.size w W ∧ IsSet W M r (.iface t u) zs ∧ SBox W w2.heap.size (.int .i64 M) (.int .i64 r) (.iface t u) ∧ (Kd.int .i64).R 3 W 0 (fun _ => True) (.slice A4 zs.length c4) zs)
                (fun _ => True) 33 (by kernel_rfl) (by kernel_rfl) ?I0 ?I1 ?S1 ?steps ?done
              case I0 => exact ⟨HB.out.drew, Z.out.below ((Below.refl _ _).drew), S.out.below ((Below.refl _ _).drew), rowI_below O.out ((Below.refl _ _).drew)⟩
              case I1 => exact fun W W' ⟨h1, h2, h3, h4⟩ hB => ⟨h1.trans (hB.mono h1.size), h2.below hB, h3.below hB, rowI_below h4 hB⟩
              case S1 => exact fun _ _ _ _ => trivial
              case steps =>
                intro mk hmk
                simp only [dstsOf, putAll, List.map_cons, List.map_nil, Nat.reduceAdd, Act.put, List.setIfInBounds_toArray, List.set_cons_zero, List.set_cons_succ] at hmk
                refine Steps.cons (i := 0) rfl ?s0 (Steps.cons (i := 1) rfl ?s1 (Steps.cons (i := 2) rfl ?s2 (Steps.cons (i := 3) rfl ?s3 (Steps.cons (i := 4) rfl ?s4 (Steps.cons (i := 5) rfl ?s5 (Steps.cons (i := 6) rfl ?s6 (Steps.cons (i := 7) rfl ?s7 (Steps.cons (i := 8) rfl ?s8 (Steps.cons (i := 9) rfl ?s9 (Steps.cons (i := 10) rfl ?s10 (Steps.cons (i := 11) rfl ?s11 (Steps.cons (i := 12) rfl ?s12 (Steps.cons (i := 13) rfl ?s13 (Steps.cons (i := 14) rfl ?s14 (Steps.cons (i := 15) rfl ?s15 (Steps.cons (i := 16) rfl ?s16 (Steps.cons (i := 17) rfl ?s17 (Steps.cons (i := 18) rfl ?s18 (Steps.cons (i := 19) rfl ?s19 (Steps.cons (i := 20) rfl ?s20 (Steps.cons (i := 21) rfl ?s21 (Steps.cons (i := 22) rfl ?s22 (Steps.cons (i := 23) rfl ?s23 (Steps.cons (i := 24) rfl ?s24 (Steps.cons (i := 25) rfl ?s25 (Steps.cons (i := 26) rfl ?s26 (Steps.cons (i := 27) rfl ?s27 (Steps.cons (i := 28) rfl ?s28 (Steps.cons (i := 29) rfl ?s29 (Steps.cons (i := 30) rfl ?s30 (Steps.cons (i := 31) rfl ?s31 (Steps.cons (i := 32) rfl ?s32 (Steps.nil)))))))))))))))))))))))))))))))))
                case s0 =>
                  intro σ W hI hT
                  obtain ⟨hB, hZ, hS, hR⟩ := hI; obtain ⟨k0, k1, k2, _⟩ := hS.cells; have hC := (Kd.R_reads' hR).2.2
                  clear hT
                  refine .inl ⟨rfl, fun K hK => ?_⟩
                  rw [hmk] at hK ⊢
                  simp only [Act.put, List.setIfInBounds_toArray, List.set_cons_zero, List.set_cons_succ] at hK
                  have HK := Aside0.mk hK
                  clear hK
                  go_wp2
                  exact HK.out _ _ rfl (Below.refl _ _)
                case s1 =>
                  intro σ W hI hT
                  obtain ⟨hB, hZ, hS, hR⟩ := hI; obtain ⟨k0, k1, k2, _⟩ := hS.cells; have hC := (Kd.R_reads' hR).2.2
                  clear hT
                  refine .inl ⟨rfl, fun K hK => ?_⟩
                  rw [hmk] at hK ⊢
                  simp only [Act.put, List.setIfInBounds_toArray, List.set_cons_zero, List.set_cons_succ] at hK
                  have HK := Aside0.mk hK
                  clear hK
                  go_wp2
                  exact HK.out _ _ rfl (Below.refl _ _)
                case s2 =>
                  intro σ W hI hT
                  obtain ⟨hB, hZ, hS, hR⟩ := hI; obtain ⟨k0, k1, k2, _⟩ := hS.cells; have hC := (Kd.R_reads' hR).2.2
                  clear hT
                  refine .inl ⟨rfl, fun K hK => ?_⟩
                  rw [hmk] at hK ⊢
                  simp only [Act.put, List.setIfInBounds_toArray, List.set_cons_zero, List.set_cons_succ] at hK
                  have HK := Aside0.mk hK
                  clear hK
                  go_wp2
                  exact HK.out _ _ rfl (Below.refl _ _)
                case s3 =>
                  intro σ W hI hT
                  obtain ⟨hB, hZ, hS, hR⟩ := hI; obtain ⟨k0, k1, k2, _⟩ := hS.cells; have hC := (Kd.R_reads' hR).2.2
                  have e1 : σ 1 = .slice A4 zs.length c4 := hT 1 (by kernel_rfl)
                  have e2 : σ 2 = .int .i64 x := hT 2 (by kernel_rfl)
                  clear hT
                  refine .inl ⟨rfl, fun K hK => ?_⟩
                  rw [hmk] at hK ⊢
                  simp only [Act.put, List.setIfInBounds_toArray, List.set_cons_zero, List.set_cons_succ] at hK
                  rw [e1, e2] at hK ⊢
                  clear e1 e2
                  have HK := Aside0.mk hK
                  clear hK
                  have hp := HY.out
                  obtain ⟨ad, e_, hx⟩ := Kd.at_int hC x hp.1 hp.2
                  cases e_
                  have p2 := eq_true hp.1
                  have q2 := eq_true hp.2
                  go_wp2
                  exact HK.out _ _ rfl (Below.refl _ _)
                case s4 =>
                  intro σ W hI hT
                  obtain ⟨hB, hZ, hS, hR⟩ := hI; obtain ⟨k0, k1, k2, _⟩ := hS.cells; have hC := (Kd.R_reads' hR).2.2
                  have e3 : σ 3 = .pointer (some ((A4.getD ⟨0, 0, none⟩).add x.toNat)) := hT 3 (by kernel_rfl)
                  clear hT
                  refine .inl ⟨rfl, fun K hK => ?_⟩
                  rw [hmk] at hK ⊢
                  simp only [Act.put, List.setIfInBounds_toArray, List.set_cons_zero, List.set_cons_succ] at hK
                  rw [e3] at hK ⊢
                  clear e3
                  have HK := Aside0.mk hK
                  clear hK
                  have hp := HY.out
                  obtain ⟨ad, e_, hx⟩ := Kd.at_int hC x hp.1 hp.2
                  cases e_
                  have p2 := eq_true hp.1
                  have q2 := eq_true hp.2
                  go_wp2
                  exact HK.out _ _ rfl (Below.refl _ _)
                case s5 =>
                  intro σ W hI hT
                  obtain ⟨hB, hZ, hS, hR⟩ := hI; obtain ⟨k0, k1, k2, _⟩ := hS.cells; have hC := (Kd.R_reads' hR).2.2
                  have e0 : σ 0 = .agg #[.int .i64 M, .int .i64 r, .iface t u] := hT 0 (by kernel_rfl)
                  have e4 : σ 4 = .int .i64 (rd zs x) := hT 4 (by kernel_rfl)
                  clear hT
                  refine .inl ⟨rfl, fun K hK => ?_⟩
                  rw [hmk] at hK ⊢
                  simp only [Act.put, List.setIfInBounds_toArray, List.set_cons_zero, List.set_cons_succ] at hK
                  rw [e0, e4] at hK ⊢
                  clear e0 e4
                  have HK := Aside0.mk hK
                  clear hK
                  have hcon := rank_any M r (rd zs x) (.iface t u) zs W hZ
                  rw [rank_self hZ.rising.1 HY.out.1 HY.out.2] at hcon
                  unfold setV at hcon
                  go_wp2_with (go_at_call 14; refine hcon.mono ?_; clear hcon; rintro e w' ⟨rfl, hb⟩)
                  exact HK.out _ _ rfl hb
                case s6 =>
                  intro σ W hI hT
                  obtain ⟨hB, hZ, hS, hR⟩ := hI; obtain ⟨k0, k1, k2, _⟩ := hS.cells; have hC := (Kd.R_reads' hR).2.2
                  clear hT
                  refine .inl ⟨rfl, fun K hK => ?_⟩
                  rw [hmk] at hK ⊢
                  simp only [Act.put, List.setIfInBounds_toArray, List.set_cons_zero, List.set_cons_succ] at hK
                  have HK := Aside0.mk hK
                  clear hK
                  go_wp2
                  exact HK.out _ _ rfl (Below.refl _ _)
                case s7 =>
                  intro σ W hI hT
                  obtain ⟨hB, hZ, hS, hR⟩ := hI; obtain ⟨k0, k1, k2, _⟩ := hS.cells; have hC := (Kd.R_reads' hR).2.2
                  have e5 : σ 5 = .int .i64 x := hT 5 (by kernel_rfl)
                  have e6 : σ 6 = .int .i64 x := hT 6 (by kernel_rfl)
                  clear hT
                  refine .inl ⟨rfl, fun K hK => ?_⟩
                  rw [hmk] at hK ⊢
                  simp only [Act.put, List.setIfInBounds_toArray, List.set_cons_zero, List.set_cons_succ] at hK
                  rw [e5, e6] at hK ⊢
                  clear e5 e6
                  have HK := Aside0.mk hK
                  clear hK
                  go_wp2
                  exact HK.out _ _ rfl (Below.refl _ _)
                case s8 =>
                  intro σ W hI hT
                  obtain ⟨hB, hZ, hS, hR⟩ := hI; obtain ⟨k0, k1, k2, _⟩ := hS.cells; have hC := (Kd.R_reads' hR).2.2
                  have e7 : σ 7 = .bool false := hT 7 (by kernel_rfl)
                  clear hT
                  refine .inl ⟨rfl, fun K hK => ?_⟩
                  rw [hmk] at hK ⊢
                  simp only [Act.put, List.setIfInBounds_toArray, List.set_cons_zero, List.set_cons_succ] at hK
                  rw [e7] at hK ⊢
                  clear e7
                  have HK := Aside0.mk hK
                  clear hK
                  go_wp2
                  exact HK.out _ _ rfl (Below.refl _ _)
                case s9 =>
                  intro σ W hI hT
                  obtain ⟨hB, hZ, hS, hR⟩ := hI; obtain ⟨k0, k1, k2, _⟩ := hS.cells; have hC := (Kd.R_reads' hR).2.2
                  have e8 : σ 8 = .bool false := hT 8 (by kernel_rfl)
                  clear hT
                  refine .inl ⟨by rw [hmk]; simp [Region.wanted, yielded, e8], fun K hK => ?_⟩
                  rw [hmk] at hK ⊢
                  simp only [Act.put, List.setIfInBounds_toArray, List.set_cons_zero, List.set_cons_succ] at hK
                  rw [e8] at hK ⊢
                  clear e8
                  have HK := Aside0.mk hK
                  clear hK
                  go_wp2
                  exact HK.out _ _ rfl (Below.refl _ _)
                case s10 =>
                  intro σ W hI hT
                  obtain ⟨hB, hZ, hS, hR⟩ := hI; obtain ⟨k0, k1, k2, _⟩ := hS.cells; have hC := (Kd.R_reads' hR).2.2
                  have e8 : σ 8 = .bool false := hT 8 (by kernel_rfl)
                  clear hT
                  refine .inl ⟨by rw [hmk]; simp [Region.wanted, yielded, e8], fun K hK => ?_⟩
                  rw [hmk] at hK ⊢
                  simp only [Act.put, List.setIfInBounds_toArray, List.set_cons_zero, List.set_cons_succ] at hK
                  rw [e8] at hK ⊢
                  clear e8
                  have HK := Aside0.mk hK
                  clear hK
                  go_wp2
                  exact HK.out _ _ rfl (Below.refl _ _)
                case s11 =>
                  intro σ W hI hT
                  obtain ⟨hB, hZ, hS, hR⟩ := hI; obtain ⟨k0, k1, k2, _⟩ := hS.cells; have hC := (Kd.R_reads' hR).2.2
                  have e8 : σ 8 = .bool false := hT 8 (by kernel_rfl)
                  clear hT
                  refine .inl ⟨by rw [hmk]; simp [Region.wanted, yielded, e8], fun K hK => ?_⟩
                  rw [hmk] at hK ⊢
                  simp only [Act.put, List.setIfInBounds_toArray, List.set_cons_zero, List.set_cons_succ] at hK
                  rw [e8] at hK ⊢
                  clear e8
                  have HK := Aside0.mk hK
                  clear hK
                  go_wp2
                  exact HK.out _ _ rfl (Below.refl _ _)
                case s12 =>
                  intro σ W hI hT
                  obtain ⟨hB, hZ, hS, hR⟩ := hI; obtain ⟨k0, k1, k2, _⟩ := hS.cells; have hC := (Kd.R_reads' hR).2.2
                  have e8 : σ 8 = .bool false := hT 8 (by kernel_rfl)
                  have e10 : σ 10 = .slice A4 zs.length c4 := hT 10 (by kernel_rfl)
                  have e11 : σ 11 = .int .i64 x := hT 11 (by kernel_rfl)
                  clear hT
                  refine .inl ⟨by rw [hmk]; simp [Region.wanted, yielded, e8], fun K hK => ?_⟩
                  rw [hmk] at hK ⊢
                  simp only [Act.put, List.setIfInBounds_toArray, List.set_cons_zero, List.set_cons_succ] at hK
                  rw [e8, e10, e11] at hK ⊢
                  clear e8 e10 e11
                  have HK := Aside0.mk hK
                  clear hK
                  have hp := HY.out
                  obtain ⟨ad, e_, hx⟩ := Kd.at_int hC x hp.1 hp.2
                  cases e_
                  have p2 := eq_true hp.1
                  have q2 := eq_true hp.2
                  go_wp2
                  exact HK.out _ _ rfl (Below.refl _ _)
                case s13 =>
                  intro σ W hI hT
                  obtain ⟨hB, hZ, hS, hR⟩ := hI; obtain ⟨k0, k1, k2, _⟩ := hS.cells; have hC := (Kd.R_reads' hR).2.2
                  have e8 : σ 8 = .bool false := hT 8 (by kernel_rfl)
                  have e12 : σ 12 = .pointer (some ((A4.getD ⟨0, 0, none⟩).add x.toNat)) := hT 12 (by kernel_rfl)
                  clear hT
                  refine .inl ⟨by rw [hmk]; simp [Region.wanted, yielded, e8], fun K hK => ?_⟩
                  rw [hmk] at hK ⊢
                  simp only [Act.put, List.setIfInBounds_toArray, List.set_cons_zero, List.set_cons_succ] at hK
                  rw [e8, e12] at hK ⊢
                  clear e8 e12
                  have HK := Aside0.mk hK
                  clear hK
                  have hp := HY.out
                  obtain ⟨ad, e_, hx⟩ := Kd.at_int hC x hp.1 hp.2
                  cases e_
                  have p2 := eq_true hp.1
                  have q2 := eq_true hp.2
                  go_wp2
                  exact HK.out _ _ rfl (Below.refl _ _)
                case s14 =>
                  intro σ W hI hT
                  obtain ⟨hB, hZ, hS, hR⟩ := hI; obtain ⟨k0, k1, k2, _⟩ := hS.cells; have hC := (Kd.R_reads' hR).2.2
                  have e8 : σ 8 = .bool false := hT 8 (by kernel_rfl)
                  have e9 : σ 9 = .agg #[.int .i64 M, .int .i64 r, .iface t u] := hT 9 (by kernel_rfl)
                  have e13 : σ 13 = .int .i64 (rd zs x) := hT 13 (by kernel_rfl)
                  clear hT
                  refine .inl ⟨by rw [hmk]; simp [Region.wanted, yielded, e8], fun K hK => ?_⟩
                  rw [hmk] at hK ⊢
                  simp only [Act.put, List.setIfInBounds_toArray, List.set_cons_zero, List.set_cons_succ] at hK
                  rw [e8, e9, e13] at hK ⊢
                  clear e8 e9 e13
                  have HK := Aside0.mk hK
                  clear hK
                  have hcon := has_any (rd zs x) M r (.iface t u) zs W hZ
                  rw [decide_eq_true (rd_mem HY.out.1 HY.out.2)] at hcon
                  unfold setV at hcon
                  go_wp2_with (go_at_call 15; refine hcon.mono ?_; clear hcon; rintro e w' ⟨rfl, hb⟩)
                  exact HK.out _ _ rfl hb
                case s15 =>
                  intro σ W hI hT
                  obtain ⟨hB, hZ, hS, hR⟩ := hI; obtain ⟨k0, k1, k2, _⟩ := hS.cells; have hC := (Kd.R_reads' hR).2.2
                  have e8 : σ 8 = .bool false := hT 8 (by kernel_rfl)
                  have e14 : σ 14 = .bool true := hT 14 (by kernel_rfl)
                  clear hT
                  refine .inl ⟨by rw [hmk]; simp [Region.wanted, yielded, e8], fun K hK => ?_⟩
                  rw [hmk] at hK ⊢
                  simp only [Act.put, List.setIfInBounds_toArray, List.set_cons_zero, List.set_cons_succ] at hK
                  rw [e8, e14] at hK ⊢
                  clear e8 e14
                  have HK := Aside0.mk hK
                  clear hK
                  go_wp2
                  exact HK.out _ _ rfl (Below.refl _ _)
                case s16 =>
                  intro σ W hI hT
                  obtain ⟨hB, hZ, hS, hR⟩ := hI; obtain ⟨k0, k1, k2, _⟩ := hS.cells; have hC := (Kd.R_reads' hR).2.2
                  have e8 : σ 8 = .bool false := hT 8 (by kernel_rfl)
                  have e15 : σ 15 = .bool false := hT 15 (by kernel_rfl)
                  clear hT
                  refine .inl ⟨rfl, fun K hK => ?_⟩
                  rw [hmk] at hK ⊢
                  simp only [Act.put, List.setIfInBounds_toArray, List.set_cons_zero, List.set_cons_succ] at hK
                  rw [e8, e15] at hK ⊢
                  clear e8 e15
                  have HK := Aside0.mk hK
                  clear hK
                  go_wp2
                  exact HK.out _ _ rfl (Below.refl _ _)
                case s17 =>
                  intro σ W hI hT
                  obtain ⟨hB, hZ, hS, hR⟩ := hI; obtain ⟨k0, k1, k2, _⟩ := hS.cells; have hC := (Kd.R_reads' hR).2.2
                  have e16 : σ 16 = .bool false := hT 16 (by kernel_rfl)
                  clear hT
                  refine .inl ⟨rfl, fun K hK => ?_⟩
                  rw [hmk] at hK ⊢
                  simp only [Act.put, List.setIfInBounds_toArray, List.set_cons_zero, List.set_cons_succ] at hK
                  rw [e16] at hK ⊢
                  clear e16
                  have HK := Aside0.mk hK
                  clear hK
                  go_wp2
                  exact HK.out _ _ rfl (Below.refl _ _)
                case s18 =>
                  intro σ W hI hT
                  obtain ⟨hB, hZ, hS, hR⟩ := hI; obtain ⟨k0, k1, k2, _⟩ := hS.cells; have hC := (Kd.R_reads' hR).2.2
                  have e17 : σ 17 = .bool false := hT 17 (by kernel_rfl)
                  clear hT
                  refine .inl ⟨by rw [hmk]; simp [Region.wanted, yielded, e17], fun K hK => ?_⟩
                  rw [hmk] at hK ⊢
                  simp only [Act.put, List.setIfInBounds_toArray, List.set_cons_zero, List.set_cons_succ] at hK
                  rw [e17] at hK ⊢
                  clear e17
                  have HK := Aside0.mk hK
                  clear hK
                  go_wp2
                  exact HK.out _ _ rfl (Below.refl _ _)
                case s19 =>
                  intro σ W hI hT
                  obtain ⟨hB, hZ, hS, hR⟩ := hI; obtain ⟨k0, k1, k2, _⟩ := hS.cells; have hC := (Kd.R_reads' hR).2.2
                  have e17 : σ 17 = .bool false := hT 17 (by kernel_rfl)
                  have e18 : σ 18 = .int .i64 x := hT 18 (by kernel_rfl)
                  clear hT
                  refine .inl ⟨by rw [hmk]; simp [Region.wanted, yielded, e17], fun K hK => ?_⟩
                  rw [hmk] at hK ⊢
                  simp only [Act.put, List.setIfInBounds_toArray, List.set_cons_zero, List.set_cons_succ] at hK
                  rw [e17, e18] at hK ⊢
                  clear e17 e18
                  have HK := Aside0.mk hK
                  clear hK
                  have hq := HQ.out
                  go_wp2
                  exact HK.out _ _ rfl (Below.refl _ _)
                case s20 =>
                  intro σ W hI hT
                  obtain ⟨hB, hZ, hS, hR⟩ := hI; obtain ⟨k0, k1, k2, _⟩ := hS.cells; have hC := (Kd.R_reads' hR).2.2
                  have e17 : σ 17 = .bool false := hT 17 (by kernel_rfl)
                  have e19 : σ 19 = .bool true := hT 19 (by kernel_rfl)
                  clear hT
                  refine .inl ⟨by rw [hmk]; simp [Region.wanted, yielded, e17], fun K hK => ?_⟩
                  rw [hmk] at hK ⊢
                  simp only [Act.put, List.setIfInBounds_toArray, List.set_cons_zero, List.set_cons_succ] at hK
                  rw [e17, e19] at hK ⊢
                  clear e17 e19
                  have HK := Aside0.mk hK
                  clear hK
                  go_wp2
                  exact HK.out _ _ rfl (Below.refl _ _)
                case s21 =>
                  intro σ W hI hT
                  obtain ⟨hB, hZ, hS, hR⟩ := hI; obtain ⟨k0, k1, k2, _⟩ := hS.cells; have hC := (Kd.R_reads' hR).2.2
                  have e20 : σ 20 = .bool true := hT 20 (by kernel_rfl)
                  clear hT
                  refine .inl ⟨by rw [hmk]; simp [Region.wanted, yielded, e20], fun K hK => ?_⟩
                  rw [hmk] at hK ⊢
                  simp only [Act.put, List.setIfInBounds_toArray, List.set_cons_zero, List.set_cons_succ] at hK
                  rw [e20] at hK ⊢
                  clear e20
                  have HK := Aside0.mk hK
                  clear hK
                  go_wp2
                  exact HK.out _ _ rfl (Below.refl _ _)
                case s22 =>
                  intro σ W hI hT
                  obtain ⟨hB, hZ, hS, hR⟩ := hI; obtain ⟨k0, k1, k2, _⟩ := hS.cells; have hC := (Kd.R_reads' hR).2.2
                  have e20 : σ 20 = .bool true := hT 20 (by kernel_rfl)
                  clear hT
                  refine .inl ⟨by rw [hmk]; simp [Region.wanted, yielded, e20], fun K hK => ?_⟩
                  rw [hmk] at hK ⊢
                  simp only [Act.put, List.setIfInBounds_toArray, List.set_cons_zero, List.set_cons_succ] at hK
                  rw [e20] at hK ⊢
                  clear e20
                  have HK := Aside0.mk hK
                  clear hK
                  go_wp2
                  exact HK.out _ _ rfl (Below.refl _ _)
                case s23 =>
                  intro σ W hI hT
                  obtain ⟨hB, hZ, hS, hR⟩ := hI; obtain ⟨k0, k1, k2, _⟩ := hS.cells; have hC := (Kd.R_reads' hR).2.2
                  have e20 : σ 20 = .bool true := hT 20 (by kernel_rfl)
                  have e21 : σ 21 = .slice A4 zs.length c4 := hT 21 (by kernel_rfl)
                  have e22 : σ 22 = .int .i64 x := hT 22 (by kernel_rfl)
                  clear hT
                  refine .inl ⟨by rw [hmk]; simp [Region.wanted, yielded, e20], fun K hK => ?_⟩
                  rw [hmk] at hK ⊢
                  simp only [Act.put, List.setIfInBounds_toArray, List.set_cons_zero, List.set_cons_succ] at hK
                  rw [e20, e21, e22] at hK ⊢
                  clear e20 e21 e22
                  have HK := Aside0.mk hK
                  clear hK
                  have hp := HY.out
                  obtain ⟨ad, e_, hx⟩ := Kd.at_int hC x hp.1 hp.2
                  cases e_
                  have p2 := eq_true hp.1
                  have q2 := eq_true hp.2
                  go_wp2
                  exact HK.out _ _ rfl (Below.refl _ _)
                case s24 =>
                  intro σ W hI hT
                  obtain ⟨hB, hZ, hS, hR⟩ := hI; obtain ⟨k0, k1, k2, _⟩ := hS.cells; have hC := (Kd.R_reads' hR).2.2
                  have e20 : σ 20 = .bool true := hT 20 (by kernel_rfl)
                  have e23 : σ 23 = .pointer (some ((A4.getD ⟨0, 0, none⟩).add x.toNat)) := hT 23 (by kernel_rfl)
                  clear hT
                  refine .inl ⟨by rw [hmk]; simp [Region.wanted, yielded, e20], fun K hK => ?_⟩
                  rw [hmk] at hK ⊢
                  simp only [Act.put, List.setIfInBounds_toArray, List.set_cons_zero, List.set_cons_succ] at hK
                  rw [e20, e23] at hK ⊢
                  clear e20 e23
                  have HK := Aside0.mk hK
                  clear hK
                  have hp := HY.out
                  obtain ⟨ad, e_, hx⟩ := Kd.at_int hC x hp.1 hp.2
                  cases e_
                  have p2 := eq_true hp.1
                  have q2 := eq_true hp.2
                  go_wp2
                  exact HK.out _ _ rfl (Below.refl _ _)
                case s25 =>
                  intro σ W hI hT
                  obtain ⟨hB, hZ, hS, hR⟩ := hI; obtain ⟨k0, k1, k2, _⟩ := hS.cells; have hC := (Kd.R_reads' hR).2.2
                  have e20 : σ 20 = .bool true := hT 20 (by kernel_rfl)
                  clear hT
                  refine .inl ⟨by rw [hmk]; simp [Region.wanted, yielded, e20], fun K hK => ?_⟩
                  rw [hmk] at hK ⊢
                  simp only [Act.put, List.setIfInBounds_toArray, List.set_cons_zero, List.set_cons_succ] at hK
                  rw [e20] at hK ⊢
                  clear e20
                  have HK := Aside0.mk hK
                  clear hK
                  go_wp2
                  exact HK.out _ _ rfl (Below.refl _ _)
                case s26 =>
                  intro σ W hI hT
                  obtain ⟨hB, hZ, hS, hR⟩ := hI; obtain ⟨k0, k1, k2, _⟩ := hS.cells; have hC := (Kd.R_reads' hR).2.2
                  have e20 : σ 20 = .bool true := hT 20 (by kernel_rfl)
                  clear hT
                  refine .inl ⟨by rw [hmk]; simp [Region.wanted, yielded, e20], fun K hK => ?_⟩
                  rw [hmk] at hK ⊢
                  simp only [Act.put, List.setIfInBounds_toArray, List.set_cons_zero, List.set_cons_succ] at hK
                  rw [e20] at hK ⊢
                  clear e20
                  have HK := Aside0.mk hK
                  clear hK
                  go_wp2
                  exact HK.out _ _ rfl (Below.refl _ _)
                case s27 =>
                  intro σ W hI hT
                  obtain ⟨hB, hZ, hS, hR⟩ := hI; obtain ⟨k0, k1, k2, _⟩ := hS.cells; have hC := (Kd.R_reads' hR).2.2
                  have e20 : σ 20 = .bool true := hT 20 (by kernel_rfl)
                  have e26 : σ 26 = .int .i64 x := hT 26 (by kernel_rfl)
                  clear hT
                  refine .inl ⟨by rw [hmk]; simp [Region.wanted, yielded, e20], fun K hK => ?_⟩
                  rw [hmk] at hK ⊢
                  simp only [Act.put, List.setIfInBounds_toArray, List.set_cons_zero, List.set_cons_succ] at hK
                  rw [e20, e26] at hK ⊢
                  clear e20 e26
                  have HK := Aside0.mk hK
                  clear hK
                  have hq := HQ.out
                  have hz := HZ.out
                  have hn := HN.out
                  have hy := HY.out.2
                  go_wp2
                  exact HK.out _ _ rfl (Below.refl _ _)
                case s28 =>
                  intro σ W hI hT
                  obtain ⟨hB, hZ, hS, hR⟩ := hI; obtain ⟨k0, k1, k2, _⟩ := hS.cells; have hC := (Kd.R_reads' hR).2.2
                  have e20 : σ 20 = .bool true := hT 20 (by kernel_rfl)
                  have e25 : σ 25 = .slice A4 zs.length c4 := hT 25 (by kernel_rfl)
                  have e27 : σ 27 = .int .i64 (x - 1) := hT 27 (by kernel_rfl)
                  clear hT
                  refine .inl ⟨by rw [hmk]; simp [Region.wanted, yielded, e20], fun K hK => ?_⟩
                  rw [hmk] at hK ⊢
                  simp only [Act.put, List.setIfInBounds_toArray, List.set_cons_zero, List.set_cons_succ] at hK
                  rw [e20, e25, e27] at hK ⊢
                  clear e20 e25 e27
                  have HK := Aside0.mk hK
                  clear hK
                  have hp := HY.out
                  have hq := HQ.out
                  obtain ⟨ad, e_, hx⟩ := Kd.at_int hC (x - 1) (by omega) (by omega)
                  cases e_
                  rw [show (x - 1).toNat = x.toNat - 1 from by omega] at hx
                  have p2 : (0 ≤ x - 1) = True := eq_true (by omega)
                  have q2 : (x - 1 < (zs.length : Int)) = True := eq_true (by omega)
                  go_wp2
                  exact HK.out _ _ rfl (Below.refl _ _)
                case s29 =>
                  intro σ W hI hT
                  obtain ⟨hB, hZ, hS, hR⟩ := hI; obtain ⟨k0, k1, k2, _⟩ := hS.cells; have hC := (Kd.R_reads' hR).2.2
                  have e20 : σ 20 = .bool true := hT 20 (by kernel_rfl)
                  have e28 : σ 28 = .pointer (some ((A4.getD ⟨0, 0, none⟩).add (x.toNat - 1))) := hT 28 (by kernel_rfl)
                  clear hT
                  refine .inl ⟨by rw [hmk]; simp [Region.wanted, yielded, e20], fun K hK => ?_⟩
                  rw [hmk] at hK ⊢
                  simp only [Act.put, List.setIfInBounds_toArray, List.set_cons_zero, List.set_cons_succ] at hK
                  rw [e20, e28] at hK ⊢
                  clear e20 e28
                  have HK := Aside0.mk hK
                  clear hK
                  have hp := HY.out
                  have hq := HQ.out
                  obtain ⟨ad, e_, hx⟩ := Kd.at_int hC (x - 1) (by omega) (by omega)
                  cases e_
                  rw [show (x - 1).toNat = x.toNat - 1 from by omega] at hx
                  have p2 : (0 ≤ x - 1) = True := eq_true (by omega)
                  have q2 : (x - 1 < (zs.length : Int)) = True := eq_true (by omega)
                  go_wp2
                  exact HK.out _ _ rfl (Below.refl _ _)
                case s30 =>
                  intro σ W hI hT
                  obtain ⟨hB, hZ, hS, hR⟩ := hI; obtain ⟨k0, k1, k2, _⟩ := hS.cells; have hC := (Kd.R_reads' hR).2.2
                  have e20 : σ 20 = .bool true := hT 20 (by kernel_rfl)
                  have e24 : σ 24 = .int .i64 (rd zs x) := hT 24 (by kernel_rfl)
                  have e29 : σ 29 = .int .i64 (rd zs (x - 1)) := hT 29 (by kernel_rfl)
                  clear hT
                  refine .inl ⟨by rw [hmk]; simp [Region.wanted, yielded, e20], fun K hK => ?_⟩
                  rw [hmk] at hK ⊢
                  simp only [Act.put, List.setIfInBounds_toArray, List.set_cons_zero, List.set_cons_succ] at hK
                  rw [e20, e24, e29] at hK ⊢
                  clear e20 e24 e29
                  have HK := Aside0.mk hK
                  clear hK
                  have hlt : decide (rd zs x ≤ rd zs (x - 1)) = false := decide_eq_false (by have := rd_rises hZ.rising.1 HQ.out HY.out.2; omega)
                  go_wp2
                  exact HK.out _ _ rfl (Below.refl _ _)
                case s31 =>
                  intro σ W hI hT
                  obtain ⟨hB, hZ, hS, hR⟩ := hI; obtain ⟨k0, k1, k2, _⟩ := hS.cells; have hC := (Kd.R_reads' hR).2.2
                  have e17 : σ 17 = .bool false := hT 17 (by kernel_rfl)
                  have e20 : σ 20 = .bool true := hT 20 (by kernel_rfl)
                  have e30 : σ 30 = .bool false := hT 30 (by kernel_rfl)
                  clear hT
                  refine .inl ⟨by rw [hmk]; simp [Region.wanted, yielded, e17], fun K hK => ?_⟩
                  rw [hmk] at hK ⊢
                  simp only [Act.put, List.setIfInBounds_toArray, List.set_cons_zero, List.set_cons_succ] at hK
                  rw [e17, e20, e30] at hK ⊢
                  clear e17 e20 e30
                  have HK := Aside0.mk hK
                  clear hK
                  go_wp2
                  exact HK.out _ _ rfl (Below.refl _ _)
                case s32 =>
                  intro σ W hI hT
                  obtain ⟨hB, hZ, hS, hR⟩ := hI; obtain ⟨k0, k1, k2, _⟩ := hS.cells; have hC := (Kd.R_reads' hR).2.2
                  have e17 : σ 17 = .bool false := hT 17 (by kernel_rfl)
                  have e31 : σ 31 = .bool false := hT 31 (by kernel_rfl)
                  clear hT
                  refine .inl ⟨rfl, fun K hK => ?_⟩
                  rw [hmk] at hK ⊢
                  simp only [Act.put, List.setIfInBounds_toArray, List.set_cons_zero, List.set_cons_succ] at hK
                  rw [e17, e31] at hK ⊢
                  clear e17 e31
                  have HK := Aside0.mk hK
                  clear hK
                  go_wp2
                  exact HK.out _ _ rfl (Below.refl _ _)
              case done =>
                intro mk hmk σ W hI hS hT
                simp only [dstsOf, putAll, List.map_cons, List.map_nil, Nat.reduceAdd, Act.put, List.setIfInBounds_toArray, List.set_cons_zero, List.set_cons_succ] at hmk
                rw [hmk]
                have e32 : σ 32 = .bool false := hT 32 (by decide)
                rw [e32]
                clear hT e32
                obtain ⟨hB, hZ, hS, hR⟩ := hI
                have HB := Aside0.mk hB
                have Z := Aside0.mk hZ
                have S := Aside0.mk hS
                have O := Aside0.mk hR
                clear hB hZ hS hR
                go_wp2_with (fail)
                go_roundg k1
                case measure => omega
                case rel =>
                  refine ⟨wrap64 (x + 1), rfl, ⟨?_⟩, HB, Z, S, O⟩
                  have h1 := HX.out
                  have h2 := HN.out
                  have h3 := HZ.out
                  rw [Go.IntWalk.wrap64_in _ (by have := HY.out.2; omega)]
                  omega
            · have HQ := Aside0.mk (show x = 0 by have := HX.out.1; omega)
              go_wp2_with (fail)
              refine wp_region_still (t := 28) (by kernel_rfl) [Fact.eq (.agg #[.int .i64 M, .int .i64 r, .iface t u]), Fact.eq (.slice A4 zs.length c4), Fact.eq (.int .i64 x), Fact.eq (.pointer (some ((A4.getD ⟨0, 0, none⟩).add x.toNat))), Fact.eq (.int .i64 (rd zs x)), Fact.eq (.int .i64 x), Fact.eq (.int .i64 x), Fact.eq (.bool false), Fact.eq (.bool false), Fact.eq (.agg #[.int .i64 M, .int .i64 r, .iface t u]), Fact.eq (.slice A4 zs.length c4), Fact.eq (.int .i64 x), Fact.eq (.pointer (some ((A4.getD ⟨0, 0, none⟩).add x.toNat))), Fact.eq (.int .i64 (rd zs x)), Fact.eq (.bool true), Fact.eq (.bool false), Fact.eq (.bool false), Fact.eq (.bool false), Fact.eq (.int .i64 x), Fact.eq (.bool false), Fact.eq (.bool false), Fact.top, Fact.top, Fact.top, Fact.top, Fact.top, Fact.top, Fact.top, Fact.top, Fact.top, Fact.top, Fact.eq (.bool false), Fact.eq (.bool false)]
                (fun W => Below w.heap.size w W ∧ IsSet W M r (.iface t u) zs ∧ SBox W w2.heap.size (.int .i64 M) (.int .i64 r) (.iface t u) ∧ (Kd.int .i64).R 3 W 0 (fun _ => True) (.slice A4 zs.length c4) zs)
                (fun _ => True) 33 (by kernel_rfl) (by kernel_rfl) ?I0 ?I1 ?S1 ?steps ?done
              case I0 => exact ⟨HB.out.drew, Z.out.below ((Below.refl _ _).drew), S.out.below ((Below.refl _ _).drew), rowI_below O.out ((Below.refl _ _).drew)⟩
              case I1 => exact fun W W' ⟨h1, h2, h3, h4⟩ hB => ⟨h1.trans (hB.mono h1.size), h2.below hB, h3.below hB, rowI_below h4 hB⟩
              case S1 => exact fun _ _ _ _ => trivial
              case steps =>
                intro mk hmk
                simp only [dstsOf, putAll, List.map_cons, List.map_nil, Nat.reduceAdd, Act.put, List.setIfInBounds_toArray, List.set_cons_zero, List.set_cons_succ] at hmk
                refine Steps.cons (i := 0) rfl ?s0 (Steps.cons (i := 1) rfl ?s1 (Steps.cons (i := 2) rfl ?s2 (Steps.cons (i := 3) rfl ?s3 (Steps.cons (i := 4) rfl ?s4 (Steps.cons (i := 5) rfl ?s5 (Steps.cons (i := 6) rfl ?s6 (Steps.cons (i := 7) rfl ?s7 (Steps.cons (i := 8) rfl ?s8 (Steps.cons (i := 9) rfl ?s9 (Steps.cons (i := 10) rfl ?s10 (Steps.cons (i := 11) rfl ?s11 (Steps.cons (i := 12) rfl ?s12 (Steps.cons (i := 13) rfl ?s13 (Steps.cons (i := 14) rfl ?s14 (Steps.cons (i := 15) rfl ?s15 (Steps.cons (i := 16) rfl ?s16 (Steps.cons (i := 17) rfl ?s17 (Steps.cons (i := 18) rfl ?s18 (Steps.cons (i := 19) rfl ?s19 (Steps.cons (i := 20) rfl ?s20 (Steps.cons (i := 21) rfl ?s21 (Steps.cons (i := 22) rfl ?s22 (Steps.cons (i := 23) rfl ?s23 (Steps.cons (i := 24) rfl ?s24 (Steps.cons (i := 25) rfl ?s25 (Steps.cons (i := 26) rfl ?s26 (Steps.cons (i := 27) rfl ?s27 (Steps.cons (i := 28) rfl ?s28 (Steps.cons (i := 29) rfl ?s29 (Steps.cons (i := 30) rfl ?s30 (Steps.cons (i := 31) rfl ?s31 (Steps.cons (i := 32) rfl ?s32 (Steps.nil)))))))))))))))))))))))))))))))))
                case s0 =>
                  intro σ W hI hT
                  obtain ⟨hB, hZ, hS, hR⟩ := hI; obtain ⟨k0, k1, k2, _⟩ := hS.cells; have hC := (Kd.R_reads' hR).2.2
                  clear hT
                  refine .inl ⟨rfl, fun K hK => ?_⟩
                  rw [hmk] at hK ⊢
                  simp only [Act.put, List.setIfInBounds_toArray, List.set_cons_zero, List.set_cons_succ] at hK
                  have HK := Aside0.mk hK
                  clear hK
                  go_wp2
                  exact HK.out _ _ rfl (Below.refl _ _)
                case s1 =>
                  intro σ W hI hT
                  obtain ⟨hB, hZ, hS, hR⟩ := hI; obtain ⟨k0, k1, k2, _⟩ := hS.cells; have hC := (Kd.R_reads' hR).2.2
                  clear hT
                  refine .inl ⟨rfl, fun K hK => ?_⟩
                  rw [hmk] at hK ⊢
                  simp only [Act.put, List.setIfInBounds_toArray, List.set_cons_zero, List.set_cons_succ] at hK
                  have HK := Aside0.mk hK
                  clear hK
                  go_wp2
                  exact HK.out _ _ rfl (Below.refl _ _)
                case s2 =>
                  intro σ W hI hT
                  obtain ⟨hB, hZ, hS, hR⟩ := hI; obtain ⟨k0, k1, k2, _⟩ := hS.cells; have hC := (Kd.R_reads' hR).2.2
                  clear hT
                  refine .inl ⟨rfl, fun K hK => ?_⟩
                  rw [hmk] at hK ⊢
                  simp only [Act.put, List.setIfInBounds_toArray, List.set_cons_zero, List.set_cons_succ] at hK
                  have HK := Aside0.mk hK
                  clear hK
                  go_wp2
                  exact HK.out _ _ rfl (Below.refl _ _)
                case s3 =>
                  intro σ W hI hT
                  obtain ⟨hB, hZ, hS, hR⟩ := hI; obtain ⟨k0, k1, k2, _⟩ := hS.cells; have hC := (Kd.R_reads' hR).2.2
                  have e1 : σ 1 = .slice A4 zs.length c4 := hT 1 (by kernel_rfl)
                  have e2 : σ 2 = .int .i64 x := hT 2 (by kernel_rfl)
                  clear hT
                  refine .inl ⟨rfl, fun K hK => ?_⟩
                  rw [hmk] at hK ⊢
                  simp only [Act.put, List.setIfInBounds_toArray, List.set_cons_zero, List.set_cons_succ] at hK
                  rw [e1, e2] at hK ⊢
                  clear e1 e2
                  have HK := Aside0.mk hK
                  clear hK
                  have hp := HY.out
                  obtain ⟨ad, e_, hx⟩ := Kd.at_int hC x hp.1 hp.2
                  cases e_
                  have p2 := eq_true hp.1
                  have q2 := eq_true hp.2
                  go_wp2
                  exact HK.out _ _ rfl (Below.refl _ _)
                case s4 =>
                  intro σ W hI hT
                  obtain ⟨hB, hZ, hS, hR⟩ := hI; obtain ⟨k0, k1, k2, _⟩ := hS.cells; have hC := (Kd.R_reads' hR).2.2
                  have e3 : σ 3 = .pointer (some ((A4.getD ⟨0, 0, none⟩).add x.toNat)) := hT 3 (by kernel_rfl)
                  clear hT
                  refine .inl ⟨rfl, fun K hK => ?_⟩
                  rw [hmk] at hK ⊢
                  simp only [Act.put, List.setIfInBounds_toArray, List.set_cons_zero, List.set_cons_succ] at hK
                  rw [e3] at hK ⊢
                  clear e3
                  have HK := Aside0.mk hK
                  clear hK
                  have hp := HY.out
                  obtain ⟨ad, e_, hx⟩ := Kd.at_int hC x hp.1 hp.2
                  cases e_
                  have p2 := eq_true hp.1
                  have q2 := eq_true hp.2
                  go_wp2
                  exact HK.out _ _ rfl (Below.refl _ _)
                case s5 =>
                  intro σ W hI hT
                  obtain ⟨hB, hZ, hS, hR⟩ := hI; obtain ⟨k0, k1, k2, _⟩ := hS.cells; have hC := (Kd.R_reads' hR).2.2
                  have e0 : σ 0 = .agg #[.int .i64 M, .int .i64 r, .iface t u] := hT 0 (by kernel_rfl)
                  have e4 : σ 4 = .int .i64 (rd zs x) := hT 4 (by kernel_rfl)
                  clear hT
                  refine .inl ⟨rfl, fun K hK => ?_⟩
                  rw [hmk] at hK ⊢
                  simp only [Act.put, List.setIfInBounds_toArray, List.set_cons_zero, List.set_cons_succ] at hK
                  rw [e0, e4] at hK ⊢
                  clear e0 e4
                  have HK := Aside0.mk hK
                  clear hK
                  have hcon := rank_any M r (rd zs x) (.iface t u) zs W hZ
                  rw [rank_self hZ.rising.1 HY.out.1 HY.out.2] at hcon
                  unfold setV at hcon
                  go_wp2_with (go_at_call 14; refine hcon.mono ?_; clear hcon; rintro e w' ⟨rfl, hb⟩)
                  exact HK.out _ _ rfl hb
                case s6 =>
                  intro σ W hI hT
                  obtain ⟨hB, hZ, hS, hR⟩ := hI; obtain ⟨k0, k1, k2, _⟩ := hS.cells; have hC := (Kd.R_reads' hR).2.2
                  clear hT
                  refine .inl ⟨rfl, fun K hK => ?_⟩
                  rw [hmk] at hK ⊢
                  simp only [Act.put, List.setIfInBounds_toArray, List.set_cons_zero, List.set_cons_succ] at hK
                  have HK := Aside0.mk hK
                  clear hK
                  go_wp2
                  exact HK.out _ _ rfl (Below.refl _ _)
                case s7 =>
                  intro σ W hI hT
                  obtain ⟨hB, hZ, hS, hR⟩ := hI; obtain ⟨k0, k1, k2, _⟩ := hS.cells; have hC := (Kd.R_reads' hR).2.2
                  have e5 : σ 5 = .int .i64 x := hT 5 (by kernel_rfl)
                  have e6 : σ 6 = .int .i64 x := hT 6 (by kernel_rfl)
                  clear hT
                  refine .inl ⟨rfl, fun K hK => ?_⟩
                  rw [hmk] at hK ⊢
                  simp only [Act.put, List.setIfInBounds_toArray, List.set_cons_zero, List.set_cons_succ] at hK
                  rw [e5, e6] at hK ⊢
                  clear e5 e6
                  have HK := Aside0.mk hK
                  clear hK
                  go_wp2
                  exact HK.out _ _ rfl (Below.refl _ _)
                case s8 =>
                  intro σ W hI hT
                  obtain ⟨hB, hZ, hS, hR⟩ := hI; obtain ⟨k0, k1, k2, _⟩ := hS.cells; have hC := (Kd.R_reads' hR).2.2
                  have e7 : σ 7 = .bool false := hT 7 (by kernel_rfl)
                  clear hT
                  refine .inl ⟨rfl, fun K hK => ?_⟩
                  rw [hmk] at hK ⊢
                  simp only [Act.put, List.setIfInBounds_toArray, List.set_cons_zero, List.set_cons_succ] at hK
                  rw [e7] at hK ⊢
                  clear e7
                  have HK := Aside0.mk hK
                  clear hK
                  go_wp2
                  exact HK.out _ _ rfl (Below.refl _ _)
                case s9 =>
                  intro σ W hI hT
                  obtain ⟨hB, hZ, hS, hR⟩ := hI; obtain ⟨k0, k1, k2, _⟩ := hS.cells; have hC := (Kd.R_reads' hR).2.2
                  have e8 : σ 8 = .bool false := hT 8 (by kernel_rfl)
                  clear hT
                  refine .inl ⟨by rw [hmk]; simp [Region.wanted, yielded, e8], fun K hK => ?_⟩
                  rw [hmk] at hK ⊢
                  simp only [Act.put, List.setIfInBounds_toArray, List.set_cons_zero, List.set_cons_succ] at hK
                  rw [e8] at hK ⊢
                  clear e8
                  have HK := Aside0.mk hK
                  clear hK
                  go_wp2
                  exact HK.out _ _ rfl (Below.refl _ _)
                case s10 =>
                  intro σ W hI hT
                  obtain ⟨hB, hZ, hS, hR⟩ := hI; obtain ⟨k0, k1, k2, _⟩ := hS.cells; have hC := (Kd.R_reads' hR).2.2
                  have e8 : σ 8 = .bool false := hT 8 (by kernel_rfl)
                  clear hT
                  refine .inl ⟨by rw [hmk]; simp [Region.wanted, yielded, e8], fun K hK => ?_⟩
                  rw [hmk] at hK ⊢
                  simp only [Act.put, List.setIfInBounds_toArray, List.set_cons_zero, List.set_cons_succ] at hK
                  rw [e8] at hK ⊢
                  clear e8
                  have HK := Aside0.mk hK
                  clear hK
                  go_wp2
                  exact HK.out _ _ rfl (Below.refl _ _)
                case s11 =>
                  intro σ W hI hT
                  obtain ⟨hB, hZ, hS, hR⟩ := hI; obtain ⟨k0, k1, k2, _⟩ := hS.cells; have hC := (Kd.R_reads' hR).2.2
                  have e8 : σ 8 = .bool false := hT 8 (by kernel_rfl)
                  clear hT
                  refine .inl ⟨by rw [hmk]; simp [Region.wanted, yielded, e8], fun K hK => ?_⟩
                  rw [hmk] at hK ⊢
                  simp only [Act.put, List.setIfInBounds_toArray, List.set_cons_zero, List.set_cons_succ] at hK
                  rw [e8] at hK ⊢
                  clear e8
                  have HK := Aside0.mk hK
                  clear hK
                  go_wp2
                  exact HK.out _ _ rfl (Below.refl _ _)
                case s12 =>
                  intro σ W hI hT
                  obtain ⟨hB, hZ, hS, hR⟩ := hI; obtain ⟨k0, k1, k2, _⟩ := hS.cells; have hC := (Kd.R_reads' hR).2.2
                  have e8 : σ 8 = .bool false := hT 8 (by kernel_rfl)
                  have e10 : σ 10 = .slice A4 zs.length c4 := hT 10 (by kernel_rfl)
                  have e11 : σ 11 = .int .i64 x := hT 11 (by kernel_rfl)
                  clear hT
                  refine .inl ⟨by rw [hmk]; simp [Region.wanted, yielded, e8], fun K hK => ?_⟩
                  rw [hmk] at hK ⊢
                  simp only [Act.put, List.setIfInBounds_toArray, List.set_cons_zero, List.set_cons_succ] at hK
                  rw [e8, e10, e11] at hK ⊢
                  clear e8 e10 e11
                  have HK := Aside0.mk hK
                  clear hK
                  have hp := HY.out
                  obtain ⟨ad, e_, hx⟩ := Kd.at_int hC x hp.1 hp.2
                  cases e_
                  have p2 := eq_true hp.1
                  have q2 := eq_true hp.2
                  go_wp2
                  exact HK.out _ _ rfl (Below.refl _ _)
                case s13 =>
                  intro σ W hI hT
                  obtain ⟨hB, hZ, hS, hR⟩ := hI; obtain ⟨k0, k1, k2, _⟩ := hS.cells; have hC := (Kd.R_reads' hR).2.2
                  have e8 : σ 8 = .bool false := hT 8 (by kernel_rfl)
                  have e12 : σ 12 = .pointer (some ((A4.getD ⟨0, 0, none⟩).add x.toNat)) := hT 12 (by kernel_rfl)
                  clear hT
                  refine .inl ⟨by rw [hmk]; simp [Region.wanted, yielded, e8], fun K hK => ?_⟩
                  rw [hmk] at hK ⊢
                  simp only [Act.put, List.setIfInBounds_toArray, List.set_cons_zero, List.set_cons_succ] at hK
                  rw [e8, e12] at hK ⊢
                  clear e8 e12
                  have HK := Aside0.mk hK
                  clear hK
                  have hp := HY.out
                  obtain ⟨ad, e_, hx⟩ := Kd.at_int hC x hp.1 hp.2
                  cases e_
                  have p2 := eq_true hp.1
                  have q2 := eq_true hp.2
                  go_wp2
                  exact HK.out _ _ rfl (Below.refl _ _)
                case s14 =>
                  intro σ W hI hT
                  obtain ⟨hB, hZ, hS, hR⟩ := hI; obtain ⟨k0, k1, k2, _⟩ := hS.cells; have hC := (Kd.R_reads' hR).2.2
                  have e8 : σ 8 = .bool false := hT 8 (by kernel_rfl)
                  have e9 : σ 9 = .agg #[.int .i64 M, .int .i64 r, .iface t u] := hT 9 (by kernel_rfl)
                  have e13 : σ 13 = .int .i64 (rd zs x) := hT 13 (by kernel_rfl)
                  clear hT
                  refine .inl ⟨by rw [hmk]; simp [Region.wanted, yielded, e8], fun K hK => ?_⟩
                  rw [hmk] at hK ⊢
                  simp only [Act.put, List.setIfInBounds_toArray, List.set_cons_zero, List.set_cons_succ] at hK
                  rw [e8, e9, e13] at hK ⊢
                  clear e8 e9 e13
                  have HK := Aside0.mk hK
                  clear hK
                  have hcon := has_any (rd zs x) M r (.iface t u) zs W hZ
                  rw [decide_eq_true (rd_mem HY.out.1 HY.out.2)] at hcon
                  unfold setV at hcon
                  go_wp2_with (go_at_call 15; refine hcon.mono ?_; clear hcon; rintro e w' ⟨rfl, hb⟩)
                  exact HK.out _ _ rfl hb
                case s15 =>
                  intro σ W hI hT
                  obtain ⟨hB, hZ, hS, hR⟩ := hI; obtain ⟨k0, k1, k2, _⟩ := hS.cells; have hC := (Kd.R_reads' hR).2.2
                  have e8 : σ 8 = .bool false := hT 8 (by kernel_rfl)
                  have e14 : σ 14 = .bool true := hT 14 (by kernel_rfl)
                  clear hT
                  refine .inl ⟨by rw [hmk]; simp [Region.wanted, yielded, e8], fun K hK => ?_⟩
                  rw [hmk] at hK ⊢
                  simp only [Act.put, List.setIfInBounds_toArray, List.set_cons_zero, List.set_cons_succ] at hK
                  rw [e8, e14] at hK ⊢
                  clear e8 e14
                  have HK := Aside0.mk hK
                  clear hK
                  go_wp2
                  exact HK.out _ _ rfl (Below.refl _ _)
                case s16 =>
                  intro σ W hI hT
                  obtain ⟨hB, hZ, hS, hR⟩ := hI; obtain ⟨k0, k1, k2, _⟩ := hS.cells; have hC := (Kd.R_reads' hR).2.2
                  have e8 : σ 8 = .bool false := hT 8 (by kernel_rfl)
                  have e15 : σ 15 = .bool false := hT 15 (by kernel_rfl)
                  clear hT
                  refine .inl ⟨rfl, fun K hK => ?_⟩
                  rw [hmk] at hK ⊢
                  simp only [Act.put, List.setIfInBounds_toArray, List.set_cons_zero, List.set_cons_succ] at hK
                  rw [e8, e15] at hK ⊢
                  clear e8 e15
                  have HK := Aside0.mk hK
                  clear hK
                  go_wp2
                  exact HK.out _ _ rfl (Below.refl _ _)
                case s17 =>
                  intro σ W hI hT
                  obtain ⟨hB, hZ, hS, hR⟩ := hI; obtain ⟨k0, k1, k2, _⟩ := hS.cells; have hC := (Kd.R_reads' hR).2.2
                  have e16 : σ 16 = .bool false := hT 16 (by kernel_rfl)
                  clear hT
                  refine .inl ⟨rfl, fun K hK => ?_⟩
                  rw [hmk] at hK ⊢
                  simp only [Act.put, List.setIfInBounds_toArray, List.set_cons_zero, List.set_cons_succ] at hK
                  rw [e16] at hK ⊢
                  clear e16
                  have HK := Aside0.mk hK
                  clear hK
                  go_wp2
                  exact HK.out _ _ rfl (Below.refl _ _)
                case s18 =>
                  intro σ W hI hT
                  obtain ⟨hB, hZ, hS, hR⟩ := hI; obtain ⟨k0, k1, k2, _⟩ := hS.cells; have hC := (Kd.R_reads' hR).2.2
                  have e17 : σ 17 = .bool false := hT 17 (by kernel_rfl)
                  clear hT
                  refine .inl ⟨by rw [hmk]; simp [Region.wanted, yielded, e17], fun K hK => ?_⟩
                  rw [hmk] at hK ⊢
                  simp only [Act.put, List.setIfInBounds_toArray, List.set_cons_zero, List.set_cons_succ] at hK
                  rw [e17] at hK ⊢
                  clear e17
                  have HK := Aside0.mk hK
                  clear hK
                  go_wp2
                  exact HK.out _ _ rfl (Below.refl _ _)
                case s19 =>
                  intro σ W hI hT
                  obtain ⟨hB, hZ, hS, hR⟩ := hI; obtain ⟨k0, k1, k2, _⟩ := hS.cells; have hC := (Kd.R_reads' hR).2.2
                  have e17 : σ 17 = .bool false := hT 17 (by kernel_rfl)
                  have e18 : σ 18 = .int .i64 x := hT 18 (by kernel_rfl)
                  clear hT
                  refine .inl ⟨by rw [hmk]; simp [Region.wanted, yielded, e17], fun K hK => ?_⟩
                  rw [hmk] at hK ⊢
                  simp only [Act.put, List.setIfInBounds_toArray, List.set_cons_zero, List.set_cons_succ] at hK
                  rw [e17, e18] at hK ⊢
                  clear e17 e18
                  have HK := Aside0.mk hK
                  clear hK
                  have hq := HQ.out
                  go_wp2
                  exact HK.out _ _ rfl (Below.refl _ _)
                case s20 =>
                  intro σ W hI hT
                  obtain ⟨hB, hZ, hS, hR⟩ := hI; obtain ⟨k0, k1, k2, _⟩ := hS.cells; have hC := (Kd.R_reads' hR).2.2
                  have e17 : σ 17 = .bool false := hT 17 (by kernel_rfl)
                  have e19 : σ 19 = .bool false := hT 19 (by kernel_rfl)
                  clear hT
                  refine .inl ⟨by rw [hmk]; simp [Region.wanted, yielded, e17], fun K hK => ?_⟩
                  rw [hmk] at hK ⊢
                  simp only [Act.put, List.setIfInBounds_toArray, List.set_cons_zero, List.set_cons_succ] at hK
                  rw [e17, e19] at hK ⊢
                  clear e17 e19
                  have HK := Aside0.mk hK
                  clear hK
                  go_wp2
                  exact HK.out _ _ rfl (Below.refl _ _)
                case s21 =>
                  intro σ W hI hT
                  obtain ⟨hB, hZ, hS, hR⟩ := hI; obtain ⟨k0, k1, k2, _⟩ := hS.cells; have hC := (Kd.R_reads' hR).2.2
                  have e20 : σ 20 = .bool false := hT 20 (by kernel_rfl)
                  clear hT
                  exact .inr ⟨by rw [hmk]; simp [Region.wanted, yielded, e20], trivial⟩
                case s22 =>
                  intro σ W hI hT
                  obtain ⟨hB, hZ, hS, hR⟩ := hI; obtain ⟨k0, k1, k2, _⟩ := hS.cells; have hC := (Kd.R_reads' hR).2.2
                  have e20 : σ 20 = .bool false := hT 20 (by kernel_rfl)
                  clear hT
                  exact .inr ⟨by rw [hmk]; simp [Region.wanted, yielded, e20], trivial⟩
                case s23 =>
                  intro σ W hI hT
                  obtain ⟨hB, hZ, hS, hR⟩ := hI; obtain ⟨k0, k1, k2, _⟩ := hS.cells; have hC := (Kd.R_reads' hR).2.2
                  have e20 : σ 20 = .bool false := hT 20 (by kernel_rfl)
                  clear hT
                  exact .inr ⟨by rw [hmk]; simp [Region.wanted, yielded, e20], trivial⟩
                case s24 =>
                  intro σ W hI hT
                  obtain ⟨hB, hZ, hS, hR⟩ := hI; obtain ⟨k0, k1, k2, _⟩ := hS.cells; have hC := (Kd.R_reads' hR).2.2
                  have e20 : σ 20 = .bool false := hT 20 (by kernel_rfl)
                  clear hT
                  exact .inr ⟨by rw [hmk]; simp [Region.wanted, yielded, e20], trivial⟩
                case s25 =>
                  intro σ W hI hT
                  obtain ⟨hB, hZ, hS, hR⟩ := hI; obtain ⟨k0, k1, k2, _⟩ := hS.cells; have hC := (Kd.R_reads' hR).2.2
                  have e20 : σ 20 = .bool false := hT 20 (by kernel_rfl)
                  clear hT
                  exact .inr ⟨by rw [hmk]; simp [Region.wanted, yielded, e20], trivial⟩
                case s26 =>
                  intro σ W hI hT
                  obtain ⟨hB, hZ, hS, hR⟩ := hI; obtain ⟨k0, k1, k2, _⟩ := hS.cells; have hC := (Kd.R_reads' hR).2.2
                  have e20 : σ 20 = .bool false := hT 20 (by kernel_rfl)
                  clear hT
                  exact .inr ⟨by rw [hmk]; simp [Region.wanted, yielded, e20], trivial⟩
                case s27 =>
                  intro σ W hI hT
                  obtain ⟨hB, hZ, hS, hR⟩ := hI; obtain ⟨k0, k1, k2, _⟩ := hS.cells; have hC := (Kd.R_reads' hR).2.2
                  have e20 : σ 20 = .bool false := hT 20 (by kernel_rfl)
                  clear hT
                  exact .inr ⟨by rw [hmk]; simp [Region.wanted, yielded, e20], trivial⟩
                case s28 =>
                  intro σ W hI hT
                  obtain ⟨hB, hZ, hS, hR⟩ := hI; obtain ⟨k0, k1, k2, _⟩ := hS.cells; have hC := (Kd.R_reads' hR).2.2
                  have e20 : σ 20 = .bool false := hT 20 (by kernel_rfl)
                  clear hT
                  exact .inr ⟨by rw [hmk]; simp [Region.wanted, yielded, e20], trivial⟩
                case s29 =>
                  intro σ W hI hT
                  obtain ⟨hB, hZ, hS, hR⟩ := hI; obtain ⟨k0, k1, k2, _⟩ := hS.cells; have hC := (Kd.R_reads' hR).2.2
                  have e20 : σ 20 = .bool false := hT 20 (by kernel_rfl)
                  clear hT
                  exact .inr ⟨by rw [hmk]; simp [Region.wanted, yielded, e20], trivial⟩
                case s30 =>
                  intro σ W hI hT
                  obtain ⟨hB, hZ, hS, hR⟩ := hI; obtain ⟨k0, k1, k2, _⟩ := hS.cells; have hC := (Kd.R_reads' hR).2.2
                  have e20 : σ 20 = .bool false := hT 20 (by kernel_rfl)
                  clear hT
                  exact .inr ⟨by rw [hmk]; simp [Region.wanted, yielded, e20], trivial⟩
                case s31 =>
                  intro σ W hI hT
                  obtain ⟨hB, hZ, hS, hR⟩ := hI; obtain ⟨k0, k1, k2, _⟩ := hS.cells; have hC := (Kd.R_reads' hR).2.2
                  have e17 : σ 17 = .bool false := hT 17 (by kernel_rfl)
                  have e20 : σ 20 = .bool false := hT 20 (by kernel_rfl)
                  clear hT
                  refine .inl ⟨by rw [hmk]; simp [Region.wanted, yielded, e17], fun K hK => ?_⟩
                  rw [hmk] at hK ⊢
                  simp only [Act.put, List.setIfInBounds_toArray, List.set_cons_zero, List.set_cons_succ] at hK
                  rw [e17, e20] at hK ⊢
                  clear e17 e20
                  have HK := Aside0.mk hK
                  clear hK
                  go_wp2
                  exact HK.out _ _ rfl (Below.refl _ _)
                case s32 =>
                  intro σ W hI hT
                  obtain ⟨hB, hZ, hS, hR⟩ := hI; obtain ⟨k0, k1, k2, _⟩ := hS.cells; have hC := (Kd.R_reads' hR).2.2
                  have e17 : σ 17 = .bool false := hT 17 (by kernel_rfl)
                  have e31 : σ 31 = .bool false := hT 31 (by kernel_rfl)
                  clear hT
                  refine .inl ⟨rfl, fun K hK => ?_⟩
                  rw [hmk] at hK ⊢
                  simp only [Act.put, List.setIfInBounds_toArray, List.set_cons_zero, List.set_cons_succ] at hK
                  rw [e17, e31] at hK ⊢
                  clear e17 e31
                  have HK := Aside0.mk hK
                  clear hK
                  go_wp2
                  exact HK.out _ _ rfl (Below.refl _ _)
              case done =>
                intro mk hmk σ W hI hS hT
                simp only [dstsOf, putAll, List.map_cons, List.map_nil, Nat.reduceAdd, Act.put, List.setIfInBounds_toArray, List.set_cons_zero, List.set_cons_succ] at hmk
                rw [hmk]
                have e32 : σ 32 = .bool false := hT 32 (by decide)
                rw [e32]
                clear hT e32
                obtain ⟨hB, hZ, hS, hR⟩ := hI
                have HB := Aside0.mk hB
                have Z := Aside0.mk hZ
                have S := Aside0.mk hS
                have O := Aside0.mk hR
                clear hB hZ hS hR
                go_wp2_with (fail)
                go_roundg k1
                case measure => omega
                case rel =>
                  refine ⟨wrap64 (x + 1), rfl, ⟨?_⟩, HB, Z, S, O⟩
                  have h1 := HX.out
                  have h2 := HN.out
                  have h3 := HZ.out
                  rw [Go.IntWalk.wrap64_in _ (by have := HY.out.2; omega)]
                  omega
        · have c3b : decide (x < (zs.length : Int)) = false := decide_eq_false c3
          obtain ⟨k0, k1, k2, k3, k4, k5⟩ := S.out.cells
          have hcon := rank_any M r M (.iface t u) zs wr Z.out
          rw [rank_all (fun y hy => (HR.out.2 y hy).2)] at hcon
          clear c3
          go_wp2_with (go_at_call 14; refine hcon.mono ?_; clear hcon; rintro e w6 ⟨rfl, hb⟩; replace HB := Aside0.mk (HB.out.trans (hb.mono HB.out.size)))
          go_ret
          exact ⟨rfl, HB.out⟩
end Go.Proofs.Ytbjdnfnolhahgaa.F
