/- PosAlls: the walk. -/
import Derived.Test.YtbjdnfnolhahgaaShown
namespace Go.Proofs.Ytbjdnfnolhahgaa.F
open Go.RowKit Go.Shelf Go.Proofs.YtbjdnfnolhahgaaW.PrintWords
set_option linter.unusedVariables false
theorem filt_all_length (k : Int) : (filt k (fun _ => true)).length = k.toNat := by
  unfold filt
  rw [List.filter_eq_self.2 (fun _ _ => rfl)]
  simp
theorem rank_all_eq (k at_ : Int) (hk : 0 ≤ k) : rankZ (filt k (fun _ => true)) at_ = min (max at_ 0) k := by
  unfold rankZ
  have : (filt k (fun _ => true)).filter (fun x => decide (x < at_)) = filt (min (max at_ 0) k) (fun _ => true) := by
    refine rising_eq ((rising_filt _ _).1.filter _) (rising_filt _ _).1 (fun x => ?_)
    rw [List.mem_filter, mem_filt, mem_filt, decide_eq_true_eq]
    simp only [and_true]
    omega
  rw [this, filt_all_length]
  omega
set_option maxRecDepth 100000 in
set_option maxHeartbeats 8000000 in
theorem posAlls (n rep at_ : Int) (w : World) (hn0 : 0 ≤ n) (hn1 : n ≤ 65535) (hr0 : 0 ≤ rep) (hr1 : rep ≤ 255) : Calls Try.prog 4 #[.int .u16 n, .int .u8 rep, .int .i64 at_] w fun e w' => e = .returned (.bool true) ∧ Below w.heap.size w w' := by
  have hu28 := Try.underlying28
  have hsh := shown_any w
  go_enter Try.func4, Try.ntmps4
  go_wp2_with (go_at_call 10; refine hsh.mono ?_; clear hsh; rintro e w1 ⟨rfl, hB1⟩; have HB1 := Aside0.mk hB1; clear hB1)
  have hk0 : 0 ≤ n % 700 := by omega
  have hk1 : n % 700 ≤ 699 := by omega
  have hf : fitB (n % 700) (1 + rep % 3) = true := by
    unfold fitB mayB
    rw [decide_eq_true (show (1 : Int) ≤ 1 + rep % 3 by omega), decide_eq_true (show 1 + rep % 3 ≤ 3 by omega), decide_eq_true hk0, decide_eq_true (show n % 700 ≤ 4096 by omega)]
    rfl
  clear hn0 hn1
  generalize n % 700 = k at *
  generalize 1 + rep % 3 = r at *
  refine (all_any k r w1 hf).mono ?_
  clear hf
  rintro e w2 ⟨t, u, he, hS, hB2⟩
  unfold setV at he
  subst he
  have hzl := filt_all_length k
  have hzr := rank_all_eq k at_ hk0
  have hzn : filt k (fun x => !inZ (filt k (fun _ => true)) x) = [] := by
    refine List.eq_nil_iff_forall_not_mem.2 (fun x hx => ?_)
    rw [mem_filt] at hx
    have : inZ (filt k (fun _ => true)) x = true := decide_eq_true (mem_filt.2 ⟨hx.1, hx.2.1, rfl⟩)
    rw [this] at hx
    simp at hx
  have hzh : decide (at_ ∈ filt k (fun _ => true)) = (decide (0 ≤ at_) && decide (at_ < k)) := by
    rw [← Bool.decide_and]
    exact decide_eq_decide.2 (by rw [mem_filt]; simp)
  generalize filt k (fun _ => true) = zs at *
  have hkz : k = (zs.length : Int) := by omega
  have HB2 := Aside0.mk (HB1.out.trans (hB2.mono HB1.out.size))
  have HS := Aside0.mk (And.intro hS (And.intro hzr (And.intro hzn hzh)))
  clear hS hzr hzn hzh hB2 HB1 hzl
  subst hkz
  go_wp2_with (fail)
  refine calls_gen (fun W => Below w.heap.size w W ∧ SBox W w2.heap.size (.int .i64 zs.length) (.int .i64 r) (.iface t u) ∧ IsSet W zs.length r (.iface t u) zs) ⟨?_, ?_, ?_⟩ ?_
  · exact HB2.out.alloc HB2.out.size _
  · exact SBox.new w2 _ _ _
  · exact HS.out.1.below ((Below.refl _ _).alloc (Nat.le_refl _) _)
  clear HB2
  rintro W ⟨hB, hb, hS⟩
  have HX := Aside0.mk (And.intro hB (And.intro hb hS))
  refine (list_any _ r (.iface t u) zs W hS).mono ?_
  clear hB hb hS
  rintro e w3 ⟨v3, rfl, hr3, hB3⟩
  obtain ⟨A3, c3, rfl, hc3, _⟩ := intArg_own hr3
  obtain ⟨k1, k2, k3, k4, k5, k6⟩ := (HX.out.2.1.below hB3).cells
  have hno := not_any _ r (.iface t u) zs w3 (HX.out.2.2.below hB3)
  rw [HS.out.2.2.1] at hno
  have HB3 := Aside0.mk hB3
  clear hB3 hr3
  go_wp2_with (go_at_call 17; refine hno.mono ?_; clear hno k1 k2 k3 k4 k5 k6; rintro e w4 ⟨t4, u4, rfl, hS4, hB4⟩; have hl4 := list_any _ r (.iface t4 u4) [] w4 hS4; have HB4 := Aside0.mk (HB3.out.trans (hB4.mono HB3.out.size)); clear hS4 hB4 HB3)
  refine hl4.mono ?_
  clear hl4
  rintro e w5 ⟨v5, rfl, hr5, hB5⟩
  obtain ⟨A5, c5, rfl, _, _⟩ := intArg_own hr5
  have HB5 := Aside0.mk (HB4.out.trans (hB5.mono HB4.out.size))
  obtain ⟨k1, k2, k3, k4, k5, k6⟩ := (HX.out.2.1.below HB5.out).cells
  have hra := rank_any _ r at_ (.iface t u) zs w5 (HX.out.2.2.below HB5.out)
  clear hr5 hB5 HB4
  rw [HS.out.2.1] at hra
  have hha : ∀ W', Below w5.heap.size w5 W' → _ := fun W' (hB' : Below w5.heap.size w5 W') => has_any at_ _ r (.iface t u) zs W' ((HX.out.2.2.below HB5.out).below hB')
  rw [HS.out.2.2.2] at hha
  have HC := Aside0.mk ((HX.out.2.1.below HB5.out))
  have HD := Aside0.mk (HX.out.1.trans (HB5.out.mono HX.out.1.size))
  clear HS HX HB5
  have fin : ∀ W', Below w5.heap.size w5 W' → Below w.heap.size w W' := fun W' h => HD.out.trans (h.mono HD.out.size)
  have HF := Aside0.mk fin
  clear fin HD
  by_cases h0 : 0 ≤ at_
  · rw [decide_eq_true h0, Bool.true_and] at hha
    go_wp2_with (first
      | (go_at_call 14; refine hra.mono ?_; clear hra k1 k2 k3 k4 k5 k6; rintro e w6 ⟨rfl, hB6⟩; obtain ⟨k1, k2, k3, k4, k5, k6⟩ := (HC.out.below hB6).cells; have HA6 := Aside0.mk hB6; have h6 := hha w6 hB6; clear hB6 hha)
      | (go_at_call 15; refine h6.mono ?_; clear h6 k1 k2 k3 k4 k5 k6; rintro e w7 ⟨rfl, hB7⟩; have HB7 := Aside0.mk (HA6.out.trans (hB7.mono HA6.out.size)); clear hB7 HA6; obtain ⟨k1, k2, k3, k4, k5, k6⟩ := (HC.out.below HB7.out).cells)
      | (go_at_call 18; refine (len_any _ r (.iface t u) w7).mono ?_; clear k1 k2 k3 k4 k5 k6; rintro e w8 ⟨rfl, hB8⟩; have HB8 := Aside0.mk (HB7.out.trans (hB8.mono HB7.out.size)); clear hB8 HB7))
    go_ret
    exact ⟨rfl, HF.out _ HB8.out⟩
  · have h0' : at_ < 0 := by omega
    rw [decide_eq_false h0, Bool.false_and] at hha
    clear h0
    go_wp2_with (first
      | (go_at_call 14; refine hra.mono ?_; clear hra k1 k2 k3 k4 k5 k6; rintro e w6 ⟨rfl, hB6⟩; obtain ⟨k1, k2, k3, k4, k5, k6⟩ := (HC.out.below hB6).cells; have HA6 := Aside0.mk hB6; have h6 := hha w6 hB6; clear hB6 hha)
      | (go_at_call 15; refine h6.mono ?_; clear h6 k1 k2 k3 k4 k5 k6; rintro e w7 ⟨rfl, hB7⟩; have HB7 := Aside0.mk (HA6.out.trans (hB7.mono HA6.out.size)); clear hB7 HA6; obtain ⟨k1, k2, k3, k4, k5, k6⟩ := (HC.out.below HB7.out).cells)
      | (go_at_call 18; refine (len_any _ r (.iface t u) w7).mono ?_; clear k1 k2 k3 k4 k5 k6; rintro e w8 ⟨rfl, hB8⟩; have HB8 := Aside0.mk (HB7.out.trans (hB8.mono HB7.out.size)); clear hB8 HB7))
    go_ret
    exact ⟨rfl, HF.out _ HB8.out⟩
end Go.Proofs.Ytbjdnfnolhahgaa.F
