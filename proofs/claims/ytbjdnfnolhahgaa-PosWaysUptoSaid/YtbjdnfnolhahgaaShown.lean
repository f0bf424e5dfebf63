/- The law's own helpers: shown, few. -/
import Derived.Test.YtbjdnfnolhahgaaSem
import Derived.Test.YtbjdnfnolhahgaaGb
namespace Go.Proofs.Ytbjdnfnolhahgaa.F
open Go.RowKit Go.Shelf Go.Proofs.YtbjdnfnolhahgaaW.PrintWords
set_option linter.unusedVariables false
theorem calls_gen {P : Program} {k : Nat} {args : Array Value} {w : World} {post : Ending → World → Prop} (I : World → Prop) (h : I w) (H : ∀ W, I W → Calls P k args W post) : Calls P k args w post := H w h
theorem ints_any (A0 : Option Addr) (c0 : Nat) (l0 : List Int) (A1 : Option Addr) (c1 : Nat) (l1 : List Int) (w : World) (h0 : (Kd.int .i64).C w A0 l0.length l0) (hc0 : l0.length ≤ c0) (h1 : (Kd.int .i64).C w A1 l1.length l1) (hc1 : l1.length ≤ c1) (hb : l0.length ≤ 4611686018427387904) :
    Calls Try.prog 21 #[.slice A0 l0.length c0, .slice A1 l1.length c1] w fun e w' => e = .returned (.bool (decide (l0 = l1))) ∧ Below w.heap.size w w' :=
  (astragalref12_Ints.calls (l0.length + 1) A0 c0 l0 A1 c1 l1 _ w h0 hc0 h1 hc1 (ints_law l0 l1 hb)).mono fun e w' ⟨he, hd⟩ => ⟨he, hd.below⟩
theorem intArg_new (W : World) (l : List Int) : IntArg (W.alloc (.cells (l.map (Value.int .i64)).toArray 3)) (some ⟨W.heap.size, 0, none⟩) l := fun _ => ⟨_, _, rfl, fun j hj => by
  have h := World.alloc_heap_new W (.cells (l.map (Value.int .i64)).toArray 3)
  unfold World.cell?
  rw [h]
  simp [hj]⟩
set_option maxRecDepth 100000 in
set_option maxHeartbeats 8000000 in
theorem shown_any (w : World) : Calls Try.prog 10 #[] w fun e w' => e = .returned (.bool true) ∧ Below w.heap.size w w' := by
  have hu28 := Try.underlying28
  have hz : filt 6 (inZ [5, 0, 1, 2]) = [0, 1, 2, 5] := by decide +kernel
  have hz2 : filt 6 (fun x => !inZ [0, 1, 2, 5] x) = [3, 4] := by decide +kernel
  have hof := of_any 6 1 (some ⟨w.heap.size, 0, none⟩) 4 [5, 0, 1, 2] (w.alloc (.cells #[.int .i64 5, .int .i64 0, .int .i64 1, .int .i64 2] 3)) (by decide) (intArg_new w [5, 0, 1, 2]) rfl rfl
  rw [hz] at hof
  go_enter Try.func10, Try.ntmps10
  go_wp2_with (go_at_call 11; refine hof.mono ?_; clear hof; rintro e w1 ⟨t, u, he, hS1, hB1⟩; unfold setV at he; subst he; have HS := Aside0.mk hS1; have HB := Aside0.mk (((Below.refl w.heap.size w).alloc (Nat.le_refl _) _).trans (hB1.mono (by simp))); clear hS1 hB1)
  refine calls_gen (fun W => Below w.heap.size w W ∧ SBox W w1.heap.size (.int .i64 6) (.int .i64 1) (.iface t u) ∧ IsSet W 6 1 (.iface t u) [0, 1, 2, 5]) ⟨?_, ?_, ?_⟩ ?_
  · exact HB.out.alloc HB.out.size _
  · exact SBox.new w1 _ _ _
  · exact HS.out.below ((Below.refl _ _).alloc (Nat.le_refl _) _)
  clear HB HS
  rintro W ⟨hB, hb, hS⟩
  have HX := Aside0.mk (And.intro hB (And.intro hb hS))
  refine (list_any 6 1 (.iface t u) [0, 1, 2, 5] W hS).mono ?_
  clear hB hb hS
  rintro e w2 ⟨v2, rfl, hr2, hB2⟩
  obtain ⟨A2, c2, rfl, hc2, hA2⟩ := intArg_own hr2
  have hbw := (Below.refl w2.heap.size w2).alloc (Nat.le_refl _) (.cells #[.int .i64 0, .int .i64 1, .int .i64 2, .int .i64 5] 3)
  have hi := ints_any A2 c2 [0, 1, 2, 5] (some ⟨w2.heap.size, 0, none⟩) 4 [0, 1, 2, 5] (w2.alloc (.cells #[.int .i64 0, .int .i64 1, .int .i64 2, .int .i64 5] 3)) ((hA2.below hbw).C (by decide)) hc2 ((intArg_new w2 [0, 1, 2, 5]).C (by decide)) (by decide) (by decide)
  have HB2 := Aside0.mk (hB2.alloc hB2.size (.cells #[.int .i64 0, .int .i64 1, .int .i64 2, .int .i64 5] 3))
  clear hr2 hB2 hA2 hbw
  go_wp2_with (go_at_call 21; refine hi.mono ?_; clear hi; rintro e w3 ⟨rfl, hb3⟩; have HB3 := Aside0.mk (HB2.out.trans (hb3.mono HB2.out.size)); clear hb3 HB2; obtain ⟨k1, k2, k3, k4, k5, k6⟩ := (HX.out.2.1.below HB3.out).cells)
  refine (not_any 6 1 (.iface t u) [0, 1, 2, 5] w3 (HX.out.2.2.below HB3.out)).mono ?_
  clear k1 k2 k3 k4 k5 k6
  rintro e w4 ⟨t4, u4, rfl, hS4, hB4⟩
  rw [hz2] at hS4
  have HB4 := Aside0.mk (HB3.out.trans (hB4.mono HB3.out.size))
  clear hB4 HB3
  have hl := list_any 6 1 (.iface t4 u4) [3, 4] w4 hS4
  clear hS4
  go_wp2_with (go_at_call 13; refine hl.mono ?_; clear hl; rintro e w5 ⟨v5, rfl, hr5, hB5⟩; obtain ⟨A5, c5, rfl, hc5, hA5⟩ := intArg_own hr5; have hbw := (Below.refl w5.heap.size w5).alloc (Nat.le_refl _) (.cells #[.int .i64 3, .int .i64 4] 3); have hi := ints_any A5 c5 [3, 4] (some ⟨w5.heap.size, 0, none⟩) 2 [3, 4] (w5.alloc (.cells #[.int .i64 3, .int .i64 4] 3)) ((hA5.below hbw).C (by decide)) hc5 ((intArg_new w5 [3, 4]).C (by decide)) (by decide) (by decide); have HB5 := Aside0.mk ((HB4.out.trans (hB5.mono HB4.out.size)).trans (hbw.mono (HB4.out.trans (hB5.mono HB4.out.size)).size)); clear hr5 hB5 hA5 hbw HB4)
  go_wp2_with (go_at_call 21; refine hi.mono ?_; clear hi; rintro e w6 ⟨rfl, hb6⟩; have HB6 := Aside0.mk (HB5.out.trans (hb6.mono HB5.out.size)); clear hb6 HB5; obtain ⟨k1, k2, k3, k4, k5, k6⟩ := (HX.out.2.1.below HB6.out).cells)
  refine (rank_any 6 1 5 (.iface t u) [0, 1, 2, 5] w6 (HX.out.2.2.below HB6.out)).mono ?_
  clear k1 k2 k3 k4 k5 k6
  rintro e w7 ⟨rfl, hB7⟩
  rw [show rankZ [0, 1, 2, 5] 5 = 3 from by decide]
  have HB7 := Aside0.mk (HB6.out.trans (hB7.mono HB6.out.size))
  clear hB7 HB6
  obtain ⟨k1, k2, k3, k4, k5, k6⟩ := (HX.out.2.1.below HB7.out).cells
  have hh := has_any 5 6 1 (.iface t u) [0, 1, 2, 5] w7 (HX.out.2.2.below HB7.out)
  go_wp2_with (go_at_call 15; refine hh.mono ?_; clear hh; rintro e w8 ⟨rfl, hB8⟩; have HB8 := Aside0.mk (HB7.out.trans (hB8.mono HB7.out.size)); clear hB8 HB7)
  go_ret
  exact ⟨rfl, HX.out.1.trans (HB8.out.mono HX.out.1.size)⟩
/-- few: at most 300 numbers. -/
theorem few_any (A : Option Addr) (c : Nat) (l : List Int) (w : World) (hc : l.length ≤ c) (hA : IntArg w A l) :
    Calls Try.prog 12 #[.slice A l.length c] w fun e w' => (∃ c', e = .returned (.slice A (l.take 300).length c') ∧ (l.take 300).length ≤ c') ∧ w = w' := by
  by_cases h : (l.length : Int) > 300
  · obtain ⟨b, off, rfl, hcell⟩ := hA (by intro e; rw [e] at h; simp at h)
    have hl3 : (l.take 300).length = 300 := by simp; omega
    rw [hl3]
    go_enter Try.func12, Try.ntmps12
    go_wp2
    go_ret
    exact ⟨⟨c, rfl, by omega⟩, rfl⟩
  · have h3 : (l.length : Int) ≤ 300 := by omega
    rw [List.take_of_length_le (by omega)]
    go_enter Try.func12, Try.ntmps12
    go_wp2
    go_ret
    exact ⟨⟨_, rfl, hc⟩, rfl⟩
theorem IntArg.take {W : World} {A : Option Addr} {l : List Int} (h : IntArg W A l) (m : Nat) : IntArg W A (l.take m) := fun hn => by
  obtain ⟨b, off, e, hc⟩ := h (fun e => hn (by rw [e]; simp))
  refine ⟨b, off, e, fun j hj => ?_⟩
  rw [List.length_take] at hj
  rw [hc j (by omega), List.getD_eq_getElem?_getD, List.getD_eq_getElem?_getD, List.getElem?_take_of_lt (by omega)]
end Go.Proofs.Ytbjdnfnolhahgaa.F
