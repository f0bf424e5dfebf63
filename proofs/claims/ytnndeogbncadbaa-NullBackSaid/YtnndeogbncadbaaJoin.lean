/- null.Join: a walk of its code. -/
import Derived.Test.YtnndeogbncadbaaPlain
import Derived.Test.YtnndeogbncadbaaJoin0
namespace Go.Proofs.Ytnndeogbncadbaa.F
open Go.RowKit Go.Proofs.YtnndeogbncadbaaW.PrintWords Go.Proofs.YtnndeogbncadbaaW.PrintLast Go.Proofs.YtnndeogbncadbaaW.PrintMore
set_option linter.unusedVariables false
set_option maxHeartbeats 4000000 in
set_option maxRecDepth 100000 in
theorem join_bad (A0 : Option Addr) (c0 : Nat) (l0 : List Bool) (A1 : Option Addr) (c1 : Nat) (l1 : List S37) (w : World) (hr0 : Kd.C Kd.bool w A0 l0.length l0) (hc0 : l0.length ≤ c0) (hr1 : Kd.C k37 w A1 l1.length l1) (hl0 : l0.length ≤ 1000000000) (hl1 : l1.length ≤ 1000000000)
    (h : ¬ (l1.length + l0.count true = l0.length ∧ (l1.filter isSome).length = l1.length)) :
    Calls Try.prog 21 #[.slice A0 l0.length c0, .slice A1 l1.length c1] w fun e w' => e = .returned (.tuple #[.slice none 0 0, .int .i64 4]) ∧ Below w.heap.size w w' := by
  obtain ⟨kk, hk⟩ := (Count.sem l0 hl0).rounds
  have HK := Aside0.mk hk
  have HR0 := Aside0.mk hr0
  have HC0 := Aside0.mk hc0
  have HR1 := Aside0.mk hr1
  have hcl := List.count_le_length (a := true) (l := l0)
  obtain ⟨N, hN⟩ : ∃ N, l0.count true = N := ⟨_, rfl⟩
  rw [hN] at HK h hcl
  obtain ⟨M, hM⟩ : ∃ M, (l1.filter isSome).length = M := ⟨_, rfl⟩
  rw [hM] at h
  have HM := Aside0.mk hM
  have wS : IntKind.i64.wrap ((l0.length : Int) - (N : Int)) = (l0.length : Int) - (N : Int) := by have := IntWalk.i64_in ((l0.length : Int) - (N : Int)) (by omega); exact this
  clear hk hr0 hc0 hr1 hN hM
  by_cases h1 : l1.length + N = l0.length
  · have h2 : M ≠ l1.length := fun h2 => h ⟨h1, h2⟩
    have e1 : (((l1.length : Int) != (l0.length : Int) - (N : Int)) : Bool) = false := bne_eq_false_iff_eq.2 (by omega)
    have e2 : (((M : Int) != (l1.length : Int)) : Bool) = true := bne_iff_ne.2 (by omega)
    clear h h1 h2
    go_enter Try.func21, Try.ntmps21
    go_wp2_with (first | (go_at_call 19; ((with_reducible refine (null_Count.calls kk A0 c0 l0 N _ HR0.out HC0.out HK.out).mono ?_)); rintro e w1 ⟨rfl, ⟨nd, rfl⟩⟩) | (go_at_call 47; ((with_reducible refine (some_calls _ _ _ _).mono ?_)); rintro e w2 ⟨rfl, rfl⟩) | (go_at_call 48; ((with_reducible refine (collect_calls2 A1 c1 l1 (by omega) (w.drewN nd) w.heap.size rfl (Kd.C_drewN HR1.out nd)).mono ?_)); rintro e w3 ⟨v, rfl, hR, hB⟩; obtain ⟨Ax, cx, rfl⟩ := Kd.R_slice hR; rw [HM.out]; have HB := Aside0.mk (below_step (pw_below_drewN (Below.refl w.heap.size w) nd) hB); clear hR hB))
    go_ret2
    exact ⟨rfl, HB.out⟩
  · have e1 : (((l1.length : Int) != (l0.length : Int) - (N : Int)) : Bool) = true := bne_iff_ne.2 (by omega)
    clear h h1
    go_enter Try.func21, Try.ntmps21
    go_wp2_with (first | (go_at_call 19; ((with_reducible refine (null_Count.calls kk A0 c0 l0 N _ HR0.out HC0.out HK.out).mono ?_)); rintro e w1 ⟨rfl, ⟨nd, rfl⟩⟩))
    go_ret2
    exact ⟨rfl, pw_below_drewN (Below.refl _ _) _⟩
set_option maxHeartbeats 4000000 in
set_option maxRecDepth 100000 in
theorem join_good (A0 : Option Addr) (c0 : Nat) (l0 : List Bool) (A1 : Option Addr) (c1 : Nat) (l1 : List S37) (w : World) (hr0 : Kd.C Kd.bool w A0 l0.length l0) (hc0 : l0.length ≤ c0) (hr1 : Kd.C k37 w A1 l1.length l1) (hc1 : l1.length ≤ c1) (hl0 : l0.length ≤ 1000000000) (hl1 : l1.length ≤ 1000000000)
    (h : l1.length + l0.count true = l0.length) (h2 : (l1.filter isSome).length = l1.length) :
    Calls Try.prog 21 #[.slice A0 l0.length c0, .slice A1 l1.length c1] w fun e w' => ∃ v0_ : Value, e = .returned (.tuple #[v0_, .int .i64 0]) ∧ Kd.R k37 37 w' w.heap.size (fun _ => True) v0_ (joinN l0 l1) ∧ Below w.heap.size w w' := by
  obtain ⟨kk, hk⟩ := (Count.sem l0 hl0).rounds
  have HK := Aside0.mk hk
  have HR0 := Aside0.mk hr0
  have HC0 := Aside0.mk hc0
  have HR1 := Aside0.mk hr1
  have HC1 := Aside0.mk hc1
  have HCN := Aside0.mk h
  have hcl := List.count_le_length (a := true) (l := l0)
  obtain ⟨N, hN⟩ : ∃ N, l0.count true = N := ⟨_, rfl⟩
  rw [hN] at HK h hcl
  have HM := Aside0.mk h2
  have wS : IntKind.i64.wrap ((l0.length : Int) - (N : Int)) = (l0.length : Int) - (N : Int) := by have := IntWalk.i64_in ((l0.length : Int) - (N : Int)) (by omega); exact this
  have e1 : (((l1.length : Int) != (l0.length : Int) - (N : Int)) : Bool) = false := bne_eq_false_iff_eq.2 (by omega)
  have hu37 := Try.underlying37
  obtain ⟨i37, hi37, _, hsz37, _⟩ := info_parts info37
  have HI37 := Aside0.mk (And.intro hi37 hsz37)
  clear hk hr0 hc0 hr1 hc1 hN h2 h hi37 hsz37
  go_enter Try.func21, Try.ntmps21
  go_wp2_with (first | (go_at_call 19; ((with_reducible refine (null_Count.calls kk A0 c0 l0 N _ HR0.out HC0.out HK.out).mono ?_)); rintro e w1 ⟨rfl, ⟨nd, rfl⟩⟩) | (go_at_call 47; ((with_reducible refine (some_calls _ _ _ _).mono ?_)); rintro e w2 ⟨rfl, rfl⟩) | (go_at_call 48; ((with_reducible refine (collect_calls2 A1 c1 l1 (by omega) (w.drewN nd) w.heap.size rfl (Kd.C_drewN HR1.out nd)).mono ?_)); rintro e w3 ⟨v, rfl, hR, hB⟩; obtain ⟨Ax, cx, rfl⟩ := Kd.R_slice hR; rw [HM.out]; have HB := Aside0.mk (below_step (pw_below_drewN (Below.refl w.heap.size w) nd) hB); clear hR hB))
  go_loopw [28, 6, 1] (fun i v l wr => ∃ (I : Int) (out rest : List S37) (Al : Option Addr) (cl : Nat), 0 ≤ I ∧ I ≤ (l0.length : Int) ∧ i = .int .i64 I ∧ l = .slice Al rest.length cl ∧ (out.length : Int) ≤ I ∧ Aside0 (joinN l0 l1 = out ++ joinN (l0.drop I.toNat) rest) ∧ Aside0 (rest.length + (l0.drop I.toNat).count true = (l0.drop I.toNat).length) ∧ Aside0 (Kd.C k37 w Al rest.length rest) ∧ Aside0 (rest.length ≤ cl) ∧ Aside0 (Kd.R k37 37 wr w.heap.size (fun _ => True) v out) ∧ Aside0 (Below w.heap.size w wr)) (fun i _ _ _ => (l0.length - intOf i).toNat)
  case atStart => exact ⟨0, [], l1, A1, c1, by omega, by omega, rfl, rfl, by simp, ⟨rfl⟩, ⟨HCN.out⟩, HR1, HC1, ⟨Kd.R_nil _ _ _ _ _⟩, HB⟩
  case round =>
    clear HB
    obtain ⟨I, out, rest, Al, cl, hI0, hI1, rfl, rfl, hol, HJ, HN, HL, HCL, HX, HB⟩ := hrel
    by_cases hlt : I < (l0.length : Int)
    · obtain ⟨ad0, e0, hb0⟩ := Kd.at_bool (Kd.C_below HR0.out HB.out) I hI0 hlt
      subst e0
      have hrd : rdOf false l0 I = l0[I.toNat]'(by omega) := by
        unfold rdOf
        rw [List.getD_eq_getElem?_getD, List.getElem?_eq_getElem (by omega)]
        rfl
      have hcd := count_drop l0 I.toNat (by omega)
      have hKn : (I + 1).toNat = I.toNat + 1 := by omega
      have hdl : (l0.drop I.toNat).length = (l0.drop (I + 1).toNat).length + 1 := by rw [List.length_drop, List.length_drop]; omega
      obtain ⟨b, hb⟩ : ∃ b, rdOf false l0 I = b := ⟨_, rfl⟩
      rw [hb] at hb0 hrd
      cases b with
      | true =>
        have HJ2 : Aside0 (joinN l0 l1 = (out ++ [z37]) ++ joinN (l0.drop (I + 1).toNat) rest) := ⟨by rw [HJ.out, hKn, join_true l0 rest I.toNat (by omega) hrd.symm, List.append_assoc]; rfl⟩
        have HN2 : Aside0 (rest.length + (l0.drop (I + 1).toNat).count true = (l0.drop (I + 1).toNat).length) := ⟨by have := HN.out; rw [hcd, if_pos hrd.symm, ← hKn] at this; omega⟩
        have hob : out.length + 1 ≤ 1000000001 := by omega
        clear hrd hcd hdl hb
        go_wp2_with (first | ((with_reducible refine gate_builtin (b := .append) (xs := #[.tmp 33, .tmp 35]) rfl ?_); at_builtin; refine Kd.R_append k37 (w0 := w) w.heap.size rfl (.tmp 33) (.tmp 35) 22 37 (.agg #[(.int .i64 0), (.int .i64 0), (.string ⟨#[]⟩)]) 32 rfl Try.underlying22 info37 rfl (by decide) (by omega) _ out z37 [.int .i64 0, .int .i64 0, .string ⟨#[]⟩] (fun _ => True) (fun _ => False) rfl rfl (k37_mkM _ _ _ z37) (fun _ hk => hk.elim) (fun _ _ => trivial) HX.out HB.out HB.out.size (by omega) ?_; intro v3 w4 ho hb hg hat; have n0_ := Aside0.mk ho; have n1_ := Aside0.mk hb; clear HX HB ho hb hg hat; have HX := n0_; have HB := n1_; clear n0_ n1_))
        go_roundw
        case rel => exact ⟨I + 1, out ++ [z37], rest, Al, cl, by omega, by omega, by go_num, rfl, by rw [List.length_append, List.length_singleton]; omega, HJ2, HN2, HL, HCL, HX, HB⟩
        case measure => simp [intOf]; omega
      | false =>
        have hrl : 0 < rest.length := by
          have h1 := HN.out
          rw [hcd, if_neg (by rw [← hrd]; decide), ← hKn] at h1
          have h2 := List.count_le_length (a := true) (l := l0.drop (I + 1).toNat)
          omega
        obtain ⟨x, rest2, hrest⟩ : ∃ x rest2, rest = x :: rest2 := by
          cases rest with
          | nil => simp at hrl
          | cons x r => exact ⟨x, r, rfl⟩
        have HJ2 : Aside0 (joinN l0 l1 = (out ++ [x]) ++ joinN (l0.drop (I + 1).toNat) rest2) := ⟨by rw [HJ.out, hrest, hKn, join_false l0 x rest2 I.toNat (by omega) hrd.symm, List.append_assoc]; rfl⟩
        have hr2 : rest.length = rest2.length + 1 := by rw [hrest, List.length_cons]
        have HN2 : Aside0 (rest2.length + (l0.drop (I + 1).toNat).count true = (l0.drop (I + 1).toNat).length) := ⟨by have := HN.out; rw [hcd, if_neg (by rw [← hrd]; decide), ← hKn] at this; omega⟩
        have hob : out.length + 1 ≤ 1000000001 := by omega
        obtain ⟨ad, e0, hx0, hx1, hx2⟩ := at_T37 (Kd.C_below HL.out HB.out) 0 (by omega) (by omega)
        have hrx : rd_T37 rest 0 = x := by rw [hrest]; rfl
        rw [hrx] at hx0 hx1 hx2
        have hcut := cut_from (P := Try.prog) 22 37 .i64 Try.underlying22 HI37.out.1 3 HI37.out.2 Al rest.length cl 1 (by omega) (by omega)
        have hd2 := Kd.C_drop HL.out (show 1 ≤ rest.length by omega) HCL.out
        have hrd2 : rest.drop 1 = rest2 := by rw [hrest]; rfl
        rw [hrd2] at hd2
        rw [show (1 : Int).toNat = 1 from rfl, show rest.length - 1 = rest2.length by omega] at hcut
        obtain ⟨A2, hA2⟩ : ∃ A2, (if cl = 1 then Al else Al.map (·.add (1 * 3))) = A2 := ⟨_, rfl⟩
        have HL2 : Aside0 (Kd.C k37 w A2 rest2.length rest2) := ⟨by rw [← hA2]; exact hd2⟩
        rw [hA2] at hcut
        have HCL2 : Aside0 (rest2.length ≤ cl - 1) := ⟨by have := HCL.out; omega⟩
        subst e0
        simp only [Int.toNat_zero, Nat.zero_mul] at hx0 hx1 hx2
        have ha0 : ad.add 0 = ad := by unfold Addr.add; rw [if_pos rfl]
        rw [ha0] at hx0 hx1 hx2
        clear hrd hcd hdl hb hrest hr2 hrx hd2 hrd2 hA2 ha0
        go_wp2_with (first | ((with_reducible refine gate_builtin (b := .append) (xs := #[.tmp 37, .tmp 41]) rfl ?_); at_builtin; refine Kd.R_append k37 (w0 := w) w.heap.size rfl (.tmp 37) (.tmp 41) 22 37 (.agg #[(.int .i64 0), (.int .i64 0), (.string ⟨#[]⟩)]) 32 rfl Try.underlying22 info37 rfl (by decide) (by omega) _ out x [.int .i64 x.f0, .int .i64 x.f1, .string x.f2] (fun _ => True) (fun _ => False) rfl rfl (k37_mkM _ _ _ x) (fun _ hk => hk.elim) (fun _ _ => trivial) HX.out HB.out HB.out.size (by omega) ?_; intro v3 w4 ho hb hg hat; have n0_ := Aside0.mk ho; have n1_ := Aside0.mk hb; clear HX HB ho hb hg hat hx0 hx1 hx2; have HX := n0_; have HB := n1_; clear n0_ n1_))
        go_roundw
        case rel => exact ⟨I + 1, out ++ [x], rest2, A2, cl - 1, by omega, by omega, by go_num, rfl, by rw [List.length_append, List.length_singleton]; omega, HJ2, HN2, HL2, HCL2, HX, HB⟩
        case measure => simp [intOf]; omega
    · have hIe : I = (l0.length : Int) := by omega
      have HE : Aside0 (joinN l0 l1 = out) := ⟨by
        have h1 := HJ.out
        rw [show I.toNat = l0.length by omega, List.drop_length] at h1
        rw [h1]
        simp [joinN]⟩
      clear HJ HN
      go_wp2_with fail
      go_ret2
      exact ⟨_, rfl, by rw [HE.out]; exact HX.out, HB.out⟩
theorem null_Join.calls (A0 : Option Addr) (c0 : Nat) (l0 : List Bool) (A1 : Option Addr) (c1 : Nat) (l1 : List (S37)) (r1 : List (S37)) (r2 : Int) (w : World) (hr0 : Kd.C Kd.bool w A0 l0.length l0) (hc0 : l0.length ≤ c0) (hr1 : Kd.C k37 w A1 l1.length l1) (hc1 : l1.length ≤ c1) (h : null_Join.f l0 l1 = some (r1, r2)) :
    Calls Try.prog 21 #[.slice A0 l0.length c0, .slice A1 l1.length c1] w fun e w' => ∃ v0_ : Value, e = .returned (.tuple #[v0_, .int .i64 r2]) ∧ Kd.R k37 37 w' w.heap.size (fun _ => True) v0_ r1 ∧ Below w.heap.size w w' := by
  unfold null_Join.f at h
  split at h
  · rename_i hl
    split at h
    · rename_i h1
      simp only [Option.some.injEq, Prod.mk.injEq] at h
      obtain ⟨rfl, rfl⟩ := h
      exact join_good A0 c0 l0 A1 c1 l1 w hr0 hc0 hr1 hc1 hl.1 hl.2 h1.1 ((all_filter l1).1 h1.2)
    · rename_i h1
      simp only [Option.some.injEq, Prod.mk.injEq] at h
      obtain ⟨rfl, rfl⟩ := h
      refine (join_bad A0 c0 l0 A1 c1 l1 w hr0 hc0 hr1 hl.1 hl.2 (fun h2 => h1 ⟨h2.1, (all_filter l1).2 h2.2⟩)).mono ?_
      rintro e w' ⟨rfl, hB⟩
      exact ⟨_, rfl, Kd.R_nil _ _ _ _ _, hB⟩
  · cases h
end Go.Proofs.Ytnndeogbncadbaa.F
