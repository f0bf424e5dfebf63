/- What was put is got: the statement, by a walk of its code. -/
import Derived.Test.YtnndeogbncadbaaTurns0
import Derived.Test.YtnndeogbncadbaaShown1
namespace Go.Proofs.Ytnndeogbncadbaa.F
open Go.RowKit Go.Proofs.YtnndeogbncadbaaW.PrintWords Go.Proofs.YtnndeogbncadbaaW.PrintLast Go.Proofs.YtnndeogbncadbaaW.PrintMore
set_option linter.unusedVariables false
set_option maxHeartbeats 4000000 in
set_option maxRecDepth 100000 in
theorem turns (A0 : Option Addr) (c0 : Nat) (l0 : List S57) (w : World)
    (hr0 : Kd.C k57 w A0 l0.length l0) (hu0 : l0.all (fun x => inU64 x.f0) = true) :
    Calls Try.prog 9 #[.slice A0 l0.length c0] w fun e w' => e = .returned (.bool true) ∧ Below w.heap.size w w' := by
  obtain ⟨kk, hk⟩ := Shown1.sem.rounds
  have HK := Aside0.mk hk
  have HR0 := Aside0.mk hr0
  have HU0 := Aside0.mk hu0
  have hu57 := Try.underlying57
  clear hk hr0 hu0
  go_enter Try.func9, Try.ntmps9
  go_wp2_with (first | (go_at_call 25; refine (astragallaw01_shown.calls kk true _ HK.out).mono ?_; rintro e w1 ⟨rfl, hB⟩; have HB := Aside0.mk hB; clear hB))
  obtain ⟨g, hg⟩ : ∃ g, g = w1.heap.size := ⟨_, rfl⟩
  have HI : Aside0 (IsW (w1.alloc (Obj.cells #[Value.slice none 0 0, Value.int IntKind.i64 0] 55)) w.heap.size g []) := ⟨by rw [hg]; exact IsW.new w1 w.heap.size HB.out.size⟩
  have HB1 : Aside0 (Below w.heap.size w (w1.alloc (Obj.cells #[Value.slice none 0 0, Value.int IntKind.i64 0] 55))) := ⟨below_alloc HB.out _⟩
  rw [← hg]
  clear HB hg
  go_loopw [7, 6, 5] (fun i s v wr => ∃ (K S : Int) (xs : List S57), 0 ≤ K ∧ K ≤ 200 ∧ i = .int .i64 K ∧ s = .int .i64 S ∧ 0 ≤ S ∧ S ≤ 64 * K ∧ (xs.length : Int) ≤ K ∧ Aside0 (S = ((bitsOf xs).length : Int)) ∧ Aside0 (∀ x ∈ xs, fits x) ∧ Aside0 (IsW wr w.heap.size g (bitsOf xs)) ∧ Aside0 (Kd.R k57 57 wr w.heap.size (fun _ => True) v xs) ∧ Aside0 (Below w.heap.size w wr)) (fun i _ _ _ => (200 - intOf i).toNat)
  case atStart => exact ⟨0, 0, [], by omega, by omega, rfl, rfl, by omega, by omega, by simp, ⟨by simp [bitsOf]⟩, ⟨by simp⟩, HI, ⟨Kd.R_nil _ _ _ _ _⟩, HB1⟩
  case round =>
    clear HI HB1
    obtain ⟨K, S, xs, hK0, hK, rfl, rfl, hS0, hS1, hxl, HS, HF, HI, HX, HB⟩ := hrel
    by_cases hin : K < (l0.length : Int) ∧ K < 200
    · obtain ⟨hlt, hlt2⟩ := hin
      obtain ⟨ad, e0, hx1, hx2⟩ := at_T57 (Kd.C_below HR0.out HB.out) K (by omega) hlt
      have hN : inU64 (rd_T57 l0 K).f0 = true := by
        have := List.all_eq_true.1 HU0.out (rd_T57 l0 K) (by unfold rd_T57; rw [List.getD_eq_getElem?_getD, List.getElem?_eq_getElem (by omega)]; exact List.getElem_mem _)
        exact this
      subst e0
      obtain ⟨N, hNe⟩ : ∃ N, (rd_T57 l0 K).f0 = N := ⟨_, rfl⟩
      obtain ⟨Wd, hWe⟩ : ∃ Wd, (rd_T57 l0 K).f1 = Wd := ⟨_, rfl⟩
      rw [hNe] at hx1 hN
      rw [hWe] at hx2
      have hdr : Below w.heap.size w wr.drew := HB.out.drew
      have hp := put_one w.heap.size g (bitsOf xs) N Wd hN (by have := HS.out; omega) wr.drew (HI.out.below (below_drew (Below.refl _ _))) hdr.size
      have HE := Aside0.mk (And.intro hNe hWe)
      have hxd1 : wr.drew.cell? _ = _ := hx1
      have hxd2 : wr.drew.cell? _ = _ := hx2
      have HX1 := Aside0.mk (Kd.R_drew HX.out)
      have HB1 := Aside0.mk hdr
      have HN := Aside0.mk hN
      by_cases hbad : Wd < 0 ∨ 64 < Wd ∨ Wd < (lenN N.toNat : Int)
      · rw [putR_bad _ _ _ hbad] at hp
        have HP := Aside0.mk hp
        clear hp hNe hWe hN HX HB HI hdr hbad
        go_wp2_with fail
        go_still_tail 11, (by kernel_rfl)
        change wpList _ _ _ _ _ wr.drew
        go_wp2_with (go_at_call 28; ((with_reducible refine HP.out.mono ?_)); rintro e w2 ⟨rfl, hI, hB, hT⟩; have HI := Aside0.mk (show IsW w2 w.heap.size g (bitsOf xs) from hI); have HX := Aside0.mk (R_57_keepT HX1.out hT); have HB := Aside0.mk (HB1.out.trans hB); clear HX1 HB1 hI hB hT HP hx1 hx2 hxd1 hxd2)
        go_roundw
        case rel => exact ⟨K + 1, S, xs, by omega, by omega, by go_num, rfl, by omega, by omega, by omega, HS, HF, HI, HX, HB⟩
        case measure => simp [intOf]; omega
      · rw [putR_ok _ _ _ hbad] at hp
        have hs2 : bitsOf xs ++ bitsN Wd.toNat N.toNat = bitsOf (xs ++ [(⟨N, Wd⟩ : S57)]) := (bitsOf_snoc xs ⟨N, Wd⟩).symm
        rw [hs2] at hp
        have HP := Aside0.mk hp
        have HF2 : Aside0 (∀ x ∈ xs ++ [(⟨N, Wd⟩ : S57)], fits x) := ⟨by
          intro x hx
          rcases List.mem_append.1 hx with hx | hx
          · exact HF.out x hx
          · obtain rfl := List.mem_singleton.1 hx
            exact ⟨hN, by show 0 ≤ Wd; omega, by show Wd ≤ 64; omega, by show (lenN N.toNat : Int) ≤ Wd; omega⟩⟩
        have HS2 : Aside0 (S + Wd = ((bitsOf (xs ++ [(⟨N, Wd⟩ : S57)])).length : Int)) := ⟨by rw [← hs2, List.length_append, bitsN_length, HS.out]; omega⟩
        have hW0 : 0 ≤ Wd := by omega
        have hW1 : Wd ≤ 64 := by omega
        have wS : IntKind.i64.wrap (S + Wd) = S + Wd := by have := IntWalk.i64_in (S + Wd) (by omega); exact this
        clear hp hNe hWe hN HX HB HI hdr hbad hs2
        go_wp2_with fail
        go_still_tail 11, (by kernel_rfl)
        change wpList _ _ _ _ _ wr.drew
        go_wp2_with (first | (go_at_call 28; ((with_reducible refine HP.out.mono ?_)); rintro e w2 ⟨rfl, hI, hB, hT⟩; have HI := Aside0.mk (show IsW w2 w.heap.size g (bitsOf (xs ++ [(⟨N, Wd⟩ : S57)])) from hI); have HX := Aside0.mk (R_57_keepT HX1.out hT); have HB := Aside0.mk (HB1.out.trans hB); clear HX1 HB1 hI hB hT HP hx1 hx2 hxd1 hxd2; obtain ⟨ad', e0, hx1, hx2⟩ := at_T57 (Kd.C_below HR0.out HB.out) K hK0 hlt; cases e0; rw [HE.out.1] at hx1; rw [HE.out.2] at hx2) | ((with_reducible refine gate_builtin (b := .append) (xs := #[.tmp 38, .tmp 43]) rfl ?_); at_builtin; refine Kd.R_append k57 (w0 := w) w.heap.size rfl (.tmp 38) (.tmp 43) 52 57 (.agg #[(.int .u64 0), (.int .i64 0)]) 16 rfl Try.underlying52 info57 rfl (by decide) (by omega) _ xs (⟨N, Wd⟩ : S57) [.int .u64 N, .int .i64 Wd] (fun _ => True) (fun _ => False) rfl rfl (k57_mkM _ _ _ _) (fun _ hk => hk.elim) (fun _ _ => trivial) HX.out HB.out HB.out.size (by omega) ?_; intro v3 w3 ho hb hg3 hat; have n0_ := Aside0.mk (HI.out.grown HX.out hg3); have n1_ := Aside0.mk ho; have n2_ := Aside0.mk hb; clear HI HX HB ho hb hg3 hat hx1 hx2; have HI := n0_; have HX := n1_; have HB := n2_; clear n0_ n1_ n2_; obtain ⟨ad', e0, hx1, hx2⟩ := at_T57 (Kd.C_below HR0.out HB.out) K hK0 hlt; cases e0; rw [HE.out.1] at hx1; rw [HE.out.2] at hx2))
        go_roundw
        case rel => exact ⟨K + 1, S + Wd, xs ++ [(⟨N, Wd⟩ : S57)], by omega, by omega, by go_num, rfl, by omega, by omega, by simp; omega, HS2, HF2, HI, HX, HB⟩
        case measure => simp [intOf]; omega
    · obtain ⟨b, hb⟩ : ∃ b, bitsOf xs = b := ⟨_, rfl⟩
      obtain ⟨PB, hPB⟩ : ∃ PB, packN b = PB := ⟨_, rfl⟩
      have hPl : (PB.length : Int) = ((b.length : Int) + 7) / 8 := by rw [← hPB, packN_length]; omega
      have HPU : Aside0 (PB.all inU8 = true) := ⟨by rw [← hPB]; exact packN_u8 b⟩
      have hSb : S = (b.length : Int) := by rw [← hb]; exact HS.out
      have HT : Aside0 (∀ k (h : k < xs.length), ((numN (((bitsB PB).drop (bitsOf (xs.take k)).length).take (xs[k]).f1.toNat) : Nat) : Int) = (xs[k]).f0 ∧ ((bitsOf (xs.take k)).length : Int) + (xs[k]).f1 = ((bitsOf (xs.take (k + 1))).length : Int) ∧ (bitsOf (xs.take (k + 1))).length ≤ b.length ∧ fits xs[k]) := ⟨fun k h => by
        have hf := HF.out _ (List.getElem_mem h)
        have ht := turn_at xs k h hf
        rw [hb, hPB] at ht
        exact ⟨ht.1, ht.2.1, ht.2.2, hf⟩⟩
      have HTL : Aside0 ((bitsOf (xs.take xs.length)).length = b.length) := ⟨by rw [List.take_length, hb]⟩
      rw [hb] at HI
      have hby := bytes_any w.heap.size g b (by rw [packN_length]; omega)
      rw [hPB] at hby
      have HBY := Aside0.mk hby
      obtain ⟨Ax, cx, rfl⟩ := Kd.R_slice HX.out
      have hor : (l0.length : Int) ≤ K ∨ (K < (l0.length : Int) ∧ 200 ≤ K) := by omega
      clear hby hPB hb hin HS HF
      rcases hor with h1 | ⟨h1, h2⟩
      all_goals
        go_wp2_with (first | (go_at_call 31; ((with_reducible refine (HBY.out _ HI.out).mono ?_)); rintro e w2 ⟨v2, rfl, hR2, hB2⟩; have n0_ := Aside0.mk (Kd.R_below HX.out hB2); have n1_ := Aside0.mk (below_step HB.out hB2); have n2_ := Aside0.mk (HI.out.below hB2); have HR2 := Aside0.mk (Kd.R_lower hR2 HB.out.size); clear HX HB HI hR2 hB2 HBY; have HX := n0_; have HB := n1_; have HI := n2_; clear n0_ n1_ n2_; obtain ⟨Ay, cy, rfl⟩ := Kd.R_slice HR2.out) | (go_at_call 34; ((with_reducible refine (from_any w.heap.size Ay cy PB (by omega) _ (Kd.R_reads' HR2.out).2.2 HB.out.size).mono ?_)); rintro e w4 ⟨g2, rfl, hI, hg2, hB⟩; have HRD := Aside0.mk hI; have n0_ := Aside0.mk (Kd.R_below HX.out hB); have n1_ := Aside0.mk (below_step HB.out hB); have n2_ := Aside0.mk (HI.out.below hB); clear HX HB HI hI hB hg2 HR2; have HX := n0_; have HB := n1_; have HI := n2_; clear n0_ n1_ n2_))
        go_loopw [9] (fun i wr => ∃ J p : Int, 0 ≤ J ∧ J ≤ (xs.length : Int) ∧ i = .int .i64 J ∧ 0 ≤ p ∧ p ≤ (b.length : Int) ∧ Aside0 (p = ((bitsOf (xs.take J.toNat)).length : Int)) ∧ Aside0 (IsRd wr w.heap.size g2 PB p) ∧ Aside0 (IsW wr w.heap.size g b) ∧ Aside0 (Kd.R k57 57 wr w.heap.size (fun _ => True) (.slice Ax xs.length cx) xs) ∧ Aside0 (Below w.heap.size w wr)) (fun i _ => (xs.length - intOf i).toNat)
        case atStart => exact ⟨0, 0, by omega, by omega, rfl, by omega, by omega, ⟨by simp [bitsOf]⟩, HRD, HI, HX, HB⟩
        case round =>
          clear HRD HI HX HB
          obtain ⟨J, p, hJ0, hJ1, rfl, hp0, hp1, HPJ, HRD, HI, HX, HB⟩ := hrel
          by_cases hlt : J < (xs.length : Int)
          · obtain ⟨ad, e0, hx1, hx2⟩ := at_T57 (Kd.R_reads' HX.out).2.2 J hJ0 hlt
            have hrd : rd_T57 xs J = xs[J.toNat]'(by omega) := by
              unfold rd_T57
              rw [List.getD_eq_getElem?_getD, List.getElem?_eq_getElem (by omega)]
              rfl
            obtain ⟨hT1, hT2, hT3, hT4⟩ := HT.out J.toNat (by omega)
            rw [← hrd] at hT1 hT2 hT4
            obtain ⟨N, hNe⟩ : ∃ N, (rd_T57 xs J).f0 = N := ⟨_, rfl⟩
            obtain ⟨Wd, hWe⟩ : ∃ Wd, (rd_T57 xs J).f1 = Wd := ⟨_, rfl⟩
            obtain ⟨hf0, hf1, hf2, hf3⟩ := hT4
            rw [hWe] at hf1 hf2 hf3 hT1 hT2 hx2
            rw [hNe] at hT1 hx1
            rw [← HPJ.out] at hT2
            have hpt : (bitsOf (xs.take J.toNat)).length = p.toNat := by have := HPJ.out; omega
            rw [hpt] at hT1
            have hge := get_any w.heap.size g2 PB p Wd hp0 (by omega) HPU.out hf1 hf2 (by omega) wr HRD.out HB.out.size
            rw [hT1] at hge
            have HGE := Aside0.mk hge
            have HE := Aside0.mk (And.intro hNe hWe)
            have HPN : Aside0 (p + Wd = ((bitsOf (xs.take (J + 1).toNat)).length : Int)) := ⟨by rw [show (J + 1).toNat = J.toNat + 1 by omega]; exact hT2⟩
            have hp1' : p + Wd ≤ (b.length : Int) := by omega
            have hp0' : 0 ≤ p + Wd := by omega
            obtain ⟨vh, hh, _⟩ := HRD.out
            have HH := Aside0.mk hh
            subst e0
            clear hge hT1 hT2 hT3 hf0 hf3 hNe hWe hrd hpt hh
            go_wp2_with (go_at_call 27; ((with_reducible refine HGE.out.mono ?_)); rintro e w6 ⟨rfl, hI, hB, hK⟩; have n0_ := Aside0.mk hI; have n1_ := Aside0.mk (HI.out.keepBut HH.out hK); have n2_ := Aside0.mk (HB.out.trans hB); have n3_ := Aside0.mk (R_57_keepBut HX.out HH.out hK); clear HI HRD HB HX hI hB hK HH HGE hx1 hx2; have HRD := n0_; have HI := n1_; have HB := n2_; have HX := n3_; clear n0_ n1_ n2_ n3_; obtain ⟨ad', e0, hx1, hx2⟩ := at_T57 (Kd.R_reads' HX.out).2.2 J hJ0 hlt; cases e0; rw [HE.out.1] at hx1; rw [HE.out.2] at hx2)
            go_roundw
            case rel => exact ⟨J + 1, p + Wd, by omega, by omega, by go_num, hp0', hp1', HPN, HRD, HI, HX, HB⟩
            case measure => simp [intOf]; omega
          · have hpb : p = (b.length : Int) := by
              have h3 := HPJ.out
              rw [show J.toNat = xs.length by omega, HTL.out] at h3
              exact h3
            have hd8 : decide (8 * (((b.length : Int) + 7) / 8) - (b.length : Int) < 8) = true := decide_eq_true (by omega)
            clear HPJ HT HTL
            go_wp2_with (first | (go_at_call 29; ((with_reducible refine (len_any w.heap.size g b _ HI.out).mono ?_)); rintro e w7 ⟨rfl, rfl⟩) | (go_at_call 30; ((with_reducible refine (left_any w.heap.size g2 PB p hp0 (by omega) (by omega) _ HRD.out).mono ?_)); rintro e w8 ⟨rfl, ⟨nd, rfl⟩⟩))
            go_ret
            exact ⟨rfl, pw_below_drewN HB.out _⟩
end Go.Proofs.Ytnndeogbncadbaa.F
