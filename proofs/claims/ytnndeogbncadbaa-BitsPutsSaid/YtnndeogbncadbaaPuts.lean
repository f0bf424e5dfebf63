/- Whatever numbers are put and got: the statement, by a walk of its code. -/
import Derived.Test.YtnndeogbncadbaaPuts0
import Derived.Test.YtnndeogbncadbaaShown1
namespace Go.Proofs.Ytnndeogbncadbaa.F
open Go.RowKit Go.Proofs.YtnndeogbncadbaaW.PrintWords Go.Proofs.YtnndeogbncadbaaW.PrintLast Go.Proofs.YtnndeogbncadbaaW.PrintMore
set_option linter.unusedVariables false
set_option maxHeartbeats 4000000 in
set_option maxRecDepth 100000 in
theorem puts (A0 : Option Addr) (c0 : Nat) (l0 : List S57) (A1 : Option Addr) (c1 : Nat) (l1 : List Int) (A2 : Option Addr) (c2 : Nat) (l2 : List Int) (w : World)
    (hr0 : Kd.C k57 w A0 l0.length l0) (hu0 : l0.all (fun x => inU64 x.f0) = true) (hr1 : Kd.C (Kd.int .u8) w A1 l1.length l1) (hc1 : l1.length ≤ c1) (hu1 : l1.all inU8 = true) (hr2 : Kd.C (Kd.int .i64) w A2 l2.length l2) :
    Calls Try.prog 8 #[.slice A0 l0.length c0, .slice A1 l1.length c1, .slice A2 l2.length c2] w fun e w' => e = .returned (.bool true) ∧ Below w.heap.size w w' := by
  obtain ⟨kk, hk⟩ := Shown1.sem.rounds
  have HK := Aside0.mk hk
  have HR0 := Aside0.mk hr0
  have HU0 := Aside0.mk hu0
  have HR1 := Aside0.mk hr1
  have HC1 := Aside0.mk hc1
  have HU1 := Aside0.mk hu1
  have HR2 := Aside0.mk hr2
  clear hk hr0 hu0 hr1 hc1 hu1 hr2
  go_enter Try.func8, Try.ntmps8
  go_wp2_with (first | (go_at_call 25; refine (astragallaw01_shown.calls kk true _ HK.out).mono ?_; rintro e w1 ⟨rfl, hB⟩; have HB := Aside0.mk hB; clear hB))
  obtain ⟨g, hg⟩ : ∃ g, g = w1.heap.size := ⟨_, rfl⟩
  have HI : Aside0 (IsW (w1.alloc (Obj.cells #[Value.slice none 0 0, Value.int IntKind.i64 0] 55)) w.heap.size g []) := ⟨by rw [hg]; exact IsW.new w1 w.heap.size HB.out.size⟩
  have HB1 : Aside0 (Below w.heap.size w (w1.alloc (Obj.cells #[Value.slice none 0 0, Value.int IntKind.i64 0] 55))) := ⟨below_alloc HB.out _⟩
  rw [← hg]
  clear HB hg
  go_loopw [10, 9] (fun i v wr => ∃ (K : Int) (b : List Bool), 0 ≤ K ∧ K ≤ 100 ∧ i = .int .i64 K ∧ b.length ≤ 6400 ∧ (b.length : Int) ≤ 64 * K ∧ Aside0 (IsW wr w.heap.size g b) ∧ Aside0 (Kd.R Kd.bool 4 wr w.heap.size (fun _ => True) v b) ∧ Aside0 (Below w.heap.size w wr)) (fun i _ _ => (100 - intOf i).toNat)
  case atStart => exact ⟨0, [], by omega, by omega, rfl, by simp, by simp, HI, ⟨Kd.R_nil _ _ _ _ _⟩, HB1⟩
  case round =>
    clear HI HB1
    obtain ⟨K, b, hK0, hK, rfl, hbm, hbl, HI, HX, HB⟩ := hrel
    by_cases hin : K < (l0.length : Int) ∧ K < 100
    · obtain ⟨hlt, hlt2⟩ := hin
      obtain ⟨ad, e0, hx1, hx2⟩ := at_T57 (Kd.C_below HR0.out HB.out) K (by omega) hlt
      have hN : inU64 (rd_T57 l0 K).f0 = true := by
        have := List.all_eq_true.1 HU0.out (rd_T57 l0 K) (by unfold rd_T57; rw [List.getD_eq_getElem?_getD, List.getElem?_eq_getElem (by omega)]; exact List.getElem_mem _)
        exact this
      subst e0
      obtain ⟨N, hNe⟩ : ∃ N, (rd_T57 l0 K).f0 = N := ⟨_, rfl⟩
      obtain ⟨Wd, hWe⟩ : ∃ Wd, (rd_T57 l0 K).f1 = Wd := ⟨_, rfl⟩
      rw [hNe] at hx1 hN
      rw [hWe] at hx2
      obtain ⟨k2, hs⟩ := (PutR.sem b N Wd hN (by omega)).rounds
      have hdr : Below w.heap.size w wr.drew := HB.out.drew
      have hp := put_one w.heap.size g b N Wd hN (by omega) wr.drew (HI.out.below (below_drew (Below.refl _ _))) hdr.size
      have hpl := putR_length b N Wd
      obtain ⟨r1, r2, hr⟩ : ∃ r1 r2, putR b N Wd = (r1, r2) := ⟨_, _, rfl⟩
      rw [hr] at hp hs hpl
      have HP := Aside0.mk hp
      have HS := Aside0.mk hs
      have HE := Aside0.mk (And.intro hNe hWe)
      have hpl : r1.length ≤ b.length + 64 := hpl
      have hxd1 : wr.drew.cell? _ = _ := hx1
      have hxd2 : wr.drew.cell? _ = _ := hx2
      have HX1 := Aside0.mk (Kd.R_drew HX.out)
      have HB1 := Aside0.mk hdr
      clear hp hs hr hNe hWe hN HX HB HI hdr
      go_wp2_with fail
      go_still_tail 11, (by kernel_rfl)
      change wpList _ _ _ _ _ wr.drew
      go_wp2_with (go_at_call 28; ((with_reducible refine HP.out.mono ?_)); rintro e w2 ⟨rfl, hI, hB, hT⟩; have HI := Aside0.mk (show IsW w2 w.heap.size g r1 from hI); have HX := Aside0.mk (R_bool_keepT HX1.out hT); have HB := Aside0.mk (HB1.out.trans hB); clear HX1 HB1 hI hB hT HP hx1 hx2 hxd1 hxd2)
      obtain ⟨ad', e0, hx1, hx2⟩ := at_T57 (Kd.C_below HR0.out HB.out) K (by omega) hlt
      cases e0
      rw [HE.out.1] at hx1
      rw [HE.out.2] at hx2
      go_region_held3 (fun w' => w'.cell? (ad.add (K.toNat * 2)) = some (.int .u64 N) ∧ w'.cell? ⟨(ad.add (K.toNat * 2)).block, (ad.add (K.toNat * 2)).off + 1, none⟩ = some (.int .i64 Wd)) (first | exact ⟨hx1, hx2⟩) (first | (go_at_call 32; ((with_reducible refine (astragalref01_Put.calls k2 (IsBits w2.drew) _ b N Wd r1 r2 w w2.drew HB.out.drew (R_bool_isBits (Kd.R_drew HX.out)) HS.out).mono ?_)); rintro e w3 ⟨v3, rfl, hR, hB, hK3⟩; have n0_ := Aside0.mk (Kd.R_mono hR (fun _ _ => trivial)); have n1_ := Aside0.mk ((HI.out.below (below_drew (Below.refl _ _))).kept hK3); have n2_ := Aside0.mk hB; clear HI HX HB hR hB hK3 hx1 hx2; have HX := n0_; have HI := n1_; have HB := n2_; clear n0_ n1_ n2_; obtain ⟨ad', e0, hx1, hx2⟩ := at_T57 (Kd.C_below HR0.out HB.out) K hK0 hlt; cases e0; rw [HE.out.1] at hx1; rw [HE.out.2] at hx2; obtain ⟨Ax, cx, rfl⟩ := Kd.R_slice HX.out))
      go_wp2_with (first | (go_at_call 29; refine (len_any w.heap.size g r1 _ HI.out).mono ?_; rintro e w4 ⟨rfl, rfl⟩))
      go_roundw
      case rel => exact ⟨K + 1, r1, by omega, by omega, by go_num, by omega, by omega, HI, HX, HB⟩
      case measure => simp [intOf]; omega
    · obtain ⟨k3, hb3⟩ := (RBytes.sem b (by omega)).rounds
      have HS3 := Aside0.mk hb3
      obtain ⟨Ax, cx, rfl⟩ := Kd.R_slice HX.out
      obtain ⟨PB, hPB⟩ : ∃ PB, packN b = PB := ⟨_, rfl⟩
      have hby := bytes_any w.heap.size g b (by rw [packN_length]; omega) wr.drew (HI.out.below (below_drew (Below.refl _ _)))
      rw [hPB] at hby HS3
      have HBY := Aside0.mk hby
      have HX1 := Aside0.mk (Kd.R_drew HX.out)
      have HB1 := Aside0.mk (HB.out.drew)
      have hor : (l0.length : Int) ≤ K ∨ (K < (l0.length : Int) ∧ 100 ≤ K) := by omega
      clear hby hPB hb3 HX HB HI hin
      rcases hor with h1 | ⟨h1, h2⟩
      all_goals
        go_wp2_with fail
        go_upto_region 12 with (fail)
        go_cut [84] (fun v wc => v = .bool (decide ((5000 : Int) < (l1.length : Int))) ∧ Aside0 (Below w.heap.size w wc))
        case first =>
          go_region_with (first | (go_at_call 31; ((with_reducible refine HBY.out.mono ?_)); rintro e w2 ⟨v2, rfl, hR2, hB2⟩; have HX2 := Aside0.mk (Kd.R_below HX1.out hB2); have HB2 := Aside0.mk (below_step HB1.out hB2); have HR2_ := Aside0.mk (Kd.R_lower hR2 HB1.out.size); have hcv2 := own_string (P := Try.prog) Try.underlying49 Try.underlying5 Try.underlying9 (Kd.own_of_R HR2_.out); clear hR2 hB2 HBY HX1 HB1) | (go_at_call 33; ((with_reducible refine (astragalref01_Bytes.calls k3 _ _ b PB w2 (Kd.R_reads' HX2.out).2.2 (Kd.R_reads' HX2.out).2.1 HS3.out).mono ?_)); rintro e w3 ⟨v3, rfl, hR3, hB3⟩; have hcv3 := own_string (P := Try.prog) Try.underlying49 Try.underlying5 Try.underlying9 (Kd.own_of_R (Kd.R_below HR2_.out hB3)); have hcv4 := own_string (P := Try.prog) Try.underlying49 Try.underlying5 Try.underlying9 (Kd.own_of_R hR3); have HB3 := Aside0.mk (below_step HB2.out hB3); clear hR3 hB3 HX2 HB2 HR2_))
          all_goals
            go_wp2_with fail
            go_meet
            case rel => exact ⟨rfl, HB3⟩
        case rest =>
          obtain ⟨rfl, HB⟩ := hcut
          by_cases h5 : (5000 : Int) < (l1.length : Int)
          · go_wp2_with fail
            go_ret
            exact ⟨rfl, HB.out⟩
          · obtain ⟨k4, hb4⟩ := (Bits.sem l1 HU1.out (by omega)).rounds
            have HS4 := Aside0.mk hb4
            have HLB := Aside0.mk (bitsB_length l1)
            have HL : Aside0 (l1.length ≤ 5000) := ⟨by omega⟩
            obtain ⟨bs, hbs⟩ : ∃ bs, bitsB l1 = bs := ⟨_, rfl⟩
            have HBS := Aside0.mk hbs
            rw [hbs] at HS4 HLB
            clear hb4 hbs
            go_wp2_with (first | (go_at_call 34; ((with_reducible refine (from_any w.heap.size A1 c1 l1 (by have := HL.out; omega) _ (Kd.C_below HR1.out HB.out) HB.out.size).mono ?_)); rintro e w4 ⟨g2, rfl, hI, hg2, hB⟩; have HI := Aside0.mk hI; have n0_ := Aside0.mk (below_step HB.out hB); clear HB hI hB hg2; have HB := n0_; clear n0_) | (go_at_call 35; ((with_reducible refine (astragalref01_Bits.calls k4 A1 c1 l1 bs _ (Kd.C_below HR1.out HB.out) HC1.out HS4.out).mono ?_)); rintro e w5 ⟨v5, rfl, hR, hB⟩; have n0_ := Aside0.mk (below_step HB.out hB); have n1_ := Aside0.mk (HI.out.below hB); have HO := Aside0.mk (Kd.R_lower hR HB.out.size); clear HB HI hR hB; have HB := n0_; have HI := n1_; clear n0_ n1_; obtain ⟨Ab, cb, rfl⟩ := Kd.R_slice HO.out))
            go_loopw [16, 15] (fun i v wr => ∃ (K p : Int) (Ar : Option Addr) (cr : Nat) (rs : List Bool), 0 ≤ K ∧ K ≤ 100 ∧ i = .int .i64 K ∧ 0 ≤ p ∧ p ≤ 8 * (l1.length : Int) ∧ v = .slice Ar rs.length cr ∧ Aside0 (rs = bs.drop p.toNat) ∧ Aside0 (IsRd wr w.heap.size g2 l1 p) ∧ Aside0 (Kd.R Kd.bool 4 wr w.heap.size (fun _ => True) (.slice Ab bs.length cb) bs) ∧ Aside0 (∀ W, Kd.C Kd.bool W Ab bs.length bs → Kd.C Kd.bool W Ar rs.length rs) ∧ Aside0 (rs.length ≤ cr) ∧ Aside0 (Below w.heap.size w wr)) (fun i _ _ => (100 - intOf i).toNat)
            case atStart => exact ⟨0, 0, Ab, cb, bs, by omega, by omega, rfl, by omega, by omega, rfl, ⟨rfl⟩, HI, HO, ⟨fun _ h => h⟩, ⟨(Kd.R_reads' HO.out).2.1⟩, HB⟩
            case round =>
              clear HI HO HB
              obtain ⟨K, p, Ar, cr, rs, hK0, hK1, rfl, hp0, hp1, rfl, HRS, HI, HO, HT, HCR, HB⟩ := hrel
              by_cases hin : K < (l2.length : Int) ∧ K < 100
              · obtain ⟨hlt, hlt2⟩ := hin
                obtain ⟨ad, e0, hx1⟩ := Kd.at_int (Kd.C_below HR2.out HB.out) K (by omega) hlt
                subst e0
                obtain ⟨Wd, hWe⟩ : ∃ Wd, rd l2 K = Wd := ⟨_, rfl⟩
                rw [hWe] at hx1
                have hge := get_one w.heap.size g2 l1 p Wd hp0 hp1 (by omega) HU1.out wr HI.out HB.out.size
                have hrg := rget_one Ar cr rs Wd HCR.out
                rw [HBS.out, ← HRS.out] at hge
                obtain ⟨x, rt, ee, hg⟩ : ∃ x rt ee, getR rs Wd = (x, rt, ee) := ⟨_, _, _, rfl⟩
                rw [hg] at hge hrg
                have HGE := Aside0.mk hge
                have HRG := Aside0.mk hrg
                have HWE := Aside0.mk hWe
                obtain ⟨vh, hh, _⟩ := HI.out
                have HH := Aside0.mk hh
                clear hge hrg hg hWe hh
                go_wp2_with (first | (go_at_call 27; ((with_reducible refine HGE.out.mono ?_)); rintro e w6 ⟨p', rfl, hI, hrs, hp0', hp1', hB, hK⟩; have n0_ := Aside0.mk (show IsRd w6 w.heap.size g2 l1 p' from hI); have n1_ := Aside0.mk (R_bool_keepBut HO.out HH.out hK); have n2_ := Aside0.mk (HB.out.trans hB); have HRT : Aside0 (rt = bs.drop p'.toNat) := Aside0.mk hrs; clear HI HO HB hI hB hK hrs HH HGE hx1 HRS; have HI := n0_; have HO := n1_; have HB := n2_; clear n0_ n1_ n2_; obtain ⟨ad', e0, hx1⟩ := Kd.at_int (Kd.C_below HR2.out HB.out) K hK0 hlt; cases e0; rw [HWE.out] at hx1) | (go_at_call 36; ((with_reducible refine (HRG.out _ (HT.out _ (Kd.R_reads' HO.out).2.2)).mono ?_)); rintro e w7 ⟨A', c', rfl, hT', hc', ⟨nd, rfl⟩⟩; have n0_ := Aside0.mk (HI.out.below (pw_below_drewN (Below.refl _ _) nd)); have n1_ := Aside0.mk (Kd.R_drewN HO.out nd); have n2_ := Aside0.mk (pw_below_drewN HB.out nd); have HT' := Aside0.mk (fun W h => hT' W (HT.out W h)); have HC' := Aside0.mk hc'; clear HI HO HB HT HCR hT' hc' HRG; have HI := n0_; have HO := n1_; have HB := n2_; clear n0_ n1_ n2_) | (go_at_call 30; have hq : 8 * (l1.length : Int) - p' = (rt.length : Int) := (by have h8 := HLB.out; rw [HRT.out, List.length_drop]; omega); have hlf := left_any w.heap.size g2 l1 p' hp0' hp1' (by have := HL.out; omega) _ HI.out; rw [hq] at hlf; refine hlf.mono ?_; rintro e w8 ⟨rfl, ⟨nd2, rfl⟩⟩; have n0_ := Aside0.mk (HI.out.below (pw_below_drewN (Below.refl _ _) nd2)); have n1_ := Aside0.mk (Kd.R_drewN HO.out nd2); have n2_ := Aside0.mk (pw_below_drewN HB.out nd2); clear HI HO HB hlf hq; have HI := n0_; have HO := n1_; have HB := n2_; clear n0_ n1_ n2_))
                simp only [World.drewN_drewN] at HI HO HB
                go_roundw
                case rel => exact ⟨K + 1, p', A', c', rt, by omega, by omega, by go_num, hp0', hp1', rfl, HRT, HI, HO, HT', HC', HB⟩
                case measure => simp [intOf]; omega
              · have hor : (l2.length : Int) ≤ K ∨ (K < (l2.length : Int) ∧ 100 ≤ K) := by omega
                rcases hor with h6 | ⟨h6, h7⟩
                all_goals
                  go_wp2_with fail
                  go_ret
                  exact ⟨rfl, HB.out⟩
end Go.Proofs.Ytnndeogbncadbaa.F
