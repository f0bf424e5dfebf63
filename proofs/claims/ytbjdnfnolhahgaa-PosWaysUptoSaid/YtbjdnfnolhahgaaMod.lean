/- What the laws that make their numbers by a remainder need. -/
import Derived.Test.YtbjdnfnolhahgaaBoth
import Derived.Test.YtbjdnfnolhahgaaOpens
namespace Go.Proofs.Ytbjdnfnolhahgaa.F
open Go.RowKit Go.Shelf Go.Proofs.YtbjdnfnolhahgaaW.PrintWords
set_option linter.unusedVariables false
theorem ArgOf.C {k : IntKind} {W : World} {A : Option Addr} {l : List Int} (h : ArgOf k W A l) (hl : l.length ≤ 9223372036854775807) : (Kd.int k).C W A l.length l := by
  refine Kd.C_of_reads (d := 0) ⟨rfl, hl, fun hn => ?_⟩
  obtain ⟨b, off, e, hc⟩ := h (fun e => by rw [e] at hn; simp at hn)
  exact ⟨_, e, fun j hj => by rw [add_plain]; exact hc j hj⟩
theorem intArg_C {W : World} {A : Option Addr} {l : List Int} (h : (Kd.int .i64).C W A l.length l) : IntArg W A l := fun hn => by
  have h0 : 0 < l.length := List.length_pos_iff.2 hn
  obtain ⟨ad, rfl, hc⟩ := Kd.at_int h 0 (by omega) (by omega)
  have hx := plain_addr hc
  have hxa : ad.add (0 : Int).toNat = ad := rfl
  rw [hxa] at hx
  refine ⟨ad.block, ad.off, congrArg some hx, fun j hj => ?_⟩
  obtain ⟨ad', e, hc'⟩ := Kd.at_int h (j : Int) (by omega) (by omega)
  obtain rfl := Option.some.inj e
  rw [hx, Int.toNat_natCast, add_plain] at hc'
  rw [hc']
  unfold rd
  rw [Int.toNat_natCast]
theorem rowI_below {W W' : World} {v : Value} {zs : List Int} {b : Nat} (h : (Kd.int .i64).R 3 W b (fun _ => True) v zs) (hB : Below W.heap.size W W') : (Kd.int .i64).R 3 W' b (fun _ => True) v zs := by
  obtain ⟨_, inner, own, reps⟩ := h
  exact ⟨fun _ _ => trivial, inner, own_below own hB, reps⟩
theorem fit_mod {K r : Int} (h0 : 1 ≤ K) (h1 : K ≤ 256) (hr0 : 1 ≤ r) (hr1 : r ≤ 3) : fitB K r = true := by
  unfold fitB mayB
  rw [decide_eq_true hr0, decide_eq_true hr1, decide_eq_true (show 0 ≤ K by omega), decide_eq_true (show K ≤ 4096 by omega)]
  rfl
theorem out_mod {K : Int} {l m : List Int} (h0 : 1 ≤ K) (hm : (l.map (· % K)).take 300 = m) : m.any (outB K) = false := by
  rw [List.any_eq_false]
  intro x hx
  rw [← hm] at hx
  obtain ⟨y, _, rfl⟩ := List.mem_map.1 (List.mem_of_mem_take hx)
  have h1 := Int.emod_nonneg y (show K ≠ 0 by omega)
  have h2 := Int.emod_lt_of_pos y (show 0 < K by omega)
  unfold outB
  simp only [Bool.or_eq_true, decide_eq_true_eq]
  omega
theorem rank_self {zs : List Int} (h : zs.Pairwise (· < ·)) {x : Int} (h0 : 0 ≤ x) (h1 : x < (zs.length : Int)) : rankZ zs (rd zs x) = x := by
  have hj : x.toNat < zs.length := by omega
  have hr : rd zs x = zs[x.toNat] := by
    unfold rd
    rw [List.getD_eq_getElem?_getD, List.getElem?_eq_getElem hj]
    rfl
  rw [hr, rank_stop (ini := zs.take x.toNat) (x := zs[x.toNat]) h ?_ ?_ (Int.le_refl _)]
  · rw [List.length_take]; omega
  · rw [← List.take_succ_eq_append_getElem hj]
    exact List.take_prefix _ _
  · intro y hy
    obtain ⟨i, hi, rfl⟩ := List.mem_iff_getElem.1 hy
    rw [List.length_take] at hi
    rw [List.getElem_take]
    exact (List.pairwise_iff_getElem.1 h) i x.toNat (by omega) hj (by omega)
theorem rd_rises {zs : List Int} (h : zs.Pairwise (· < ·)) {x : Int} (h0 : 0 < x) (h1 : x < (zs.length : Int)) : rd zs (x - 1) < rd zs x := by
  unfold rd
  rw [List.getD_eq_getElem?_getD, List.getD_eq_getElem?_getD, List.getElem?_eq_getElem (by omega), List.getElem?_eq_getElem (by omega)]
  exact (List.pairwise_iff_getElem.1 h) _ _ (by omega) (by omega) (by omega)
theorem rd_mem {zs : List Int} {x : Int} (h0 : 0 ≤ x) (h1 : x < (zs.length : Int)) : rd zs x ∈ zs := by
  unfold rd
  rw [List.getD_eq_getElem?_getD, List.getElem?_eq_getElem (by omega)]
  exact List.getElem_mem _
end Go.Proofs.Ytbjdnfnolhahgaa.F
