/- What was put is got: plain lemmas, and what keeps beside a writer. -/
import Derived.Test.YtnndeogbncadbaaPuts0
import Derived.Test.YtnndeogbncadbaaBitsLaws
namespace Go.Proofs.Ytnndeogbncadbaa.F
open Go.RowKit Go.Proofs.YtnndeogbncadbaaW.PrintWords Go.Proofs.YtnndeogbncadbaaW.PrintLast Go.Proofs.YtnndeogbncadbaaW.PrintMore
set_option linter.unusedVariables false
theorem info57 : (Try.prog.info? 57).map (fun i => (i.zero, i.size, i.bytes)) = some (some (.agg #[(.int .u64 0), (.int .i64 0)]), 2, 16) := by kernel_rfl
/-- The bits of pieces. -/
def bitsOf (xs : List S57) : List Bool := xs.flatMap fun x => bitsN x.f1.toNat x.f0.toNat
def fits (x : S57) : Prop := inU64 x.f0 = true ∧ 0 ≤ x.f1 ∧ x.f1 ≤ 64 ∧ (lenN x.f0.toNat : Int) ≤ x.f1
theorem bitsOf_snoc (xs : List S57) (x : S57) : bitsOf (xs ++ [x]) = bitsOf xs ++ bitsN x.f1.toNat x.f0.toNat := by simp [bitsOf]
theorem bitsOf_take (xs : List S57) (k : Nat) (h : k < xs.length) : bitsOf (xs.take (k + 1)) = bitsOf (xs.take k) ++ bitsN (xs[k]).f1.toNat (xs[k]).f0.toNat := by
  rw [List.take_succ_eq_append_getElem h, bitsOf_snoc]
theorem bitsOf_split (xs : List S57) (k : Nat) : bitsOf xs = bitsOf (xs.take k) ++ bitsOf (xs.drop k) := by
  have h := congrArg bitsOf (List.take_append_drop k xs).symm
  refine h.trans ?_
  unfold bitsOf
  exact List.flatMap_append
theorem turn_at (xs : List S57) (k : Nat) (h : k < xs.length) (hf : fits xs[k]) :
    ((numN (((bitsB (packN (bitsOf xs))).drop (bitsOf (xs.take k)).length).take (xs[k]).f1.toNat) : Nat) : Int) = (xs[k]).f0 ∧
    ((bitsOf (xs.take k)).length : Int) + (xs[k]).f1 = ((bitsOf (xs.take (k + 1))).length : Int) ∧ (bitsOf (xs.take (k + 1))).length ≤ (bitsOf xs).length := by
  obtain ⟨hu, h0, h1, h2⟩ := hf
  have hu := u64_of hu
  refine ⟨?_, ?_, ?_⟩
  · rw [bitsB_packN]
    have h3 : bitsOf xs = bitsOf (xs.take k) ++ (bitsN (xs[k]).f1.toNat (xs[k]).f0.toNat ++ bitsOf (xs.drop (k + 1))) := by
      rw [← List.append_assoc, ← bitsOf_take xs k h]
      exact bitsOf_split xs (k + 1)
    generalize List.replicate _ false = z
    rw [h3, List.append_assoc, List.append_assoc, List.drop_left, List.take_left' (bitsN_length _ _)]
    rw [numN_bitsN _ _ ((lenN_le_iff _ _).1 (by omega))]
    omega
  · rw [bitsOf_take xs k h, List.length_append, bitsN_length]
    omega
  · rw [bitsOf_split xs (k + 1), List.length_append]
    omega
theorem putR_ok (b : List Bool) (n width : Int) (h : ¬ (width < 0 ∨ 64 < width ∨ width < (lenN n.toNat : Int))) : putR b n width = (b ++ bitsN width.toNat n.toNat, 0) := by
  unfold putR
  rw [if_neg h]
theorem putR_bad (b : List Bool) (n width : Int) (h : width < 0 ∨ 64 < width ∨ width < (lenN n.toNat : Int)) : putR b n width = (b, 1) := by
  unfold putR
  rw [if_pos h]
theorem k57_types : ∀ q, q ∈ 57 :: k57.E → q = 57 := by
  intro q hq
  rcases List.mem_cons.1 hq with rfl | h
  · rfl
  · have : k57.E = [] := rfl
    rw [this] at h
    cases h
theorem u8_types : ∀ q, q ∈ 5 :: (Kd.int .u8).E → q = 5 := by
  intro q hq
  rcases List.mem_cons.1 hq with rfl | h
  · rfl
  · cases h
theorem R_57_keepT {w w' : World} {base : Nat} {ok : Nat → Prop} {v : Value} {xs : List S57} (h : Kd.R k57 57 w base ok v xs) (hk : KeepT w w') : Kd.R k57 57 w' base ok v xs := by
  refine Kd.R_mono (Kd.R_step (Kd.R_bound h) ?_) (fun _ hk => hk.1)
  rintro k ⟨_, _, _, q, hq, cells, hc⟩ _
  obtain rfl := k57_types q hq
  rw [hc]
  exact hk.2 k cells 57 (0, 0) hc (by decide) (by decide)
theorem R_57_keepBut {w w' : World} {base g : Nat} {ok : Nat → Prop} {v : Value} {xs : List S57} {cs : Array Value} (h : Kd.R k57 57 w base ok v xs) (hg : w.heap[g]? = some (.cells cs 92 (0, 0))) (hk : KeepBut w w' g none) : Kd.R k57 57 w' base ok v xs := by
  refine Kd.R_mono (Kd.R_step (Kd.R_bound h) ?_) (fun _ hk => hk.1)
  rintro k ⟨_, _, _, q, hq, cells, hc⟩ hlt
  obtain rfl := k57_types q hq
  refine hk.2 k hlt ?_ (by simp)
  rintro rfl
  rw [hg] at hc
  simp at hc
theorem IsW.keepBut {w w' : World} {base g g2 : Nat} {b : List Bool} {cs : Array Value} (h : IsW w base g b) (hg : w.heap[g2]? = some (.cells cs 92 (0, 0))) (hk : KeepBut w w' g2 none) : IsW w' base g b := by
  obtain ⟨v, h1, h2, h3⟩ := h
  refine ⟨v, ?_, h2, ?_⟩
  · rw [hk.2 g (blk_lt h1) ?_ (by simp)]
    · exact h1
    · rintro rfl
      rw [hg] at h1
      simp at h1
  · refine Kd.R_mono (Kd.R_step (Kd.R_bound h3) ?_) (fun _ hk => hk.1)
    rintro k ⟨_, _, _, q, hq, cells, hc⟩ hlt
    obtain rfl := u8_types q hq
    refine hk.2 k hlt ?_ (by simp)
    rintro rfl
    rw [hg] at hc
    simp at hc
theorem IsW.grown {w w' : World} {base g : Nat} {b : List Bool} {ok : Nat → Prop} {v : Value} {xs : List S57} (h : IsW w base g b) (hr : Kd.R k57 57 w base ok v xs) (hg : w.grownBy w' v.ownBlock) : IsW w' base g b := by
  obtain ⟨u, h1, h2, h3⟩ := h
  exact ⟨u, blk_grown h1 hg (Kd.R_ne hr h1 (by decide)), h2, Kd.R_over' h3 (Kd.R_typed hr) (fun q hq => by rw [u8_types q hq]; decide) hg⟩
end Go.Proofs.Ytnndeogbncadbaa.F
