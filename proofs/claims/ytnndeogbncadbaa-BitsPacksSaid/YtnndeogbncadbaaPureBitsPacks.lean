/- Any numbers packed with any width, any bytes unpacked, and the width that numbers need, are the document's, or refused: for every row of uint64 and of bytes that can be read, and any two numbers. -/
import Derived.Test.YtnndeogbncadbaaF35
import Derived.Test.YtnndeogbncadbaaShown1
namespace Go.Proofs.Ytnndeogbncadbaa.Pure
open Go.RowKit Go.Proofs.Ytnndeogbncadbaa.F Go.Proofs.YtnndeogbncadbaaW.PrintWords Go.Proofs.YtnndeogbncadbaaW.PrintLast Go.Proofs.YtnndeogbncadbaaW.PrintMore
set_option linter.unusedVariables false

theorem pk_u64 {l : List Int} (h : ∀ x ∈ l, (Lit.int .u64 x).wf = true) : l.all inU64 = true := List.all_eq_true.2 fun x hx => by
  have : 0 ≤ x ∧ x ≤ 18446744073709551615 := by simpa [Lit.wf, IntKind.min, IntKind.max, IntKind.signed, IntKind.bits] using h x hx
  simp only [inU64, Bool.and_eq_true, decide_eq_true_eq]
  omega
theorem pk_u8 {l : List Int} (h : ∀ x ∈ l, (Lit.int .u8 x).wf = true) : l.all inU8 = true := List.all_eq_true.2 fun x hx => by
  have : 0 ≤ x ∧ x ≤ 255 := by simpa [Lit.wf, IntKind.min, IntKind.max, IntKind.signed, IntKind.bits] using h x hx
  simp only [inU8, Bool.and_eq_true, decide_eq_true_eq]
  omega
theorem unpack_some (l : List Int) (n w : Int) (hu : l.all inU8 = true) (hl : l.length ≤ 1000000000) : ∃ r, bits_Unpack.f l n w = some r ∧ r.1.length ≤ 1048576 := by
  unfold bits_Unpack.f
  rw [if_pos ⟨hl, hu⟩]
  split
  · exact ⟨_, rfl, by simp⟩
  split
  · exact ⟨_, rfl, by simp⟩
  split
  · exact ⟨_, rfl, by simp⟩
  split
  · exact ⟨_, rfl, by rw [getsN_length]; omega⟩
  · exact ⟨_, rfl, by simp⟩
theorem BitsPacks : astragallaw01_BitsPacks.Pure := by
  intro l a b n _ _ hl _ _ _ hb _
  have hu := pk_u64 hl
  have hub := pk_u8 hb
  by_cases h1 : l.length > 1000
  · refine Ev.rounds (Ev.congr (f := fun k => (astragallaw01_shown.f k).bind fun t342 => astragallaw01_BitsPacks.j0 k l a b n t342 true) (fun k => ?_) (Ev.bind Shown1.sem ?_))
    · unfold astragallaw01_BitsPacks.f
      congr 1
      funext t
      rw [if_pos (by omega)]
    · refine Ev.step (f := fun _ => some true) (fun k => ?_) (Ev.now _)
      simp only [astragallaw01_BitsPacks.j0, if_true]
  by_cases h2 : b.length > 5000
  · refine Ev.rounds (Ev.congr (f := fun k => (astragallaw01_shown.f k).bind fun t342 => astragallaw01_BitsPacks.j0 k l a b n t342 true) (fun k => ?_) (Ev.bind Shown1.sem ?_))
    · unfold astragallaw01_BitsPacks.f
      congr 1
      funext t
      rw [if_neg (by omega), decide_eq_true (by omega)]
    · refine Ev.step (f := fun _ => some true) (fun k => ?_) (Ev.now _)
      simp only [astragallaw01_BitsPacks.j0, if_true]
  obtain ⟨r, hr, hr2⟩ := RPack.sem l a hu (by omega)
  obtain ⟨u, huu, hul⟩ := unpack_some b n a hub (by omega)
  have huv : astragalref01_Unpack.f b n a = some u := huu
  have hs := RSame.sem u.1 u.1 (by omega)
  rw [decide_eq_true rfl] at hs
  have hw1 := Width.sem l hu (by omega)
  have hw2 := RWidth.sem l hu (by omega)
  refine Ev.rounds (Ev.congr (f := fun k => (astragallaw01_shown.f k).bind fun t342 => astragallaw01_BitsPacks.j0 k l a b n t342 false) (fun k => ?_) (Ev.bind Shown1.sem ?_))
  · unfold astragallaw01_BitsPacks.f
    congr 1
    funext t
    rw [if_neg (by omega), decide_eq_false (by omega)]
  · refine Ev.step (f := fun k => (astragalref01_Pack.f k l a).bind fun bt347 => (if (strOfNums r.1).toList = (strOfNums bt347.1).toList then (if r.2 = bt347.2 then ((astragalref01_Same.f k u.1 u.1).bind fun t359 => (if t359 = true then (if u.2 = u.2 then ((bits_Width.f k l).bind fun t360 => ((astragalref01_Width.f k l).bind fun t361 => (some (t360 == t361)))) else (some false)) else (some false))) else (some false)) else (some false))) (fun k => ?_) ?_
    · simp only [astragallaw01_BitsPacks.j0, Bool.false_eq_true, if_false, hr, huu, huv, Option.bind_some, if_true]
    · refine Ev.bind hr2 ?_
      simp only [if_true]
      refine Ev.bind hs ?_
      simp only [if_true]
      refine Ev.bind hw1 (Ev.bind hw2 ?_)
      simp only [beq_self_eq_true]
      exact Ev.now _
end Go.Proofs.Ytnndeogbncadbaa.Pure
