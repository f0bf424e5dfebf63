/- Any values split, any ones joined: the plain law. -/
import Derived.Test.YtnndeogbncadbaaSem4
import Derived.Test.YtnndeogbncadbaaF13
namespace Go.Proofs.Ytnndeogbncadbaa.F
open Go.RowKit Go.Proofs.YtnndeogbncadbaaW.PrintWords Go.Proofs.YtnndeogbncadbaaW.PrintLast Go.Proofs.YtnndeogbncadbaaW.PrintMore
set_option linter.unusedVariables false
theorem rdT_nat (l : List S37) (i : Nat) (h : i < l.length) : rd_T37 l (i : Int) = l[i] := by
  unfold rd_T37
  rw [Int.toNat_natCast, List.getD_eq_getElem?_getD, List.getElem?_eq_getElem h]
  rfl
theorem wrap_next (i : Nat) (h : i ≤ 1000000000) : wrap64 ((i : Int) + 1) = ((i + 1 : Nat) : Int) := by rw [wrap_le (by omega) (by omega)]; rfl
theorem RSplit.loop (l : List S37) (hl : l.length ≤ 1000000000) (d : Nat) : ∀ (i : Nat), l.length = i + d →
    Ev (fun k => astragalref06_Split.l0 k l ((l.take i).map fun v => v.f0 == 0) ((l.take i).filter fun v => v.f0 != 0) (i : Int)) (l.map (fun v => v.f0 == 0), l.filter (fun v => v.f0 != 0)) := by
  induction d with
  | zero =>
    intro i hi
    refine Ev.step (f := fun k => some (l.map (fun v => v.f0 == 0), l.filter (fun v => v.f0 != 0))) (fun k => ?_) (Ev.now _)
    simp only [astragalref06_Split.l0]
    rw [if_neg (by omega), List.take_of_length_le (by omega)]
  | succ d ih =>
    intro i hi
    have hix : i < l.length := by omega
    have h := ih (i + 1) (by omega)
    rw [List.take_succ_eq_append_getElem hix, List.map_append, List.filter_append] at h
    have hfl : ((l.take i).filter fun v => v.f0 != 0).length ≤ l.length := Nat.le_trans (List.length_filter_le _ _) (by rw [List.length_take]; omega)
    have hml : ((l.take i).map fun v => v.f0 == 0).length ≤ l.length := by rw [List.length_map, List.length_take]; omega
    have hrd := rdT_nat l i hix
    by_cases h0 : (l[i]).f0 = 0
    · rw [show [l[i]].filter (fun v => v.f0 != 0) = [] by rw [List.filter_cons, if_neg (by rw [h0]; decide)]; rfl, List.append_nil] at h
      refine Ev.step (f := fun k => astragalref06_Split.l0 k l (((l.take i).map fun v => v.f0 == 0) ++ [l[i]].map (fun v => v.f0 == 0)) ((l.take i).filter fun v => v.f0 != 0) ((i + 1 : Nat) : Int)) (fun k => ?_) h
      simp only [astragalref06_Split.l0, hrd]
      rw [if_pos (by omega), if_pos (by omega), if_pos (by omega), Option.bind_some, if_pos h0, wrap_next i (by omega)]
      rfl
    · rw [show [l[i]].filter (fun v => v.f0 != 0) = [l[i]] by rw [List.filter_cons, if_pos (bne_iff_ne.2 h0)]; rfl] at h
      refine Ev.step (f := fun k => astragalref06_Split.l0 k l (((l.take i).map fun v => v.f0 == 0) ++ [l[i]].map (fun v => v.f0 == 0)) (((l.take i).filter fun v => v.f0 != 0) ++ [l[i]]) ((i + 1 : Nat) : Int)) (fun k => ?_) h
      simp only [astragalref06_Split.l0, hrd]
      rw [if_pos (by omega), if_pos (by omega), if_pos (by omega), Option.bind_some, if_neg h0, if_pos (by omega), wrap_next i (by omega)]
      rfl
theorem RCount.loop (l : List Bool) (hl : l.length ≤ 1000000000) (d : Nat) : ∀ (i : Nat), l.length = i + d → Ev (fun k => astragalref06_Count.l0 k l ((l.take i).count true : Nat) (i : Int)) ((l.count true : Nat) : Int) := by
  induction d with
  | zero =>
    intro i hi
    refine Ev.step (f := fun k => some ((l.count true : Nat) : Int)) (fun k => ?_) (Ev.now _)
    simp only [astragalref06_Count.l0]
    rw [if_neg (by omega), List.take_of_length_le (by omega)]
  | succ d ih =>
    intro i hi
    have h := ih (i + 1) (by omega)
    have hlt : i < l.length := by omega
    have hrd := rdb_nat l i hlt
    have hcl : (l.take i).count true ≤ l.length := Nat.le_trans List.count_le_length (by rw [List.length_take]; omega)
    rw [List.take_succ_eq_append_getElem hlt, List.count_append] at h
    cases hb : l[i] with
    | true =>
      rw [hb] at h hrd
      refine Ev.step (f := fun k => astragalref06_Count.l0 k l (((l.take i).count true + [true].count true : Nat) : Int) ((i + 1 : Nat) : Int)) (fun k => ?_) h
      simp only [astragalref06_Count.l0]
      rw [if_pos (by omega), if_pos (by omega), if_pos hrd, wrap_next i (by omega), wrap_le (by omega) (by omega)]
      rfl
    | false =>
      rw [hb] at h hrd
      refine Ev.step (f := fun k => astragalref06_Count.l0 k l (((l.take i).count true + [false].count true : Nat) : Int) ((i + 1 : Nat) : Int)) (fun k => ?_) h
      simp only [astragalref06_Count.l0]
      rw [if_pos (by omega), if_pos (by omega), if_neg (by rw [hrd]; decide), wrap_next i (by omega)]
      rfl
theorem RCount.sem (l : List Bool) (hl : l.length ≤ 1000000000) : Ev (fun k => astragalref06_Count.f k l) ((l.count true : Nat) : Int) := RCount.loop l hl l.length 0 (by omega)
theorem Same5.loop (a : List S37) (hl : a.length ≤ 1000000000) (d : Nat) : ∀ (i : Nat), a.length = i + d → Ev (fun k => astragalref05_Same.l0 k a a (i : Int)) true := by
  induction d with
  | zero =>
    intro i hi
    refine Ev.step (f := fun k => some true) (fun k => ?_) (Ev.now _)
    simp only [astragalref05_Same.l0]
    rw [if_neg (by omega)]
  | succ d ih =>
    intro i hi
    refine Ev.step (f := fun k => astragalref05_Same.l0 k a a ((i + 1 : Nat) : Int)) (fun k => ?_) (ih (i + 1) (by omega))
    simp only [astragalref05_Same.l0]
    rw [if_pos (by omega), if_pos (by omega), if_pos (by omega), if_neg (by simp), wrap_next i (by omega)]
theorem Same5.refl (a : List S37) (hl : a.length ≤ 1000000000) : Ev (fun k => astragalref05_Same.f k a a) true := by
  refine Ev.congr (fun k => ?_) (Same5.loop a hl a.length 0 (by omega))
  unfold astragalref05_Same.f
  rw [if_pos rfl]
  rfl
theorem RJoin.fill (l : List Bool) (xs : List S37) (hl : l.length ≤ 1000000000) (hx : xs.length ≤ 1000000000) (d : Nat) : ∀ (i c : Nat) (out : List S37), l.length = i + d → out.length = i → c ≤ xs.length →
    joinN l xs = out ++ joinN (l.drop i) (xs.drop c) → (xs.drop c).length + (l.drop i).count true = (l.drop i).length →
    Ev (fun k => astragalref06_Join.l1 k l xs out (c : Int) (i : Int)) (joinN l xs, 0) := by
  induction d with
  | zero =>
    intro i c out hi ho hc hj hn
    rw [List.drop_of_length_le (by omega : l.length ≤ i)] at hj
    refine Ev.step (f := fun k => some (joinN l xs, 0)) (fun k => ?_) (Ev.now _)
    simp only [astragalref06_Join.l1]
    rw [if_neg (by omega), hj]
    simp [joinN]
  | succ d ih =>
    intro i c out hi ho hc hj hn
    have hlt : i < l.length := by omega
    have hrd := rdb_nat l i hlt
    have hcd := count_drop l i hlt
    have hdl : (l.drop i).length = (l.drop (i + 1)).length + 1 := by rw [List.length_drop, List.length_drop]; omega
    cases hb : l[i] with
    | true =>
      rw [hb] at hrd hcd
      rw [if_pos rfl] at hcd
      have h := ih (i + 1) c (out ++ [z37]) (by omega) (by rw [List.length_append, List.length_singleton]; omega) hc (by rw [hj, join_true l _ i hlt hb, List.append_assoc]; rfl) (by omega)
      refine Ev.step (f := fun k => astragalref06_Join.l1 k l xs (out ++ [z37]) (c : Int) ((i + 1 : Nat) : Int)) (fun k => ?_) h
      simp only [astragalref06_Join.l1]
      rw [if_pos (by omega), if_pos (by omega), if_pos hrd, if_pos (by omega), wrap_next i (by omega)]
      rfl
    | false =>
      rw [hb] at hrd hcd
      rw [if_neg (by decide)] at hcd
      have hcl := List.count_le_length (a := true) (l := l.drop (i + 1))
      have hcx : c < xs.length := by
        rw [List.length_drop] at hn
        omega
      have hdx := List.drop_eq_getElem_cons hcx
      have h := ih (i + 1) (c + 1) (out ++ [xs[c]]) (by omega) (by rw [List.length_append, List.length_singleton]; omega) (by omega) (by rw [hj, hdx, join_false l _ _ i hlt hb, List.append_assoc]; rfl) (by
        rw [List.length_drop] at hn ⊢
        omega)
      have hrx := rdT_nat xs c hcx
      refine Ev.step (f := fun k => astragalref06_Join.l1 k l xs (out ++ [xs[c]]) ((c + 1 : Nat) : Int) ((i + 1 : Nat) : Int)) (fun k => ?_) h
      simp only [astragalref06_Join.l1, hrx]
      rw [if_pos (by omega), if_pos (by omega), if_neg (by rw [hrd]; decide), if_pos (by omega), if_pos (by omega), if_pos (by omega), wrap_next i (by omega), wrap_next c (by omega)]
theorem RJoin.scan (l : List Bool) (xs : List S37) (hl : l.length ≤ 1000000000) (hx : xs.length ≤ 1000000000) (r : List S37 × Int) (h : null_Join.f l xs = some r) (d : Nat) : ∀ (i : Nat), xs.length = i + d → (xs.take i).all (fun v => v.f0 != 0) = true →
    Ev (fun k => astragalref06_Join.l0 k l xs (i : Int)) r := by
  induction d with
  | zero =>
    intro i hi ha
    rw [List.take_of_length_le (by omega)] at ha
    obtain ⟨K, hk⟩ := RCount.sem l hl
    have hcl := List.count_le_length (a := true) (l := l)
    unfold null_Join.f at h
    rw [if_pos ⟨hl, hx⟩] at h
    by_cases hc : xs.length + l.count true = l.length
    · rw [if_pos ⟨hc, ha⟩] at h
      cases h
      have hf := RJoin.fill l xs hl hx l.length 0 0 [] (by omega) rfl (by omega) rfl hc
      refine Ev.step (f := fun k => (astragalref06_Count.f k l).bind fun t172 => if (wrap64 ((xs.length : Int) + t172)) = (l.length : Int) then (astragalref06_Join.l1 k l xs [] 0 0) else some ([], 4)) (fun k => ?_) (Ev.bind ⟨K, hk⟩ (f := fun k t172 => if (wrap64 ((xs.length : Int) + t172)) = (l.length : Int) then (astragalref06_Join.l1 k l xs [] 0 0) else some ([], 4)) ?_)
      · simp only [astragalref06_Join.l0]
        rw [if_neg (by omega)]
      · simp only [if_pos (show wrap64 ((xs.length : Int) + ((l.count true : Nat) : Int)) = (l.length : Int) by rw [wrap_le (by omega) (by omega)]; omega)]
        exact hf
    · rw [if_neg (fun h => hc h.1)] at h
      cases h
      refine Ev.step (f := fun k => (astragalref06_Count.f k l).bind fun t172 => if (wrap64 ((xs.length : Int) + t172)) = (l.length : Int) then (astragalref06_Join.l1 k l xs [] 0 0) else some ([], 4)) (fun k => ?_) (Ev.bind ⟨K, hk⟩ (f := fun k t172 => if (wrap64 ((xs.length : Int) + t172)) = (l.length : Int) then (astragalref06_Join.l1 k l xs [] 0 0) else some ([], 4)) ?_)
      · simp only [astragalref06_Join.l0]
        rw [if_neg (by omega)]
      · simp only [if_neg (show ¬ wrap64 ((xs.length : Int) + ((l.count true : Nat) : Int)) = (l.length : Int) by rw [wrap_le (by omega) (by omega)]; omega)]
        exact Ev.now _
  | succ d ih =>
    intro i hi ha
    have hix : i < xs.length := by omega
    have hrx := rdT_nat xs i hix
    by_cases h0 : (xs[i]).f0 = 0
    · unfold null_Join.f at h
      rw [if_pos ⟨hl, hx⟩, if_neg (fun h => by
        have := List.all_eq_true.1 h.2 _ (List.getElem_mem hix)
        rw [h0] at this
        cases this)] at h
      cases h
      refine Ev.step (f := fun k => some ([], 4)) (fun k => ?_) (Ev.now _)
      simp only [astragalref06_Join.l0, hrx]
      rw [if_pos (by omega), if_pos (by omega), if_pos h0]
    · have h2 := ih (i + 1) (by omega) (by rw [List.take_succ_eq_append_getElem hix, List.all_append, ha]; simpa using h0)
      refine Ev.step (f := fun k => astragalref06_Join.l0 k l xs ((i + 1 : Nat) : Int)) (fun k => ?_) h2
      simp only [astragalref06_Join.l0, hrx]
      rw [if_pos (by omega), if_pos (by omega), if_neg h0, wrap_next i (by omega)]
theorem NullSplits.sem (l : List S37) (ns : List Bool) (xs : List S37) (hl : l.length ≤ 1048576) (hn : ns.length ≤ 1048576) (hx : xs.length ≤ 1048576) : ∃ k, astragallaw06_NullSplits.f k l ns xs = some true := by
  obtain ⟨K1, h1⟩ := Shown6.sem
  have s1 : null_Split.f l = some (l.map (fun v => v.f0 == 0), l.filter (fun v => v.f0 != 0)) := by unfold null_Split.f; rw [if_pos (by omega)]
  obtain ⟨K2, h2⟩ := RSplit.loop l (by omega) l.length 0 (by omega)
  obtain ⟨A, hA⟩ : ∃ A, l.map (fun v => v.f0 == 0) = A := ⟨_, rfl⟩
  obtain ⟨X, hX⟩ : ∃ X, l.filter (fun v => v.f0 != 0) = X := ⟨_, rfl⟩
  have lA : A.length = l.length := by rw [← hA, List.length_map]
  have lX : X.length ≤ l.length := by rw [← hX]; exact List.length_filter_le _ _
  rw [hA, hX] at s1 h2
  obtain ⟨r, hr⟩ : ∃ r, null_Join.f ns xs = some r := by
    unfold null_Join.f
    rw [if_pos ⟨by omega, by omega⟩]
    split <;> exact ⟨_, rfl⟩
  have hrl : r.1.length ≤ 1000000000 := by
    have hr2 := hr
    unfold null_Join.f at hr2
    rw [if_pos ⟨by omega, by omega⟩] at hr2
    split at hr2
    · cases hr2
      rw [joinN_length]
      omega
    · cases hr2
      simp
  obtain ⟨K3, h3⟩ := RJoin.scan ns xs (by omega) (by omega) r hr xs.length 0 (by omega) rfl
  obtain ⟨K4, h4⟩ := Same6.sem A A (by omega)
  rw [show decide (A = A) = true from decide_eq_true rfl] at h4
  obtain ⟨K5, h5⟩ := Same5.refl X (by omega)
  obtain ⟨K6, h6⟩ := Same5.refl r.1 hrl
  obtain ⟨K7, h7⟩ := Count.sem ns (by omega)
  obtain ⟨K8, h8⟩ := RCount.sem ns (by omega)
  refine ⟨K1 + K2 + K3 + K4 + K5 + K6 + K7 + K8, ?_⟩
  have g1 := h1 (K1 + K2 + K3 + K4 + K5 + K6 + K7 + K8) (by omega)
  have g2 := h2 (K1 + K2 + K3 + K4 + K5 + K6 + K7 + K8) (by omega)
  have g3 := h3 (K1 + K2 + K3 + K4 + K5 + K6 + K7 + K8) (by omega)
  have g4 := h4 (K1 + K2 + K3 + K4 + K5 + K6 + K7 + K8) (by omega)
  have g5 := h5 (K1 + K2 + K3 + K4 + K5 + K6 + K7 + K8) (by omega)
  have g6 := h6 (K1 + K2 + K3 + K4 + K5 + K6 + K7 + K8) (by omega)
  have g7 := h7 (K1 + K2 + K3 + K4 + K5 + K6 + K7 + K8) (by omega)
  have g8 := h8 (K1 + K2 + K3 + K4 + K5 + K6 + K7 + K8) (by omega)
  dsimp only at g1 g2 g3 g4 g5 g6 g7 g8
  replace g2 : astragalref06_Split.f (K1 + K2 + K3 + K4 + K5 + K6 + K7 + K8) l = some (A, X) := g2
  replace g3 : astragalref06_Join.f (K1 + K2 + K3 + K4 + K5 + K6 + K7 + K8) ns xs = some r := g3
  unfold astragallaw06_NullSplits.f
  rw [g1, Option.bind_some, s1, Option.bind_some, g2, Option.bind_some, hr, Option.bind_some, g3, Option.bind_some, if_pos rfl]
  dsimp only
  rw [g4, Option.bind_some, if_pos rfl, g5, Option.bind_some, if_pos rfl, g6, Option.bind_some, if_pos rfl, if_pos rfl, g7, Option.bind_some, g8, Option.bind_some]
  simp
theorem nullSplits_walk {w : World} (A0 : Option Addr) (c0 : Nat) (l0 : List S37) (hr0 : Kd.C k37 w A0 l0.length l0) (hc0 : l0.length ≤ c0) (hb0 : l0.length ≤ 1048576) (A1 : Option Addr) (c1 : Nat) (l1 : List Bool) (hr1 : Kd.C Kd.bool w A1 l1.length l1) (hc1 : l1.length ≤ c1) (hb1 : l1.length ≤ 1048576) (A2 : Option Addr) (c2 : Nat) (l2 : List S37) (hr2 : Kd.C k37 w A2 l2.length l2) (hc2 : l2.length ≤ c2) (hb2 : l2.length ≤ 1048576) :
    Calls Try.prog 4 #[.slice A0 l0.length c0, .slice A1 l1.length c1, .slice A2 l2.length c2] w fun e w' => e = .returned (.bool true) ∧ Below w.heap.size w w' := by
  obtain ⟨k, h⟩ := NullSplits.sem l0 l1 l2 hb0 hb1 hb2
  exact astragallaw06_NullSplits.calls k A0 c0 l0 A1 c1 l1 A2 c2 l2 true w hr0 hc0 hr1 hc1 hr2 hc2 h
end Go.Proofs.Ytnndeogbncadbaa.F
