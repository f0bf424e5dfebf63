/- The calls of package bits' writers and readers: what each comes to, by a walk of its code. -/
import Derived.Test.YtnndeogbncadbaaPlain
import Derived.Test.YtnndeogbncadbaaShelf
import Derived.WalkKit
import Derived.Outline
import Derived.BigRegion
import Derived.Deep.QuietTactic
import Derived.BigQuiet
import Derived.StillTailTactics
namespace Go.Proofs.Ytnndeogbncadbaa.F
open Go.RowKit Go.Proofs.YtnndeogbncadbaaW.PrintWords Go.Proofs.YtnndeogbncadbaaW.PrintLast Go.Proofs.YtnndeogbncadbaaW.PrintMore
set_option linter.unusedVariables false

/-- A writer at block g whose bits are b. -/
def IsW (W : World) (base g : Nat) (b : List Bool) : Prop :=
  ∃ v, W.heap[g]? = some (.cells #[v, .int .i64 (b.length : Int)] 55 (0, 0)) ∧ base ≤ g ∧ Kd.R (Kd.int .u8) 5 W base (fun _ => True) v (packN b)
/-- Blocks of other types than a writer's, or a byte's, stay. -/
def KeepT (w w' : World) : Prop := w.heap.size ≤ w'.heap.size ∧ ∀ (k : Nat) (cs : Array Value) (t : TypeId) (fr : Nat × Nat), w.heap[k]? = some (.cells cs t fr) → t ≠ 5 → t ≠ 55 → w'.heap[k]? = some (.cells cs t fr)
theorem KeepT.refl (w : World) : KeepT w w := ⟨Nat.le_refl _, fun _ _ _ _ h _ _ => h⟩
theorem KeepT.trans {a b c : World} (h : KeepT a b) (k : KeepT b c) : KeepT a c := ⟨Nat.le_trans h.1 k.1, fun i cs t fr hi h1 h2 => k.2 i cs t fr (h.2 i cs t fr hi h1 h2) h1 h2⟩
theorem KeepT.set {a b : World} (h : KeepT a b) {g j : Nat} {cs : Array Value} {t : TypeId} {fr : Nat × Nat} (hg : b.heap[g]? = some (.cells cs t fr)) (ht : t = 5 ∨ t = 55) (u : Value) : KeepT a (b.setCell ⟨g, j, none⟩ u) := by
  refine ⟨by simpa [World.setCell] using h.1, fun i ci ti fi hi h1 h2 => ?_⟩
  have h3 := h.2 i ci ti fi hi h1 h2
  refine (Below.heap_setCell _ _ _ _ ?_).trans h3
  rintro rfl
  rw [h3] at hg
  injection hg with hg
  injection hg with _ hg
  subst hg
  rcases ht with ht | ht
  · exact h1 ht
  · exact h2 ht
theorem KeepT.drew {a b : World} (h : KeepT a b) : KeepT a b.drew := h
theorem KeepT.alloc {a b : World} (h : KeepT a b) (o : Obj) : KeepT a (b.alloc o) := ⟨by simp; have := h.1; omega, fun i ci ti fi hi h1 h2 => blk_alloc (h.2 i ci ti fi hi h1 h2) o⟩
theorem KeepT.grown {a b c : World} (h : KeepT a b) {base : Nat} {ok : Nat → Prop} {v : Value} {xs : List Int} (hr : Kd.R (Kd.int .u8) 5 b base ok v xs) (hg : b.grownBy c v.ownBlock) : KeepT a c := by
  refine ⟨Nat.le_trans h.1 hg.size, fun i ci ti fi hi h1 h2 => ?_⟩
  have h3 := h.2 i ci ti fi hi h1 h2
  refine blk_grown h3 hg ?_
  intro he
  obtain ⟨inner, ho⟩ := Kd.R_own hr
  obtain ⟨cells, hc⟩ := own_typed ho i he.symm
  rw [h3] at hc
  injection hc with hc
  injection hc with _ hc
  exact h1 hc

theorem lenN_half (n : Nat) (h : n ≠ 0) : lenN n = 1 + lenN (n / 2) := by
  unfold lenN
  rw [if_neg h]
  by_cases h1 : n / 2 = 0
  · rw [if_pos h1]
    have : n = 1 := by omega
    subst this
    rfl
  · rw [if_neg h1, Nat.log2_def, if_pos (by omega)]
    omega
theorem lenN_aux (f : Nat) : ∀ n, n < 2 ^ f → Lib.bitLenAux f n = lenN n := by
  induction f with
  | zero =>
    intro n h
    have : n = 0 := by simpa using h
    subst this
    rfl
  | succ f ih =>
    intro n h
    rw [Lib.bitLenAux]
    split
    · rename_i h0
      subst h0
      rfl
    · rename_i h0
      rw [ih _ (by rw [Nat.pow_succ] at h; omega), ← lenN_half n h0]
theorem lenN_bitLen (n : Nat) (h : n < 18446744073709551616) : Lib.bitLen n = lenN n := lenN_aux 64 n h
theorem putLen (n : Int) (h0 : inU64 n = true) (w : World) : Calls Try.prog 49 #[.int .u64 n] w fun e w' => e = .returned (.int .i64 (lenN n.toNat : Int)) ∧ w = w' := by
  have h : 0 ≤ n ∧ n < 18446744073709551616 := by simpa [inU64] using h0
  refine (Try.bits_Len64 n w h.1 (by omega)).mono fun e w' ⟨he, hw⟩ => ⟨?_, hw.symm⟩
  rw [he, lenN_bitLen _ (by omega)]

theorem bits_Len64.calls (a0 : Int) (r : Int) (w : World) (h : bits_Len64.f a0 = some r) :
    Calls Try.prog 49 #[.int .u64 a0] w fun e w' => e = .returned (.int .i64 r) ∧ Drawn0 w w' := by
  by_cases h0 : inU64 a0 = true
  · unfold bits_Len64.f at h
    rw [if_pos h0] at h
    cases h
    exact (putLen a0 h0 w).mono fun e w' ⟨he, hw⟩ => ⟨he, by subst hw; exact Drawn0.refl _⟩
  · unfold bits_Len64.f at h
    rw [if_neg h0] at h
    cases h
/-- A row of bytes of one's own that has elements: where it lies; the element at j; a store. -/
theorem bytes_at {W : World} {base : Nat} {v : Value} {L : List Int} (h : Kd.R (Kd.int .u8) 5 W base (fun _ => True) v L) (j : Int) (h0 : 0 ≤ j) (h1 : j < L.length) :
    ∃ gg cap, v = .slice (some ⟨gg, 0, none⟩) L.length cap ∧ base ≤ gg ∧ W.cell? ⟨gg, j.toNat, none⟩ = some (.int .u8 (rd L j)) ∧ W.frozen? ⟨gg, j.toNat, none⟩ = false ∧ (∃ cells, W.heap[gg]? = some (.cells cells 5 (0, 0))) := by
  have ho := Kd.own_of_R h
  obtain ⟨gg, cap, rfl, hb, hl⟩ := ho.form (by omega)
  have ho' : W.ownsRow base 5 1 (.slice (some ⟨gg, 0, none⟩) L.length cap) L.length (nums .u8 L) := ho
  have ha := own_at ho' j h0 h1
  exact ⟨gg, cap, rfl, own_base ho gg rfl, ha.1, ha.2, own_typed ho gg rfl⟩

theorem u8_ne55 : ∀ q, q ∈ 5 :: (Kd.int .u8).E → q ≠ 55 := by
  intro q hq
  rcases List.mem_cons.1 hq with rfl | h
  · decide
  · cases h
theorem w_end {w X : World} {base g gg cap : Nat} {c : List Bool} {b : Bool} {S : Int} {cells : Array Value} (hN : (c.length : Int) + 1 = ((c ++ [b]).length : Int))
    (hX : X.heap[g]? = some (.cells #[.slice (some ⟨gg, 0, none⟩) (roomN c).length cap, .int .i64 (c.length : Int)] 55 (0, 0))) (hg : base ≤ g) (hgg : base ≤ gg)
    (hR : Kd.R (Kd.int .u8) 5 X base (fun _ => True) (.slice (some ⟨gg, 0, none⟩) (roomN c).length cap) (roomN c)) (hc : X.heap[gg]? = some (.cells cells 5 (0, 0)))
    (hS : S = rd (roomN c) ((c.length / 8 : Nat) : Int) + ((b.toNat * 2 ^ (c.length % 8) : Nat) : Int)) (hB : Below base w X) (hT : KeepT w X) :
    IsW (((X.setCell ⟨gg, c.length / 8, none⟩ (.int .u8 S)).setCell ⟨g, 1, none⟩ (.int .i64 ((c.length : Int) + 1))).drew) base g (c ++ [b]) ∧
    Below base w (((X.setCell ⟨gg, c.length / 8, none⟩ (.int .u8 S)).setCell ⟨g, 1, none⟩ (.int .i64 ((c.length : Int) + 1))).drew) ∧
    KeepT w (((X.setCell ⟨gg, c.length / 8, none⟩ (.int .u8 S)).setCell ⟨g, 1, none⟩ (.int .i64 ((c.length : Int) + 1))).drew) := by
  have hne : g ≠ gg := blk_ne hX hc (by decide)
  have hX1 := blk_far hX (p := ⟨gg, c.length / 8, none⟩) hne (.int .u8 S)
  have hp := (Kd.R_put hR ((c.length / 8 : Nat) : Int) S).1
  rw [Int.toNat_natCast] at hp
  have hL : (roomN c).set (c.length / 8) S = packN (c ++ [b]) := by rw [hS]; exact put_step c b
  rw [hL] at hp
  refine ⟨⟨.slice (some ⟨gg, 0, none⟩) (roomN c).length cap, ?_, hg, ?_⟩, ?_, ?_⟩
  · have := blk_set hX1 1 (.int .i64 ((c.length : Int) + 1))
    have h5 : ((X.setCell ⟨gg, c.length / 8, none⟩ (.int .u8 S)).setCell ⟨g, 1, none⟩ (.int .i64 ((c.length : Int) + 1))).heap[g]? = some (.cells #[.slice (some ⟨gg, 0, none⟩) (roomN c).length cap, .int .i64 ((c.length : Int) + 1)] 55 (0, 0)) := by simpa using this
    rw [← hN]
    exact h5
  · exact Kd.R_set hp hX1 u8_ne55 1 _
  · exact ((hB.setCell hgg _).setCell hg _).drew
  · exact ((hT.set hc (.inl rfl) _).set hX1 (.inr rfl) _).drew

set_option maxHeartbeats 4000000 in
set_option maxRecDepth 100000 in
theorem put_any (base g : Nat) (b : List Bool) (n width : Int) (h0 : inU64 n = true) (h1 : 0 ≤ width) (h2 : width ≤ 64) (h3 : (lenN n.toNat : Int) ≤ width) (hs : b.length ≤ 1125899906842000) (w : World) (hI : IsW w base g b) (hle : base ≤ w.heap.size) :
    Calls Try.prog 28 #[.pointer (some ⟨g, 0, none⟩), .int .u64 n, .int .i64 width] w fun e w' => e = .returned (.int .i64 0) ∧ IsW w' base g (b ++ bitsN width.toNat n.toNat) ∧ Below base w w' ∧ KeepT w w' := by
  have HI := Aside0.mk hI
  have HL := Aside0.mk hle
  clear hI hle
  go_enter Try.func28, Try.ntmps28
  go_wp2_with (go_at_call 49; refine (putLen n h0 _).mono ?_; rintro e w' ⟨rfl, rfl⟩)
  go_loopw [25] (fun i wr => ∃ K : Int, 0 ≤ K ∧ K ≤ width ∧ i = .int .i64 K ∧ Aside0 (IsW wr base g (b ++ (bitsN width.toNat n.toNat).take K.toNat)) ∧ Aside0 (Below base w wr) ∧ Aside0 (KeepT w wr)) (fun i _ => (width - intOf i).toNat)
  case atStart => exact ⟨0, by omega, by omega, rfl, ⟨by simpa using HI.out⟩, ⟨Below.refl _ _⟩, ⟨KeepT.refl _⟩⟩
  case round =>
    clear HI
    obtain ⟨K, hK0, hK1, rfl, HI, HB, HT⟩ := hrel
    by_cases hlt : K < width
    · obtain ⟨c, hc⟩ : ∃ c, c = b ++ (bitsN width.toNat n.toNat).take K.toNat := ⟨_, rfl⟩
      rw [← hc] at HI
      obtain ⟨bit, hbit⟩ : ∃ x, x = n.toNat.testBit K.toNat := ⟨_, rfl⟩
      have hcl : c.length ≤ b.length + 64 := by rw [hc, List.length_append, List.length_take, bitsN_length]; omega
      have HC : Aside0 (c ++ [bit] = b ++ (bitsN width.toNat n.toNat).take (K + 1).toNat) := ⟨by rw [hc, hbit, show (K + 1).toNat = K.toNat + 1 by omega, bitsN_take _ _ _ (by omega), List.append_assoc]⟩
      clear hc
      obtain ⟨v, hb, hg, ho⟩ := HI.out
      clear HI
      obtain ⟨N, hN⟩ : ∃ N : Int, N = (c.length : Int) := ⟨_, rfl⟩
      rw [← hN] at hb
      have hN0 : 0 ≤ N := by omega
      have hN1 : N ≤ 1125899906842064 := by omega
      obtain ⟨J, hJ⟩ : ∃ J : Int, N.tdiv 8 = J := ⟨_, rfl⟩
      obtain ⟨M, hM⟩ : ∃ M : Int, N.tmod 8 = M := ⟨_, rfl⟩
      have hJe : J = N / 8 := by rw [← hJ, Int.tdiv_eq_ediv_of_nonneg hN0]
      have hMe : M = N % 8 := by rw [← hM, Int.tmod_eq_emod_of_nonneg hN0]
      have hJ0 : 0 ≤ J := by omega
      have hM0 : 0 ≤ M := by omega
      have hM1 : M < 8 := by omega
      have wJ : IntKind.i64.wrap J = J := by have := IntWalk.i64_in J (by omega); exact this
      have wM : IntKind.u64.wrap M = M := by rw [IntKind.wrap_u64]; omega
      have wK : IntKind.u64.wrap K = K := by rw [IntKind.wrap_u64]; omega
      have hJL : J < ((roomN c).length : Int) := by rw [roomN_length]; omega
      have hJc : J.toNat = c.length / 8 := by omega
      have hMc : M.toNat = c.length % 8 := by omega
      have hSv := put_value n (rd (roomN c) ((c.length / 8 : Nat) : Int)) K.toNat (c.length % 8) (by simp [inU64] at h0; omega) (by simp [inU64] at h0; omega) (by omega) (roomN_lt c).1 (roomN_lt c).2
      rw [← hbit, ← hMc, show ((c.length / 8 : Nat) : Int) = J by omega] at hSv
      obtain ⟨S, hS⟩ : ∃ S, bits .or .u8 (rd (roomN c) J) (bits .and .u64 (n / 2 ^ K.toNat) 1 % 256 * 2 ^ M.toNat % 256) = S := ⟨_, rfl⟩
      rw [hS] at hSv
      have HS := Aside0.mk hSv
      have HN := Aside0.mk hN
      have HJ := Aside0.mk hJc
      have HM := Aside0.mk hMc
      have hm8 : M = 0 ↔ c.length % 8 = 0 := by omega
      clear hN hSv hJc hMc hJe hMe hbit
      have HO := Aside0.mk ho
      have HH := Aside0.mk hb
      have HG := Aside0.mk hg
      have hcell0 : wr.cell? ⟨g, 0, none⟩ = some v := blk_cell hb 0
      have hcell1 : wr.cell? ⟨g, 1, none⟩ = some (.int .i64 N) := blk_cell hb 1
      have hfr0 : wr.frozen? ⟨g, 0, none⟩ = false := blk_frozen hb 0
      clear ho hb hg
      by_cases h8 : M = 0
      · have HE : Aside0 (roomN c = packN c ++ [0]) := ⟨by unfold roomN; rw [if_pos (hm8.1 h8)]⟩
        have h8b : (M == 0) = true := beq_iff_eq.mpr h8
        clear h8 hm8
        go_wp2_with (first | ((with_reducible refine gate_builtin (b := .append) (xs := #[.tmp 38, .tmp 39]) rfl ?_); at_builtin; refine Kd.R_append (Kd.int .u8) (w0 := w) base rfl (.tmp 38) (.tmp 39) 49 5 (.int .u8 0) 1 rfl Try.underlying49 info5 rfl (by decide) (by omega) v (packN c) 0 [.int .u8 0] (fun _ => True) (fun _ => False) rfl rfl rfl (fun _ hk => hk.elim) (fun _ _ => trivial) HO.out HB.out (Nat.le_trans HL.out HB.out.size) (by rw [packN_length]; omega) ?_; intro v1 w1 ho1 hb1 hg1 hat1; rw [← HE.out] at ho1; obtain ⟨gg, cap, rfl, hgg, hxc, hxf, hcells⟩ := bytes_at ho1 J hJ0 hJL; have n0_ := Aside0.mk ho1; have n1_ := Aside0.mk hb1; have n2_ := Aside0.mk (blk_grown HH.out hg1 (Kd.R_ne HO.out HH.out (by decide))); have n3_ := Aside0.mk (HT.out.grown HO.out hg1); clear HO HB HT HH hcell0 hcell1 hfr0 ho1 hb1 hg1 hat1; have HO := n0_; have HB := n1_; have HT := n3_; have HH := n2_; have hcell0 := blk_cell HH.out 0; have hfr0 := blk_frozen HH.out 0; simp only [List.getElem?_toArray, List.getElem?_cons_zero] at hcell0; clear n0_ n1_ n2_ n3_))
        obtain ⟨X, hX⟩ : ∃ X, w1.setCell ⟨g, 0, none⟩ (.slice (some ⟨gg, 0, none⟩) (roomN c).length cap) = X := ⟨_, rfl⟩
        rw [hX]
        have HX : Aside0 (X.heap[g]? = some (.cells #[.slice (some ⟨gg, 0, none⟩) (roomN c).length cap, .int .i64 N] 55 (0, 0))) := ⟨by rw [← hX]; simpa using blk_set HH.out 0 (.slice (some ⟨gg, 0, none⟩) (roomN c).length cap)⟩
        have HXR : Aside0 (Kd.R (Kd.int .u8) 5 X base (fun _ => True) (.slice (some ⟨gg, 0, none⟩) (roomN c).length cap) (roomN c)) := ⟨by rw [← hX]; exact Kd.R_set HO.out HH.out u8_ne55 0 _⟩
        have HXB : Aside0 (Below base w X) := ⟨by rw [← hX]; exact HB.out.setCell HG.out _⟩
        have HXT : Aside0 (KeepT w X) := ⟨by rw [← hX]; exact HT.out.set HH.out (.inr rfl) _⟩
        clear hcell0 hfr0 hxc hxf hcells hX HO HB HT HH
        have hcell0 : X.cell? ⟨g, 0, none⟩ = some (.slice (some ⟨gg, 0, none⟩) (roomN c).length cap) := blk_cell HX.out 0
        have hcell1 : X.cell? ⟨g, 1, none⟩ = some (.int .i64 N) := blk_cell HX.out 1
        obtain ⟨gg', cap', he, _, hx, hfx, cells, hcells⟩ := bytes_at HXR.out J hJ0 hJL
        cases he
        have hxd : X.drew.cell? ⟨gg, J.toNat, none⟩ = some (.int .u8 (rd (roomN c) J)) := hx
        have hfd : X.drew.frozen? ⟨gg, J.toNat, none⟩ = false := hfx
        have HCL := Aside0.mk hcells
        have hX1 := blk_far HX.out (p := ⟨gg, J.toNat, none⟩) (blk_ne HX.out hcells (by decide)) (.int .u8 S)
        have hc1 : (X.setCell ⟨gg, J.toNat, none⟩ (.int .u8 S)).cell? ⟨g, 1, none⟩ = some (.int .i64 N) := blk_cell hX1 1
        have hf1 : (X.setCell ⟨gg, J.toNat, none⟩ (.int .u8 S)).frozen? ⟨g, 1, none⟩ = false := blk_frozen hX1 1
        clear hcells hX1
        go_still_tail 26, (by kernel_rfl)
        change wpList _ _ _ _ _ X.drew
        go_wp2_with fail
        go_roundw
        case rel =>
          have hj : ((c.length / 8 : Nat) : Int) = J := by have := HJ.out; omega
          have hE := w_end (w := w) (X := X) (g := g) (gg := gg) (cap := cap) (base := base) (c := c) (b := bit) (S := S) (by simp) (by rw [← HN.out]; exact HX.out) HG.out hgg HXR.out HCL.out (by rw [hj, ← HM.out]; exact HS.out) HXB.out HXT.out
          rw [← HJ.out, ← HN.out, HC.out] at hE
          exact ⟨K + 1, by omega, by omega, rfl, ⟨hE.1⟩, ⟨hE.2.1⟩, ⟨hE.2.2⟩⟩
        case measure => simp [intOf]; omega
      · have HE : Aside0 (roomN c = packN c) := ⟨by unfold roomN; rw [if_neg (fun h => h8 (hm8.2 h))]⟩
        have h8b : (M == 0) = false := beq_eq_false_iff_ne.mpr h8
        clear h8 hm8
        rw [← HE.out] at HO
        obtain ⟨gg, cap, rfl, hgg, hxc, hxf, hcells⟩ := bytes_at HO.out J hJ0 hJL
        clear hxc hxf hcells
        go_wp2_with fail
        clear hcell0 hcell1 hfr0
        have HX := HH
        have HXR := HO
        have HXB := HB
        have HXT := HT
        clear HH HO HB HT
        obtain ⟨X, rfl⟩ : ∃ X, X = wr := ⟨_, rfl⟩
        have hcell0 : X.cell? ⟨g, 0, none⟩ = some (.slice (some ⟨gg, 0, none⟩) (roomN c).length cap) := blk_cell HX.out 0
        have hcell1 : X.cell? ⟨g, 1, none⟩ = some (.int .i64 N) := blk_cell HX.out 1
        obtain ⟨gg', cap', he, _, hx, hfx, cells, hcells⟩ := bytes_at HXR.out J hJ0 hJL
        cases he
        have hxd : X.drew.cell? ⟨gg, J.toNat, none⟩ = some (.int .u8 (rd (roomN c) J)) := hx
        have hfd : X.drew.frozen? ⟨gg, J.toNat, none⟩ = false := hfx
        have HCL := Aside0.mk hcells
        have hX1 := blk_far HX.out (p := ⟨gg, J.toNat, none⟩) (blk_ne HX.out hcells (by decide)) (.int .u8 S)
        have hc1 : (X.setCell ⟨gg, J.toNat, none⟩ (.int .u8 S)).cell? ⟨g, 1, none⟩ = some (.int .i64 N) := blk_cell hX1 1
        have hf1 : (X.setCell ⟨gg, J.toNat, none⟩ (.int .u8 S)).frozen? ⟨g, 1, none⟩ = false := blk_frozen hX1 1
        clear hcells hX1
        go_still_tail 26, (by kernel_rfl)
        change wpList _ _ _ _ _ X.drew
        go_wp2_with fail
        go_roundw
        case rel =>
          have hj : ((c.length / 8 : Nat) : Int) = J := by have := HJ.out; omega
          have hE := w_end (w := w) (X := X) (g := g) (gg := gg) (cap := cap) (base := base) (c := c) (b := bit) (S := S) (by simp) (by rw [← HN.out]; exact HX.out) HG.out hgg HXR.out HCL.out (by rw [hj, ← HM.out]; exact HS.out) HXB.out HXT.out
          rw [← HJ.out, ← HN.out, HC.out] at hE
          exact ⟨K + 1, by omega, by omega, rfl, ⟨hE.1⟩, ⟨hE.2.1⟩, ⟨hE.2.2⟩⟩
        case measure => simp [intOf]; omega
    · go_wp2_with fail
      go_ret
      have hk : K = width := by omega
      subst hk
      refine ⟨rfl, ?_, HB.out, HT.out⟩
      have h := HI.out
      rw [List.take_of_length_le (by rw [bitsN_length]; omega)] at h
      exact h
end Go.Proofs.Ytnndeogbncadbaa.F
