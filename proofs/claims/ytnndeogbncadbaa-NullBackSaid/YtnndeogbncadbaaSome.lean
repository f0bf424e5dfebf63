/- null's iterator over the values that aren't nothing: its contract. -/
import Derived.RangeFuncNested
import Derived.RangeFuncBound
import Derived.RangeFuncCalls
import Derived.RangeFuncLeaves
import Derived.RangeFuncBox
import Derived.Shelf.Abstract
import Derived.Shelf.RegionOpen
import Derived.WalkKit
import Derived.OwnWalkIn
import Derived.TacticsInMore
import Derived.LoopNIn
import Derived.LoopIn
import Derived.Test.YtnndeogbncadbaaGdef
namespace Go.Proofs.Ytnndeogbncadbaa.F
open Go.RowKit Go.Shelf Go.Proofs.YtnndeogbncadbaaW.PrintWords
attribute [local go_sem] Oper.semAt_some
set_option linter.unusedVariables false
/-- A value as the model hands it round. -/
def val37 (x : S37) : Value := .agg #[.int .i64 x.f0, .int .i64 x.f1, .string x.f2]
/-- Is it something? -/
def isSome (x : S37) : Bool := x.f0 != 0
/-- What has come when k elements were looked at. -/
def come (zs : List S37) (k : Nat) : List S37 := (zs.take k).filter isSome
theorem come_succ (zs : List S37) (k : Nat) (h : k < zs.length) : come zs (k + 1) = come zs k ++ (if isSome zs[k] = true then [zs[k]] else []) := by
  unfold come
  rw [List.take_succ_eq_append_getElem h, List.filter_append]
  congr 1
  cases hb : isSome zs[k] <;> simp [hb]
theorem come_all (zs : List S37) : come zs zs.length = zs.filter isSome := by unfold come; rw [List.take_length]
theorem come_length (zs : List S37) (k : Nat) : (come zs k).length ≤ zs.length := by
  unfold come
  have h1 := List.length_filter_le isSome (zs.take k)
  have h2 := List.length_take_le k zs
  have h3 : (zs.take k).length ≤ zs.length := by rw [List.length_take]; omega
  omega
theorem come_lt (zs : List S37) (k : Nat) (h : k < zs.length) (hs : isSome zs[k] = true) : (come zs k).length < (zs.filter isSome).length := by
  have h1 : zs.filter isSome = come zs k ++ (zs.drop k).filter isSome := by
    unfold come
    rw [← List.filter_append, List.take_append_drop]
  rw [h1, List.drop_eq_getElem_cons h, List.filter_cons, if_pos hs]
  simp
theorem come_prefix (zs : List S37) (k : Nat) : come zs k <+: zs.filter isSome := by
  have h1 : zs.filter isSome = come zs k ++ (zs.drop k).filter isSome := by
    unfold come
    rw [← List.filter_append, List.take_append_drop]
  rw [h1]
  exact List.prefix_append _ _
theorem C37_below {W W' : World} {A : Option Addr} {n n₀ : Nat} {xs : List S37} (h : Kd.C k37 W A n xs) (hb : 0 < n → ∀ ad, A = some ad → ad.block < n₀) (hB : Below n₀ W W') : Kd.C k37 W' A n xs := by
  refine ⟨h.1, h.2.1, fun hn => ?_⟩
  obtain ⟨ad, e, hc⟩ := h.2.2 hn
  refine ⟨ad, e, fun j p hp => ?_⟩
  obtain ⟨c, hs, hk, hcell⟩ := hc j p hp
  obtain rfl := k37_open hk
  exact ⟨_, hs, k37_mk _ _, fun i u hu => (hB.cell (p := ad.add (j * 3 + i)) (by rw [add_block]; exact hb hn ad e)).trans (hcell i u hu)⟩
set_option maxRecDepth 100000 in
set_option maxHeartbeats 2000000 in
theorem some1_in (Fn : Fence) (n : Nat) (h51 : Fn.fn 51) (hro : Fn.round = none) (hn : 1 ≤ n) (l Bs n₀ : Nat) (A : Option Addr) (cap : Nat) (zs : List S37) (hb : 0 < zs.length → ∀ ad, A = some ad → ad.block < n₀)
    (J Jx : List S37 → World → Prop) (hgr : ∀ s W W', J s W → W.grownBy W' none → J s W')
    (hY : ∀ pre x W, J pre W → pre.length < (zs.filter isSome).length → YieldAt Fn (n - 1) Try.prog l #[val37 x] W fun e W' =>
      (e = .returned (.bool true) ∧ J (pre ++ [x]) W' ∧ Below n₀ W W') ∨ (e = .returned (.bool false) ∧ Jx (pre ++ [x]) W'))
    (W : World) (hle : n₀ ≤ W.heap.size) (hBs : W.cell? ⟨Bs, 0, none⟩ = some (.slice A zs.length cap)) (hc : Kd.C k37 W A zs.length zs) (h0 : J [] W) :
    CallsIn Fn n Try.prog 51 #[.func (.yield l) #[] #[], .pointer (some ⟨Bs, 0, none⟩)] W fun e W' => (∃ v, e = .returned v) ∧
      ((∃ ys, ys = zs.filter isSome ∧ J ys W') ∨ (∃ pre, pre <+: zs.filter isSome ∧ Jx pre W')) := by
  refine callsIn_of_wp Try.func51 rfl h51 ?_ hro
  simp only [Try.ntmps51, List.size_toArray, List.length_cons, List.length_nil, Nat.reduceAdd, Nat.reduceSub, Array.replicate_succ, Array.replicate_zero, List.push_toArray, List.append_toArray, List.nil_append, List.cons_append]
  gi_wp2
  have hu37 := Try.underlying37
  have hzl := hc.2.1
  gi_loopw [7] (fun i wr => ∃ K : Int, 0 ≤ K ∧ K ≤ (zs.length : Int) ∧ i = .int .i64 K ∧ J (come zs K.toNat) wr ∧ Below n₀ W wr) (fun i _ => zs.length - (intOf i).toNat)
  case atStart => exact ⟨0, by omega, by omega, rfl, h0, Below.refl _ _⟩
  case round =>
    obtain ⟨K, hK0, hK1, rfl, hJs, hnx⟩ := hrel
    by_cases hlt : K < (zs.length : Int)
    · obtain ⟨ad, e0, hx0, hx1, hx2⟩ := at_T37 (C37_below hc hb hnx) K hK0 hlt
      subst e0
      have hrd : rd_T37 zs K = zs[K.toNat]'(by omega) := by
        unfold rd_T37
        rw [List.getD_eq_getElem?_getD, List.getElem?_eq_getElem (by omega)]
        rfl
      obtain ⟨X, hX⟩ : ∃ X, rd_T37 zs K = X := ⟨_, rfl⟩
      rw [hX] at hx0 hx1 hx2 hrd
      obtain ⟨o, ho⟩ : ∃ o, o = Obj.cells #[.int .i64 X.f0, .int .i64 X.f1, .string X.f2] 37 := ⟨_, rfl⟩
      have hJ2 : J (come zs K.toNat) (wr.alloc o) := hgr _ _ _ hJs (World.grownBy_alloc wr o none)
      have hB2 : Below n₀ W (wr.alloc o) := hnx.alloc (Nat.le_trans hle hnx.size) o
      have hKn : (K + 1).toNat = K.toNat + 1 := by omega
      have hcs := come_succ zs K.toNat (by omega)
      rw [← hrd] at hcs
      rw [ho] at hJ2 hB2
      have HRD := Aside0.mk hrd
      clear hrd hX ho
      by_cases hs : X.f0 = 0
      · have hss : isSome X = false := by unfold isSome; rw [hs]; rfl
        rw [hss, if_neg (by decide), List.append_nil, ← hKn] at hcs
        rw [← hcs] at hJ2
        rw [hs] at hJ2 hB2 hx0
        have HCS := Aside0.mk hcs
        clear hcs hs hss
        gi_wp2
        refine ⟨fun _ h => (by cases h), ?_⟩
        gi_wp2
        go_roundw
        case rel => exact ⟨K + 1, by omega, by omega, by go_num, hJ2, hB2⟩
        case measure => simp [intOf]; omega
      · have hss : isSome X = true := by unfold isSome; exact bne_iff_ne.2 hs
        have hne : (X.f0 != 0) = true := hss
        rw [hss, if_pos rfl, ← hKn] at hcs
        obtain ⟨fn, tmps, assign, body, hy, hR⟩ := hY _ X _ hJ2 (come_lt zs K.toNat (by omega) (by rw [← HRD.out]; exact hss))
        simp only [val37] at hy
        have HCS := Aside0.mk hcs
        clear hcs hs hss hJ2
        gi_wp2
        refine hR.mono ?_
        rintro e W3 (⟨rfl, hJ3, hk3⟩ | ⟨rfl, hJx3⟩)
        · gi_wp2
          go_roundw
          case rel => exact ⟨K + 1, by omega, by omega, by go_num, by rw [HCS.out]; exact hJ3, hB2.trans hk3⟩
          case measure => simp [intOf]; omega
        · gi_wp2
          refine bodyPost_ret (results_none rfl _ _ _) rfl ?_
          exact ⟨⟨_, rfl⟩, .inr ⟨_, by rw [← HCS.out]; exact come_prefix zs _, hJx3⟩⟩
    · obtain rfl : K = (zs.length : Int) := by omega
      rw [Int.toNat_natCast, come_all] at hJs
      gi_wp2
      go_end0
      exact ⟨⟨_, rfl⟩, .inl hJs⟩
/-- null.some: the row is boxed; the function value has captured the box. -/
theorem some_in (Fn : Fence) (n : Nat) (h47 : Fn.fn 47) (hro : Fn.round = none) (a : Option Addr) (len cap : Nat) (w : World) :
    CallsIn Fn n Try.prog 47 #[.slice a len cap] w fun e w' => e = .returned (.func (.func 51) #[] #[.pointer (some ⟨w.heap.size, 0, none⟩)]) ∧ w' = w.alloc (.cells #[.slice a len cap] 22) := by
  refine callsIn_of_wp Try.func47 rfl h47 ?_ hro
  simp only [Try.ntmps47, List.size_toArray, List.length_cons, List.length_nil, Nat.reduceAdd, Nat.reduceSub, Array.replicate_succ, Array.replicate_zero, List.push_toArray, List.append_toArray, List.nil_append, List.cons_append]
  gi_wp2
  go_ret
  exact ⟨rfl, rfl⟩
/-- What null.some hands back stops: all that aren't nothing, in order; or a part. -/
theorem some_stops (Fn : Fence) (n : Nat) (h51 : Fn.fn 51) (hro : Fn.round = none) (hn : 1 ≤ n) (Bs n₀ : Nat) (A : Option Addr) (cap : Nat) (zs : List S37) (w : World) (hBs : Bs < w.heap.size) (hn₀ : n₀ ≤ w.heap.size)
    (hc : w.cell? ⟨Bs, 0, none⟩ = some (.slice A zs.length cap)) (hb : 0 < zs.length → ∀ ad, A = some ad → ad.block < n₀) (hC : Kd.C k37 w A zs.length zs) :
    SeqStopsK Fn n Try.prog 51 #[.pointer (some ⟨Bs, 0, none⟩)] (fun x : S37 => #[val37 x]) (Below n₀) (fun ys => ys = zs.filter isSome) (fun pre => pre <+: zs.filter isSome) (zs.filter isSome).length w := fun l J Jx W hW hJ _ hY h0 => by
  have hc' := (hW.cell (p := ⟨Bs, 0, none⟩) hBs).trans hc
  exact some1_in Fn n h51 hro hn l Bs n₀ A cap zs hb J Jx (fun s W W' hs hg => hJ s W W' none hs hg (fun r e => by cases e)) hY W (Nat.le_trans hn₀ hW.size) hc' (C37_below hC hb (hW.mono hn₀)) h0
end Go.Proofs.Ytnndeogbncadbaa.F
