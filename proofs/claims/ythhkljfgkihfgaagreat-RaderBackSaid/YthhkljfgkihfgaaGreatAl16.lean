/- The first check of layer 16: alive; what a walk holds. -/
import Derived.Test.YthhkljfgkihfgaaGreatWalk
import Derived.Test.YthhkljfgkihfgaaGreatInts
set_option linter.unusedVariables false
set_option linter.unusedSimpArgs false
set_option linter.unusedSectionVars false
namespace Go.Proofs.YthhkljfgkihfgaaGreat
open Go.RowKit
open Alg (Prime IsGen GenOk)

theorem prime2 : Prime 2 := trial_prime (d := 2) (by omega) (by omega) (fun c a b => by omega)
theorem prime3 : Prime 3 := trial_prime (d := 2) (by omega) (by omega) (fun c a b => by omega)
theorem prime7 : Prime 7 := trial_prime (d := 3) (by omega) (by omega) (fun c a b => by
  obtain rfl : c = 2 := by omega
  omega)
theorem gen7 : IsGen 7 3 := by
  refine ⟨by omega, fun q hq hd => ?_, fun h a b => ?_⟩
  · have := Nat.le_of_dvd (by omega) hd
    have := hq.1
    have h6 : q = 2 ∨ q = 3 ∨ q = 4 ∨ q = 5 ∨ q = 6 := by omega
    rcases h6 with rfl | rfl | rfl | rfl | rfl <;> decide
  · obtain rfl : h = 2 := by omega
    intro H
    exact H 2 prime2 (by decide) (by decide)
theorem wk7 : wk 7 3 false = [1, 3, 2, 6, 4, 5] ∧ wk 7 3 true = [1, 5, 4, 6, 2, 3] := by decide
theorem rpad7 : rpad 7 = 16 := by
  unfold rpad
  rw [if_pos ⟨by omega, by omega, by simpa using isP_true.2 prime7⟩]
  decide
theorem RdI.lit (w : World) (k : IntKind) (t : TypeId) (xs : List Int) : RdI (w.alloc (.cells (ints k xs).toArray t)) (w.heap.size + 1) k (some ⟨w.heap.size, 0, none⟩) xs := fun _ => by
  refine ⟨w.heap.size, 0, rfl, by omega, fun j hj => ?_⟩
  rw [Nat.zero_add, World.cell?_alloc_at _ _ _ _ rfl]
  simp [ints, hj, List.getD_eq_getElem?_getD]

set_option maxHeartbeats 1000000 in
theorem alive_any (w : World) : Calls Tryz.prog 48 #[] w fun e w' => e = .returned (.bool true) ∧ Below w.heap.size w w' := by
  go_enter Tryz.func48, Tryz.ntmps48
  go_wp2_with fail
  refine (walk_yes 7 false _ (by omega) (by omega) prime7).mono ?_
  rintro e w1 ⟨v, g, rfl, hg, hown, hB1⟩
  obtain rfl : g = 3 := hg.unique gen7
  rw [wk7.1] at hown
  obtain ⟨A, c, rfl, hR⟩ := RdI.of_own (xs := [1, 3, 2, 6, 4, 5]) hown
  clear hown
  go_wp2_with fail
  have hL1 := RdI.lit w1 .i64 3 [1, 3, 2, 6, 4, 5]
  have hA1 := (hR.below ((Below.refl _ _).alloc (Nat.le_refl _) (.cells (ints .i64 [1, 3, 2, 6, 4, 5]).toArray 3))).mono (Nat.le_succ _)
  refine (ints_any A (some ⟨w1.heap.size, 0, none⟩) c 6 _ [1, 3, 2, 6, 4, 5] [1, 3, 2, 6, 4, 5] _ (by simp) (by simp) hA1 hL1).mono ?_
  rintro e w2 ⟨rfl, hB⟩
  have hB2 : Below w.heap.size w w2 := (hB1.alloc hB1.size (.cells (ints .i64 [1, 3, 2, 6, 4, 5]).toArray 3)).trans (hB.mono (by have := hB1.size; simp; omega))
  clear hL1 hA1 hB hB1 hR
  go_wp2_with fail
  refine (walk_yes 7 true _ (by omega) (by omega) prime7).mono ?_
  rintro e w3 ⟨v, g', rfl, hg', hown, hB⟩
  obtain rfl : g' = 3 := hg'.unique gen7
  rw [wk7.2] at hown
  obtain ⟨A', c', rfl, hR⟩ := RdI.of_own (xs := [1, 5, 4, 6, 2, 3]) hown
  have hB3 : Below w.heap.size w w3 := hB2.trans (hB.mono hB2.size)
  clear hown hB hB2
  go_wp2_with fail
  have hL1 := RdI.lit w3 .i64 3 [1, 5, 4, 6, 2, 3]
  have hA1 := (hR.below ((Below.refl _ _).alloc (Nat.le_refl _) (.cells (ints .i64 [1, 5, 4, 6, 2, 3]).toArray 3))).mono (Nat.le_succ _)
  refine (ints_any A' (some ⟨w3.heap.size, 0, none⟩) c' 6 _ [1, 5, 4, 6, 2, 3] [1, 5, 4, 6, 2, 3] _ (by simp) (by simp) hA1 hL1).mono ?_
  rintro e w4 ⟨rfl, hB⟩
  have hB4 : Below w.heap.size w w4 := (hB3.alloc hB3.size (.cells (ints .i64 [1, 5, 4, 6, 2, 3]).toArray 3)).trans (hB.mono (by have := hB3.size; simp; omega))
  clear hL1 hA1 hB hB3 hR
  go_wp2_with fail
  refine (rpad_any _ _ (by omega) (by omega)).mono ?_
  rintro e w5 ⟨rfl, hB⟩
  rw [show rpad 7 = 16 from rpad7]
  go_wp2
  go_ret
  exact ⟨rfl, hB4.trans (hB.mono hB4.size)⟩
section
open Alg
theorem walk_pos {n g : Nat} (hp : Prime n) (h3 : 3 ≤ n) (hg : IsGen n g) (i : Nat) : 1 ≤ (g : Int) ^ i % (n : Int) ∧ (g : Int) ^ i % (n : Int) < n := by
  haveI : NeZero n := ⟨by omega⟩
  have m0 := Int.emod_nonneg ((g : Int) ^ i) (show (n : Int) ≠ 0 by omega)
  have m1 := Int.emod_lt_of_pos ((g : Int) ^ i) (show (0 : Int) < n by omega)
  have hu := (hg.ord hp h3).2.1
  have hne : zt n ((g : Int) ^ i) ≠ 0 := by
    rw [zt_pow]
    refine pw_ne_zero hp (fun h0 => ?_) i
    rw [h0, show n - 1 = (n - 2) + 1 by omega, pw_succ] at hu
    exact one_ne_zero hp.1 (by rw [← hu]; grind)
  have : (g : Int) ^ i % (n : Int) ≠ 0 := fun h => hne (by rw [← zt_zero, zt_eq, h]; simp)
  omega
theorem walk_inj {n g i j : Nat} (hp : Prime n) (h3 : 3 ≤ n) (hg : IsGen n g) (hi : i < n - 1) (hj : j < n - 1) (h : (g : Int) ^ i % (n : Int) = (g : Int) ^ j % (n : Int)) : i = j := by
  haveI : NeZero n := ⟨by omega⟩
  refine (hg.ord hp h3).inj hi hj ?_
  rw [← zt_pow, ← zt_pow, zt_eq, h]
theorem walk_inv {n g i : Nat} (hp : Prime n) (h3 : 3 ≤ n) (hg : IsGen n g) (hi : i < n - 1) : ((g : Int) ^ i % (n : Int)) * ((g : Int) ^ wex n true i % (n : Int)) % (n : Int) = 1 := by
  haveI : NeZero n := ⟨by omega⟩
  rw [← Int.mul_emod, ← Int.pow_add]
  refine (zt_pow_one hp.1 g _).2 ?_
  have ho := hg.ord hp h3
  refine ho.dvd.2 ?_
  unfold wex
  simp only [if_true]
  rcases Nat.eq_zero_or_pos i with h0 | h0
  · subst h0; simp
  · rw [Nat.mod_eq_of_lt (by omega), show i + (n - 1 - i) = n - 1 by omega]; exact Nat.dvd_refl _
end

theorem wk_length (n g : Nat) (b : Bool) : (wk n g b).length = n - 1 := by simp [wk]
theorem wk_get {n g i : Nat} (b : Bool) (hi : i < n - 1) : (wk n g b).getD i 0 = (g : Int) ^ wex n b i % (n : Int) := by
  simp [wk, List.getD_eq_getElem?_getD, hi]
theorem alive16_any (w : World) : Calls Tryz.prog 48 #[] w fun e w' => e = .returned (.bool true) ∧ Below w.heap.size w w' := alive_any w
end Go.Proofs.YthhkljfgkihfgaaGreat
