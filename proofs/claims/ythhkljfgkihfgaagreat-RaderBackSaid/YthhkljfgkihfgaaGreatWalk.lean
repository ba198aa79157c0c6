/- rader.Walk. -/
import Derived.Test.YthhkljfgkihfgaaGreatWContToRef05
set_option linter.unusedVariables false
set_option linter.unusedSimpArgs false
set_option linter.unusedSectionVars false
namespace Go.Proofs.YthhkljfgkihfgaaGreat
open Go.RowKit
open Alg (Prime IsGen)

theorem set_map_range {α : Type} (N : Nat) (f f' : Nat → α) (a : Nat) (v : α) (_ha : a < N) (h1 : f' a = v) (h2 : ∀ j, j < N → j ≠ a → f' j = f j) : ((List.range N).map f).set a v = (List.range N).map f' := by
  apply List.ext_getElem
  · simp
  · intro j hj hj'
    rw [List.getElem_set]
    split
    · rename_i e; subst e; simp [h1]
    · rename_i e
      simp at hj'
      simp [h2 j hj' (fun h => e h.symm)]

/-- The exponent at place j of a walk of n - 1 numbers. -/
def wex (n : Nat) (back : Bool) (j : Nat) : Nat := if back then (n - 1 - j) % (n - 1) else j
def wkF (n g : Nat) (back : Bool) (i : Nat) : List Int := (List.range (n - 1)).map fun j => if wex n back j < i then (g : Int) ^ wex n back j % (n : Int) else 0
def wk (n g : Nat) (back : Bool) : List Int := (List.range (n - 1)).map fun j => (g : Int) ^ wex n back j % (n : Int)
theorem wex_lt {n j : Nat} (b : Bool) (hn : 2 ≤ n) (hj : j < n - 1) : wex n b j < n - 1 := by
  unfold wex; split
  · exact Nat.mod_lt _ (by omega)
  · exact hj
theorem wex_wex {n j : Nat} (b : Bool) (hn : 2 ≤ n) (hj : j < n - 1) : wex n b (wex n b j) = j := by
  unfold wex
  cases b
  · simp
  · simp only [if_true]
    rcases Nat.eq_zero_or_pos j with h0 | h0
    · subst h0; simp
    · rw [Nat.mod_eq_of_lt (show n - 1 - j < n - 1 by omega), Nat.mod_eq_of_lt (by omega)]; omega
theorem wkF_step {n g i : Nat} (b : Bool) (hn : 2 ≤ n) (hi : i < n - 1) : (wkF n g b i).set (wex n b i) ((g : Int) ^ i % (n : Int)) = wkF n g b (i + 1) := by
  unfold wkF
  refine set_map_range _ _ _ _ _ (wex_lt b hn hi) ?_ ?_
  · rw [wex_wex b hn hi, if_pos (by omega)]
  · intro j hj hne
    have : wex n b j ≠ i := fun h => hne (by rw [← h, wex_wex b hn hj])
    by_cases h : wex n b j < i
    · rw [if_pos h, if_pos (by omega)]
    · rw [if_neg h, if_neg (by omega)]
theorem wkF_zero (n g : Nat) (b : Bool) : wkF n g b 0 = List.replicate (n - 1) 0 := by
  unfold wkF; simp [List.map_const']
theorem wkF_full {n g : Nat} (b : Bool) (hn : 2 ≤ n) : wkF n g b (n - 1) = wk n g b := by
  unfold wkF wk
  apply List.map_congr_left
  intro j hj
  rw [if_pos (wex_lt b hn (List.mem_range.1 hj))]
theorem wkF_length (n g : Nat) (b : Bool) (i : Nat) : (wkF n g b i).length = n - 1 := by simp [wkF]
theorem info_int : (Tryz.prog.info? 3).map (fun i => (i.zero, i.size, i.bytes)) = some (some (.int .i64 0), 1, 8) := by kernel_rfl
theorem ints_set (k : IntKind) (xs : List Int) (j : Nat) (v : Int) : (ints k xs).set j (.int k v) = ints k (xs.set j v) := by simp [ints, List.map_set]
theorem ints_zero (k : IntKind) (n : Nat) : ints k (List.replicate n 0) = List.replicate n (.int k 0) := by simp [ints]

set_option maxHeartbeats 1000000 in
theorem walk_yes (n : Nat) (back : Bool) (w : World) (h3 : 3 ≤ n) (hn : n ≤ 1024) (hp : Prime n) :
    Calls Tryz.prog 96 #[.int .i64 n, .bool back] w fun e w' => ∃ v g, e = .returned v ∧ IsGen n g ∧ w'.ownsRow w.heap.size 3 1 v (n - 1) (ints .i64 (wk n g back)) ∧ Below w.heap.size w w' := by
  obtain ⟨i0, hi, hz0, hz1, hz2⟩ := info_parts info_int
  have hr : Hid (1 ≤ rpad n) := Lib.hid (by
    unfold rpad
    rw [if_pos ⟨by omega, by omega, by simpa using isP_true.2 hp⟩]
    unfold pd
    repeat (first | omega | split))
  go_enter Tryz.func96, Tryz.ntmps96
  go_wp2_with fail
  refine (rpad_any _ _ (by omega) (by omega)).mono ?_
  rintro e w1 ⟨rfl, hB1⟩
  have t0 : (rpad n == 0) = false := beq_eq_false_iff_ne.2 (by have := hr.out; omega)
  go_wp2_with fail
  refine (generator_any n _ h3 (by omega) hp).mono ?_
  rintro e w2 ⟨g, rfl, hg, hB⟩
  have hgn := hg.lt hp h3
  have hg2 := hg.1
  have hB2 : Below w.heap.size w w2 := hB1.trans (hB.mono hB1.size)
  clear hB1 hB t0
  go_wp2_with (at_make; refine wpList_make_full _ rfl _ _ 96 rfl w.heap.size 3 i0 (.int .i64 0) 1 Tryz.underlying96 hi hz0 hz1 _ _ _ _ (n - 1) rfl rfl ?l1 ?l2 ?b2 ?b3 hB2.size ?_)
  case l1 => omega
  case l2 => omega
  case b2 => rw [hz2]; omega
  case b3 => unfold maxLen; omega
  intro w3 hown hgrow
  have hown0 : w3.ownsRow w.heap.size 3 1 (.slice (some ⟨w2.heap.size, 0, none⟩) (n - 1) (n - 1)) (n - 1) (ints .i64 (wkF n g back 0)) := by
    rw [wkF_zero, ints_zero, ← toList_madeCells_one]; exact hown
  have hB3 : Below w.heap.size w w3 := hB2.grown hgrow hB2.size (fun k h => by cases h)
  obtain ⟨G, hG⟩ : ∃ G, G = w2.heap.size := ⟨_, rfl⟩
  rw [← hG] at hown0
  have hGb : w.heap.size ≤ G := by rw [hG]; exact hB2.size
  rw [← hG]
  have ex : Hid ((1 : Int) = (g : Int) ^ 0 % (n : Int)) := Lib.hid (by rw [Int.pow_zero, Int.emod_eq_of_lt (by omega) (by omega)])
  clear hown hgrow hB2 hG
  go_wp2
  go_loopw [7, 22] (fun X I wr => ∃ i : Nat, ∃ x : Int, X = .int .i64 x ∧ I = .int .i64 i ∧ i ≤ n - 1 ∧ 0 ≤ x ∧ x < n ∧ Hid (x = (g : Int) ^ i % (n : Int)) ∧ wr.ownsRow w.heap.size 3 1 (.slice (some ⟨G, 0, none⟩) (n - 1) (n - 1)) (n - 1) (ints .i64 (wkF n g back i)) ∧ Below w.heap.size w wr)
    (fun _ I _ => n - (intOf I).toNat)
  case atStart => exact ⟨0, 1, rfl, rfl, by omega, by omega, by omega, ex, hown0, hB3⟩
  case round =>
    clear hown0 hB3
    obtain ⟨i, x, rfl, rfl, hi1, hx0, hx1, hx, hown, hB⟩ := hrel
    by_cases hlt : i < n - 1
    · have hb1 : 0 ≤ x * g := Int.mul_nonneg hx0 (by omega)
      have hb2 : x * g ≤ 1024 * 1024 := Int.mul_le_mul (by omega) (by omega) (by omega) (by omega)
      have m0 := Int.emod_nonneg (x * g) (show (n : Int) ≠ 0 by omega)
      have m1 := Int.emod_lt_of_pos (x * g) (show (0 : Int) < n by omega)
      have hnx : Hid (x * g % n = (g : Int) ^ (i + 1) % (n : Int)) := Lib.hid (by
        rw [hx.out, Int.pow_succ, Int.mul_emod, Int.emod_emod_of_dvd _ ⟨1, by simp⟩, ← Int.mul_emod])
      have hw := wex_lt back (show 2 ≤ n by omega) hlt
      have hst := hown.stored (wex n back i) (.int .i64 x)
      have hrow : ints .i64 (wkF n g back (i + 1)) = (ints .i64 (wkF n g back i)).set (wex n back i) (.int .i64 x) := by
        rw [ints_set, hx.out, wkF_step back (by omega) hlt]
      have hfr := hown.frozenAt (wex n back i)
      have hce := hown.cellAt (wex n back i) (by omega)
      obtain ⟨old, hold⟩ : ∃ old, (ints .i64 (wkF n g back i))[wex n back i]? = some old := ⟨_, List.getElem?_eq_getElem (by simp [ints, wkF_length]; exact hw)⟩
      rw [hold] at hce
      have hO : Hid ((wr.setCell ⟨G, wex n back i, none⟩ (.int .i64 x)).ownsRow w.heap.size 3 1 (.slice (some ⟨G, 0, none⟩) (n - 1) (n - 1)) (n - 1) (ints .i64 (wkF n g back (i + 1)))) := Lib.hid (by rw [hrow]; exact hst.1)
      clear hst hrow hold hown
      cases back with
      | false =>
        have ew : wex n false i = i := rfl
        rw [ew] at hfr hce hO hw
        clear ew
        go_wp2
        go_roundw
        case rel => exact ⟨i + 1, x * g % n, by first | rfl | go_num, by go_num, by omega, m0, m1, Lib.hid hnx.out, hO.out, hB.setCell hGb _⟩
        case measure => simp [intOf]; omega
      | true =>
        have ew : (((n : Int) - 1 - i) % ((n : Int) - 1)) = ((wex n true i : Nat) : Int) := by
          unfold wex
          simp only [if_true]
          rw [Int.natCast_emod]
          rw [show ((n - 1 - i : Nat) : Int) = (n : Int) - 1 - i by omega, show ((n - 1 : Nat) : Int) = (n : Int) - 1 by omega]
        have hd : ((n : Int) - 1 == 0) = false := beq_eq_false_iff_ne.2 (by omega)
        obtain ⟨a, ha⟩ : ∃ a, a = wex n true i := ⟨_, rfl⟩
        rw [← ha] at hfr hce hO hw ew
        clear ha
        go_wp2
        go_roundw
        case rel => exact ⟨i + 1, x * g % n, by first | rfl | go_num, by go_num, by omega, m0, m1, Lib.hid hnx.out, hO.out, hB.setCell hGb _⟩
        case measure => simp [intOf]; omega
    · obtain rfl : i = n - 1 := by omega
      go_wp2
      go_ret
      exact ⟨_, g, rfl, hg, by rw [← wkF_full back (show 2 ≤ n by omega)]; exact hown, hB⟩

theorem walk_no (n : Int) (back : Bool) (w : World) (h0 : -9223372036854775808 ≤ n) (h1 : n ≤ 9223372036854775807) (hr : rpad n = 0) :
    Calls Tryz.prog 96 #[.int .i64 n, .bool back] w fun e w' => e = .returned (.slice none 0 0) ∧ Below w.heap.size w w' := by
  have HR := Lib.hid hr
  clear hr
  go_enter Tryz.func96, Tryz.ntmps96
  go_wp2_with fail
  refine (rpad_any _ _ h0 h1).mono ?_
  rintro e w1 ⟨rfl, hB1⟩
  rw [HR.out]
  go_wp2
  go_ret
  exact ⟨rfl, hB1⟩
end Go.Proofs.YthhkljfgkihfgaaGreat
