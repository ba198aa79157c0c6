/- The law RaderOnce. -/
import Derived.Test.YtgdadkkiefkimaaWalk
namespace Go.Proofs.Ytgdadkkiefkimaa
open Go.RowKit
open Alg (Prime IsGen GenOk)

theorem prime2 : Prime 2 := trial_prime (d := 2) (by omega) (by omega) (fun c a b => by omega)
theorem prime3 : Prime 3 := trial_prime (d := 2) (by omega) (by omega) (fun c a b => by omega)
theorem prime7 : Prime 7 := trial_prime (d := 3) (by omega) (by omega) (fun c a b => by
  obtain rfl : c = 2 := by omega
  omega)
theorem gen7 : IsGen 7 3 := by
  refine ⟨by omega, fun q hq hd => ?_, fun h a b => ?_⟩
  · have := Nat.le_of_dvd (by omega) hd
    have := hq.1
    have h6 : q = 2 ∨ q = 3 ∨ q = 4 ∨ q = 5 ∨ q = 6 := by omega
    rcases h6 with rfl | rfl | rfl | rfl | rfl <;> decide
  · obtain rfl : h = 2 := by omega
    intro H
    exact H 2 prime2 (by decide) (by decide)
theorem wk7 : wk 7 3 false = [1, 3, 2, 6, 4, 5] ∧ wk 7 3 true = [1, 5, 4, 6, 2, 3] := by decide
theorem rpad7 : rpad 7 = 16 := by
  unfold rpad
  rw [if_pos ⟨by omega, by omega, by simpa using isP_true.2 prime7⟩]
  decide
theorem RdI.lit (w : World) (k : IntKind) (t : TypeId) (xs : List Int) : RdI (w.alloc (.cells (ints k xs).toArray t)) (w.heap.size + 1) k (some ⟨w.heap.size, 0, none⟩) xs := fun _ => by
  refine ⟨w.heap.size, 0, rfl, by omega, fun j hj => ?_⟩
  rw [Nat.zero_add, World.cell?_alloc_at _ _ _ _ rfl]
  simp [ints, hj, List.getD_eq_getElem?_getD]

set_option maxHeartbeats 1000000 in
theorem alive_any (w : World) : Calls Try.prog 5 #[] w fun e w' => e = .returned (.bool true) ∧ Below w.heap.size w w' := by
  go_enter Try.func5, Try.ntmps5
  go_wp2_with fail
  refine (walk_yes 7 false _ (by omega) (by omega) prime7).mono ?_
  rintro e w1 ⟨v, g, rfl, hg, hown, hB1⟩
  obtain rfl : g = 3 := hg.unique gen7
  rw [wk7.1] at hown
  obtain ⟨A, c, rfl, hR⟩ := RdI.of_own (xs := [1, 3, 2, 6, 4, 5]) hown
  clear hown
  go_wp2_with fail
  have hL1 := RdI.lit w1 .i64 3 [1, 3, 2, 6, 4, 5]
  have hA1 := (hR.below ((Below.refl _ _).alloc (Nat.le_refl _) (.cells (ints .i64 [1, 3, 2, 6, 4, 5]).toArray 3))).mono (Nat.le_succ _)
  refine (ints_any A (some ⟨w1.heap.size, 0, none⟩) c 6 _ [1, 3, 2, 6, 4, 5] [1, 3, 2, 6, 4, 5] _ (by simp) (by simp) hA1 hL1).mono ?_
  rintro e w2 ⟨rfl, hB⟩
  have hB2 : Below w.heap.size w w2 := (hB1.alloc hB1.size (.cells (ints .i64 [1, 3, 2, 6, 4, 5]).toArray 3)).trans (hB.mono (by have := hB1.size; simp; omega))
  clear hL1 hA1 hB hB1 hR
  go_wp2_with fail
  refine (walk_yes 7 true _ (by omega) (by omega) prime7).mono ?_
  rintro e w3 ⟨v, g', rfl, hg', hown, hB⟩
  obtain rfl : g' = 3 := hg'.unique gen7
  rw [wk7.2] at hown
  obtain ⟨A', c', rfl, hR⟩ := RdI.of_own (xs := [1, 5, 4, 6, 2, 3]) hown
  have hB3 : Below w.heap.size w w3 := hB2.trans (hB.mono hB2.size)
  clear hown hB hB2
  go_wp2_with fail
  have hL1 := RdI.lit w3 .i64 3 [1, 5, 4, 6, 2, 3]
  have hA1 := (hR.below ((Below.refl _ _).alloc (Nat.le_refl _) (.cells (ints .i64 [1, 5, 4, 6, 2, 3]).toArray 3))).mono (Nat.le_succ _)
  refine (ints_any A' (some ⟨w3.heap.size, 0, none⟩) c' 6 _ [1, 5, 4, 6, 2, 3] [1, 5, 4, 6, 2, 3] _ (by simp) (by simp) hA1 hL1).mono ?_
  rintro e w4 ⟨rfl, hB⟩
  have hB4 : Below w.heap.size w w4 := (hB3.alloc hB3.size (.cells (ints .i64 [1, 5, 4, 6, 2, 3]).toArray 3)).trans (hB.mono (by have := hB3.size; simp; omega))
  clear hL1 hA1 hB hB3 hR
  go_wp2_with fail
  refine (rpad_any _ _ (by omega) (by omega)).mono ?_
  rintro e w5 ⟨rfl, hB⟩
  rw [show rpad 7 = 16 from rpad7]
  go_wp2
  go_ret
  exact ⟨rfl, hB4.trans (hB.mono hB4.size)⟩

theorem noRow (y : Nat) (hy : y < 1024) : (Try.zeroCells26)[y]? = some (.bool false) := by
  have e : Try.zeroCells26 = Array.replicate 1024 (.bool false) := by kernel_rfl
  rw [e]; simp [hy]

section
open Alg
theorem walk_pos {n g : Nat} (hp : Prime n) (h3 : 3 ≤ n) (hg : IsGen n g) (i : Nat) : 1 ≤ (g : Int) ^ i % (n : Int) ∧ (g : Int) ^ i % (n : Int) < n := by
  haveI : NeZero n := ⟨by omega⟩
  have m0 := Int.emod_nonneg ((g : Int) ^ i) (show (n : Int) ≠ 0 by omega)
  have m1 := Int.emod_lt_of_pos ((g : Int) ^ i) (show (0 : Int) < n by omega)
  have hu := (hg.ord hp h3).2.1
  have hne : zt n ((g : Int) ^ i) ≠ 0 := by
    rw [zt_pow]
    refine pw_ne_zero hp (fun h0 => ?_) i
    rw [h0, show n - 1 = (n - 2) + 1 by omega, pw_succ] at hu
    exact one_ne_zero hp.1 (by rw [← hu]; grind)
  have : (g : Int) ^ i % (n : Int) ≠ 0 := fun h => hne (by rw [← zt_zero, zt_eq, h]; simp)
  omega
theorem walk_inj {n g i j : Nat} (hp : Prime n) (h3 : 3 ≤ n) (hg : IsGen n g) (hi : i < n - 1) (hj : j < n - 1) (h : (g : Int) ^ i % (n : Int) = (g : Int) ^ j % (n : Int)) : i = j := by
  haveI : NeZero n := ⟨by omega⟩
  refine (hg.ord hp h3).inj hi hj ?_
  rw [← zt_pow, ← zt_pow, zt_eq, h]
theorem walk_inv {n g i : Nat} (hp : Prime n) (h3 : 3 ≤ n) (hg : IsGen n g) (hi : i < n - 1) : ((g : Int) ^ i % (n : Int)) * ((g : Int) ^ wex n true i % (n : Int)) % (n : Int) = 1 := by
  haveI : NeZero n := ⟨by omega⟩
  rw [← Int.mul_emod, ← Int.pow_add]
  refine (zt_pow_one hp.1 g _).2 ?_
  have ho := hg.ord hp h3
  refine ho.dvd.2 ?_
  unfold wex
  simp only [if_true]
  rcases Nat.eq_zero_or_pos i with h0 | h0
  · subst h0; simp
  · rw [Nat.mod_eq_of_lt (by omega), show i + (n - 1 - i) = n - 1 by omega]; exact Nat.dvd_refl _
end

theorem wk_length (n g : Nat) (b : Bool) : (wk n g b).length = n - 1 := by simp [wk]
theorem wk_get {n g i : Nat} (b : Bool) (hi : i < n - 1) : (wk n g b).getD i 0 = (g : Int) ^ wex n b i % (n : Int) := by
  simp [wk, List.getD_eq_getElem?_getD, hi]

/-- Was a number among the first i of a walk? -/
def sn (n g i y : Nat) : Bool := (List.range i).any fun j => (g : Int) ^ j % (n : Int) == (y : Int)
theorem sn_zero (n g y : Nat) : sn n g 0 y = false := rfl
theorem sn_succ (n g i y : Nat) : sn n g (i + 1) y = (sn n g i y || ((g : Int) ^ i % (n : Int) == (y : Int))) := by
  simp [sn, List.range_succ]
theorem sn_new {n g i y : Nat} (hp : Prime n) (h3 : 3 ≤ n) (hg : IsGen n g) (hi : i < n - 1) (hy : (y : Int) = (g : Int) ^ i % (n : Int)) : sn n g i y = false := by
  rw [Bool.eq_false_iff]
  intro h
  obtain ⟨j, hj, he⟩ := List.any_eq_true.1 h
  have hj' := List.mem_range.1 hj
  have := walk_inj hp h3 hg (show j < n - 1 by omega) hi (by rw [← hy]; simpa using he)
  omega

theorem once_no (n : Int) (w : World) (h0 : -9223372036854775808 ≤ n) (h1 : n ≤ 9223372036854775807) (hr : rpad n = 0) :
    Calls Try.prog 3 #[.int .i64 n] w fun e w' => e = .returned (.bool true) ∧ Below w.heap.size w w' := by
  have HR := Lib.hid hr
  clear hr
  go_enter Try.func3, Try.ntmps3
  go_wp2_with fail
  refine (alive_any _).mono ?_
  rintro e w1 ⟨rfl, hB1⟩
  go_wp2_with fail
  refine (walk_no n false _ h0 h1 HR.out).mono ?_
  rintro e w2 ⟨rfl, hB2⟩
  go_wp2_with fail
  refine (walk_no n true _ h0 h1 HR.out).mono ?_
  rintro e w3 ⟨rfl, hB3⟩
  go_wp2_with fail
  refine (rpadr_any n _ h0 h1).mono ?_
  rintro e w4 ⟨rfl, rfl⟩
  rw [HR.out]
  go_wp2
  go_ret
  exact ⟨rfl, hB1.trans ((hB2.mono hB1.size).trans (hB3.mono (Nat.le_trans hB1.size hB2.size)))⟩

set_option maxHeartbeats 2000000 in
set_option maxRecDepth 100000 in
theorem once_yes (n : Nat) (w : World) (h3 : 3 ≤ n) (hn : n ≤ 1024) (hp : Prime n) :
    Calls Try.prog 3 #[.int .i64 n] w fun e w' => e = .returned (.bool true) ∧ Below w.heap.size w w' := by
  have hr : Hid (1 ≤ rpad n) := Lib.hid (by
    unfold rpad
    rw [if_pos ⟨by omega, by omega, by simpa using isP_true.2 hp⟩]
    unfold pd
    repeat (first | omega | split))
  go_enter Try.func3, Try.ntmps3
  go_wp2_with fail
  refine (alive_any _).mono ?_
  rintro e w1 ⟨rfl, hB1⟩
  go_wp2_with fail
  refine (walk_yes n false _ h3 hn hp).mono ?_
  rintro e w2 ⟨v, g, rfl, hg, hown, hB2⟩
  obtain ⟨A, c, rfl, hRA⟩ := RdI.of_own (xs := wk n g false) (by rw [wk_length]; exact hown)
  rw [wk_length]
  clear hown
  go_wp2_with fail
  refine (walk_yes n true _ h3 hn hp).mono ?_
  rintro e w3 ⟨v, g', rfl, hg', hown, hB3⟩
  obtain rfl : g' = g := hg'.unique hg
  obtain ⟨B, d, rfl, hRB⟩ := RdI.of_own (xs := wk n g' true) (by rw [wk_length]; exact hown)
  rw [wk_length]
  have hRA3 := (hRA.below hB3).mono hB3.size
  have hB : Below w.heap.size w w3 := hB1.trans ((hB2.mono hB1.size).trans (hB3.mono (Nat.le_trans hB1.size hB2.size)))
  clear hown hg' hRA hB1 hB2 hB3
  go_wp2_with fail
  refine (rpadr_any n _ (by omega) (by omega)).mono ?_
  rintro e w4 ⟨rfl, rfl⟩
  have t0 : (rpad n == 0) = false := beq_eq_false_iff_ne.2 (by have := hr.out; omega)
  have t1 : (((n - 1 : Nat) : Int) != (n : Int) - 1) = false := by simp; omega
  obtain ⟨S, hS⟩ : ∃ S, S = w3.heap.size := ⟨_, rfl⟩
  have hSb : w.heap.size ≤ S := by rw [hS]; exact hB.size
  rw [← hS] at hRA3 hRB
  have HS := Lib.hid hS
  have hz : Hid (∀ y, y < 1024 → (w3.alloc (.cells Try.zeroCells26 26)).cell? ⟨S, y, none⟩ = some (.bool (sn n g' 0 y))) := Lib.hid (fun y hy => by
    rw [HS.out, World.cell?_alloc_at _ _ _ _ rfl, noRow y hy, sn_zero])
  have hzf : Hid (∀ y, (w3.alloc (.cells Try.zeroCells26 26)).frozen? ⟨S, y, none⟩ = false) := Lib.hid (fun y => by
    rw [HS.out]; exact World.frozen?_alloc_at _ _ _ _ rfl)
  have hB0 := hB.alloc hB.size (.cells Try.zeroCells26 26)
  have hB1 : Below S w3 (w3.alloc (.cells Try.zeroCells26 26)) := by rw [hS]; exact (Below.refl _ _).alloc (Nat.le_refl _) _
  clear hS
  go_wp2
  rw [← HS.out]
  go_loopw [37] (fun I wr => ∃ i : Nat, I = .int .i64 i ∧ i ≤ n - 1 ∧ Hid (∀ y, y < 1024 → wr.cell? ⟨S, y, none⟩ = some (.bool (sn n g' i y))) ∧ Hid (∀ y, wr.frozen? ⟨S, y, none⟩ = false) ∧ Below S w3 wr) (fun I _ => n - (intOf I).toNat)
  case atStart => exact ⟨0, rfl, by omega, hz, hzf, hB1⟩
  case round =>
    clear hz hzf hB0 hB1
    obtain ⟨i, rfl, hi, hc, hf, hBr⟩ := hrel
    by_cases hlt : i < n - 1
    · obtain ⟨a, o, rfl, hab, ha⟩ := hRA3 (by rw [wk_length]; omega)
      obtain ⟨b, o', rfl, hbb, hb⟩ := hRB (by rw [wk_length]; omega)
      have ga := cell_keep hBr hab (ha i (by rw [wk_length]; exact hlt))
      have gb := cell_keep hBr hbb (hb i (by rw [wk_length]; exact hlt))
      rw [wk_get false hlt, show wex n false i = i from rfl] at ga
      rw [wk_get true hlt] at gb
      obtain ⟨p0, p1⟩ := walk_pos hp h3 hg i
      obtain ⟨q0, q1⟩ := walk_pos hp h3 hg (wex n true i)
      have hv := walk_inv hp h3 hg hlt
      obtain ⟨x, hx⟩ : ∃ x : Nat, (x : Int) = (g' : Int) ^ i % (n : Int) := ⟨((g' : Int) ^ i % (n : Int)).toNat, by omega⟩
      obtain ⟨y, hy⟩ : ∃ y : Nat, (y : Int) = (g' : Int) ^ wex n true i % (n : Int) := ⟨((g' : Int) ^ wex n true i % (n : Int)).toNat, by omega⟩
      rw [← hx] at ga p0 p1 hv
      rw [← hy] at gb q0 q1 hv
      have hm0 : 0 ≤ (x : Int) * y := Int.mul_nonneg (by omega) (by omega)
      have hm1 : (x : Int) * y ≤ 1024 * 1024 := Int.mul_le_mul (by omega) (by omega) (by omega) (by omega)
      have cx := hc.out x (by omega)
      rw [sn_new hp h3 hg hlt hx] at cx
      have fx := hf.out x
      have tv : ((x : Int) * y % n != 1) = false := by rw [hv]; rfl
      have HN : Hid (∀ z, z < 1024 → (wr.setCell ⟨S, x, none⟩ (.bool true)).cell? ⟨S, z, none⟩ = some (.bool (sn n g' (i + 1) z))) := Lib.hid (fun z hz => by
        by_cases e : z = x
        · subst e
          rw [World.cell?_setCell_same _ _ _ cx, sn_succ, ← hx]; simp
        · rw [World.cell?_setCell_other _ _ _ _ (fun h => e (by injection h with _ h2 _; exact h2.symm)), hc.out z hz, sn_succ, ← hx]
          have : ((x : Int) == (z : Int)) = false := by simp; omega
          rw [this]; simp)
      have HF : Hid (∀ z, (wr.setCell ⟨S, x, none⟩ (.bool true)).frozen? ⟨S, z, none⟩ = false) := Lib.hid (fun z => by
        have := hf.out z
        simpa using this)
      clear ha hb hRA3 hRB hv hx hy
      go_wp2
      go_roundw
      case rel => exact ⟨i + 1, by go_num, by omega, HN, HF, hBr.setCell (Nat.le_refl _) _⟩
      case measure => simp [intOf]; omega
    · obtain rfl : i = n - 1 := by omega
      go_wp2
      go_ret
      exact ⟨rfl, hB.trans (hBr.mono hSb)⟩

theorem raderOnce_walk (n : Int) (w : World) (h0 : -9223372036854775808 ≤ n) (h1 : n ≤ 9223372036854775807) :
    Calls Try.prog 3 #[.int .i64 n] w fun e w' => e = .returned (.bool true) ∧ Below w.heap.size w w' := by
  by_cases h : 3 ≤ n ∧ n ≤ 1024 ∧ isP n.toNat = true
  · obtain ⟨k, rfl⟩ := Int.eq_ofNat_of_zero_le (show 0 ≤ n by omega)
    exact once_yes k w (by omega) (by omega) (isP_true.1 (by simpa using h.2.2))
  · exact once_no n w h0 h1 (by unfold rpad; rw [if_neg h])
end Go.Proofs.Ytgdadkkiefkimaa
