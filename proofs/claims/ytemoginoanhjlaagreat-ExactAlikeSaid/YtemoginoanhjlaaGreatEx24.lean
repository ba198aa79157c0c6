/- epicycleref24: Size, Number, Fits, Greatest, Fault. -/
import Derived.Test.YtemoginoanhjlaaGreatWExNToExS
set_option linter.unusedVariables false
set_option linter.unusedSimpArgs false
set_option linter.unusedSectionVars false
set_option linter.unusedVariables false
set_option linter.unusedSimpArgs false
namespace Go.Proofs.YtemoginoanhjlaaGreat
open Go.RowKit
open Alg
set_option maxHeartbeats 1000000 in
set_option maxRecDepth 100000 in
theorem r24size_any (n : Int) (h0 : -9223372036854775808 ≤ n) (h1 : n ≤ 9223372036854775807) (w : World) :
    Calls Tryz.prog 32 #[.int .i64 n] w fun e w' => e = .returned (.int .u64 (n.natAbs : Int)) ∧ w = w' := by
  rcases Int.lt_or_le n 0 with h | h
  · have t : decide (n ≥ 0) = false := decide_eq_false (by omega)
    have t' : decide (0 ≤ n) = false := decide_eq_false (by omega)
    go_enter Tryz.func32, Tryz.ntmps32
    go_wp2
    go_ret
    refine ⟨ret_int ?_, rfl⟩
    try simp only [IntKind.wrap_u64]
    omega
  · have t : decide (n ≥ 0) = true := decide_eq_true (by omega)
    have t' : decide (0 ≤ n) = true := decide_eq_true (by omega)
    go_enter Tryz.func32, Tryz.ntmps32
    go_wp2
    go_ret
    refine ⟨ret_int ?_, rfl⟩
    try simp only [IntKind.wrap_u64]
    omega
theorem three_low {a : Nat} (ha : a < 18446744073709551616) : three a = #[.int .u64 (a : Int), .int .u64 0, .int .u64 0] := by
  unfold three
  rw [Nat.mod_eq_of_lt ha, show a / 18446744073709551616 % 18446744073709551616 = 0 by omega, show a / 340282366920938463463374607431768211456 % 18446744073709551616 = 0 by omega]
  rfl
set_option maxHeartbeats 1000000 in
set_option maxRecDepth 100000 in
theorem r24number_any (a : Nat) (ha : a < 18446744073709551616) (w : World) :
    Calls Tryz.prog 69 #[.int .u64 (a : Int)] w fun e w' => e = .returned (.agg (bcells a)) ∧ Below w.heap.size w w' := by
  have hz := (zero_of_info info_bits).1
  have HBt : Hid (∀ W, Calls Tryz.prog 71 #[.agg #[.int .u64 (a : Int), .int .u64 0, .int .u64 0]] W fun e w' => e = .returned (.agg (bcells a)) ∧ Below W.heap.size W w') := Lib.hid (fun W => by
    have h := r1bit_any a (by omega) W
    rw [three_low ha] at h
    exact h)
  have R0 := Lib.hid (lay1 w 114 (bcells 0))
  clear ha
  go_enter Tryz.func69, Tryz.ntmps69
  go_wp2_with fail
  generalize (w.alloc (.cells (bcells 0) 114)) = w1 at *
  refine (HBt.out _).mono ?_
  rintro e w2 ⟨rfl, hB2⟩
  have z2 := Lib.hid (And.intro (R0.out.1.keep hB2) (R0.out.2.trans (hB2.mono R0.out.2.size)))
  clear hB2
  go_wp2_with (refine wpList_store_row rfl _ _ _ rfl _ _ rfl rfl _ _ (z2.out.1) size_bits rfl (bcells_one _) ?_)
  refine bodyPost_ret (results_cell_row rfl _ _ _ _ _ _ _ rfl (z2.out.1.setRow _) Tryz.underlying114 rfl size_bits) (by rfl) ?_
  exact ⟨rfl, below_setRow z2.out.2 (Nat.le_refl _) _⟩
set_option maxHeartbeats 2000000 in
set_option maxRecDepth 100000 in
theorem r24fits_any (p q r k a b : Nat) (hp : p < 9223372036854775808) (hq : q < 9223372036854775808) (hr : r < 9223372036854775808) (hk : k ≤ 1024) (ha : a < 18446744073709551616) (hb : b < 18446744073709551616) (d : Bool) (w : World) :
    Calls Tryz.prog 34 #[.agg #[.int .u64 (p : Int), .int .u64 (q : Int), .int .u64 (r : Int)], .int .i64 (k : Int), .int .u64 (a : Int), .int .u64 (b : Int), .bool d] w fun e w' => e = .returned (.bool (fitsB (p * q * r) (k : Int) a b d)) ∧ Below w.heap.size w w' := by
  have hz := (zero_of_info info_bits).1
  have HPr := Lib.hid (fun W => r23prod_any p q r (by omega) (by omega) (by omega) W)
  have HNu := Lib.hid (fun W => r24number_any a ha W)
  have HP1 := Lib.hid (fun W => r1prod_any a b hb W)
  have tw : IntKind.u64.wrap (k : Int) = (k : Int) := by rw [IntKind.wrap_u64]; omega
  have hNb : p * q * r < 2 ^ 256 := by
    have h1 : p * q * r ≤ 9223372036854775808 * 9223372036854775808 * 9223372036854775808 := Nat.mul_le_mul (Nat.mul_le_mul (by omega) (by omega)) (by omega)
    omega
  have hab : a * b ≤ 18446744073709551615 * 18446744073709551615 := Nat.mul_le_mul (by omega) (by omega)
  obtain ⟨x, hX⟩ : ∃ x, x = a * b := ⟨_, rfl⟩
  rw [← hX] at HP1 hab
  have HXX := Lib.hid hX
  clear hX
  have HP2 := Lib.hid (fun W => r1prod_any x k (by omega) W)
  have hxb : x * k ≤ 18446744073709551615 * 18446744073709551615 * 1024 := Nat.mul_le_mul hab hk
  obtain ⟨m, hm⟩ : ∃ m, m = x * k := ⟨_, rfl⟩
  rw [← hm] at HP2 hxb
  have HMM := Lib.hid hm
  clear hm
  have R0 := Lib.hid (lay1 w 58 #[.int .u64 (p : Int), .int .u64 (q : Int), .int .u64 (r : Int)])
  clear hab hp hq hr ha hb
  have e0 := R0.out.1.cell (i := 0) (v := .int .u64 (p : Int)) rfl
  clear e0
  go_enter Tryz.func34, Tryz.ntmps34
  go_wp2_with fail
  generalize (w.alloc (.cells #[.int .u64 (p : Int), .int .u64 (q : Int), .int .u64 (r : Int)] 58)) = w1 at *
  refine (HNu.out _).mono ?_
  rintro e w2 ⟨rfl, hB2⟩
  have z2 := Lib.hid (And.intro (R0.out.1.keep hB2) (R0.out.2.trans (hB2.mono R0.out.2.size)))
  clear hB2 R0
  go_wp2_with fail
  refine (HP1.out _).mono ?_
  rintro e w3 ⟨rfl, hB3⟩
  have z3 := Lib.hid (And.intro (z2.out.1.keep hB3) (z2.out.2.trans (hB3.mono z2.out.2.size)))
  clear hB3 z2
  go_wp2_with fail
  refine (HP2.out _).mono ?_
  rintro e w4 ⟨rfl, hB4⟩
  have z4 := Lib.hid (And.intro (z3.out.1.keep hB4) (z3.out.2.trans (hB4.mono z3.out.2.size)))
  have hs4 := z4.out.2.size
  have hl4 := z4.out.1.lt
  have H5 := Lib.hid (RowAt.new w4 114 (bcells 0))
  have z5 : Hid (RowAt ((w4.alloc (.cells (bcells 0) 114)).setRow w4.heap.size (bcells m)) w.heap.size 58 #[.int .u64 (p : Int), .int .u64 (q : Int), .int .u64 (r : Int)] ∧ RowAt ((w4.alloc (.cells (bcells 0) 114)).setRow w4.heap.size (bcells m)) w4.heap.size 114 (bcells m) ∧ Below w.heap.size w ((w4.alloc (.cells (bcells 0) 114)).setRow w4.heap.size (bcells m))) :=
    Lib.hid ⟨(z4.out.1.alloc _).setRowOther _ _ (by omega), H5.out.setRow _, below_setRow (z4.out.2.alloc hs4 _) hs4 _⟩
  clear hB4 z3 z4
  cases d with
  | true =>
    obtain ⟨n, hn⟩ : ∃ n, n = 2 * m := ⟨_, rfl⟩
    have HSu : Hid (∀ W, Calls Tryz.prog 73 #[.agg (bcells m), .agg (bcells m)] W fun e w' => e = .returned (.agg (bcells n)) ∧ Below W.heap.size W w') := Lib.hid (fun W => by rw [hn, Nat.two_mul]; exact r1sum_any m m W)
    have HNN := Lib.hid hn
    clear hn
    go_wp2_with (first | (refine wpList_store_row rfl _ _ _ rfl _ _ rfl rfl _ _ (H5.out) size_bits rfl (bcells_one _) ?_) | (refine wpList_load_row rfl _ _ rfl _ rfl _ _ _ _ (z5.out.2.1) Tryz.underlying114 rfl size_bits ?_))
    generalize ((w4.alloc (.cells (bcells 0) 114)).setRow w4.heap.size (bcells m)) = w5 at *
    refine (HSu.out _).mono ?_
    rintro e w7 ⟨rfl, hB7⟩
    have z7 : Hid (RowAt w7 w4.heap.size 114 (bcells m)) := Lib.hid (z5.out.2.1.keep hB7)
    have zz : Hid (RowAt (w7.setRow w4.heap.size (bcells n)) w.heap.size 58 #[.int .u64 (p : Int), .int .u64 (q : Int), .int .u64 (r : Int)] ∧ RowAt (w7.setRow w4.heap.size (bcells n)) w4.heap.size 114 (bcells n) ∧ Below w.heap.size w (w7.setRow w4.heap.size (bcells n))) := Lib.hid ⟨(z5.out.1.keep hB7).setRowOther _ _ (by omega), z7.out.setRow _, below_setRow (z5.out.2.2.trans (hB7.mono z5.out.2.2.size)) hs4 _⟩
    clear hB7 H5
    go_wp2_with (refine wpList_store_row rfl _ _ _ rfl _ _ rfl rfl _ _ (z7.out) size_bits rfl (bcells_one _) ?_)
    generalize (w7.setRow w4.heap.size (bcells n)) = w6 at *
    clear z5 z7
    have HLs := Lib.hid (fun W => r1less_any n (p * q * r) (by have := HNN.out; omega) hNb W)
    have HF : Hid (decide (n < p * q * r) = fitsB (p * q * r) (k : Int) a b true) := Lib.hid (by
      unfold fitsB
      rw [decide_eq_true (show 0 ≤ (k : Int) ∧ (k : Int) ≤ 1024 by omega), Bool.true_and]
      congr 1
      rw [HNN.out, HMM.out, HXX.out, Int.toNat_natCast]
      rfl)
    clear HNN HMM HXX
    obtain ⟨P, hP⟩ : ∃ P, P = p * q * r := ⟨_, rfl⟩
    rw [← hP] at HLs HPr HF
    obtain ⟨ls, hls⟩ : ∃ ls, ls = decide (n < P) := ⟨_, rfl⟩
    rw [← hls] at HLs HF
    have HPP := Lib.hid hP
    clear hP hls hNb hxb
    obtain ⟨N, hN⟩ : ∃ N, N = w4.heap.size := ⟨_, rfl⟩
    rw [← hN] at zz
    have HN := Lib.hid hN
    clear hN
    go_wp2_with fail
    rw [← HN.out]
    have KP : Hid (∀ W W', (RowAt W w.heap.size 58 #[.int .u64 (p : Int), .int .u64 (q : Int), .int .u64 (r : Int)] ∧ RowAt W N 114 (bcells n) ∧ Below w.heap.size w W) → Below W.heap.size W W' → (RowAt W' w.heap.size 58 #[.int .u64 (p : Int), .int .u64 (q : Int), .int .u64 (r : Int)] ∧ RowAt W' N 114 (bcells n) ∧ Below w.heap.size w W')) := Lib.hid (fun W W' h hB => ⟨h.1.keep hB, h.2.1.keep hB, h.2.2.trans (hB.mono h.2.2.size)⟩)
    have z0 : Hid (RowAt (w6.drewN 1) w.heap.size 58 #[.int .u64 (p : Int), .int .u64 (q : Int), .int .u64 (r : Int)] ∧ RowAt (w6.drewN 1) N 114 (bcells n) ∧ Below w.heap.size w (w6.drewN 1)) := Lib.hid (KP.out _ _ zz.out (below_drewN (Below.refl _ _) 1))
    change (Code.region _ _ true).wp _ _ _ _
    refine wp_region_held_drew (S := fun wz => wz.cell? ⟨w.heap.size, 0, none⟩ = some (.int .u64 (p : Int)) ∧ wz.cell? ⟨w.heap.size, 1, none⟩ = some (.int .u64 (q : Int)) ∧ wz.cell? ⟨w.heap.size, 2, none⟩ = some (.int .u64 (r : Int)) ∧ RowAt wz N 114 (bcells n)) (by kernel_rfl) (⟨z0.out.1.cell (i := 0) (v := .int .u64 (p : Int)) rfl, z0.out.1.cell (i := 1) (v := .int .u64 (q : Int)) rfl, z0.out.1.cell (i := 2) (v := .int .u64 (r : Int)) rfl, z0.out.2.1⟩) (fun hHeld => ?_)
    refine wpAnyH_take (i := 0) rfl (by kernel_rfl) (by kernel_rfl) (by kernel_rfl) (fun _ _ _ h => h) (yieldsIf_load_row (by rfl) _ _ rfl _ rfl _ _ _ (fun wz h => h.2.2.2) Tryz.underlying114 rfl size_bits) ⟨z0.out.1.cell (i := 0) (v := .int .u64 (p : Int)) rfl, z0.out.1.cell (i := 1) (v := .int .u64 (q : Int)) rfl, z0.out.1.cell (i := 2) (v := .int .u64 (r : Int)) rfl, z0.out.2.1⟩ ?_
    try simp only [Act.put, List.getElem_toArray, List.getElem_cons_zero, List.getElem_cons_succ, List.setIfInBounds_toArray, List.set_cons_zero, List.set_cons_succ]
    refine wpAnyH_take (i := 1) (v := ?_) rfl (by kernel_rfl) (by kernel_rfl) (by kernel_rfl) (fun _ _ _ h => h) (Or.inl ⟨by rfl, ?_⟩) ⟨z0.out.1.cell (i := 0) (v := .int .u64 (p : Int)) rfl, z0.out.1.cell (i := 1) (v := .int .u64 (q : Int)) rfl, z0.out.1.cell (i := 2) (v := .int .u64 (r : Int)) rfl, z0.out.2.1⟩ ?_
    rotate_left
    · intro w hSw; (try dsimp only at hSw); go_simp; try with_reducible rfl
    try simp only [Act.put, List.getElem_toArray, List.getElem_cons_zero, List.getElem_cons_succ, List.setIfInBounds_toArray, List.set_cons_zero, List.set_cons_succ]
    refine wpAnyH_take (i := 2) (v := ?_) rfl (by kernel_rfl) (by kernel_rfl) (by kernel_rfl) (fun _ _ _ h => h) (Or.inl ⟨by rfl, ?_⟩) ⟨z0.out.1.cell (i := 0) (v := .int .u64 (p : Int)) rfl, z0.out.1.cell (i := 1) (v := .int .u64 (q : Int)) rfl, z0.out.1.cell (i := 2) (v := .int .u64 (r : Int)) rfl, z0.out.2.1⟩ ?_
    rotate_left
    · intro w hSw; (try dsimp only at hSw); go_simp; try with_reducible rfl
    try simp only [Act.put, List.getElem_toArray, List.getElem_cons_zero, List.getElem_cons_succ, List.setIfInBounds_toArray, List.set_cons_zero, List.set_cons_succ]
    refine wpAnyH_take (i := 3) (v := ?_) rfl (by kernel_rfl) (by kernel_rfl) (by kernel_rfl) (fun _ _ _ h => h) (Or.inl ⟨by rfl, ?_⟩) ⟨z0.out.1.cell (i := 0) (v := .int .u64 (p : Int)) rfl, z0.out.1.cell (i := 1) (v := .int .u64 (q : Int)) rfl, z0.out.1.cell (i := 2) (v := .int .u64 (r : Int)) rfl, z0.out.2.1⟩ ?_
    rotate_left
    · intro w hSw; (try dsimp only at hSw); go_simp; try with_reducible rfl
    try simp only [Act.put, List.getElem_toArray, List.getElem_cons_zero, List.getElem_cons_succ, List.setIfInBounds_toArray, List.set_cons_zero, List.set_cons_succ]
    refine wpAnyH_take (i := 4) (v := ?_) rfl (by kernel_rfl) (by kernel_rfl) (by kernel_rfl) (fun _ _ _ h => h) (Or.inl ⟨by rfl, ?_⟩) ⟨z0.out.1.cell (i := 0) (v := .int .u64 (p : Int)) rfl, z0.out.1.cell (i := 1) (v := .int .u64 (q : Int)) rfl, z0.out.1.cell (i := 2) (v := .int .u64 (r : Int)) rfl, z0.out.2.1⟩ ?_
    rotate_left
    · intro w hSw; (try dsimp only at hSw); go_simp; try with_reducible rfl
    try simp only [Act.put, List.getElem_toArray, List.getElem_cons_zero, List.getElem_cons_succ, List.setIfInBounds_toArray, List.set_cons_zero, List.set_cons_succ]
    refine wpAnyH_take (i := 5) (v := ?_) rfl (by kernel_rfl) (by kernel_rfl) (by kernel_rfl) (fun _ _ _ h => h) (Or.inl ⟨by rfl, ?_⟩) ⟨z0.out.1.cell (i := 0) (v := .int .u64 (p : Int)) rfl, z0.out.1.cell (i := 1) (v := .int .u64 (q : Int)) rfl, z0.out.1.cell (i := 2) (v := .int .u64 (r : Int)) rfl, z0.out.2.1⟩ ?_
    rotate_left
    · intro w hSw; (try dsimp only at hSw); go_simp; try with_reducible rfl
    try simp only [Act.put, List.getElem_toArray, List.getElem_cons_zero, List.getElem_cons_succ, List.setIfInBounds_toArray, List.set_cons_zero, List.set_cons_succ]
    refine wpAnyH_take (i := 6) (v := ?_) rfl (by kernel_rfl) (by kernel_rfl) (by kernel_rfl) (fun _ _ _ h => h) (Or.inl ⟨by rfl, ?_⟩) ⟨z0.out.1.cell (i := 0) (v := .int .u64 (p : Int)) rfl, z0.out.1.cell (i := 1) (v := .int .u64 (q : Int)) rfl, z0.out.1.cell (i := 2) (v := .int .u64 (r : Int)) rfl, z0.out.2.1⟩ ?_
    rotate_left
    · intro w hSw; (try dsimp only at hSw); go_simp; try with_reducible rfl
    try simp only [Act.put, List.getElem_toArray, List.getElem_cons_zero, List.getElem_cons_succ, List.setIfInBounds_toArray, List.set_cons_zero, List.set_cons_succ]
    refine wpAnyH_ready (rs := [7]) (by kernel_rfl) (by simp) ?_
    refine AllReadyH.cons rfl (fun K hK => ?_) AllReadyH.nil
    try simp only [List.getElem_toArray, List.getElem_cons_zero, List.getElem_cons_succ]
    rw [if_pos (by rfl)]
    go_wp2_with (go_at_call 80; refine (HPr.out _).mono ?_; rintro e y7 ⟨rfl, hY7⟩)
    have z7 := Lib.hid (KP.out _ _ z0.out hY7)
    clear hY7
    refine hK.out _ _ (⟨z7.out.1.cell (i := 0) (v := .int .u64 (p : Int)) rfl, z7.out.1.cell (i := 1) (v := .int .u64 (q : Int)) rfl, z7.out.1.cell (i := 2) (v := .int .u64 (r : Int)) rfl, z7.out.2.1⟩) (fun _ => ?_)
    clear hK K
    try simp only [Act.put, List.getElem_toArray, List.getElem_cons_zero, List.getElem_cons_succ, List.setIfInBounds_toArray, List.set_cons_zero, List.set_cons_succ]
    refine wpAnyH_ready (rs := [8]) (by kernel_rfl) (by simp) ?_
    refine AllReadyH.cons rfl (fun K hK => ?_) AllReadyH.nil
    try simp only [List.getElem_toArray, List.getElem_cons_zero, List.getElem_cons_succ]
    rw [if_pos (by rfl)]
    go_wp2_with (go_at_call 79; refine (HLs.out _).mono ?_; rintro e y8 ⟨rfl, hY8⟩)
    have z8 := Lib.hid (KP.out _ _ z7.out hY8)
    clear hY8
    refine hK.out _ _ (⟨z8.out.1.cell (i := 0) (v := .int .u64 (p : Int)) rfl, z8.out.1.cell (i := 1) (v := .int .u64 (q : Int)) rfl, z8.out.1.cell (i := 2) (v := .int .u64 (r : Int)) rfl, z8.out.2.1⟩) (fun _ => ?_)
    clear hK K
    try simp only [Act.put, List.getElem_toArray, List.getElem_cons_zero, List.getElem_cons_succ, List.setIfInBounds_toArray, List.set_cons_zero, List.set_cons_succ]
    refine wpAnyH_take (i := 9) (v := ?_) rfl (by kernel_rfl) (by kernel_rfl) (by kernel_rfl) (fun _ _ _ h => h) (Or.inl ⟨by rfl, ?_⟩) ⟨z8.out.1.cell (i := 0) (v := .int .u64 (p : Int)) rfl, z8.out.1.cell (i := 1) (v := .int .u64 (q : Int)) rfl, z8.out.1.cell (i := 2) (v := .int .u64 (r : Int)) rfl, z8.out.2.1⟩ ?_
    rotate_left
    · intro w hSw; (try dsimp only at hSw); go_simp; try with_reducible rfl
    try simp only [Act.put, List.getElem_toArray, List.getElem_cons_zero, List.getElem_cons_succ, List.setIfInBounds_toArray, List.set_cons_zero, List.set_cons_succ]
    refine wpAnyH_done (by kernel_rfl) ?_ _
    go_wp2
    go_ret
    exact ⟨by rw [HF.out, HPP.out]; rfl, z8.out.2.2⟩
  | false =>
    obtain ⟨n, hn⟩ : ∃ n, n = m := ⟨_, rfl⟩
    have HNN := Lib.hid hn
    rw [← hn] at z5
    have zz := z5
    clear hn
    go_wp2_with (refine wpList_store_row rfl _ _ _ rfl _ _ rfl rfl _ _ (H5.out) size_bits rfl (bcells_one _) ?_)
    rw [← HNN.out]
    generalize ((w4.alloc (.cells (bcells 0) 114)).setRow w4.heap.size (bcells n)) = w6 at *
    clear z5
    have HLs := Lib.hid (fun W => r1less_any n (p * q * r) (by have := HNN.out; omega) hNb W)
    have HF : Hid (decide (n < p * q * r) = fitsB (p * q * r) (k : Int) a b false) := Lib.hid (by
      unfold fitsB
      rw [decide_eq_true (show 0 ≤ (k : Int) ∧ (k : Int) ≤ 1024 by omega), Bool.true_and]
      congr 1
      rw [HNN.out, HMM.out, HXX.out, Int.toNat_natCast]
      rfl)
    clear HNN HMM HXX
    obtain ⟨P, hP⟩ : ∃ P, P = p * q * r := ⟨_, rfl⟩
    rw [← hP] at HLs HPr HF
    obtain ⟨ls, hls⟩ : ∃ ls, ls = decide (n < P) := ⟨_, rfl⟩
    rw [← hls] at HLs HF
    have HPP := Lib.hid hP
    clear hP hls hNb hxb
    obtain ⟨N, hN⟩ : ∃ N, N = w4.heap.size := ⟨_, rfl⟩
    rw [← hN] at zz
    have HN := Lib.hid hN
    clear hN
    go_wp2_with fail
    rw [← HN.out]
    have KP : Hid (∀ W W', (RowAt W w.heap.size 58 #[.int .u64 (p : Int), .int .u64 (q : Int), .int .u64 (r : Int)] ∧ RowAt W N 114 (bcells n) ∧ Below w.heap.size w W) → Below W.heap.size W W' → (RowAt W' w.heap.size 58 #[.int .u64 (p : Int), .int .u64 (q : Int), .int .u64 (r : Int)] ∧ RowAt W' N 114 (bcells n) ∧ Below w.heap.size w W')) := Lib.hid (fun W W' h hB => ⟨h.1.keep hB, h.2.1.keep hB, h.2.2.trans (hB.mono h.2.2.size)⟩)
    have z0 : Hid (RowAt (w6.drewN 1) w.heap.size 58 #[.int .u64 (p : Int), .int .u64 (q : Int), .int .u64 (r : Int)] ∧ RowAt (w6.drewN 1) N 114 (bcells n) ∧ Below w.heap.size w (w6.drewN 1)) := Lib.hid (KP.out _ _ zz.out (below_drewN (Below.refl _ _) 1))
    change (Code.region _ _ true).wp _ _ _ _
    refine wp_region_held_drew (S := fun wz => wz.cell? ⟨w.heap.size, 0, none⟩ = some (.int .u64 (p : Int)) ∧ wz.cell? ⟨w.heap.size, 1, none⟩ = some (.int .u64 (q : Int)) ∧ wz.cell? ⟨w.heap.size, 2, none⟩ = some (.int .u64 (r : Int)) ∧ RowAt wz N 114 (bcells n)) (by kernel_rfl) (⟨z0.out.1.cell (i := 0) (v := .int .u64 (p : Int)) rfl, z0.out.1.cell (i := 1) (v := .int .u64 (q : Int)) rfl, z0.out.1.cell (i := 2) (v := .int .u64 (r : Int)) rfl, z0.out.2.1⟩) (fun hHeld => ?_)
    refine wpAnyH_take (i := 0) rfl (by kernel_rfl) (by kernel_rfl) (by kernel_rfl) (fun _ _ _ h => h) (yieldsIf_load_row (by rfl) _ _ rfl _ rfl _ _ _ (fun wz h => h.2.2.2) Tryz.underlying114 rfl size_bits) ⟨z0.out.1.cell (i := 0) (v := .int .u64 (p : Int)) rfl, z0.out.1.cell (i := 1) (v := .int .u64 (q : Int)) rfl, z0.out.1.cell (i := 2) (v := .int .u64 (r : Int)) rfl, z0.out.2.1⟩ ?_
    try simp only [Act.put, List.getElem_toArray, List.getElem_cons_zero, List.getElem_cons_succ, List.setIfInBounds_toArray, List.set_cons_zero, List.set_cons_succ]
    refine wpAnyH_take (i := 1) (v := ?_) rfl (by kernel_rfl) (by kernel_rfl) (by kernel_rfl) (fun _ _ _ h => h) (Or.inl ⟨by rfl, ?_⟩) ⟨z0.out.1.cell (i := 0) (v := .int .u64 (p : Int)) rfl, z0.out.1.cell (i := 1) (v := .int .u64 (q : Int)) rfl, z0.out.1.cell (i := 2) (v := .int .u64 (r : Int)) rfl, z0.out.2.1⟩ ?_
    rotate_left
    · intro w hSw; (try dsimp only at hSw); go_simp; try with_reducible rfl
    try simp only [Act.put, List.getElem_toArray, List.getElem_cons_zero, List.getElem_cons_succ, List.setIfInBounds_toArray, List.set_cons_zero, List.set_cons_succ]
    refine wpAnyH_take (i := 2) (v := ?_) rfl (by kernel_rfl) (by kernel_rfl) (by kernel_rfl) (fun _ _ _ h => h) (Or.inl ⟨by rfl, ?_⟩) ⟨z0.out.1.cell (i := 0) (v := .int .u64 (p : Int)) rfl, z0.out.1.cell (i := 1) (v := .int .u64 (q : Int)) rfl, z0.out.1.cell (i := 2) (v := .int .u64 (r : Int)) rfl, z0.out.2.1⟩ ?_
    rotate_left
    · intro w hSw; (try dsimp only at hSw); go_simp; try with_reducible rfl
    try simp only [Act.put, List.getElem_toArray, List.getElem_cons_zero, List.getElem_cons_succ, List.setIfInBounds_toArray, List.set_cons_zero, List.set_cons_succ]
    refine wpAnyH_take (i := 3) (v := ?_) rfl (by kernel_rfl) (by kernel_rfl) (by kernel_rfl) (fun _ _ _ h => h) (Or.inl ⟨by rfl, ?_⟩) ⟨z0.out.1.cell (i := 0) (v := .int .u64 (p : Int)) rfl, z0.out.1.cell (i := 1) (v := .int .u64 (q : Int)) rfl, z0.out.1.cell (i := 2) (v := .int .u64 (r : Int)) rfl, z0.out.2.1⟩ ?_
    rotate_left
    · intro w hSw; (try dsimp only at hSw); go_simp; try with_reducible rfl
    try simp only [Act.put, List.getElem_toArray, List.getElem_cons_zero, List.getElem_cons_succ, List.setIfInBounds_toArray, List.set_cons_zero, List.set_cons_succ]
    refine wpAnyH_take (i := 4) (v := ?_) rfl (by kernel_rfl) (by kernel_rfl) (by kernel_rfl) (fun _ _ _ h => h) (Or.inl ⟨by rfl, ?_⟩) ⟨z0.out.1.cell (i := 0) (v := .int .u64 (p : Int)) rfl, z0.out.1.cell (i := 1) (v := .int .u64 (q : Int)) rfl, z0.out.1.cell (i := 2) (v := .int .u64 (r : Int)) rfl, z0.out.2.1⟩ ?_
    rotate_left
    · intro w hSw; (try dsimp only at hSw); go_simp; try with_reducible rfl
    try simp only [Act.put, List.getElem_toArray, List.getElem_cons_zero, List.getElem_cons_succ, List.setIfInBounds_toArray, List.set_cons_zero, List.set_cons_succ]
    refine wpAnyH_take (i := 5) (v := ?_) rfl (by kernel_rfl) (by kernel_rfl) (by kernel_rfl) (fun _ _ _ h => h) (Or.inl ⟨by rfl, ?_⟩) ⟨z0.out.1.cell (i := 0) (v := .int .u64 (p : Int)) rfl, z0.out.1.cell (i := 1) (v := .int .u64 (q : Int)) rfl, z0.out.1.cell (i := 2) (v := .int .u64 (r : Int)) rfl, z0.out.2.1⟩ ?_
    rotate_left
    · intro w hSw; (try dsimp only at hSw); go_simp; try with_reducible rfl
    try simp only [Act.put, List.getElem_toArray, List.getElem_cons_zero, List.getElem_cons_succ, List.setIfInBounds_toArray, List.set_cons_zero, List.set_cons_succ]
    refine wpAnyH_take (i := 6) (v := ?_) rfl (by kernel_rfl) (by kernel_rfl) (by kernel_rfl) (fun _ _ _ h => h) (Or.inl ⟨by rfl, ?_⟩) ⟨z0.out.1.cell (i := 0) (v := .int .u64 (p : Int)) rfl, z0.out.1.cell (i := 1) (v := .int .u64 (q : Int)) rfl, z0.out.1.cell (i := 2) (v := .int .u64 (r : Int)) rfl, z0.out.2.1⟩ ?_
    rotate_left
    · intro w hSw; (try dsimp only at hSw); go_simp; try with_reducible rfl
    try simp only [Act.put, List.getElem_toArray, List.getElem_cons_zero, List.getElem_cons_succ, List.setIfInBounds_toArray, List.set_cons_zero, List.set_cons_succ]
    refine wpAnyH_ready (rs := [7]) (by kernel_rfl) (by simp) ?_
    refine AllReadyH.cons rfl (fun K hK => ?_) AllReadyH.nil
    try simp only [List.getElem_toArray, List.getElem_cons_zero, List.getElem_cons_succ]
    rw [if_pos (by rfl)]
    go_wp2_with (go_at_call 80; refine (HPr.out _).mono ?_; rintro e y7 ⟨rfl, hY7⟩)
    have z7 := Lib.hid (KP.out _ _ z0.out hY7)
    clear hY7
    refine hK.out _ _ (⟨z7.out.1.cell (i := 0) (v := .int .u64 (p : Int)) rfl, z7.out.1.cell (i := 1) (v := .int .u64 (q : Int)) rfl, z7.out.1.cell (i := 2) (v := .int .u64 (r : Int)) rfl, z7.out.2.1⟩) (fun _ => ?_)
    clear hK K
    try simp only [Act.put, List.getElem_toArray, List.getElem_cons_zero, List.getElem_cons_succ, List.setIfInBounds_toArray, List.set_cons_zero, List.set_cons_succ]
    refine wpAnyH_ready (rs := [8]) (by kernel_rfl) (by simp) ?_
    refine AllReadyH.cons rfl (fun K hK => ?_) AllReadyH.nil
    try simp only [List.getElem_toArray, List.getElem_cons_zero, List.getElem_cons_succ]
    rw [if_pos (by rfl)]
    go_wp2_with (go_at_call 79; refine (HLs.out _).mono ?_; rintro e y8 ⟨rfl, hY8⟩)
    have z8 := Lib.hid (KP.out _ _ z7.out hY8)
    clear hY8
    refine hK.out _ _ (⟨z8.out.1.cell (i := 0) (v := .int .u64 (p : Int)) rfl, z8.out.1.cell (i := 1) (v := .int .u64 (q : Int)) rfl, z8.out.1.cell (i := 2) (v := .int .u64 (r : Int)) rfl, z8.out.2.1⟩) (fun _ => ?_)
    clear hK K
    try simp only [Act.put, List.getElem_toArray, List.getElem_cons_zero, List.getElem_cons_succ, List.setIfInBounds_toArray, List.set_cons_zero, List.set_cons_succ]
    refine wpAnyH_take (i := 9) (v := ?_) rfl (by kernel_rfl) (by kernel_rfl) (by kernel_rfl) (fun _ _ _ h => h) (Or.inl ⟨by rfl, ?_⟩) ⟨z8.out.1.cell (i := 0) (v := .int .u64 (p : Int)) rfl, z8.out.1.cell (i := 1) (v := .int .u64 (q : Int)) rfl, z8.out.1.cell (i := 2) (v := .int .u64 (r : Int)) rfl, z8.out.2.1⟩ ?_
    rotate_left
    · intro w hSw; (try dsimp only at hSw); go_simp; try with_reducible rfl
    try simp only [Act.put, List.getElem_toArray, List.getElem_cons_zero, List.getElem_cons_succ, List.setIfInBounds_toArray, List.set_cons_zero, List.set_cons_succ]
    refine wpAnyH_done (by kernel_rfl) ?_ _
    go_wp2
    go_ret
    exact ⟨by rw [HF.out, HPP.out]; rfl, z8.out.2.2⟩
set_option maxHeartbeats 1000000 in
set_option maxRecDepth 100000 in
theorem r24greatest_any (A : Option Addr) (c : Nat) (L : List Int) (w : World) (hl : L.length ≤ 140737488351232) (hR : RdI w w.heap.size .u64 A L) :
    Calls Tryz.prog 67 #[.slice A L.length c] w fun e w' => e = .returned (.int .u64 (mostL L)) ∧ w = w' := by
  have HM := Lib.hid (mostL_snoc L)
  have h0 : mostL (L.take 0) = 0 := rfl
  go_enter Tryz.func67, Tryz.ntmps67
  go_wp2
  go_loopw [3, 8] (fun X I wr => ∃ (k : Nat) (m : Int), X = .int .u64 m ∧ I = .int .i64 k ∧ k ≤ L.length ∧ Hid (m = mostL (L.take k)) ∧ w = wr) (fun _ I _ => L.length - (intOf I).toNat)
  case atStart => exact ⟨0, 0, rfl, rfl, by omega, Lib.hid h0.symm, rfl⟩
  case round =>
    obtain ⟨k, m, rfl, rfl, hk, hm, rfl⟩ := hrel
    by_cases hlt : k < L.length
    · obtain ⟨b, o, rfl, hb, hc⟩ := hR (by omega)
      have c0 := hc k hlt
      have hn : Hid (mxI m (L.getD k 0) = mostL (L.take (k + 1))) := Lib.hid (by rw [HM.out k hlt, hm.out])
      obtain ⟨x, hx⟩ : ∃ x, x = L.getD k 0 := ⟨_, rfl⟩
      rw [← hx] at c0 hn
      clear hx hc
      by_cases hxm : m < x
      · have hn2 : Hid (x = mostL (L.take (k + 1))) := Lib.hid (by rw [← hn.out]; unfold mxI; rw [if_pos hxm])
        have t1 : decide (m < x) = true := decide_eq_true hxm
        have t2 : decide (x > m) = true := decide_eq_true hxm
        clear hn hm
        go_wp2
        go_roundw
        case rel => exact ⟨k + 1, x, rfl, by go_num, by omega, hn2, by first | rfl | trivial⟩
        case measure => simp [intOf]; omega
      · have hn2 : Hid (m = mostL (L.take (k + 1))) := Lib.hid (by rw [← hn.out]; unfold mxI; rw [if_neg hxm])
        have t1 : decide (m < x) = false := decide_eq_false hxm
        have t2 : decide (x > m) = false := decide_eq_false hxm
        clear hn hm
        go_wp2
        go_roundw
        case rel => exact ⟨k + 1, m, rfl, by go_num, by omega, hn2, by first | rfl | trivial⟩
        case measure => simp [intOf]; omega
    · obtain rfl : k = L.length := by omega
      obtain rfl : m = mostL L := by rw [hm.out, List.take_of_length_le (by omega)]
      clear hm h0
      go_wp2
      go_ret
      exact ⟨rfl, rfl⟩
set_option maxHeartbeats 2000000 in
set_option maxRecDepth 100000 in
theorem r24fault_any (p q r : Nat) (hp : p < 9223372036854775808) (hq : q < 9223372036854775808) (hr : r < 9223372036854775808) (hp0 : 0 < p) (hq0 : 0 < q) (hr0 : 0 < r) (A B : Option Addr) (cA cB : Nat) (L M : List Int) (d : Bool) (w : World) (hl : L.length ≤ 140737488351232) (hm : M.length ≤ 140737488351232) (hU : U64s L) (hU' : U64s M) (hA : RdI w w.heap.size .u64 A L) (hB : RdI w w.heap.size .u64 B M) :
    Calls Tryz.prog 29 #[.agg #[.int .u64 (p : Int), .int .u64 (q : Int), .int .u64 (r : Int)], .slice A L.length cA, .slice B M.length cB, .bool d] w fun e w' => e = .returned (.int .i64 (chkX p q r L.length M.length (mostL L).toNat (mostL M).toNat d)) ∧ Below w.heap.size w w' := by
  have H1 : Hid (∀ W, Below w.heap.size w W → Calls Tryz.prog 67 #[.slice A L.length cA] W fun e w' => e = .returned (.int .u64 (mostL L)) ∧ W = w') := Lib.hid (fun W hW => r24greatest_any A cA L W hl ((hA.below hW).mono hW.size))
  have H2 : Hid (∀ W, Below w.heap.size w W → Calls Tryz.prog 67 #[.slice B M.length cB] W fun e w' => e = .returned (.int .u64 (mostL M)) ∧ W = w') := Lib.hid (fun W hW => r24greatest_any B cB M W hm ((hB.below hW).mono hW.size))
  obtain ⟨ma, ea, la⟩ := mostL_nat hU
  obtain ⟨mb, eb, lb⟩ := mostL_nat hU'
  rw [ea, eb, Int.toNat_natCast, Int.toNat_natCast]
  rw [ea] at H1
  rw [eb] at H2
  clear ea eb hU hU' hA hB
  obtain ⟨n, hn⟩ : ∃ n, n = L.length := ⟨_, rfl⟩
  obtain ⟨m, hm'⟩ : ∃ m, m = M.length := ⟨_, rfl⟩
  rw [← hn] at H1 hl ⊢
  rw [← hm'] at H2 hm ⊢
  clear hn hm'
  have hB0 := Lib.hid ((Below.refl w.heap.size w).alloc (Nat.le_refl _) (.cells #[.int .u64 (p : Int), .int .u64 (q : Int), .int .u64 (r : Int)] 58))
  by_cases hn0 : n = 0
  · subst hn0
    have hx : chkX p q r 0 m ma mb d = 1 := by unfold chkX; rw [if_pos (.inl rfl)]
    rw [hx]
    clear hx
    go_enter Tryz.func29, Tryz.ntmps29
    go_wp2
    go_ret
    exact ⟨rfl, hB0.out⟩
  have t1 : ((n : Int) == 0) = false := beq_eq_false_iff_ne.2 (by omega)
  by_cases hm0 : m = 0
  · subst hm0
    have hx : chkX p q r n 0 ma mb d = 1 := by unfold chkX; rw [if_pos (.inr rfl)]
    rw [hx]
    clear hx
    go_enter Tryz.func29, Tryz.ntmps29
    go_wp2
    go_ret
    exact ⟨rfl, hB0.out⟩
  have t2 : ((m : Int) == 0) = false := beq_eq_false_iff_ne.2 (by omega)
  by_cases hlg : 1024 < (n : Int) + (m : Int) - 1
  · have hx : chkX p q r n m ma mb d = 13 := by unfold chkX; rw [if_neg (by omega), if_pos hlg]
    rw [hx]
    have t3 : decide ((n : Int) + (m : Int) - 1 > 1024) = true := decide_eq_true hlg
    clear hx
    go_enter Tryz.func29, Tryz.ntmps29
    go_wp2
    go_ret
    exact ⟨rfl, hB0.out⟩
  have t3 : decide ((n : Int) + (m : Int) - 1 > 1024) = false := decide_eq_false hlg
  have HX : Hid (chkX p q r n m ma mb d = if allFit (pd ((n : Int) + (m : Int) - 1)) p q r = false then 4 else if fitsB (p * q * r) (mnI n m) ma mb d = false then 12 else 0) := Lib.hid (by unfold chkX; rw [if_neg (by omega), if_neg hlg])
  have hmn : ∃ k : Nat, mnI (n : Int) (m : Int) = (k : Int) ∧ k ≤ 1024 := ⟨min n m, mnI_eq, by have := Nat.min_le_left n m; omega⟩
  obtain ⟨k, hk, hk2⟩ := hmn
  have HF := Lib.hid (fun W => r24fits_any p q r k ma mb hp hq hr hk2 la lb d W)
  rw [← hk] at HF
  obtain ⟨fb, hfb⟩ : ∃ fb, fb = fitsB (p * q * r) (mnI (n : Int) (m : Int)) ma mb d := ⟨_, rfl⟩
  rw [← hfb] at HF HX
  obtain ⟨P, hP⟩ : ∃ P, P = pd ((n : Int) + (m : Int) - 1) := ⟨_, rfl⟩
  have HPd := Lib.hid (fun W => rpad2_any ((n : Int) + (m : Int) - 1) W (by omega) (by omega))
  have hps := pd_spec (show (n : Int) + (m : Int) - 1 ≤ 4096 by omega)
  rw [← hP] at HX HPd hps
  have HPi : Hid (∀ i, i < 3 → 0 < pk p q r i ∧ pk p q r i < 9223372036854775808 ∧ (#[.int .u64 (p : Int), .int .u64 (q : Int), .int .u64 (r : Int)] : Array Value)[i]? = some (.int .u64 ((pk p q r i : Nat) : Int))) := Lib.hid (fun i hi => by
    match i, hi with
    | 0, _ => exact ⟨hp0, hp, rfl⟩
    | 1, _ => exact ⟨hq0, hq, rfl⟩
    | 2, _ => exact ⟨hr0, hr, rfl⟩)
  have hP1 : 1 ≤ P := by omega
  have hP2 : P ≤ 4096 := by omega
  have twP : IntKind.u64.wrap P = P := by rw [IntKind.wrap_u64]; omega
  have tP0 : (P == 0) = false := beq_eq_false_iff_ne.2 (by omega)
  have R0 := Lib.hid (lay1 w 58 #[.int .u64 (p : Int), .int .u64 (q : Int), .int .u64 (r : Int)])
  clear hfb hP hps hlg la lb hp hq hr hk hk2 hp0 hq0 hr0 hB0
  go_enter Tryz.func29, Tryz.ntmps29
  go_wp2_with (refine wpList_load_row rfl _ _ rfl _ rfl _ _ _ _ (R0.out.1) Tryz.underlying58 rfl size_words ?_)
  generalize (w.alloc (.cells #[.int .u64 (p : Int), .int .u64 (q : Int), .int .u64 (r : Int)] 58)) = w1 at *
  go_loopw [29] (fun I wr => ∃ i : Nat, I = .int .i64 i ∧ i ≤ 3 ∧ Hid ((∀ j, j < i → fitR P ((pk p q r j : Nat) : Int) = true) ∧ w1 = wr)) (fun I _ => 3 - (intOf I).toNat)
  case atStart => exact ⟨0, rfl, by omega, Lib.hid ⟨fun j hj => by omega, rfl⟩⟩
  case round =>
    obtain ⟨i, rfl, hi, Q⟩ := hrel
    obtain ⟨Q1, hw1⟩ := Q.out
    subst hw1
    have HQ1 := Lib.hid Q1
    clear Q Q1
    by_cases hlt : i < 3
    · have f0 : (0 : Int) ≤ (i : Int) := by omega
      have f1 : (i : Int) < 3 := by omega
      obtain ⟨m0, m1, hpm⟩ := HPi.out i hlt
      have hix : ∀ W, (Instr.index 58 (.agg #[.int .u64 (p : Int), .int .u64 (q : Int), .int .u64 (r : Int)]) (.int .i64 (i : Int))).run Tryz.prog W = .ok (.int .u64 ((pk p q r i : Nat) : Int)) W := fun W => run_index_row _ _ _ _ _ _ _ Tryz.underlying58 rfl Tryz.underlying22 (by kernel_rfl) hlt hpm W
      obtain ⟨ok, hok⟩ : ∃ ok, ok = fitR P ((pk p q r i : Nat) : Int) := ⟨_, rfl⟩
      have HOK := Lib.hid hok
      obtain ⟨x, hx⟩ : ∃ x, x = pk p q r i := ⟨_, rfl⟩
      rw [← hx] at hix m0 m1 hok
      clear hpm hx
      have tx : IntKind.u64.wrap ((x : Int) - 1) = (x : Int) - 1 := by rw [IntKind.wrap_u64]; omega
      have tr1 : ((x : Int) - 1).tmod P = ((x : Int) - 1) % P := Int.tmod_eq_emod_of_nonneg (by omega)
      have hokd : ok = (((x : Int) - 1) % P == 0) := by
        rw [hok]; unfold fitR; rw [decide_eq_true (show 0 < P by omega), Bool.true_and]
      obtain ⟨y, hy⟩ : ∃ y, y = ((x : Int) - 1) % P := ⟨_, rfl⟩
      rw [← hy] at tr1 hokd
      have hyE : ((x : Int) - 1) % P = y := hy.symm
      clear hok
      cases ok with
      | true =>
        have ty : (y != 0) = false := by simp at hokd; simp [hokd]
        clear hokd hy
        go_wp2_with fail
        refine (HPd.out _).mono ?_
        rintro e w2 ⟨rfl, rfl⟩
        go_wp2
        go_roundw
        case rel => exact ⟨i + 1, by go_num, by omega, Lib.hid ⟨fun j hj => (by
          rcases Nat.lt_or_ge j i with h1 | h1
          · exact HQ1.out j h1
          · obtain rfl : j = i := by omega
            exact HOK.out.symm), by first | rfl | trivial⟩⟩
        case measure => simp [intOf]; omega
      | false =>
        have HX4 : Hid (chkX p q r n m ma mb d = 4) := Lib.hid (by
          rw [HX.out]
          cases hA : allFit P p q r with
          | false => rfl
          | true => have h2 := (allFit_iff _ _ _ _).1 hA i hlt; rw [← HOK.out] at h2; cases h2)
        have ty : (y != 0) = true := by
          rcases Decidable.em (y = 0) with h | h
          · simp [h] at hokd
          · simpa using h
        clear hokd hy
        go_wp2_with fail
        refine (HPd.out _).mono ?_
        rintro e w2 ⟨rfl, rfl⟩
        go_wp2
        go_ret
        exact ⟨by rw [HX4.out]; rfl, R0.out.2⟩
    · obtain rfl : i = 3 := by omega
      have HE : Hid (chkX p q r n m ma mb d = if fb = false then 12 else 0) := Lib.hid (by rw [HX.out, (allFit_iff _ _ _ _).2 HQ1.out, if_neg (by decide)])
      have z0 : Hid (RowAt (w1.drewN 1) w.heap.size 58 #[.int .u64 (p : Int), .int .u64 (q : Int), .int .u64 (r : Int)] ∧ Below w.heap.size w (w1.drewN 1)) := Lib.hid ⟨R0.out.1, below_drewN R0.out.2 1⟩
      go_wp2_with fail
      change (Code.region _ _ true).wp _ _ _ _
      refine wp_region_held_drew (S := fun wz => RowAt wz w.heap.size 58 #[.int .u64 (p : Int), .int .u64 (q : Int), .int .u64 (r : Int)]) (by kernel_rfl) (z0.out.1) (fun hHeld => ?_)
      refine wpAnyH_take (i := 0) rfl (by kernel_rfl) (by kernel_rfl) (by kernel_rfl) (fun _ _ _ h => h) (yieldsIf_load_row (by rfl) _ _ rfl _ rfl _ _ _ (fun wz h => h) Tryz.underlying58 rfl size_words) z0.out.1 ?_
      try simp only [Act.put, List.getElem_toArray, List.getElem_cons_zero, List.getElem_cons_succ, List.setIfInBounds_toArray, List.set_cons_zero, List.set_cons_succ]
      refine wpAnyH_take (i := 1) (v := ?_) rfl (by kernel_rfl) (by kernel_rfl) (by kernel_rfl) (fun _ _ _ h => h) (Or.inl ⟨by rfl, ?_⟩) z0.out.1 ?_
      rotate_left
      · intro w hSw; (try dsimp only at hSw); go_simp; try with_reducible rfl
      try simp only [Act.put, List.getElem_toArray, List.getElem_cons_zero, List.getElem_cons_succ, List.setIfInBounds_toArray, List.set_cons_zero, List.set_cons_succ]
      refine wpAnyH_take (i := 2) (v := ?_) rfl (by kernel_rfl) (by kernel_rfl) (by kernel_rfl) (fun _ _ _ h => h) (Or.inl ⟨by rfl, ?_⟩) z0.out.1 ?_
      rotate_left
      · intro w hSw; (try dsimp only at hSw); go_simp; try with_reducible rfl
      try simp only [Act.put, List.getElem_toArray, List.getElem_cons_zero, List.getElem_cons_succ, List.setIfInBounds_toArray, List.set_cons_zero, List.set_cons_succ]
      refine wpAnyH_take (i := 3) (v := ?_) rfl (by kernel_rfl) (by kernel_rfl) (by kernel_rfl) (fun _ _ _ h => h) (Or.inl ⟨by rfl, ?_⟩) z0.out.1 ?_
      rotate_left
      · intro w hSw; (try dsimp only at hSw); go_simp; try with_reducible rfl
      try simp only [Act.put, List.getElem_toArray, List.getElem_cons_zero, List.getElem_cons_succ, List.setIfInBounds_toArray, List.set_cons_zero, List.set_cons_succ]
      refine wpAnyH_take (i := 4) (v := ?_) rfl (by kernel_rfl) (by kernel_rfl) (by kernel_rfl) (fun _ _ _ h => h) (Or.inl ⟨by rfl, ?_⟩) z0.out.1 ?_
      rotate_left
      · intro w hSw; (try dsimp only at hSw); go_simp; try with_reducible rfl
      try simp only [Act.put, List.getElem_toArray, List.getElem_cons_zero, List.getElem_cons_succ, List.setIfInBounds_toArray, List.set_cons_zero, List.set_cons_succ]
      refine wpAnyH_take (i := 5) (v := ?_) rfl (by kernel_rfl) (by kernel_rfl) (by kernel_rfl) (fun _ _ _ h => h) (Or.inl ⟨by rfl, ?_⟩) z0.out.1 ?_
      rotate_left
      · intro w hSw; (try dsimp only at hSw); go_simp; try with_reducible rfl
      try simp only [Act.put, List.getElem_toArray, List.getElem_cons_zero, List.getElem_cons_succ, List.setIfInBounds_toArray, List.set_cons_zero, List.set_cons_succ]
      refine wpAnyH_take (i := 6) (v := ?_) rfl (by kernel_rfl) (by kernel_rfl) (by kernel_rfl) (fun _ _ _ h => h) (Or.inl ⟨by rfl, ?_⟩) z0.out.1 ?_
      rotate_left
      · intro w hSw; (try dsimp only at hSw); go_simp; try with_reducible rfl
      try simp only [Act.put, List.getElem_toArray, List.getElem_cons_zero, List.getElem_cons_succ, List.setIfInBounds_toArray, List.set_cons_zero, List.set_cons_succ]
      refine wpAnyH_take (i := 8) (v := ?_) rfl (by kernel_rfl) (by kernel_rfl) (by kernel_rfl) (fun _ _ _ h => h) (Or.inl ⟨by rfl, ?_⟩) z0.out.1 ?_
      rotate_left
      · intro w hSw; (try dsimp only at hSw); go_simp; try with_reducible rfl
      try simp only [Act.put, List.getElem_toArray, List.getElem_cons_zero, List.getElem_cons_succ, List.setIfInBounds_toArray, List.set_cons_zero, List.set_cons_succ]
      refine wpAnyH_take (i := 10) (v := ?_) rfl (by kernel_rfl) (by kernel_rfl) (by kernel_rfl) (fun _ _ _ h => h) (Or.inl ⟨by rfl, ?_⟩) z0.out.1 ?_
      rotate_left
      · intro w hSw; (try dsimp only at hSw); go_simp; try with_reducible rfl
      try simp only [Act.put, List.getElem_toArray, List.getElem_cons_zero, List.getElem_cons_succ, List.setIfInBounds_toArray, List.set_cons_zero, List.set_cons_succ]
      refine wpAnyH_ready (rs := [7]) (by kernel_rfl) (by simp) ?_
      refine AllReadyH.cons rfl (fun K hK => ?_) AllReadyH.nil
      try simp only [List.getElem_toArray, List.getElem_cons_zero, List.getElem_cons_succ]
      rw [if_pos (by rfl)]
      go_wp2_with (go_at_call 67; refine (H1.out _ z0.out.2).mono ?_; rintro e y7 ⟨rfl, hY⟩)
      subst hY
      refine hK.out _ _ (z0.out.1) (fun _ => ?_)
      clear hK K
      try simp only [Act.put, List.getElem_toArray, List.getElem_cons_zero, List.getElem_cons_succ, List.setIfInBounds_toArray, List.set_cons_zero, List.set_cons_succ]
      refine wpAnyH_ready (rs := [9]) (by kernel_rfl) (by simp) ?_
      refine AllReadyH.cons rfl (fun K hK => ?_) AllReadyH.nil
      try simp only [List.getElem_toArray, List.getElem_cons_zero, List.getElem_cons_succ]
      rw [if_pos (by rfl)]
      go_wp2_with (go_at_call 67; refine (H2.out _ z0.out.2).mono ?_; rintro e y9 ⟨rfl, hY⟩)
      subst hY
      refine hK.out _ _ (z0.out.1) (fun _ => ?_)
      clear hK K
      try simp only [Act.put, List.getElem_toArray, List.getElem_cons_zero, List.getElem_cons_succ, List.setIfInBounds_toArray, List.set_cons_zero, List.set_cons_succ]
      refine wpAnyH_ready (rs := [11]) (by kernel_rfl) (by simp) ?_
      refine AllReadyH.cons rfl (fun K hK => ?_) AllReadyH.nil
      try simp only [List.getElem_toArray, List.getElem_cons_zero, List.getElem_cons_succ]
      rw [if_pos (by rfl)]
      go_wp2_with (go_at_call 34; refine (HF.out _).mono ?_; rintro e y11 ⟨rfl, hY⟩)
      have z11 : Hid (RowAt y11 w.heap.size 58 #[.int .u64 (p : Int), .int .u64 (q : Int), .int .u64 (r : Int)] ∧ Below w.heap.size w y11) := Lib.hid ⟨z0.out.1.keep hY, z0.out.2.trans (hY.mono z0.out.2.size)⟩
      clear hY
      refine hK.out _ _ (z11.out.1) (fun _ => ?_)
      clear hK K
      try simp only [Act.put, List.getElem_toArray, List.getElem_cons_zero, List.getElem_cons_succ, List.setIfInBounds_toArray, List.set_cons_zero, List.set_cons_succ]
      refine wpAnyH_take (i := 12) (v := ?_) rfl (by kernel_rfl) (by kernel_rfl) (by kernel_rfl) (fun _ _ _ h => h) (Or.inl ⟨by rfl, ?_⟩) z11.out.1 ?_
      rotate_left
      · intro w hSw; (try dsimp only at hSw); go_simp; try with_reducible rfl
      try simp only [Act.put, List.getElem_toArray, List.getElem_cons_zero, List.getElem_cons_succ, List.setIfInBounds_toArray, List.set_cons_zero, List.set_cons_succ]
      refine wpAnyH_done (by kernel_rfl) ?_ _
      cases fb with
      | true =>
        go_wp2
        go_ret
        exact ⟨by rw [HE.out]; rfl, z11.out.2⟩
      | false =>
        go_wp2
        go_ret
        exact ⟨by rw [HE.out]; rfl, z11.out.2⟩
end Go.Proofs.YtemoginoanhjlaaGreat
