/- limbs: a product of two words, twice, what makes 0; exact: sizes. -/
import Derived.Test.YtemoginoanhjlaaGreatWLimDToB01B
import Derived.Test.YtemoginoanhjlaaGreatWLimALimBLimC
import Derived.Test.YtemoginoanhjlaaGreatWTwidToRdB
import Derived.Test.YtemoginoanhjlaaGreatApz
set_option linter.unusedVariables false
set_option linter.unusedSimpArgs false
set_option linter.unusedSectionVars false
set_option linter.unusedVariables false
set_option linter.unusedSimpArgs false
namespace Go.Proofs.YtemoginoanhjlaaGreat
open Go.RowKit
set_option maxHeartbeats 1000000 in
set_option maxRecDepth 100000 in
theorem ltimes_any (a b : Nat) (ha : a < 18446744073709551616) (hb : b < 18446744073709551616) (w : World) :
    Calls Tryz.prog 74 #[.int .u64 (a : Nat), .int .u64 (b : Nat)] w fun e w' => e = .returned (.tuple #[.int .u64 ((a * b / 18446744073709551616 : Nat) : Int), .int .u64 ((a * b % 18446744073709551616 : Nat) : Int)]) ∧ w = w' := by
  have hM : ∀ W, Calls Tryz.prog 131 #[.int .u64 (a : Nat), .int .u64 (b : Nat)] W fun e w' => e = .returned (.tuple #[.int .u64 (((a * b / 18446744073709551616 : Nat)) : Int), .int .u64 (((a * b % 18446744073709551616 : Nat)) : Int)]) ∧ W = w' := fun W => by
    have h2 := mul64_any (a : Nat) (b : Nat) W (by omega) (by omega) (by omega) (by omega)
    rw [Int.natCast_ediv, Int.natCast_emod, Int.natCast_mul]; exact h2
  obtain ⟨h, hh⟩ : ∃ h, h = a * b / 18446744073709551616 := ⟨_, rfl⟩
  obtain ⟨l, hl⟩ : ∃ l, l = a * b % 18446744073709551616 := ⟨_, rfl⟩
  rw [← hh, ← hl] at hM
  rw [← hh, ← hl]
  clear hh hl
  go_enter Tryz.func74, Tryz.ntmps74
  go_wp2_with fail
  refine (hM _).mono ?_
  rintro e w1 ⟨rfl, rfl⟩
  go_wp2
  go_ret2
  exact ⟨rfl, rfl⟩
theorem dbl_wd (a i : Nat) (hi : i < 3) : wd (2 * a) i = 2 * wd a i % 18446744073709551616 + (if 0 < i then wd a (i - 1) / 9223372036854775808 else 0) := by
  unfold wd
  match i, hi with
  | 0, _ => simp
  | 1, _ => simp only [Nat.reducePow]; simp; omega
  | 2, _ => simp only [Nat.reducePow]; simp; omega
set_option maxHeartbeats 1000000 in
set_option maxRecDepth 100000 in
theorem lleft_any (a : Nat) (w : World) :
    Calls Tryz.prog 76 #[.agg (three a), .int .i64 1] w fun e w' => e = .returned (.agg (three (2 * a))) ∧ Below w.heap.size w w' := by
  have hz := (zero_of_info info_three).1
  obtain ⟨d, hd⟩ : ∃ d, d = 2 * a := ⟨_, rfl⟩
  have HW : Hid (∀ i, i < 3 → wd d i = 2 * wd a i % 18446744073709551616 + (if 0 < i then wd a (i - 1) / 9223372036854775808 else 0)) := Lib.hid (fun i hi => by rw [hd]; exact dbl_wd a i hi)
  rw [← hd]
  clear hd
  have R0 := Lib.hid (Rows3.new w 69 (three a) 69 (three 0) 69 (three 0))
  have mm : max (1 : Int) 0 = 1 := rfl
  have mn : min (1 : Int) 192 = 1 := rfl
  have q0 : (1 : Int) / 64 = 0 := rfl
  have q1 : (1 : Int) % 64 = 1 := rfl
  go_enter Tryz.func76, Tryz.ntmps76
  go_wp2_with fail
  generalize (((w.alloc (.cells (three a) 69)).alloc (.cells (three 0) 69)).alloc (.cells (three 0) 69)) = w1 at *
  go_loopw [8] (fun I wr => ∃ i : Nat, I = .int .i64 i ∧ i ≤ 3 ∧ Hid (Rows3 w wr 69 (three a) 69 (three 0) 69 (three (d % 18446744073709551616 ^ i)))) (fun I _ => 3 - (intOf I).toNat)
  case atStart => exact ⟨0, rfl, by omega, Lib.hid (by rw [Nat.pow_zero, Nat.mod_one]; exact R0.out)⟩
  case round =>
    clear R0
    obtain ⟨i, rfl, hi, R⟩ := hrel
    by_cases hlt : i < 3
    · have c0 := R.out.1.cell (three_get a i hlt)
      have b0 := wd_lt a i
      have e0 := R.out.2.2.1.cell (three_get _ i hlt)
      have e1 := R.out.2.2.1.frozen i
      have hw := HW.out i hlt
      have f0 : (0 : Int) ≤ (i : Int) := by omega
      have f1 : (i : Int) < 3 := by omega
      have hst := three_next (n := d) hlt
      obtain ⟨z, hz'⟩ : ∃ z, z = wd d i := ⟨_, rfl⟩
      rw [← hz'] at hst hw
      obtain ⟨x, hx⟩ : ∃ x, x = wd a i := ⟨_, rfl⟩
      rw [← hx] at hw c0 b0
      by_cases h2 : 0 < i
      · obtain ⟨u, hu⟩ : ∃ u : Int, u = (IntKind.u64.wrap ((x : Int) * 2)) := ⟨_, rfl⟩
        have hu' : u = ((2 * x % 18446744073709551616 : Nat) : Int) := by rw [hu, IntKind.wrap_u64]; omega
        have R1 := R.out.set i (.int .u64 u) rfl
        rw [if_pos h2] at hw
        obtain ⟨j, rfl⟩ : ∃ j, i = j + 1 := ⟨i - 1, by omega⟩
        rw [Nat.add_sub_cancel] at hw
        have t2 : decide ((j : Int) + 1 > 0) = true := decide_eq_true (by omega)
        have c1 := R1.1.cell (three_get a j (by omega))
        have b1 := wd_lt a j
        obtain ⟨y, hy⟩ : ∃ y, y = wd a j := ⟨_, rfl⟩
        rw [← hy] at hw c1 b1
        have k0 : (wr.setCell ⟨w.heap.size + 1 + 1, j + 1, none⟩ (.int .u64 u)).cell? ⟨w.heap.size + 1 + 1, j + 1, none⟩ = some (.int .u64 u) := R1.2.2.1.cell (by rw [Array.getElem?_setIfInBounds, if_pos rfl, if_pos (by rw [three_size]; exact hlt)])
        have k1 := R1.2.2.1.frozen (j + 1)
        have hor : bits .or .u64 u ((y : Int) / 9223372036854775808) = (z : Int) := by
          have hh := or_join u ((y : Int) / 9223372036854775808) 1 (by omega) (by omega) (by omega) (by omega) (by omega) (by omega)
          rw [hh]; omega
        have HST := Lib.hid hst
        have HR1 := Lib.hid R1
        have HU := Lib.hid hu
        have c2 : wr.cell? ⟨w.heap.size, j, none⟩ = some (.int .u64 (y : Nat)) := by rw [hy]; exact R.out.1.cell (three_get a j (by omega))
        clear hw hst hz' hx hy b1 R1 hu' hu
        go_wp2_with fail
        rw [← HU.out]
        refine wp_region_qtail 13 (by kernel_rfl) (by kernel_rfl) ?_
        simp only [List.take_succ_cons, List.take_zero, List.drop_succ_cons, List.drop_zero]
        repeat (go_big_quiet_step (fail))
        refine wpQuiet_nil ?_
        intro _ hw'
        obtain ⟨nq, hw''⟩ := hw'
        subst hw''
        have k0' := (HR1.out.drewN nq).2.2.1.cell (i := j + 1) (v := .int .u64 u) (by rw [Array.getElem?_setIfInBounds, if_pos rfl, if_pos (by rw [three_size]; exact hlt)])
        have k1' := (HR1.out.drewN nq).2.2.1.frozen (j + 1)
        have R3 := Lib.hid ((HR1.out.drewN nq).set (j + 1) (.int .u64 (z : Nat)) (d := three (d % 18446744073709551616 ^ (j + 1 + 1))) (by rw [set_set]; exact HST.out))
        clear c0 c1 c2 e0 e1 k0 k1 HR1
        go_wp2
        go_roundw
        case rel => exact ⟨j + 1 + 1, by go_num, by omega, R3⟩
        case measure => simp [intOf] <;> omega
      · obtain rfl : i = 0 := by omega
        rw [if_neg (by omega)] at hw
        have e2 : IntKind.u64.wrap ((x : Int) * 2) = (z : Int) := by rw [IntKind.wrap_u64]; omega
        have R1 := R.out.set 0 (.int .u64 (z : Int)) rfl
        have R2 : Hid (Rows3 w (wr.setCell ⟨w.heap.size + 1 + 1, 0, none⟩ (.int .u64 (z : Nat))) 69 (three a) 69 (three 0) 69 (three (d % 18446744073709551616 ^ (0 + 1)))) := Lib.hid (hst ▸ R1)
        clear R1 hst hz' hx hw
        go_wp2
        go_roundw
        case rel => exact ⟨0 + 1, by go_num, by omega, R2⟩
        case measure => simp [intOf] <;> omega
    · obtain rfl : i = 3 := by omega
      have r3 := R.out.2.2.1
      rw [show (18446744073709551616 : Nat) ^ 3 = 6277101735386680763835789423207666416102355444464034512896 by rfl, three_mod] at r3
      have r2 := R.out.2.1
      obtain ⟨r2', hB'⟩ := R.out.ret (three d)
      have HB' := Lib.hid hB'
      clear hB' R
      go_wp2_with (first | (refine wpList_load_row rfl _ _ rfl _ rfl _ _ _ _ (r3) Tryz.underlying69 rfl size_three ?_) | (refine wpList_store_row rfl _ _ _ rfl _ _ rfl rfl _ _ (r2) size_three rfl (three_one _) ?_))
      refine bodyPost_ret (results_cell_row rfl _ _ _ _ _ _ _ rfl r2' Tryz.underlying69 rfl size_three) (by rfl) ?_
      exact ⟨rfl, HB'.out⟩
set_option maxHeartbeats 1000000 in
set_option maxRecDepth 100000 in
theorem lneg_any (a : Nat) (w : World) :
    Calls Tryz.prog 37 #[.agg (three a)] w fun e w' => e = .returned (.agg (three (dif 0 a))) ∧ Below w.heap.size w w' := by
  have hz := (zero_of_info info_three).1
  have hb0 : ∀ w, (Instr.build 69 #[]).run Tryz.prog w = .ok (.agg (three 0)) w := fun w => run_build w _ _ _ (by kernel_rfl)
  obtain ⟨d, hd⟩ : ∃ d, d = dif 0 a := ⟨_, rfl⟩
  have HS := Lib.hid (lsub_any 0 a)
  rw [← hd] at HS
  rw [← hd]
  clear hd
  have R0 := Lib.hid (lay2 w 69 69 (three a) (three 0))
  go_enter Tryz.func37, Tryz.ntmps37
  go_wp2_with (first | (refine wpList_load_row rfl _ _ rfl _ rfl _ _ _ _ (R0.out.1) Tryz.underlying69 rfl size_three ?_))
  generalize ((w.alloc (.cells (three a) 69)).alloc (.cells (three 0) 69)) = w1 at *
  refine (HS.out _).mono ?_
  rintro e w2 ⟨rfl, hB2⟩
  have H2 := Lib.hid (R0.out.2.1.keep hB2)
  have HB := Lib.hid (R0.out.2.2.trans (hB2.mono R0.out.2.2.size))
  have H3 := Lib.hid (RowAt.new w2 69 (three 0))
  have hne : w.heap.size + 1 ≠ w2.heap.size := by have := H2.out.lt; omega
  have hsz := HB.out.size
  have G3 := Lib.hid (H3.out.setRow (three d))
  have G2 := Lib.hid ((H2.out.alloc (.cells (three 0) 69)).setRowOther w2.heap.size (three d) hne)
  have GB := Lib.hid (below_setRow (HB.out.alloc hsz (.cells (three 0) 69)) hsz (three d))
  clear hB2 R0 H2 HB
  go_wp2_with (first | (refine wpList_store_row rfl _ _ _ rfl _ _ rfl rfl _ _ (H3.out) size_three rfl (three_one _) ?_) | (refine wpList_load_row rfl _ _ rfl _ rfl _ _ _ _ (G3.out) Tryz.underlying69 rfl size_three ?_) | (refine wpList_store_row rfl _ _ _ rfl _ _ rfl rfl _ _ (G2.out) size_three rfl (three_one _) ?_))
  refine bodyPost_ret (results_cell_row rfl _ _ _ _ _ _ _ rfl (G2.out.setRow _) Tryz.underlying69 rfl size_three) (by rfl) ?_
  exact ⟨rfl, below_setRow GB.out (by omega) _⟩
set_option maxHeartbeats 1000000 in
set_option maxRecDepth 100000 in
theorem xsize_any (n : Int) (h0 : -9223372036854775808 ≤ n) (h1 : n ≤ 9223372036854775807) (w : World) :
    Calls Tryz.prog 31 #[.int .i64 n] w fun e w' => e = .returned (.int .u64 (n.natAbs : Int)) ∧ w = w' := by
  rcases Int.lt_or_le n 0 with h | h
  · have t : decide (n < 0) = true := decide_eq_true h
    go_enter Tryz.func31, Tryz.ntmps31
    go_wp2
    go_ret
    refine ⟨ret_int ?_, rfl⟩
    simp only [IntKind.wrap_u64]
    omega
  · have t : decide (n < 0) = false := decide_eq_false (by omega)
    go_enter Tryz.func31, Tryz.ntmps31
    go_wp2
    go_ret
    refine ⟨ret_int ?_, rfl⟩
    try simp only [IntKind.wrap_u64]
    omega
end Go.Proofs.YtemoginoanhjlaaGreat
