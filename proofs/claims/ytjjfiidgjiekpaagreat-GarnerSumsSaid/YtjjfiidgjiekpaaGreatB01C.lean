/- epicycleref01: turning, words; epicycleref23. -/
import Derived.Test.YtjjfiidgjiekpaaGreatB01B
set_option linter.unusedVariables false
set_option linter.unusedSimpArgs false
set_option linter.unusedSectionVars false
namespace Go.Proofs.YtjjfiidgjiekpaaGreat
open Go.RowKit
/-- 2^192 less a number. -/
def turn (a : Nat) : Nat := (2 ^ 192 - a % 2 ^ 192) % 2 ^ 192
theorem not_bit (a i : Nat) (hi : i < 192) : (2 ^ 192 - (a % 2 ^ 192 + 1)).testBit i = !a.testBit i := by
  rw [Nat.testBit_two_pow_sub_succ (Nat.mod_lt _ (Nat.two_pow_pos 192)), Nat.testBit_mod_two_pow]
  simp [hi]
theorem turn_last (a : Nat) : (bcells ((2 ^ 192 - (a % 2 ^ 192 + 1)) + 1)).setIfInBounds 192 (.bool false) = bcells (turn a) := by
  have h0 := Nat.mod_lt a (Nat.two_pow_pos 192)
  have e : (2 ^ 192 - (a % 2 ^ 192 + 1)) + 1 = 2 ^ 192 - a % 2 ^ 192 := by omega
  rw [e]
  unfold turn
  have hle : 2 ^ 192 - a % 2 ^ 192 ≤ 2 ^ 192 := Nat.sub_le _ _
  generalize 2 ^ 192 - a % 2 ^ 192 = y at *
  refine bcells_set (by omega) (by rw [Nat.testBit_mod_two_pow]; simp) fun j hj hne => ?_
  rw [Nat.testBit_mod_two_pow]
  by_cases h : j < 192
  · simp [h]
  · have h2 : y < 2 ^ j := Nat.lt_of_le_of_lt hle (Nat.pow_lt_pow_right (by omega) (by omega))
    rw [Nat.testBit_lt_two_pow h2]; simp
theorem three_wd (a : Nat) : three a = #[.int .u64 ((wd a 0 : Nat) : Int), .int .u64 ((wd a 1 : Nat) : Int), .int .u64 ((wd a 2 : Nat) : Int)] := by
  unfold three wd
  simp only [Nat.pow_zero, Nat.pow_one, Nat.div_one, Nat.reducePow]
set_option maxHeartbeats 1000000 in
set_option maxRecDepth 100000 in
theorem r1turn_any (a : Nat) (w : World) :
    Calls Tryz.prog 59 #[.agg (bcells a)] w fun e w' => e = .returned (.agg (bcells (turn a))) ∧ Below w.heap.size w w' := by
  have hz := (zero_of_info info_bits).1
  have HL := Lib.hid (turn_last a)
  have HN : Hid (∀ i, i < 192 → (2 ^ 192 - (a % 2 ^ 192 + 1)).testBit i = !a.testBit i) := Lib.hid (fun i hi => not_bit a i hi)
  have HX : Hid ((2 ^ 192 - (a % 2 ^ 192 + 1)) % 2 ^ 192 = 2 ^ 192 - (a % 2 ^ 192 + 1)) := Lib.hid (Nat.mod_eq_of_lt (by have := Nat.mod_lt a (Nat.two_pow_pos 192); omega))
  obtain ⟨d, hd⟩ : ∃ d, d = 2 ^ 192 - (a % 2 ^ 192 + 1) := ⟨_, rfl⟩
  rw [← hd] at HL HN HX
  obtain ⟨t, ht⟩ : ∃ t, t = turn a := ⟨_, rfl⟩
  rw [← ht] at HL ⊢
  clear hd ht
  have R0 := Lib.hid (Rows3.new w 38 (bcells a) 38 (bcells 0) 38 (bcells 0))
  go_enter Tryz.func59, Tryz.ntmps59
  go_wp2_with fail
  generalize (((w.alloc (.cells (bcells a) 38)).alloc (.cells (bcells 0) 38)).alloc (.cells (bcells 0) 38)) = w1 at *
  go_loopw [4] (fun I wr => ∃ i : Nat, I = .int .i64 i ∧ i ≤ 192 ∧ Hid (Rows3 w wr 38 (bcells a) 38 (bcells 0) 38 (bcells (d % 2 ^ i)))) (fun I _ => 192 - (intOf I).toNat)
  case atStart => exact ⟨0, rfl, by omega, Lib.hid (by rw [Nat.pow_zero, Nat.mod_one]; exact R0.out)⟩
  case round =>
    clear R0
    obtain ⟨i, rfl, hi, R⟩ := hrel
    by_cases hlt : i < 192
    · have f0 : (0 : Int) ≤ (i : Int) := by omega
      have f1 : (i : Int) < 256 := by omega
      have c0 := R.out.1.cell (bcells_get a i (by omega))
      have e0 := R.out.2.2.1.cell (bcells_get _ i (by omega))
      have e1 := R.out.2.2.1.frozen i
      have hb := HN.out i hlt
      have R' := R.out.set i (.bool (d.testBit i)) (d := bcells (d % 2 ^ (i + 1))) (bcells_next (by omega))
      rw [hb] at R'
      obtain ⟨x, hx⟩ : ∃ x, x = a.testBit i := ⟨_, rfl⟩
      rw [← hx] at c0 R'
      have HR' := Lib.hid R'
      clear hb hx R'
      go_wp2
      go_roundw
      case rel => exact ⟨i + 1, by go_num, by omega, HR'⟩
      case measure => simp [intOf]; omega
    · obtain rfl : i = 192 := by omega
      have R1 := R.out
      rw [HX.out] at R1
      have HR1 := Lib.hid R1
      have hs0 : wr.heap.size ≠ w.heap.size + 1 + 1 := by have := R1.2.2.1.lt; omega
      have hs1 : w.heap.size + 1 + 1 ≠ wr.heap.size := by omega
      have hn := RowAt.new wr 38 (bcells 0)
      have k0 := hn.cell (bcells_get 0 0 (by omega))
      have k1 := hn.frozen 0
      have hone : (bcells 0).setIfInBounds 0 (.bool true) = bcells 1 := bcells_set (by omega) (by decide) fun j hj hne => by
        rw [Nat.zero_testBit]
        exact Nat.testBit_lt_two_pow (Nat.one_lt_two_pow hne)
      have hn1 := RowAt.new wr 38 ((bcells 0).setIfInBounds 0 (.bool true))
      have hn2 : RowAt (wr.alloc (.cells ((bcells 0).setIfInBounds 0 (.bool true)) 38)) wr.heap.size 38 (bcells 1) := by rw [← hone]; exact hn1
      have hR2 : RowAt (wr.alloc (.cells ((bcells 0).setIfInBounds 0 (.bool true)) 38)) (w.heap.size + 1 + 1) 38 (bcells d) := R1.2.2.1.alloc _
      have hR1 : RowAt (wr.alloc (.cells ((bcells 0).setIfInBounds 0 (.bool true)) 38)) (w.heap.size + 1) 38 (bcells 0) := R1.2.1.alloc _
      have hBb : Below w.heap.size w (wr.alloc (.cells ((bcells 0).setIfInBounds 0 (.bool true)) 38)) := R1.2.2.2.alloc (by have := R1.1.lt; omega) _
      have HR2 := Lib.hid hR2
      have HR1' := Lib.hid hR1
      have HBb := Lib.hid hBb
      have HN1 := Lib.hid hn2
      clear R1 R hone hR1 hR2 hBb hn1 hn2
      have HSm : Hid (∀ W, Calls Tryz.prog 20 #[.agg (bcells d), .agg (bcells 1)] W fun e w' => e = .returned (.agg (bcells (d + 1))) ∧ Below W.heap.size W w') := Lib.hid (fun W => r1sum_any d 1 W)
      have HF : Hid (∀ w8, Below (wr.alloc (.cells ((bcells 0).setIfInBounds 0 (.bool true)) 38)).heap.size (wr.alloc (.cells ((bcells 0).setIfInBounds 0 (.bool true)) 38)) w8 → RowAt w8 (w.heap.size + 1 + 1) 38 (bcells d) ∧ RowAt ((w8.setRow (w.heap.size + 1 + 1) (bcells (d + 1))).setCell ⟨w.heap.size + 1 + 1, 192, none⟩ (.bool false)) (w.heap.size + 1 + 1) 38 (bcells t) ∧
          RowAt ((w8.setRow (w.heap.size + 1 + 1) (bcells (d + 1))).setCell ⟨w.heap.size + 1 + 1, 192, none⟩ (.bool false)) (w.heap.size + 1) 38 (bcells 0) ∧ Below w.heap.size w ((w8.setRow (w.heap.size + 1 + 1) (bcells (d + 1))).setCell ⟨w.heap.size + 1 + 1, 192, none⟩ (.bool false)) ∧
          (w8.setRow (w.heap.size + 1 + 1) (bcells (d + 1))).cell? ⟨w.heap.size + 1 + 1, 192, none⟩ = some (.bool ((d + 1).testBit 192)) ∧ (w8.setRow (w.heap.size + 1 + 1) (bcells (d + 1))).frozen? ⟨w.heap.size + 1 + 1, 192, none⟩ = false) := Lib.hid (fun w8 hB8 => by
        have a1 := HR2.out.keep hB8
        have a2 := (HR1'.out.keep hB8).setRowOther (w.heap.size + 1 + 1) (bcells (d + 1)) (by omega)
        have a3 := below_setRow (HBb.out.trans (hB8.mono HBb.out.size)) (show w.heap.size ≤ w.heap.size + 1 + 1 by omega) (bcells (d + 1))
        have a4 := (a1.setRow (bcells (d + 1)))
        have a5 := a4.set 192 (.bool false)
        rw [HL.out] at a5
        exact ⟨a1, a5, a2.setOther _ _ (by show w.heap.size + 1 ≠ w.heap.size + 1 + 1; omega), below_setCell a3 (by omega) 192 _, a4.cell (bcells_get _ 192 (by omega)), a4.frozen 192⟩)
      go_wp2_with (first | (refine wpList_load_row rfl _ _ rfl _ rfl _ _ _ _ (HR2.out) Tryz.underlying38 rfl size_bits ?_) | (refine wpList_load_row rfl _ _ rfl _ rfl _ _ _ _ (HN1.out) Tryz.underlying38 rfl size_bits ?_) | (go_at_call 20; refine (HSm.out _).mono ?_; rintro r w8 ⟨rfl, hB8⟩; obtain ⟨a1, a5, a2, a3, a6, a7⟩ := HF.out w8 hB8; have A1 := Lib.hid a1; have A5 := Lib.hid a5; have A2 := Lib.hid a2; have A3 := Lib.hid a3; clear a1 a5 a2 a3 hB8) | (refine wpList_store_row rfl _ _ _ rfl _ _ rfl rfl _ _ (A1.out) size_bits rfl (bcells_one _) ?_) | (refine wpList_load_row rfl _ _ rfl _ rfl _ _ _ _ (A5.out) Tryz.underlying38 rfl size_bits ?_) | (refine wpList_store_row rfl _ _ _ rfl _ _ rfl rfl _ _ (A2.out) size_bits rfl (bcells_one _) ?_))
      refine bodyPost_ret (results_cell_row rfl _ _ _ _ _ _ _ rfl (A2.out.setRow _) Tryz.underlying38 rfl size_bits) (by rfl) ?_
      exact ⟨rfl, below_setRow A3.out (by omega) _⟩
set_option maxHeartbeats 1000000 in
set_option maxRecDepth 100000 in
theorem r1whole_any (a : Nat) (w : World) :
    Calls Tryz.prog 28 #[.agg (bcells a)] w fun e w' => e = .returned (.agg (three a)) ∧ Below w.heap.size w w' := by
  have hz := (zero_of_info info_words).1
  have HQ : Hid (three a = #[.int .u64 ((wd a 0 : Nat) : Int), .int .u64 ((wd a 1 : Nat) : Int), .int .u64 ((wd a 2 : Nat) : Int)]) := Lib.hid (three_wd a)
  have HW0 : Hid (∀ W, Calls Tryz.prog 66 #[.agg (bcells a), .int .i64 0] W fun e w' => e = .returned (.int .u64 ((wd a 0 : Nat) : Int)) ∧ Below W.heap.size W w') := Lib.hid (fun W => by
    have h := r1word_any a 0 (by omega) W
    rw [wd_pow]; exact h)
  have HW1 : Hid (∀ W, Calls Tryz.prog 66 #[.agg (bcells a), .int .i64 64] W fun e w' => e = .returned (.int .u64 ((wd a 1 : Nat) : Int)) ∧ Below W.heap.size W w') := Lib.hid (fun W => by
    have h := r1word_any a 64 (by omega) W
    rw [wd_pow]; exact h)
  have HW2 : Hid (∀ W, Calls Tryz.prog 66 #[.agg (bcells a), .int .i64 128] W fun e w' => e = .returned (.int .u64 ((wd a 2 : Nat) : Int)) ∧ Below W.heap.size W w') := Lib.hid (fun W => by
    have h := r1word_any a 128 (by omega) W
    rw [wd_pow]; exact h)
  obtain ⟨u0, hu0⟩ : ∃ u, u = wd a 0 := ⟨_, rfl⟩
  obtain ⟨u1, hu1⟩ : ∃ u, u = wd a 1 := ⟨_, rfl⟩
  obtain ⟨u2, hu2⟩ : ∃ u, u = wd a 2 := ⟨_, rfl⟩
  rw [← hu0] at HW0 HQ
  rw [← hu1] at HW1 HQ
  rw [← hu2] at HW2 HQ
  clear hu0 hu1 hu2
  have R0 := Rows2.new w 38 (bcells a) 28 (three 0)
  have HKp : Hid (∀ W W', Rows2 w W 38 (bcells a) 28 (three 0) → Below W.heap.size W W' → Rows2 w W' 38 (bcells a) 28 (three 0)) := Lib.hid (fun W W' h hB => ⟨h.1.keep hB, h.2.1.keep hB, h.2.2.trans (hB.mono h.2.2.size)⟩)
  have HRet : Hid (∀ wz, Rows2 w wz 38 (bcells a) 28 (three 0) → Rows2 w (wz.setRow (w.heap.size + 1) (three a)) 38 (bcells a) 28 (three a)) := Lib.hid (fun wz h => ⟨h.1.setRowOther _ _ (by omega), h.2.1.setRow _, below_setRow h.2.2 (by omega) _⟩)
  have HR : Hid (Rows2 w (((w.alloc (.cells (bcells a) 38)).alloc (.cells (three 0) 28)).drewN 1) 38 (bcells a) 28 (three 0)) := Lib.hid ⟨R0.1, R0.2.1, below_drewN R0.2.2 1⟩
  clear R0
  go_enter Tryz.func28, Tryz.ntmps28
  go_wp2_with fail
  generalize ((w.alloc (.cells (bcells a) 38)).alloc (.cells (three 0) 28)) = w1 at *
  refine wp_region_held_drew (S := fun wz => RowAt wz w.heap.size 38 (bcells a)) (by kernel_rfl) (HR.out.1) (fun hHeld => ?_)
  refine wpAnyH_take (i := 0) rfl (by kernel_rfl) (by kernel_rfl) (by kernel_rfl) (fun _ _ _ h => h) (yieldsIf_load_row (by rfl) _ _ rfl _ rfl _ _ _ (fun wz h => h) Tryz.underlying38 rfl size_bits) (by assumption) ?_
  try simp only [Act.put, List.getElem_toArray, List.getElem_cons_zero, List.getElem_cons_succ, List.setIfInBounds_toArray, List.set_cons_zero, List.set_cons_succ]
  refine wpAnyH_take (i := 2) rfl (by kernel_rfl) (by kernel_rfl) (by kernel_rfl) (fun _ _ _ h => h) (yieldsIf_load_row (by rfl) _ _ rfl _ rfl _ _ _ (fun wz h => h) Tryz.underlying38 rfl size_bits) (by assumption) ?_
  try simp only [Act.put, List.getElem_toArray, List.getElem_cons_zero, List.getElem_cons_succ, List.setIfInBounds_toArray, List.set_cons_zero, List.set_cons_succ]
  refine wpAnyH_take (i := 4) rfl (by kernel_rfl) (by kernel_rfl) (by kernel_rfl) (fun _ _ _ h => h) (yieldsIf_load_row (by rfl) _ _ rfl _ rfl _ _ _ (fun wz h => h) Tryz.underlying38 rfl size_bits) (by assumption) ?_
  try simp only [Act.put, List.getElem_toArray, List.getElem_cons_zero, List.getElem_cons_succ, List.setIfInBounds_toArray, List.set_cons_zero, List.set_cons_succ]
  refine wpAnyH_ready (rs := [1]) (by kernel_rfl) (by simp) ?_
  refine AllReadyH.cons rfl (fun K hK => ?_) AllReadyH.nil
  try simp only [List.getElem_toArray, List.getElem_cons_zero, List.getElem_cons_succ]
  rw [if_pos (by rfl)]
  go_wp2_with (go_at_call 66; refine (HW0.out _).mono ?_; rintro r w7 ⟨rfl, hB7⟩)
  have z7 := Lib.hid (HKp.out _ _ HR.out hB7)
  clear hB7
  refine hK.out _ _ (z7.out.1) (fun _ => ?_)
  clear hK K
  try simp only [Act.put, List.getElem_toArray, List.getElem_cons_zero, List.getElem_cons_succ, List.setIfInBounds_toArray, List.set_cons_zero, List.set_cons_succ]
  refine wpAnyH_ready (rs := [3]) (by kernel_rfl) (by simp) ?_
  refine AllReadyH.cons rfl (fun K hK => ?_) AllReadyH.nil
  try simp only [List.getElem_toArray, List.getElem_cons_zero, List.getElem_cons_succ]
  rw [if_pos (by rfl)]
  go_wp2_with (go_at_call 66; refine (HW1.out _).mono ?_; rintro r w8 ⟨rfl, hB8⟩)
  have z8 := Lib.hid (HKp.out _ _ z7.out hB8)
  clear hB8
  refine hK.out _ _ (z8.out.1) (fun _ => ?_)
  clear hK K
  try simp only [Act.put, List.getElem_toArray, List.getElem_cons_zero, List.getElem_cons_succ, List.setIfInBounds_toArray, List.set_cons_zero, List.set_cons_succ]
  refine wpAnyH_ready (rs := [5]) (by kernel_rfl) (by simp) ?_
  refine AllReadyH.cons rfl (fun K hK => ?_) AllReadyH.nil
  try simp only [List.getElem_toArray, List.getElem_cons_zero, List.getElem_cons_succ]
  rw [if_pos (by rfl)]
  go_wp2_with (go_at_call 66; refine (HW2.out _).mono ?_; rintro r w9 ⟨rfl, hB9⟩)
  have z9 := Lib.hid (HKp.out _ _ z8.out hB9)
  clear hB9
  refine hK.out _ _ (z9.out.1) (fun _ => ?_)
  clear hK K
  try simp only [Act.put, List.getElem_toArray, List.getElem_cons_zero, List.getElem_cons_succ, List.setIfInBounds_toArray, List.set_cons_zero, List.set_cons_succ]
  refine wpAnyH_ready (rs := [6]) (by kernel_rfl) (by simp) ?_
  refine AllReadyH.cons rfl (fun K hK => ?_) AllReadyH.nil
  try simp only [List.getElem_toArray, List.getElem_cons_zero, List.getElem_cons_succ]
  rw [if_pos (by rfl)]
  go_wp2_with fail
  refine hK.out _ _ (z9.out.1) (fun _ => ?_)
  clear hK K
  try simp only [Act.put, List.getElem_toArray, List.getElem_cons_zero, List.getElem_cons_succ, List.setIfInBounds_toArray, List.set_cons_zero, List.set_cons_succ]
  refine wpAnyH_ready (rs := [7]) (by kernel_rfl) (by simp) ?_
  refine AllReadyH.cons rfl (fun K hK => ?_) AllReadyH.nil
  try simp only [List.getElem_toArray, List.getElem_cons_zero, List.getElem_cons_succ]
  rw [if_pos (by rfl)]
  refine wp_store_row _ _ _ rfl _ (three a) rfl (by rw [HQ.out]; rfl) _ _ (z9.out.2.1) size_words rfl (three_one _) ?_
  refine hK.out _ _ ((HRet.out _ z9.out).1) (fun _ => ?_)
  clear hK K
  try simp only [Act.put, List.getElem_toArray, List.getElem_cons_zero, List.getElem_cons_succ, List.setIfInBounds_toArray, List.set_cons_zero, List.set_cons_succ]
  refine wpAnyH_done (by kernel_rfl) ?_ _
  have HZ := Lib.hid (HRet.out _ z9.out)
  go_wp2
  refine bodyPost_ret (results_cell_row rfl _ _ _ _ _ _ _ rfl (HZ.out.2.1) Tryz.underlying28 rfl size_words) (by rfl) ?_
  exact ⟨rfl, HZ.out.2.2⟩
set_option maxHeartbeats 1000000 in
set_option maxRecDepth 100000 in
theorem r23prod_any (p q r : Nat) (hp : p < 18446744073709551616) (hq : q < 18446744073709551616) (hr : r < 18446744073709551616) (w : World) :
    Calls Tryz.prog 61 #[.int .u64 (p : Nat), .int .u64 (q : Nat), .int .u64 (r : Nat)] w fun e w' => e = .returned (.agg (bcells (p * q * r))) ∧ Below w.heap.size w w' := by
  have hz := (zero_of_info info_bits).1
  have hone : (bcells 0).setIfInBounds 0 (.bool true) = bcells 1 := bcells_set (by omega) (by decide) fun j hj hne => by
    rw [Nat.zero_testBit]
    exact Nat.testBit_lt_two_pow (Nat.one_lt_two_pow hne)
  have R0 := Rows2.new w 38 (bcells 0) 38 ((bcells 0).setIfInBounds 0 (.bool true))
  have k0 := (RowAt.new (w.alloc (.cells (bcells 0) 38)) 38 (bcells 0)).cell (bcells_get 0 0 (by omega))
  have k1 := (RowAt.new (w.alloc (.cells (bcells 0) 38)) 38 (bcells 0)).frozen 0
  have r1 : RowAt ((w.alloc (.cells (bcells 0) 38)).alloc (.cells ((bcells 0).setIfInBounds 0 (.bool true)) 38)) (w.heap.size + 1) 38 (bcells 1) := by rw [← hone]; exact R0.2.1
  have HR1 := Lib.hid r1
  have HR0 := Lib.hid R0
  have H1 : Hid (∀ W, Calls Tryz.prog 88 #[.agg (bcells 1), .int .u64 (p : Nat)] W fun e w' => e = .returned (.agg (bcells p)) ∧ Below W.heap.size W w') := Lib.hid (fun W => by have h := r1prod_any 1 p hp W; rw [Nat.one_mul] at h; exact h)
  have H2 : Hid (∀ W, Calls Tryz.prog 88 #[.agg (bcells p), .int .u64 (q : Nat)] W fun e w' => e = .returned (.agg (bcells (p * q))) ∧ Below W.heap.size W w') := Lib.hid (fun W => r1prod_any p q hq W)
  obtain ⟨d, hd⟩ : ∃ d, d = p * q := ⟨_, rfl⟩
  have H3 : Hid (∀ W, Calls Tryz.prog 88 #[.agg (bcells d), .int .u64 (r : Nat)] W fun e w' => e = .returned (.agg (bcells (d * r))) ∧ Below W.heap.size W w') := Lib.hid (fun W => r1prod_any d r hr W)
  rw [← hd] at H2 ⊢
  clear hd hone R0 r1
  go_enter Tryz.func61, Tryz.ntmps61
  go_wp2_with (refine wpList_load_row rfl _ _ rfl _ rfl _ _ _ _ (HR1.out) Tryz.underlying38 rfl size_bits ?_)
  refine (H1.out _).mono ?_
  rintro e w7 ⟨rfl, hB7⟩
  have z7 := Lib.hid (And.intro (HR0.out.1.keep hB7) (HR0.out.2.2.trans (hB7.mono HR0.out.2.2.size)))
  clear hB7 k0 k1
  go_wp2_with fail
  refine (H2.out _).mono ?_
  rintro e w8 ⟨rfl, hB8⟩
  have z8 := Lib.hid (And.intro (z7.out.1.keep hB8) (z7.out.2.trans (hB8.mono z7.out.2.size)))
  clear hB8
  go_wp2_with fail
  refine (H3.out _).mono ?_
  rintro e w9 ⟨rfl, hB9⟩
  have z9 := Lib.hid (And.intro (z8.out.1.keep hB9) (z8.out.2.trans (hB9.mono z8.out.2.size)))
  clear hB9
  go_wp2_with (refine wpList_store_row rfl _ _ _ rfl _ _ rfl rfl _ _ (z9.out.1) size_bits rfl (bcells_one _) ?_)
  refine bodyPost_ret (results_cell_row rfl _ _ _ _ _ _ _ rfl (z9.out.1.setRow _) Tryz.underlying38 rfl size_bits) (by rfl) ?_
  exact ⟨rfl, below_setRow z9.out.2 (Nat.le_refl _) _⟩
set_option maxHeartbeats 2000000 in
set_option maxRecDepth 100000 in
theorem r23centre_any (x P : Nat) (hx : x < 2 ^ 255) (hP : P < 2 ^ 256) (w : World) :
    Calls Tryz.prog 16 #[.agg (bcells x), .agg (bcells P)] w fun e w' => e = .returned (.agg (three (if P < x + x then x + turn P else x))) ∧ Below w.heap.size w w' := by
  have hz := (zero_of_info info_words).1
  obtain ⟨y, hy⟩ : ∃ y, y = x + x := ⟨_, rfl⟩
  have HS : Hid (∀ W, Calls Tryz.prog 20 #[.agg (bcells x), .agg (bcells x)] W fun e w' => e = .returned (.agg (bcells y)) ∧ Below W.heap.size W w') := Lib.hid (fun W => by rw [hy]; exact r1sum_any x x W)
  have HL : Hid (∀ W, Calls Tryz.prog 19 #[.agg (bcells P), .agg (bcells y)] W fun e w' => e = .returned (.bool (decide (P < y))) ∧ Below W.heap.size W w') := Lib.hid (fun W => r1less_any P y hP (by rw [hy]; omega) W)
  rw [← hy]
  clear hy hx hP
  have R0 := Rows3.new w 38 (bcells x) 38 (bcells P) 28 (three 0)
  have HR : Hid (Rows3 w ((((w.alloc (.cells (bcells x) 38)).alloc (.cells (bcells P) 38)).alloc (.cells (three 0) 28)).drewN 1) 38 (bcells x) 38 (bcells P) 28 (three 0)) := Lib.hid (Rows3.drewN R0 1)
  have HKp : Hid (∀ W W', Rows3 w W 38 (bcells x) 38 (bcells P) 28 (three 0) → Below W.heap.size W W' → Rows3 w W' 38 (bcells x) 38 (bcells P) 28 (three 0)) := Lib.hid (fun W W' h hB => ⟨h.1.keep hB, h.2.1.keep hB, h.2.2.1.keep hB, h.2.2.2.trans (hB.mono h.2.2.2.size)⟩)
  clear R0
  by_cases hlt : P < y
  · rw [if_pos hlt]
    rw [decide_eq_true hlt] at HL
    obtain ⟨t, ht⟩ : ∃ t, t = turn P := ⟨_, rfl⟩
    have HT : Hid (∀ W, Calls Tryz.prog 59 #[.agg (bcells P)] W fun e w' => e = .returned (.agg (bcells t)) ∧ Below W.heap.size W w') := Lib.hid (fun W => by rw [ht]; exact r1turn_any P W)
    rw [← ht]
    obtain ⟨s, hs⟩ : ∃ s, s = x + t := ⟨_, rfl⟩
    have HS2 : Hid (∀ W, Calls Tryz.prog 20 #[.agg (bcells x), .agg (bcells t)] W fun e w' => e = .returned (.agg (bcells s)) ∧ Below W.heap.size W w') := Lib.hid (fun W => by rw [hs]; exact r1sum_any x t W)
    have HWh : Hid (∀ W, Calls Tryz.prog 28 #[.agg (bcells s)] W fun e w' => e = .returned (.agg (three s)) ∧ Below W.heap.size W w') := Lib.hid (fun W => r1whole_any s W)
    rw [← hs]
    clear hs ht hlt
    go_enter Tryz.func16, Tryz.ntmps16
    go_wp2_with fail
    generalize (((w.alloc (.cells (bcells x) 38)).alloc (.cells (bcells P) 38)).alloc (.cells (three 0) 28)) = w1 at *
    refine wp_region_held_drew (S := fun wz => Rows3 w wz 38 (bcells x) 38 (bcells P) 28 (three 0)) (by kernel_rfl) (HR.out) (fun hHeld => ?_)
    refine wpAnyH_take (i := 0) rfl (by kernel_rfl) (by kernel_rfl) (by kernel_rfl) (fun _ _ _ h => h) (yieldsIf_load_row (by rfl) _ _ rfl _ rfl _ _ _ (fun wz h => h.2.1) Tryz.underlying38 rfl size_bits) (by assumption) ?_
    try simp only [Act.put, List.getElem_toArray, List.getElem_cons_zero, List.getElem_cons_succ, List.setIfInBounds_toArray, List.set_cons_zero, List.set_cons_succ]
    refine wpAnyH_take (i := 1) rfl (by kernel_rfl) (by kernel_rfl) (by kernel_rfl) (fun _ _ _ h => h) (yieldsIf_load_row (by rfl) _ _ rfl _ rfl _ _ _ (fun wz h => h.1) Tryz.underlying38 rfl size_bits) (by assumption) ?_
    try simp only [Act.put, List.getElem_toArray, List.getElem_cons_zero, List.getElem_cons_succ, List.setIfInBounds_toArray, List.set_cons_zero, List.set_cons_succ]
    refine wpAnyH_take (i := 2) rfl (by kernel_rfl) (by kernel_rfl) (by kernel_rfl) (fun _ _ _ h => h) (yieldsIf_load_row (by rfl) _ _ rfl _ rfl _ _ _ (fun wz h => h.1) Tryz.underlying38 rfl size_bits) (by assumption) ?_
    try simp only [Act.put, List.getElem_toArray, List.getElem_cons_zero, List.getElem_cons_succ, List.setIfInBounds_toArray, List.set_cons_zero, List.set_cons_succ]
    refine wpAnyH_ready (rs := [3]) (by kernel_rfl) (by simp) ?_
    refine AllReadyH.cons rfl (fun K hK => ?_) AllReadyH.nil
    try simp only [List.getElem_toArray, List.getElem_cons_zero, List.getElem_cons_succ]
    rw [if_pos (by rfl)]
    go_wp2_with (go_at_call 20; refine (HS.out _).mono ?_; rintro e w7 ⟨rfl, hB7⟩)
    have z7 := Lib.hid (HKp.out _ _ HR.out hB7)
    clear hB7
    refine hK.out _ _ (z7.out) (fun _ => ?_)
    clear hK K
    try simp only [Act.put, List.getElem_toArray, List.getElem_cons_zero, List.getElem_cons_succ, List.setIfInBounds_toArray, List.set_cons_zero, List.set_cons_succ]
    refine wpAnyH_ready (rs := [4]) (by kernel_rfl) (by simp) ?_
    refine AllReadyH.cons rfl (fun K hK => ?_) AllReadyH.nil
    try simp only [List.getElem_toArray, List.getElem_cons_zero, List.getElem_cons_succ]
    rw [if_pos (by rfl)]
    go_wp2_with (go_at_call 19; refine (HL.out _).mono ?_; rintro e w8 ⟨rfl, hB8⟩)
    have z8 := Lib.hid (HKp.out _ _ z7.out hB8)
    clear hB8
    refine hK.out _ _ (z8.out) (fun _ => ?_)
    clear hK K
    try simp only [Act.put, List.getElem_toArray, List.getElem_cons_zero, List.getElem_cons_succ, List.setIfInBounds_toArray, List.set_cons_zero, List.set_cons_succ]
    refine wpAnyH_ready (rs := [5]) (by kernel_rfl) (by simp) ?_
    refine AllReadyH.cons rfl (fun K hK => ?_) AllReadyH.nil
    try simp only [List.getElem_toArray, List.getElem_cons_zero, List.getElem_cons_succ]
    rw [if_pos (by rfl)]
    go_wp2_with fail
    refine hK.out _ _ (z8.out) (fun _ => ?_)
    clear hK K
    try simp only [Act.put, List.getElem_toArray, List.getElem_cons_zero, List.getElem_cons_succ, List.setIfInBounds_toArray, List.set_cons_zero, List.set_cons_succ]
    refine wpAnyH_done (by kernel_rfl) ?_ _
    go_wp2_with fail
    refine wp_region_held_drew (S := fun wz => RowAt wz w.heap.size 38 (bcells x) ∧ RowAt wz (w.heap.size + 1) 38 (bcells P)) (by kernel_rfl) (⟨z8.out.1, z8.out.2.1⟩) (fun hHeld => ?_)
    refine wpAnyH_take (i := 0) rfl (by kernel_rfl) (by kernel_rfl) (by kernel_rfl) (fun _ _ _ h => h) (yieldsIf_load_row (by rfl) _ _ rfl _ rfl _ _ _ (fun wz h => h.1) Tryz.underlying38 rfl size_bits) (by assumption) ?_
    try simp only [Act.put, List.getElem_toArray, List.getElem_cons_zero, List.getElem_cons_succ, List.setIfInBounds_toArray, List.set_cons_zero, List.set_cons_succ]
    refine wpAnyH_take (i := 1) rfl (by kernel_rfl) (by kernel_rfl) (by kernel_rfl) (fun _ _ _ h => h) (yieldsIf_load_row (by rfl) _ _ rfl _ rfl _ _ _ (fun wz h => h.2) Tryz.underlying38 rfl size_bits) (by assumption) ?_
    try simp only [Act.put, List.getElem_toArray, List.getElem_cons_zero, List.getElem_cons_succ, List.setIfInBounds_toArray, List.set_cons_zero, List.set_cons_succ]
    refine wpAnyH_ready (rs := [2]) (by kernel_rfl) (by simp) ?_
    refine AllReadyH.cons rfl (fun K hK => ?_) AllReadyH.nil
    try simp only [List.getElem_toArray, List.getElem_cons_zero, List.getElem_cons_succ]
    rw [if_pos (by rfl)]
    go_wp2_with (go_at_call 59; refine (HT.out _).mono ?_; rintro e w9 ⟨rfl, hB9⟩)
    have z9 := Lib.hid (HKp.out _ _ (Lib.hid (Rows3.drewN z8.out 1)).out hB9)
    clear hB9
    refine hK.out _ _ (⟨z9.out.1, z9.out.2.1⟩) (fun _ => ?_)
    clear hK K
    try simp only [Act.put, List.getElem_toArray, List.getElem_cons_zero, List.getElem_cons_succ, List.setIfInBounds_toArray, List.set_cons_zero, List.set_cons_succ]
    refine wpAnyH_ready (rs := [3]) (by kernel_rfl) (by simp) ?_
    refine AllReadyH.cons rfl (fun K hK => ?_) AllReadyH.nil
    try simp only [List.getElem_toArray, List.getElem_cons_zero, List.getElem_cons_succ]
    rw [if_pos (by rfl)]
    go_wp2_with (go_at_call 20; refine (HS2.out _).mono ?_; rintro e w10 ⟨rfl, hB10⟩)
    have z10 := Lib.hid (HKp.out _ _ z9.out hB10)
    clear hB10
    refine hK.out _ _ (⟨z10.out.1, z10.out.2.1⟩) (fun _ => ?_)
    clear hK K
    try simp only [Act.put, List.getElem_toArray, List.getElem_cons_zero, List.getElem_cons_succ, List.setIfInBounds_toArray, List.set_cons_zero, List.set_cons_succ]
    refine wpAnyH_ready (rs := [4]) (by kernel_rfl) (by simp) ?_
    refine AllReadyH.cons rfl (fun K hK => ?_) AllReadyH.nil
    try simp only [List.getElem_toArray, List.getElem_cons_zero, List.getElem_cons_succ]
    rw [if_pos (by rfl)]
    go_wp2_with (go_at_call 28; refine (HWh.out _).mono ?_; rintro e w11 ⟨rfl, hB11⟩)
    have z11 := Lib.hid (HKp.out _ _ z10.out hB11)
    clear hB11
    refine hK.out _ _ (⟨z11.out.1, z11.out.2.1⟩) (fun _ => ?_)
    clear hK K
    try simp only [Act.put, List.getElem_toArray, List.getElem_cons_zero, List.getElem_cons_succ, List.setIfInBounds_toArray, List.set_cons_zero, List.set_cons_succ]
    refine wpAnyH_ready (rs := [5]) (by kernel_rfl) (by simp) ?_
    refine AllReadyH.cons rfl (fun K hK => ?_) AllReadyH.nil
    try simp only [List.getElem_toArray, List.getElem_cons_zero, List.getElem_cons_succ]
    rw [if_pos (by rfl)]
    refine wp_store_row _ _ _ rfl _ _ rfl rfl _ _ (z11.out.2.2.1) size_words rfl (three_one _) ?_
    refine hK.out _ _ (⟨z11.out.1.setRowOther _ _ (by omega), z11.out.2.1.setRowOther _ _ (by omega)⟩) (fun _ => ?_)
    clear hK K
    try simp only [Act.put, List.getElem_toArray, List.getElem_cons_zero, List.getElem_cons_succ, List.setIfInBounds_toArray, List.set_cons_zero, List.set_cons_succ]
    refine wpAnyH_done (by kernel_rfl) ?_ _
    go_wp2
    refine bodyPost_ret (results_cell_row rfl _ _ _ _ _ _ _ rfl (z11.out.2.2.1.setRow _) Tryz.underlying28 rfl size_words) (by rfl) ?_
    exact ⟨rfl, below_setRow z11.out.2.2.2 (by omega) _⟩
  · rw [if_neg hlt]
    rw [decide_eq_false hlt] at HL
    have HWh : Hid (∀ W, Calls Tryz.prog 28 #[.agg (bcells x)] W fun e w' => e = .returned (.agg (three x)) ∧ Below W.heap.size W w') := Lib.hid (fun W => r1whole_any x W)
    clear hlt
    go_enter Tryz.func16, Tryz.ntmps16
    go_wp2_with fail
    generalize (((w.alloc (.cells (bcells x) 38)).alloc (.cells (bcells P) 38)).alloc (.cells (three 0) 28)) = w1 at *
    refine wp_region_held_drew (S := fun wz => Rows3 w wz 38 (bcells x) 38 (bcells P) 28 (three 0)) (by kernel_rfl) (HR.out) (fun hHeld => ?_)
    refine wpAnyH_take (i := 0) rfl (by kernel_rfl) (by kernel_rfl) (by kernel_rfl) (fun _ _ _ h => h) (yieldsIf_load_row (by rfl) _ _ rfl _ rfl _ _ _ (fun wz h => h.2.1) Tryz.underlying38 rfl size_bits) (by assumption) ?_
    try simp only [Act.put, List.getElem_toArray, List.getElem_cons_zero, List.getElem_cons_succ, List.setIfInBounds_toArray, List.set_cons_zero, List.set_cons_succ]
    refine wpAnyH_take (i := 1) rfl (by kernel_rfl) (by kernel_rfl) (by kernel_rfl) (fun _ _ _ h => h) (yieldsIf_load_row (by rfl) _ _ rfl _ rfl _ _ _ (fun wz h => h.1) Tryz.underlying38 rfl size_bits) (by assumption) ?_
    try simp only [Act.put, List.getElem_toArray, List.getElem_cons_zero, List.getElem_cons_succ, List.setIfInBounds_toArray, List.set_cons_zero, List.set_cons_succ]
    refine wpAnyH_take (i := 2) rfl (by kernel_rfl) (by kernel_rfl) (by kernel_rfl) (fun _ _ _ h => h) (yieldsIf_load_row (by rfl) _ _ rfl _ rfl _ _ _ (fun wz h => h.1) Tryz.underlying38 rfl size_bits) (by assumption) ?_
    try simp only [Act.put, List.getElem_toArray, List.getElem_cons_zero, List.getElem_cons_succ, List.setIfInBounds_toArray, List.set_cons_zero, List.set_cons_succ]
    refine wpAnyH_ready (rs := [3]) (by kernel_rfl) (by simp) ?_
    refine AllReadyH.cons rfl (fun K hK => ?_) AllReadyH.nil
    try simp only [List.getElem_toArray, List.getElem_cons_zero, List.getElem_cons_succ]
    rw [if_pos (by rfl)]
    go_wp2_with (go_at_call 20; refine (HS.out _).mono ?_; rintro e w7 ⟨rfl, hB7⟩)
    have z7 := Lib.hid (HKp.out _ _ HR.out hB7)
    clear hB7
    refine hK.out _ _ (z7.out) (fun _ => ?_)
    clear hK K
    try simp only [Act.put, List.getElem_toArray, List.getElem_cons_zero, List.getElem_cons_succ, List.setIfInBounds_toArray, List.set_cons_zero, List.set_cons_succ]
    refine wpAnyH_ready (rs := [4]) (by kernel_rfl) (by simp) ?_
    refine AllReadyH.cons rfl (fun K hK => ?_) AllReadyH.nil
    try simp only [List.getElem_toArray, List.getElem_cons_zero, List.getElem_cons_succ]
    rw [if_pos (by rfl)]
    go_wp2_with (go_at_call 19; refine (HL.out _).mono ?_; rintro e w8 ⟨rfl, hB8⟩)
    have z8 := Lib.hid (HKp.out _ _ z7.out hB8)
    clear hB8
    refine hK.out _ _ (z8.out) (fun _ => ?_)
    clear hK K
    try simp only [Act.put, List.getElem_toArray, List.getElem_cons_zero, List.getElem_cons_succ, List.setIfInBounds_toArray, List.set_cons_zero, List.set_cons_succ]
    refine wpAnyH_ready (rs := [5]) (by kernel_rfl) (by simp) ?_
    refine AllReadyH.cons rfl (fun K hK => ?_) AllReadyH.nil
    try simp only [List.getElem_toArray, List.getElem_cons_zero, List.getElem_cons_succ]
    rw [if_pos (by rfl)]
    go_wp2_with fail
    refine hK.out _ _ (z8.out) (fun _ => ?_)
    clear hK K
    try simp only [Act.put, List.getElem_toArray, List.getElem_cons_zero, List.getElem_cons_succ, List.setIfInBounds_toArray, List.set_cons_zero, List.set_cons_succ]
    refine wpAnyH_done (by kernel_rfl) ?_ _
    go_wp2_with (first | (refine wpList_load_row rfl _ _ rfl _ rfl _ _ _ _ (z8.out.1) Tryz.underlying38 rfl size_bits ?_) | (go_at_call 28; refine (HWh.out _).mono ?_; rintro e w9 ⟨rfl, hB9⟩; have z9 := Lib.hid (HKp.out _ _ z8.out hB9); clear hB9) | (refine wpList_store_row rfl _ _ _ rfl _ _ rfl rfl _ _ (z9.out.2.2.1) size_words rfl (three_one _) ?_))
    refine bodyPost_ret (results_cell_row rfl _ _ _ _ _ _ _ rfl (z9.out.2.2.1.setRow _) Tryz.underlying28 rfl size_words) (by rfl) ?_
    exact ⟨rfl, below_setRow z9.out.2.2.2 (by omega) _⟩
end Go.Proofs.YtjjfiidgjiekpaaGreat
