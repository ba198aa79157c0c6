/- epicycleref01: turning, words; epicycleref23. -/
import Derived.Test.YtemoginoanhjlaaGreatWLimDToB01B
import Derived.Test.YtemoginoanhjlaaGreatQTail
set_option linter.unusedVariables false
set_option linter.unusedSimpArgs false
set_option linter.unusedSectionVars false
section
/- epicycleref01: turning, words; epicycleref23. -/
namespace Go.Proofs.YtemoginoanhjlaaGreat
open Go.RowKit
/-- 2^192 less a number. -/
def turn (a : Nat) : Nat := (2 ^ 192 - a % 2 ^ 192) % 2 ^ 192
theorem not_bit (a i : Nat) (hi : i < 192) : (2 ^ 192 - (a % 2 ^ 192 + 1)).testBit i = !a.testBit i := by
  rw [Nat.testBit_two_pow_sub_succ (Nat.mod_lt _ (Nat.two_pow_pos 192)), Nat.testBit_mod_two_pow]
  simp [hi]
theorem turn_last (a : Nat) : (bcells ((2 ^ 192 - (a % 2 ^ 192 + 1)) + 1)).setIfInBounds 192 (.bool false) = bcells (turn a) := by
  have h0 := Nat.mod_lt a (Nat.two_pow_pos 192)
  have e : (2 ^ 192 - (a % 2 ^ 192 + 1)) + 1 = 2 ^ 192 - a % 2 ^ 192 := by omega
  rw [e]
  unfold turn
  have hle : 2 ^ 192 - a % 2 ^ 192 ≤ 2 ^ 192 := Nat.sub_le _ _
  generalize 2 ^ 192 - a % 2 ^ 192 = y at *
  refine bcells_set (by omega) (by rw [Nat.testBit_mod_two_pow]; simp) fun j hj hne => ?_
  rw [Nat.testBit_mod_two_pow]
  by_cases h : j < 192
  · simp [h]
  · have h2 : y < 2 ^ j := Nat.lt_of_le_of_lt hle (Nat.pow_lt_pow_right (by omega) (by omega))
    rw [Nat.testBit_lt_two_pow h2]; simp
theorem three_wd (a : Nat) : three a = #[.int .u64 ((wd a 0 : Nat) : Int), .int .u64 ((wd a 1 : Nat) : Int), .int .u64 ((wd a 2 : Nat) : Int)] := by
  unfold three wd
  simp only [Nat.pow_zero, Nat.pow_one, Nat.div_one, Nat.reducePow]
set_option maxHeartbeats 1000000 in
set_option maxRecDepth 100000 in
theorem r1turn_any (a : Nat) (w : World) :
    Calls Tryz.prog 70 #[.agg (bcells a)] w fun e w' => e = .returned (.agg (bcells (turn a))) ∧ Below w.heap.size w w' := by
  have hz := (zero_of_info info_bits).1
  have HL := Lib.hid (turn_last a)
  have HN : Hid (∀ i, i < 192 → (2 ^ 192 - (a % 2 ^ 192 + 1)).testBit i = !a.testBit i) := Lib.hid (fun i hi => not_bit a i hi)
  have HX : Hid ((2 ^ 192 - (a % 2 ^ 192 + 1)) % 2 ^ 192 = 2 ^ 192 - (a % 2 ^ 192 + 1)) := Lib.hid (Nat.mod_eq_of_lt (by have := Nat.mod_lt a (Nat.two_pow_pos 192); omega))
  obtain ⟨d, hd⟩ : ∃ d, d = 2 ^ 192 - (a % 2 ^ 192 + 1) := ⟨_, rfl⟩
  rw [← hd] at HL HN HX
  obtain ⟨t, ht⟩ : ∃ t, t = turn a := ⟨_, rfl⟩
  rw [← ht] at HL ⊢
  clear hd ht
  have R0 := Lib.hid (Rows3.new w 114 (bcells a) 114 (bcells 0) 114 (bcells 0))
  go_enter Tryz.func70, Tryz.ntmps70
  go_wp2_with fail
  generalize (((w.alloc (.cells (bcells a) 114)).alloc (.cells (bcells 0) 114)).alloc (.cells (bcells 0) 114)) = w1 at *
  go_loopw [4] (fun I wr => ∃ i : Nat, I = .int .i64 i ∧ i ≤ 192 ∧ Hid (Rows3 w wr 114 (bcells a) 114 (bcells 0) 114 (bcells (d % 2 ^ i)))) (fun I _ => 192 - (intOf I).toNat)
  case atStart => exact ⟨0, rfl, by omega, Lib.hid (by rw [Nat.pow_zero, Nat.mod_one]; exact R0.out)⟩
  case round =>
    clear R0
    obtain ⟨i, rfl, hi, R⟩ := hrel
    by_cases hlt : i < 192
    · have f0 : (0 : Int) ≤ (i : Int) := by omega
      have f1 : (i : Int) < 256 := by omega
      have c0 := R.out.1.cell (bcells_get a i (by omega))
      have e0 := R.out.2.2.1.cell (bcells_get _ i (by omega))
      have e1 := R.out.2.2.1.frozen i
      have hb := HN.out i hlt
      have R' := R.out.set i (.bool (d.testBit i)) (d := bcells (d % 2 ^ (i + 1))) (bcells_next (by omega))
      rw [hb] at R'
      obtain ⟨x, hx⟩ : ∃ x, x = a.testBit i := ⟨_, rfl⟩
      rw [← hx] at c0 R'
      have HR' := Lib.hid R'
      clear hb hx R'
      go_wp2
      go_roundw
      case rel => exact ⟨i + 1, by go_num, by omega, HR'⟩
      case measure => simp [intOf]; omega
    · obtain rfl : i = 192 := by omega
      have R1 := R.out
      rw [HX.out] at R1
      have HR1 := Lib.hid R1
      have hs0 : wr.heap.size ≠ w.heap.size + 1 + 1 := by have := R1.2.2.1.lt; omega
      have hs1 : w.heap.size + 1 + 1 ≠ wr.heap.size := by omega
      have hn := RowAt.new wr 114 (bcells 0)
      have k0 := hn.cell (bcells_get 0 0 (by omega))
      have k1 := hn.frozen 0
      have hone : (bcells 0).setIfInBounds 0 (.bool true) = bcells 1 := bcells_set (by omega) (by decide) fun j hj hne => by
        rw [Nat.zero_testBit]
        exact Nat.testBit_lt_two_pow (Nat.one_lt_two_pow hne)
      have hn1 := RowAt.new wr 114 ((bcells 0).setIfInBounds 0 (.bool true))
      have hn2 : RowAt (wr.alloc (.cells ((bcells 0).setIfInBounds 0 (.bool true)) 114)) wr.heap.size 114 (bcells 1) := by rw [← hone]; exact hn1
      have hR2 : RowAt (wr.alloc (.cells ((bcells 0).setIfInBounds 0 (.bool true)) 114)) (w.heap.size + 1 + 1) 114 (bcells d) := R1.2.2.1.alloc _
      have hR1 : RowAt (wr.alloc (.cells ((bcells 0).setIfInBounds 0 (.bool true)) 114)) (w.heap.size + 1) 114 (bcells 0) := R1.2.1.alloc _
      have hBb : Below w.heap.size w (wr.alloc (.cells ((bcells 0).setIfInBounds 0 (.bool true)) 114)) := R1.2.2.2.alloc (by have := R1.1.lt; omega) _
      have HR2 := Lib.hid hR2
      have HR1' := Lib.hid hR1
      have HBb := Lib.hid hBb
      have HN1 := Lib.hid hn2
      clear R1 R hone hR1 hR2 hBb hn1 hn2
      have HSm : Hid (∀ W, Calls Tryz.prog 73 #[.agg (bcells d), .agg (bcells 1)] W fun e w' => e = .returned (.agg (bcells (d + 1))) ∧ Below W.heap.size W w') := Lib.hid (fun W => r1sum_any d 1 W)
      have HF : Hid (∀ w8, Below (wr.alloc (.cells ((bcells 0).setIfInBounds 0 (.bool true)) 114)).heap.size (wr.alloc (.cells ((bcells 0).setIfInBounds 0 (.bool true)) 114)) w8 → RowAt w8 (w.heap.size + 1 + 1) 114 (bcells d) ∧ RowAt ((w8.setRow (w.heap.size + 1 + 1) (bcells (d + 1))).setCell ⟨w.heap.size + 1 + 1, 192, none⟩ (.bool false)) (w.heap.size + 1 + 1) 114 (bcells t) ∧
          RowAt ((w8.setRow (w.heap.size + 1 + 1) (bcells (d + 1))).setCell ⟨w.heap.size + 1 + 1, 192, none⟩ (.bool false)) (w.heap.size + 1) 114 (bcells 0) ∧ Below w.heap.size w ((w8.setRow (w.heap.size + 1 + 1) (bcells (d + 1))).setCell ⟨w.heap.size + 1 + 1, 192, none⟩ (.bool false)) ∧
          (w8.setRow (w.heap.size + 1 + 1) (bcells (d + 1))).cell? ⟨w.heap.size + 1 + 1, 192, none⟩ = some (.bool ((d + 1).testBit 192)) ∧ (w8.setRow (w.heap.size + 1 + 1) (bcells (d + 1))).frozen? ⟨w.heap.size + 1 + 1, 192, none⟩ = false) := Lib.hid (fun w8 hB8 => by
        have a1 := HR2.out.keep hB8
        have a2 := (HR1'.out.keep hB8).setRowOther (w.heap.size + 1 + 1) (bcells (d + 1)) (by omega)
        have a3 := below_setRow (HBb.out.trans (hB8.mono HBb.out.size)) (show w.heap.size ≤ w.heap.size + 1 + 1 by omega) (bcells (d + 1))
        have a4 := (a1.setRow (bcells (d + 1)))
        have a5 := a4.set 192 (.bool false)
        rw [HL.out] at a5
        exact ⟨a1, a5, a2.setOther _ _ (by show w.heap.size + 1 ≠ w.heap.size + 1 + 1; omega), below_setCell a3 (by omega) 192 _, a4.cell (bcells_get _ 192 (by omega)), a4.frozen 192⟩)
      go_wp2_with (first | (refine wpList_load_row rfl _ _ rfl _ rfl _ _ _ _ (HR2.out) Tryz.underlying114 rfl size_bits ?_) | (refine wpList_load_row rfl _ _ rfl _ rfl _ _ _ _ (HN1.out) Tryz.underlying114 rfl size_bits ?_) | (go_at_call 73; refine (HSm.out _).mono ?_; rintro r w8 ⟨rfl, hB8⟩; obtain ⟨a1, a5, a2, a3, a6, a7⟩ := HF.out w8 hB8; have A1 := Lib.hid a1; have A5 := Lib.hid a5; have A2 := Lib.hid a2; have A3 := Lib.hid a3; clear a1 a5 a2 a3 hB8) | (refine wpList_store_row rfl _ _ _ rfl _ _ rfl rfl _ _ (A1.out) size_bits rfl (bcells_one _) ?_) | (refine wpList_load_row rfl _ _ rfl _ rfl _ _ _ _ (A5.out) Tryz.underlying114 rfl size_bits ?_) | (refine wpList_store_row rfl _ _ _ rfl _ _ rfl rfl _ _ (A2.out) size_bits rfl (bcells_one _) ?_))
      refine bodyPost_ret (results_cell_row rfl _ _ _ _ _ _ _ rfl (A2.out.setRow _) Tryz.underlying114 rfl size_bits) (by rfl) ?_
      exact ⟨rfl, below_setRow A3.out (by omega) _⟩
set_option maxHeartbeats 1000000 in
set_option maxRecDepth 100000 in
theorem r1whole_any (a : Nat) (w : World) :
    Calls Tryz.prog 72 #[.agg (bcells a)] w fun e w' => e = .returned (.agg (three a)) ∧ Below w.heap.size w w' := by
  have hz := (zero_of_info info_words).1
  have HQ : Hid (three a = #[.int .u64 ((wd a 0 : Nat) : Int), .int .u64 ((wd a 1 : Nat) : Int), .int .u64 ((wd a 2 : Nat) : Int)]) := Lib.hid (three_wd a)
  have HW0 : Hid (∀ W, Calls Tryz.prog 130 #[.agg (bcells a), .int .i64 0] W fun e w' => e = .returned (.int .u64 ((wd a 0 : Nat) : Int)) ∧ Below W.heap.size W w') := Lib.hid (fun W => by
    have h := r1word_any a 0 (by omega) W
    rw [wd_pow]; exact h)
  have HW1 : Hid (∀ W, Calls Tryz.prog 130 #[.agg (bcells a), .int .i64 64] W fun e w' => e = .returned (.int .u64 ((wd a 1 : Nat) : Int)) ∧ Below W.heap.size W w') := Lib.hid (fun W => by
    have h := r1word_any a 64 (by omega) W
    rw [wd_pow]; exact h)
  have HW2 : Hid (∀ W, Calls Tryz.prog 130 #[.agg (bcells a), .int .i64 128] W fun e w' => e = .returned (.int .u64 ((wd a 2 : Nat) : Int)) ∧ Below W.heap.size W w') := Lib.hid (fun W => by
    have h := r1word_any a 128 (by omega) W
    rw [wd_pow]; exact h)
  obtain ⟨u0, hu0⟩ : ∃ u, u = wd a 0 := ⟨_, rfl⟩
  obtain ⟨u1, hu1⟩ : ∃ u, u = wd a 1 := ⟨_, rfl⟩
  obtain ⟨u2, hu2⟩ : ∃ u, u = wd a 2 := ⟨_, rfl⟩
  rw [← hu0] at HW0 HQ
  rw [← hu1] at HW1 HQ
  rw [← hu2] at HW2 HQ
  clear hu0 hu1 hu2
  have R0 := Rows2.new w 114 (bcells a) 58 (three 0)
  have HKp : Hid (∀ W W', Rows2 w W 114 (bcells a) 58 (three 0) → Below W.heap.size W W' → Rows2 w W' 114 (bcells a) 58 (three 0)) := Lib.hid (fun W W' h hB => ⟨h.1.keep hB, h.2.1.keep hB, h.2.2.trans (hB.mono h.2.2.size)⟩)
  have HRet : Hid (∀ wz, Rows2 w wz 114 (bcells a) 58 (three 0) → Rows2 w (wz.setRow (w.heap.size + 1) (three a)) 114 (bcells a) 58 (three a)) := Lib.hid (fun wz h => ⟨h.1.setRowOther _ _ (by omega), h.2.1.setRow _, below_setRow h.2.2 (by omega) _⟩)
  have HR : Hid (Rows2 w (((w.alloc (.cells (bcells a) 114)).alloc (.cells (three 0) 58)).drewN 1) 114 (bcells a) 58 (three 0)) := Lib.hid ⟨R0.1, R0.2.1, below_drewN R0.2.2 1⟩
  clear R0
  go_enter Tryz.func72, Tryz.ntmps72
  go_wp2_with fail
  generalize ((w.alloc (.cells (bcells a) 114)).alloc (.cells (three 0) 58)) = w1 at *
  refine wp_region_held_drew (S := fun wz => RowAt wz w.heap.size 114 (bcells a)) (by kernel_rfl) (HR.out.1) (fun hHeld => ?_)
  refine wpAnyH_take (i := 0) rfl (by kernel_rfl) (by kernel_rfl) (by kernel_rfl) (fun _ _ _ h => h) (yieldsIf_load_row (by rfl) _ _ rfl _ rfl _ _ _ (fun wz h => h) Tryz.underlying114 rfl size_bits) (by assumption) ?_
  try simp only [Act.put, List.getElem_toArray, List.getElem_cons_zero, List.getElem_cons_succ, List.setIfInBounds_toArray, List.set_cons_zero, List.set_cons_succ]
  refine wpAnyH_take (i := 2) rfl (by kernel_rfl) (by kernel_rfl) (by kernel_rfl) (fun _ _ _ h => h) (yieldsIf_load_row (by rfl) _ _ rfl _ rfl _ _ _ (fun wz h => h) Tryz.underlying114 rfl size_bits) (by assumption) ?_
  try simp only [Act.put, List.getElem_toArray, List.getElem_cons_zero, List.getElem_cons_succ, List.setIfInBounds_toArray, List.set_cons_zero, List.set_cons_succ]
  refine wpAnyH_take (i := 4) rfl (by kernel_rfl) (by kernel_rfl) (by kernel_rfl) (fun _ _ _ h => h) (yieldsIf_load_row (by rfl) _ _ rfl _ rfl _ _ _ (fun wz h => h) Tryz.underlying114 rfl size_bits) (by assumption) ?_
  try simp only [Act.put, List.getElem_toArray, List.getElem_cons_zero, List.getElem_cons_succ, List.setIfInBounds_toArray, List.set_cons_zero, List.set_cons_succ]
  refine wpAnyH_ready (rs := [1]) (by kernel_rfl) (by simp) ?_
  refine AllReadyH.cons rfl (fun K hK => ?_) AllReadyH.nil
  try simp only [List.getElem_toArray, List.getElem_cons_zero, List.getElem_cons_succ]
  rw [if_pos (by rfl)]
  go_wp2_with (go_at_call 130; refine (HW0.out _).mono ?_; rintro r w7 ⟨rfl, hB7⟩)
  have z7 := Lib.hid (HKp.out _ _ HR.out hB7)
  clear hB7
  refine hK.out _ _ (z7.out.1) (fun _ => ?_)
  clear hK K
  try simp only [Act.put, List.getElem_toArray, List.getElem_cons_zero, List.getElem_cons_succ, List.setIfInBounds_toArray, List.set_cons_zero, List.set_cons_succ]
  refine wpAnyH_ready (rs := [3]) (by kernel_rfl) (by simp) ?_
  refine AllReadyH.cons rfl (fun K hK => ?_) AllReadyH.nil
  try simp only [List.getElem_toArray, List.getElem_cons_zero, List.getElem_cons_succ]
  rw [if_pos (by rfl)]
  go_wp2_with (go_at_call 130; refine (HW1.out _).mono ?_; rintro r w8 ⟨rfl, hB8⟩)
  have z8 := Lib.hid (HKp.out _ _ z7.out hB8)
  clear hB8
  refine hK.out _ _ (z8.out.1) (fun _ => ?_)
  clear hK K
  try simp only [Act.put, List.getElem_toArray, List.getElem_cons_zero, List.getElem_cons_succ, List.setIfInBounds_toArray, List.set_cons_zero, List.set_cons_succ]
  refine wpAnyH_ready (rs := [5]) (by kernel_rfl) (by simp) ?_
  refine AllReadyH.cons rfl (fun K hK => ?_) AllReadyH.nil
  try simp only [List.getElem_toArray, List.getElem_cons_zero, List.getElem_cons_succ]
  rw [if_pos (by rfl)]
  go_wp2_with (go_at_call 130; refine (HW2.out _).mono ?_; rintro r w9 ⟨rfl, hB9⟩)
  have z9 := Lib.hid (HKp.out _ _ z8.out hB9)
  clear hB9
  refine hK.out _ _ (z9.out.1) (fun _ => ?_)
  clear hK K
  try simp only [Act.put, List.getElem_toArray, List.getElem_cons_zero, List.getElem_cons_succ, List.setIfInBounds_toArray, List.set_cons_zero, List.set_cons_succ]
  refine wpAnyH_ready (rs := [6]) (by kernel_rfl) (by simp) ?_
  refine AllReadyH.cons rfl (fun K hK => ?_) AllReadyH.nil
  try simp only [List.getElem_toArray, List.getElem_cons_zero, List.getElem_cons_succ]
  rw [if_pos (by rfl)]
  go_wp2_with fail
  refine hK.out _ _ (z9.out.1) (fun _ => ?_)
  clear hK K
  try simp only [Act.put, List.getElem_toArray, List.getElem_cons_zero, List.getElem_cons_succ, List.setIfInBounds_toArray, List.set_cons_zero, List.set_cons_succ]
  refine wpAnyH_ready (rs := [7]) (by kernel_rfl) (by simp) ?_
  refine AllReadyH.cons rfl (fun K hK => ?_) AllReadyH.nil
  try simp only [List.getElem_toArray, List.getElem_cons_zero, List.getElem_cons_succ]
  rw [if_pos (by rfl)]
  refine wp_store_row _ _ _ rfl _ (three a) rfl (by rw [HQ.out]; rfl) _ _ (z9.out.2.1) size_words rfl (three_one _) ?_
  refine hK.out _ _ ((HRet.out _ z9.out).1) (fun _ => ?_)
  clear hK K
  try simp only [Act.put, List.getElem_toArray, List.getElem_cons_zero, List.getElem_cons_succ, List.setIfInBounds_toArray, List.set_cons_zero, List.set_cons_succ]
  refine wpAnyH_done (by kernel_rfl) ?_ _
  have HZ := Lib.hid (HRet.out _ z9.out)
  go_wp2
  refine bodyPost_ret (results_cell_row rfl _ _ _ _ _ _ _ rfl (HZ.out.2.1) Tryz.underlying58 rfl size_words) (by rfl) ?_
  exact ⟨rfl, HZ.out.2.2⟩
set_option maxHeartbeats 1000000 in
set_option maxRecDepth 100000 in
theorem r23prod_any (p q r : Nat) (hp : p < 18446744073709551616) (hq : q < 18446744073709551616) (hr : r < 18446744073709551616) (w : World) :
    Calls Tryz.prog 80 #[.int .u64 (p : Nat), .int .u64 (q : Nat), .int .u64 (r : Nat)] w fun e w' => e = .returned (.agg (bcells (p * q * r))) ∧ Below w.heap.size w w' := by
  have hz := (zero_of_info info_bits).1
  have hone : (bcells 0).setIfInBounds 0 (.bool true) = bcells 1 := bcells_set (by omega) (by decide) fun j hj hne => by
    rw [Nat.zero_testBit]
    exact Nat.testBit_lt_two_pow (Nat.one_lt_two_pow hne)
  have R0 := Rows2.new w 114 (bcells 0) 114 ((bcells 0).setIfInBounds 0 (.bool true))
  have k0 := (RowAt.new (w.alloc (.cells (bcells 0) 114)) 114 (bcells 0)).cell (bcells_get 0 0 (by omega))
  have k1 := (RowAt.new (w.alloc (.cells (bcells 0) 114)) 114 (bcells 0)).frozen 0
  have r1 : RowAt ((w.alloc (.cells (bcells 0) 114)).alloc (.cells ((bcells 0).setIfInBounds 0 (.bool true)) 114)) (w.heap.size + 1) 114 (bcells 1) := by rw [← hone]; exact R0.2.1
  have HR1 := Lib.hid r1
  have HR0 := Lib.hid R0
  have H1 : Hid (∀ W, Calls Tryz.prog 68 #[.agg (bcells 1), .int .u64 (p : Nat)] W fun e w' => e = .returned (.agg (bcells p)) ∧ Below W.heap.size W w') := Lib.hid (fun W => by have h := r1prod_any 1 p hp W; rw [Nat.one_mul] at h; exact h)
  have H2 : Hid (∀ W, Calls Tryz.prog 68 #[.agg (bcells p), .int .u64 (q : Nat)] W fun e w' => e = .returned (.agg (bcells (p * q))) ∧ Below W.heap.size W w') := Lib.hid (fun W => r1prod_any p q hq W)
  obtain ⟨d, hd⟩ : ∃ d, d = p * q := ⟨_, rfl⟩
  have H3 : Hid (∀ W, Calls Tryz.prog 68 #[.agg (bcells d), .int .u64 (r : Nat)] W fun e w' => e = .returned (.agg (bcells (d * r))) ∧ Below W.heap.size W w') := Lib.hid (fun W => r1prod_any d r hr W)
  rw [← hd] at H2 ⊢
  clear hd hone R0 r1
  go_enter Tryz.func80, Tryz.ntmps80
  go_wp2_with (refine wpList_load_row rfl _ _ rfl _ rfl _ _ _ _ (HR1.out) Tryz.underlying114 rfl size_bits ?_)
  refine (H1.out _).mono ?_
  rintro e w7 ⟨rfl, hB7⟩
  have z7 := Lib.hid (And.intro (HR0.out.1.keep hB7) (HR0.out.2.2.trans (hB7.mono HR0.out.2.2.size)))
  clear hB7 k0 k1
  go_wp2_with fail
  refine (H2.out _).mono ?_
  rintro e w8 ⟨rfl, hB8⟩
  have z8 := Lib.hid (And.intro (z7.out.1.keep hB8) (z7.out.2.trans (hB8.mono z7.out.2.size)))
  clear hB8
  go_wp2_with fail
  refine (H3.out _).mono ?_
  rintro e w9 ⟨rfl, hB9⟩
  have z9 := Lib.hid (And.intro (z8.out.1.keep hB9) (z8.out.2.trans (hB9.mono z8.out.2.size)))
  clear hB9
  go_wp2_with (refine wpList_store_row rfl _ _ _ rfl _ _ rfl rfl _ _ (z9.out.1) size_bits rfl (bcells_one _) ?_)
  refine bodyPost_ret (results_cell_row rfl _ _ _ _ _ _ _ rfl (z9.out.1.setRow _) Tryz.underlying114 rfl size_bits) (by rfl) ?_
  exact ⟨rfl, below_setRow z9.out.2 (Nat.le_refl _) _⟩
end Go.Proofs.YtemoginoanhjlaaGreat
end

section
/- garner: Join. -/
namespace Go.Proofs.YtemoginoanhjlaaGreat
open Go.RowKit
open Alg (Prime)
theorem one3 (a b c : Int) : (#[Value.int .u64 a, .int .u64 b, .int .u64 c].all fun v => v.oneCell') = true := by simp; exact ⟨rfl, rfl, rfl⟩
set_option maxHeartbeats 2000000 in
set_option maxRecDepth 100000 in
theorem tjoin_yes {w : World} {v : Value} {p q r : Nat} (h : TrioP w w.heap.size v p q r) (hT : Tri p q r) (a b c : Nat) (ha : a < 18446744073709551616) (hb : b < 18446744073709551616) (hc : c < 18446744073709551616) :
    Calls Tryz.prog 125 #[v, .agg (three (w3n a b c))] w fun e w' => ∃ j : Nat, e = .returned (.agg (three j)) ∧ j < p * q * r ∧ j % p = a % p ∧ j % q = b % q ∧ j % r = c % r ∧ Below w.heap.size w w' := by
  have hz := (zero_of_info info_three).1
  have R0 := Rows2.new w 58 (three (w3n a b c)) 69 (three 0)
  obtain ⟨G, va, vb, vc, s, t, g1, g2, g3, rfl, hG, hFa, hFb, hFc, hr, hs, ht, hs1, ht1, _⟩ := h
  have hg := RowAt.below hr R0.2.2 hG
  have k0 := hg.cell (i := 0) (v := va) rfl
  have k1 := hg.cell (i := 1) (v := vb) rfl
  have k2 := hg.cell (i := 2) (v := vc) rfl
  have k3 := hg.cell (i := 3) (v := .int .u64 (s : Int)) rfl
  have k4 := hg.cell (i := 4) (v := .int .u64 (t : Int)) rfl
  have q0 : ((w.alloc (.cells (three (w3n a b c)) 58)).alloc (.cells (three 0) 69)).cell? ⟨w.heap.size, 0, none⟩ = some (.int .u64 (a : Int)) := by rw [R0.1.cell (three_get _ 0 (by omega)), wd_w3n ha hb hc 0 (by omega)]; rfl
  have q1 : ((w.alloc (.cells (three (w3n a b c)) 58)).alloc (.cells (three 0) 69)).cell? ⟨w.heap.size, 1, none⟩ = some (.int .u64 (b : Int)) := by rw [R0.1.cell (three_get _ 1 (by omega)), wd_w3n ha hb hc 1 (by omega)]; rfl
  have q2 : ((w.alloc (.cells (three (w3n a b c)) 58)).alloc (.cells (three 0) 69)).cell? ⟨w.heap.size, 2, none⟩ = some (.int .u64 (c : Int)) := by rw [R0.1.cell (three_get _ 2 (by omega)), wd_w3n ha hb hc 2 (by omega)]; rfl
  have HA : Hid (∀ i, i < 3 → (three (w3n a b c))[i]? = some (.int .u64 ((pk a b c i : Nat) : Int))) := Lib.hid (fun i hi => by rw [three_get _ i hi, wd_w3n ha hb hc i hi])
  obtain ⟨A, hA⟩ : ∃ A, A = three (w3n a b c) := ⟨_, rfl⟩
  rw [← hA] at HA R0 q0 q1 q2 hg k0 k1 k2 k3 k4 ⊢
  have HR0 := Lib.hid R0
  have HG := Lib.hid hg
  have HT := Lib.hid hT
  clear hA R0 hg hr hT
  have p3 := HT.out.p3
  have q3 := HT.out.q3
  have r3 := HT.out.r3
  have pm := HT.out.pm
  have qm := HT.out.qm
  have rm := HT.out.rm
  have HFa : Hid (∀ W, Below w.heap.size w W → Fd W w.heap.size va p g1) := Lib.hid (fun W hW => hFa.below hW)
  have HFb : Hid (∀ W, Below w.heap.size w W → Fd W w.heap.size vb q g2) := Lib.hid (fun W hW => hFb.below hW)
  have HFc : Hid (∀ W, Below w.heap.size w W → Fd W w.heap.size vc r g3) := Lib.hid (fun W hW => hFc.below hW)
  obtain ⟨f, hf⟩ : ∃ f, f = a % p := ⟨_, rfl⟩
  have HAd : Hid (∀ W, Below w.heap.size w W → Calls Tryz.prog 83 #[va, .int .u64 (a : Int), .int .u64 0] W fun e w' => e = .returned (.int .u64 (f : Int)) ∧ ∃ n, w' = W.drewN n) := Lib.hid (fun W hW => by
    have h := fadd_fd (HFa.out W hW) (a : Int) 0 (by omega) (by omega) (by omega) (by omega)
    rw [Int.add_zero, ← Int.natCast_emod, ← hf] at h
    exact h)
  have f1 : f < p := by rw [hf]; exact Nat.mod_lt _ (by omega)
  have HF0 := Lib.hid hf
  clear hf hFa hFb hFc
  go_enter Tryz.func125, Tryz.ntmps125
  go_wp2_with fail
  generalize ((w.alloc (.cells A 58)).alloc (.cells (three 0) 69)) = w1 at *
  go_quiet (fail)
  go_wp2_with fail
  refine (HAd.out _ (below_drewN HR0.out.2.2 _)).mono ?_
  rintro e w2 ⟨rfl, nw, rfl⟩
  have H9 := RowAt.new (w1.drewN (nq + nw)) 69 (three 0)
  have hB5 : Below w.heap.size w (((w1.drewN (nq + nw)).alloc (.cells (three 0) 69)).setRow w1.heap.size #[.int .u64 (f : Int), .int .u64 0, .int .u64 0]) := below_setRow ((below_drewN HR0.out.2.2 _).alloc HR0.out.2.2.size _) HR0.out.2.2.size _
  have hne0 : w.heap.size ≠ w1.heap.size := by have := HR0.out.1.lt; omega
  have hne1 : w.heap.size + 1 ≠ w1.heap.size := by have := HR0.out.2.1.lt; omega
  have hneG : G ≠ w1.heap.size := by have := HR0.out.1.lt; omega
  have h5a := (RowAt.alloc (HR0.out.1.drewN (nq + nw)) (.cells (three 0) 69)).setRowOther w1.heap.size #[.int .u64 (f : Int), .int .u64 0, .int .u64 0] hne0
  have h5b := (RowAt.alloc (HR0.out.2.1.drewN (nq + nw)) (.cells (three 0) 69)).setRowOther w1.heap.size #[.int .u64 (f : Int), .int .u64 0, .int .u64 0] hne1
  have h5g := (RowAt.alloc (HG.out.drewN (nq + nw)) (.cells (three 0) 69)).setRowOther w1.heap.size #[.int .u64 (f : Int), .int .u64 0, .int .u64 0] hneG
  have h59 := H9.setRow #[.int .u64 (f : Int), .int .u64 0, .int .u64 0]
  have H9' := Lib.hid H9
  have H5 : Hid (RowAt (((w1.drewN (nq + nw)).alloc (.cells (three 0) 69)).setRow w1.heap.size #[.int .u64 (f : Int), .int .u64 0, .int .u64 0]) w.heap.size 58 A ∧ RowAt (((w1.drewN (nq + nw)).alloc (.cells (three 0) 69)).setRow w1.heap.size #[.int .u64 (f : Int), .int .u64 0, .int .u64 0]) (w.heap.size + 1) 69 (three 0) ∧ RowAt (((w1.drewN (nq + nw)).alloc (.cells (three 0) 69)).setRow w1.heap.size #[.int .u64 (f : Int), .int .u64 0, .int .u64 0]) G 175 (gtrow va vb vc s t (p * q) (p * q * r)) ∧
      RowAt (((w1.drewN (nq + nw)).alloc (.cells (three 0) 69)).setRow w1.heap.size #[.int .u64 (f : Int), .int .u64 0, .int .u64 0]) w1.heap.size 69 #[.int .u64 (f : Int), .int .u64 0, .int .u64 0] ∧ Below w.heap.size w (((w1.drewN (nq + nw)).alloc (.cells (three 0) 69)).setRow w1.heap.size #[.int .u64 (f : Int), .int .u64 0, .int .u64 0])) := Lib.hid ⟨h5a, h5b, h5g, h59, hB5⟩
  clear H9 hB5 h5a h5b h5g h59 k0 k1 k2 k3 k4 q0 q1 q2
  go_wp2_with (refine wpList_store_row rfl _ _ _ rfl _ #[.int .u64 (f : Int), .int .u64 0, .int .u64 0] rfl rfl _ _ (H9'.out) size_three rfl (one3 _ _ _) ?_; generalize hW5 : ((w1.drewN (nq + nw)).alloc (.cells (three 0) 69)).setRow w1.heap.size #[.int .u64 (f : Int), .int .u64 0, .int .u64 0] = w5 at *)
  have HB5 := Lib.hid H5.out.2.2.2.2
  have j0 := H5.out.2.2.2.1.cell (i := 0) (v := .int .u64 (f : Int)) rfl
  have j1 := H5.out.2.2.2.1.cell (i := 1) (v := .int .u64 0) rfl
  have j2 := H5.out.2.2.2.1.cell (i := 2) (v := .int .u64 0) rfl
  have j3 := H5.out.2.2.1.cell (i := 3) (v := .int .u64 (s : Int)) rfl
  have j4 : w5.cell? ⟨w.heap.size, 1, none⟩ = some (.int .u64 (b : Int)) := by rw [H5.out.1.cell (HA.out 1 (by omega))]; rfl
  obtain ⟨u, hu⟩ : ∃ u : Nat, (u : Int) = ((b : Int) - (f : Int)) % (q : Int) := ⟨(((b : Int) - (f : Int)) % (q : Int)).toNat, Int.toNat_of_nonneg (Int.emod_nonneg _ (by omega))⟩
  have u1 : u < q := by have := Int.emod_lt_of_pos ((b : Int) - (f : Int)) (show (0 : Int) < q by omega); omega
  obtain ⟨k, hk⟩ : ∃ k : Nat, k = u * s % q := ⟨_, rfl⟩
  have k1 : k < q := by rw [hk]; exact Nat.mod_lt _ (by omega)
  have HP : Hid (∀ n, Calls Tryz.prog 117 #[va] (w5.drewN n) fun e w' => e = .returned (.int .u64 (p : Int)) ∧ w5.drewN n = w') := Lib.hid (fun n => fP_fd (HFa.out _ (below_drewN HB5.out n)))
  have HSu : Hid (∀ n, Calls Tryz.prog 140 #[vb, .int .u64 (b : Int), .int .u64 (f : Int)] (w5.drewN n) fun e w' => e = .returned (.int .u64 (u : Int)) ∧ ∃ m, w' = (w5.drewN n).drewN m) := Lib.hid (fun n => by
    have h := fsub_fd (HFb.out _ (below_drewN HB5.out n)) (b : Int) (f : Int) (by omega) (by omega) (by omega) (by omega)
    rw [← hu] at h; exact h)
  have HMu : Hid (∀ n, Calls Tryz.prog 157 #[vb, .int .u64 (u : Int), .int .u64 (s : Int)] (w5.drewN n) fun e w' => e = .returned (.int .u64 (k : Int)) ∧ ∃ m, w' = (w5.drewN n).drewN m) := Lib.hid (fun n => by
    have h := fmul_fd (HFb.out _ (below_drewN HB5.out n)) (u : Int) (s : Int) (by omega) (by omega) (by omega) (by omega)
    rw [← Int.natCast_mul, ← Int.natCast_emod, ← hk] at h; exact h)
  obtain ⟨x, hx⟩ : ∃ x, x = f + p * k := ⟨_, rfl⟩
  have HPl : Hid (∀ W, Calls Tryz.prog 181 #[.agg #[.int .u64 (f : Int), .int .u64 0, .int .u64 0], .agg #[.int .u64 (p : Int), .int .u64 0, .int .u64 0], .int .u64 (k : Int)] W fun e w' => e = .returned (.agg (three x)) ∧ Below W.heap.size W w') := Lib.hid (fun W => by
    have h := plus_any f p k (by omega) W
    have e1 : three f = #[.int .u64 (f : Int), .int .u64 0, .int .u64 0] := by
      have h := three_words (a := f) (b := 0) (c := 0) (by omega) (by omega) (by omega)
      simpa using h
    have e2 : three p = #[.int .u64 (p : Int), .int .u64 0, .int .u64 0] := by
      have h := three_words (a := p) (b := 0) (c := 0) (by omega) (by omega) (by omega)
      simpa using h
    rw [e1, e2, ← hx] at h; exact h)
  have HX := Lib.hid (And.intro hu (And.intro hk hx))
  clear hu hk hx hW5
  try simp only [Act.put]
  refine wp_region_qtail 15 (by kernel_rfl) (by kernel_rfl) ?_
  simp only [List.take_succ_cons, List.take_zero, List.drop_succ_cons, List.drop_zero]
  repeat (go_big_quiet_step ((first | (go_at_call 117; exact Calls.quiet_of (quiet0 (HP.out _))) | (go_at_call 140; exact Calls.quiet_of (HSu.out _)) | (go_at_call 157; exact Calls.quiet_of (HMu.out _)))))
  refine wpQuiet_nil ?_
  intro _ hw'
  obtain ⟨nq2, hw''⟩ := hw'
  subst hw''
  have H5' : Hid (RowAt (w5.drewN nq2) w.heap.size 58 A ∧ RowAt (w5.drewN nq2) (w.heap.size + 1) 69 (three 0) ∧ RowAt (w5.drewN nq2) G 175 (gtrow va vb vc s t (p * q) (p * q * r)) ∧ RowAt (w5.drewN nq2) w1.heap.size 69 #[.int .u64 (f : Int), .int .u64 0, .int .u64 0] ∧ Below w.heap.size w (w5.drewN nq2)) := Lib.hid ⟨H5.out.1, H5.out.2.1, H5.out.2.2.1, H5.out.2.2.2.1, below_drewN HB5.out nq2⟩
  clear j0 j1 j2 j3 j4 HP HSu HMu
  go_wp2_with (first | (go_at_call 181; refine (HPl.out _).mono ?_; rintro e w6 ⟨rfl, hB6⟩; have H6 : Hid (RowAt w6 w.heap.size 58 A ∧ RowAt w6 (w.heap.size + 1) 69 (three 0) ∧ RowAt w6 G 175 (gtrow va vb vc s t (p * q) (p * q * r)) ∧ RowAt w6 w1.heap.size 69 #[.int .u64 (f : Int), .int .u64 0, .int .u64 0] ∧ Below w.heap.size w w6) := Lib.hid ⟨H5'.out.1.keep hB6, H5'.out.2.1.keep hB6, H5'.out.2.2.1.keep hB6, H5'.out.2.2.2.1.keep hB6, H5'.out.2.2.2.2.trans (hB6.mono H5'.out.2.2.2.2.size)⟩; clear hB6) | (refine wpList_store_row rfl _ _ _ rfl _ _ rfl rfl _ _ (H6.out.2.2.2.1) size_three rfl (three_one _) ?_))
  have HK6 : Hid (RowAt ((w6.setRow w1.heap.size (three x)).drewN 1) w.heap.size 58 A ∧ RowAt ((w6.setRow w1.heap.size (three x)).drewN 1) w1.heap.size 69 (three x) ∧ RowAt ((w6.setRow w1.heap.size (three x)).drewN 1) G 175 (gtrow va vb vc s t (p * q) (p * q * r)) ∧ RowAt ((w6.setRow w1.heap.size (three x)).drewN 1) (w.heap.size + 1) 69 (three 0) ∧ Below w.heap.size w ((w6.setRow w1.heap.size (three x)).drewN 1)) :=
    Lib.hid ⟨H6.out.1.setRowOther _ _ hne0, H6.out.2.2.2.1.setRow _, H6.out.2.2.1.setRowOther _ _ hneG, H6.out.2.1.setRowOther _ _ hne1, below_drewN (below_setRow H6.out.2.2.2.2 HR0.out.2.2.size _) 1⟩
  generalize w6.setRow w1.heap.size (three x) = w7 at *
  clear H6 H5' H5 HB5
  have HKp : Hid (∀ W W', (RowAt W w.heap.size 58 A ∧ RowAt W w1.heap.size 69 (three x) ∧ RowAt W G 175 (gtrow va vb vc s t (p * q) (p * q * r)) ∧ RowAt W (w.heap.size + 1) 69 (three 0) ∧ Below w.heap.size w W) → Below W.heap.size W W' → (RowAt W' w.heap.size 58 A ∧ RowAt W' w1.heap.size 69 (three x) ∧ RowAt W' G 175 (gtrow va vb vc s t (p * q) (p * q * r)) ∧ RowAt W' (w.heap.size + 1) 69 (three 0) ∧ Below w.heap.size w W')) :=
    Lib.hid (fun W W' h hB => ⟨h.1.keep hB, h.2.1.keep hB, h.2.2.1.keep hB, h.2.2.2.1.keep hB, h.2.2.2.2.trans (hB.mono h.2.2.2.2.size)⟩)
  have HSc : Hid (∀ W, (RowAt W w.heap.size 58 A ∧ RowAt W w1.heap.size 69 (three x) ∧ RowAt W G 175 (gtrow va vb vc s t (p * q) (p * q * r)) ∧ RowAt W (w.heap.size + 1) 69 (three 0) ∧ Below w.heap.size w W) → W.cell? ⟨w.heap.size, 2, none⟩ = some (.int .u64 (c : Int)) ∧ W.cell? ⟨G, 4, none⟩ = some (.int .u64 (t : Int)) ∧ RowAt W w1.heap.size 69 (three x) ∧ W.rangeAt G 5 (tl (p * q))) :=
    Lib.hid (fun W h => ⟨by rw [h.1.cell (HA.out 2 (by omega))]; rfl, h.2.2.1.cell rfl, h.2.1, h.2.2.1.two⟩)
  obtain ⟨e, he⟩ : ∃ e : Nat, e = x % r := ⟨_, rfl⟩
  have e1 : e < r := by rw [he]; exact Nat.mod_lt _ (by omega)
  obtain ⟨hu, hk, hx⟩ := HX.out
  have hxb : x < 6277101735386680763835789423207666416102355444464034512896 := by
    have h1 : p * k ≤ 9223372036854775808 * 9223372036854775808 := Nat.mul_le_mul (by omega) (by omega)
    rw [hx]; omega
  obtain ⟨y, hy⟩ : ∃ y : Nat, (y : Int) = ((c : Int) - (e : Int)) % (r : Int) := ⟨(((c : Int) - (e : Int)) % (r : Int)).toNat, Int.toNat_of_nonneg (Int.emod_nonneg _ (by omega))⟩
  have y1 : y < r := by have := Int.emod_lt_of_pos ((c : Int) - (e : Int)) (show (0 : Int) < r by omega); omega
  obtain ⟨l, hl⟩ : ∃ l : Nat, l = y * t % r := ⟨_, rfl⟩
  have l1 : l < r := by rw [hl]; exact Nat.mod_lt _ (by omega)
  obtain ⟨j, hj⟩ : ∃ j, j = x + p * q * l := ⟨_, rfl⟩
  have fin : Hid (j < p * q * r ∧ j % p = a % p ∧ j % q = b % q ∧ j % r = c % r) := Lib.hid (by
    have hf := HF0.out
    obtain ⟨h0, hlt, hmp, hmq, hmr⟩ := joinN_law (p := (p : Int)) (q := (q : Int)) (r := (r : Int)) (t2 := (s : Int)) (t3 := (t : Int)) (a := (a : Int)) (b := (b : Int)) (c := (c : Int)) (by omega) (by omega) (by omega) hs1 ht1
    have ef : (a : Int) % (p : Int) = (f : Int) := by rw [hf]; rfl
    have ex : joinX (p : Int) (q : Int) (s : Int) (a : Int) (b : Int) = (x : Int) := by
      unfold joinX
      rw [ef, ← hu, ← Int.natCast_mul, ← Int.natCast_emod, ← hk, hx]; omega
    have ej : joinN (p : Int) (q : Int) (r : Int) (s : Int) (t : Int) (a : Int) (b : Int) (c : Int) = (j : Int) := by
      unfold joinN
      rw [ex, ← Int.natCast_emod x r, ← he, ← hy, ← Int.natCast_mul y t, ← Int.natCast_emod, ← hl, hj]
      simp only [Int.natCast_add, Int.natCast_mul]
    rw [ej] at hlt hmp hmq hmr
    refine ⟨?_, ?_, ?_, ?_⟩
    · exact_mod_cast hlt
    · exact_mod_cast hmp
    · exact_mod_cast hmq
    · exact_mod_cast hmr)
  have HRs : Hid (∀ W, Calls Tryz.prog 182 #[.agg (three x), .int .u64 (r : Int)] W fun e' w' => e' = .returned (.int .u64 (e : Int)) ∧ Below W.heap.size W w') := Lib.hid (fun W => by
    have h := lrest_any x r (by omega) W
    rw [if_neg (by omega), Nat.mod_eq_of_lt hxb, ← he] at h
    exact h)
  have HSs : Hid (∀ W, Below w.heap.size w W → Calls Tryz.prog 140 #[vc, .int .u64 (c : Int), .int .u64 (e : Int)] W fun e' w' => e' = .returned (.int .u64 (y : Int)) ∧ ∃ m, w' = W.drewN m) := Lib.hid (fun W hW => by
    have h := fsub_fd (HFc.out _ hW) (c : Int) (e : Int) (by omega) (by omega) (by omega) (by omega)
    rw [← hy] at h; exact h)
  have HMs : Hid (∀ W, Below w.heap.size w W → Calls Tryz.prog 157 #[vc, .int .u64 (y : Int), .int .u64 (t : Int)] W fun e' w' => e' = .returned (.int .u64 (l : Int)) ∧ ∃ m, w' = W.drewN m) := Lib.hid (fun W hW => by
    have h := fmul_fd (HFc.out _ hW) (y : Int) (t : Int) (by omega) (by omega) (by omega) (by omega)
    rw [← Int.natCast_mul, ← Int.natCast_emod, ← hl] at h; exact h)
  have HPs : Hid (∀ W, Calls Tryz.prog 181 #[.agg (three x), .agg (three (p * q)), .int .u64 (l : Int)] W fun e' w' => e' = .returned (.agg (three j)) ∧ Below W.heap.size W w') := Lib.hid (fun W => by
    have h := plus_any x (p * q) l (by omega) W
    rw [← hj] at h; exact h)
  have HP7 : Hid (∀ W, (RowAt W w.heap.size 58 A ∧ RowAt W w1.heap.size 69 (three x) ∧ RowAt W G 175 (gtrow va vb vc s t (p * q) (p * q * r)) ∧ RowAt W (w.heap.size + 1) 69 (three 0) ∧ Below w.heap.size w W) → Calls Tryz.prog 117 #[vc] W fun e' w' => e' = .returned (.int .u64 (r : Int)) ∧ (RowAt w' w.heap.size 58 A ∧ RowAt w' w1.heap.size 69 (three x) ∧ RowAt w' G 175 (gtrow va vb vc s t (p * q) (p * q * r)) ∧ RowAt w' (w.heap.size + 1) 69 (three 0) ∧ Below w.heap.size w w')) := Lib.hid (fun W h => (fP_fd (HFc.out W h.2.2.2.2)).mono fun e2 w2 hh => ⟨hh.1, hh.2 ▸ h⟩)
  have HR7 : Hid (∀ W, (RowAt W w.heap.size 58 A ∧ RowAt W w1.heap.size 69 (three x) ∧ RowAt W G 175 (gtrow va vb vc s t (p * q) (p * q * r)) ∧ RowAt W (w.heap.size + 1) 69 (three 0) ∧ Below w.heap.size w W) → Calls Tryz.prog 182 #[.agg (three x), .int .u64 (r : Int)] W fun e' w' => e' = .returned (.int .u64 (e : Int)) ∧ (RowAt w' w.heap.size 58 A ∧ RowAt w' w1.heap.size 69 (three x) ∧ RowAt w' G 175 (gtrow va vb vc s t (p * q) (p * q * r)) ∧ RowAt w' (w.heap.size + 1) 69 (three 0) ∧ Below w.heap.size w w')) := Lib.hid (fun W h => (HRs.out W).mono fun e2 w2 hh => ⟨hh.1, HKp.out _ _ h hh.2⟩)
  have HS7 : Hid (∀ W, (RowAt W w.heap.size 58 A ∧ RowAt W w1.heap.size 69 (three x) ∧ RowAt W G 175 (gtrow va vb vc s t (p * q) (p * q * r)) ∧ RowAt W (w.heap.size + 1) 69 (three 0) ∧ Below w.heap.size w W) → Calls Tryz.prog 140 #[vc, .int .u64 (c : Int), .int .u64 (e : Int)] W fun e' w' => e' = .returned (.int .u64 (y : Int)) ∧ (RowAt w' w.heap.size 58 A ∧ RowAt w' w1.heap.size 69 (three x) ∧ RowAt w' G 175 (gtrow va vb vc s t (p * q) (p * q * r)) ∧ RowAt w' (w.heap.size + 1) 69 (three 0) ∧ Below w.heap.size w w')) := Lib.hid (fun W h => (HSs.out W h.2.2.2.2).mono fun e2 w2 hh => ⟨hh.1, by obtain ⟨_, m, rfl⟩ := hh; exact ⟨h.1, h.2.1, h.2.2.1, h.2.2.2.1, below_drewN h.2.2.2.2 m⟩⟩)
  have HM7 : Hid (∀ W, (RowAt W w.heap.size 58 A ∧ RowAt W w1.heap.size 69 (three x) ∧ RowAt W G 175 (gtrow va vb vc s t (p * q) (p * q * r)) ∧ RowAt W (w.heap.size + 1) 69 (three 0) ∧ Below w.heap.size w W) → Calls Tryz.prog 157 #[vc, .int .u64 (y : Int), .int .u64 (t : Int)] W fun e' w' => e' = .returned (.int .u64 (l : Int)) ∧ (RowAt w' w.heap.size 58 A ∧ RowAt w' w1.heap.size 69 (three x) ∧ RowAt w' G 175 (gtrow va vb vc s t (p * q) (p * q * r)) ∧ RowAt w' (w.heap.size + 1) 69 (three 0) ∧ Below w.heap.size w w')) := Lib.hid (fun W h => (HMs.out W h.2.2.2.2).mono fun e2 w2 hh => ⟨hh.1, by obtain ⟨_, m, rfl⟩ := hh; exact ⟨h.1, h.2.1, h.2.2.1, h.2.2.2.1, below_drewN h.2.2.2.2 m⟩⟩)
  have HP9 : Hid (∀ W, (RowAt W w.heap.size 58 A ∧ RowAt W w1.heap.size 69 (three x) ∧ RowAt W G 175 (gtrow va vb vc s t (p * q) (p * q * r)) ∧ RowAt W (w.heap.size + 1) 69 (three 0) ∧ Below w.heap.size w W) → Calls Tryz.prog 181 #[.agg (three x), .agg (tl (p * q)).toArray, .int .u64 (l : Int)] W fun e' w' => e' = .returned (.agg (three j)) ∧ (RowAt w' w.heap.size 58 A ∧ RowAt w' w1.heap.size 69 (three x) ∧ RowAt w' G 175 (gtrow va vb vc s t (p * q) (p * q * r)) ∧ RowAt w' (w.heap.size + 1) 69 (three 0) ∧ Below w.heap.size w w')) := Lib.hid (fun W h => (HPs.out W).mono fun e2 w2 hh => ⟨hh.1, HKp.out _ _ h hh.2⟩)
  have HSt : Hid (∀ W, (RowAt W w.heap.size 58 A ∧ RowAt W w1.heap.size 69 (three x) ∧ RowAt W G 175 (gtrow va vb vc s t (p * q) (p * q * r)) ∧ RowAt W (w.heap.size + 1) 69 (three 0) ∧ Below w.heap.size w W) → (W.setRow (w.heap.size + 1) (three j)).cell? ⟨w.heap.size, 2, none⟩ = some (.int .u64 (c : Int)) ∧ (W.setRow (w.heap.size + 1) (three j)).cell? ⟨G, 4, none⟩ = some (.int .u64 (t : Int)) ∧ RowAt (W.setRow (w.heap.size + 1) (three j)) w1.heap.size 69 (three x) ∧ (W.setRow (w.heap.size + 1) (three j)).rangeAt G 5 (tl (p * q))) := Lib.hid (fun W h => by
    have h1 := h.1.setRowOther (w.heap.size + 1) (three j) (by omega)
    have h2 := h.2.1.setRowOther (w.heap.size + 1) (three j) (fun hh => hne1 hh.symm)
    have h3 := h.2.2.1.setRowOther (w.heap.size + 1) (three j) (by omega)
    exact ⟨by rw [h1.cell (HA.out 2 (by omega))]; rfl, h3.cell rfl, h2, h3.two⟩)
  clear HRs HSs HMs HPs he e1 hu hk hx hxb hy y1 hl l1 hj HX HF0 HKp HPl
  change (Code.region _ _ true).wp _ _ _ _
  refine wp_region_held_drew (S := fun wz => wz.cell? ⟨w.heap.size, 2, none⟩ = some (.int .u64 (c : Int)) ∧ wz.cell? ⟨G, 4, none⟩ = some (.int .u64 (t : Int)) ∧ RowAt wz w1.heap.size 69 (three x) ∧ wz.rangeAt G 5 (tl (p * q))) (by kernel_rfl) (HSc.out _ HK6.out) (fun hHeld => ?_)
  refine wpAnyH_take (i := 0) rfl (by kernel_rfl) (by kernel_rfl) (by kernel_rfl) (fun _ _ _ h => h) (yieldsIf_load_row (by rfl) _ _ rfl _ rfl _ _ _ (fun wz h => h.2.2.1) Tryz.underlying69 rfl size_three) (by assumption) ?_
  try simp only [Act.put, List.getElem_toArray, List.getElem_cons_zero, List.getElem_cons_succ, List.setIfInBounds_toArray, List.set_cons_zero, List.set_cons_succ]
  refine wpAnyH_take (i := 1) (v := ?_) rfl (by kernel_rfl) (by kernel_rfl) (by kernel_rfl) (fun _ _ _ h => h) (Or.inl ⟨by rfl, ?_⟩) (by assumption) ?_
  rotate_left
  · intro w hSw; (try dsimp only at hSw); go_simp; try with_reducible rfl
  try simp only [Act.put, List.getElem_toArray, List.getElem_cons_zero, List.getElem_cons_succ, List.setIfInBounds_toArray, List.set_cons_zero, List.set_cons_succ]
  refine wpAnyH_take (i := 2) (v := ?_) rfl (by kernel_rfl) (by kernel_rfl) (by kernel_rfl) (fun _ _ _ h => h) (Or.inl ⟨by rfl, ?_⟩) (by assumption) ?_
  rotate_left
  · intro w hSw; (try dsimp only at hSw); go_simp; try with_reducible rfl
  try simp only [Act.put, List.getElem_toArray, List.getElem_cons_zero, List.getElem_cons_succ, List.setIfInBounds_toArray, List.set_cons_zero, List.set_cons_succ]
  refine wpAnyH_take (i := 3) (v := ?_) rfl (by kernel_rfl) (by kernel_rfl) (by kernel_rfl) (fun _ _ _ h => h) (Or.inl ⟨by rfl, ?_⟩) (by assumption) ?_
  rotate_left
  · intro w hSw; (try dsimp only at hSw); go_simp; try with_reducible rfl
  try simp only [Act.put, List.getElem_toArray, List.getElem_cons_zero, List.getElem_cons_succ, List.setIfInBounds_toArray, List.set_cons_zero, List.set_cons_succ]
  refine wpAnyH_take (i := 4) rfl (by kernel_rfl) (by kernel_rfl) (by kernel_rfl) (fun _ _ _ h => h) (yieldsIf_load_mid (by rfl) _ _ rfl _ _ rfl _ _ (fun wz h => h.2.2.2) Tryz.underlying69 rfl (by exact size_three)) (by assumption) ?_
  try simp only [Act.put, List.getElem_toArray, List.getElem_cons_zero, List.getElem_cons_succ, List.setIfInBounds_toArray, List.set_cons_zero, List.set_cons_succ]
  refine wpAnyH_take (i := 5) (v := ?_) rfl (by kernel_rfl) (by kernel_rfl) (by kernel_rfl) (fun _ _ _ h => h) (Or.inl ⟨by rfl, ?_⟩) (by assumption) ?_
  rotate_left
  · intro w hSw; (try dsimp only at hSw); go_simp; try with_reducible rfl
  try simp only [Act.put, List.getElem_toArray, List.getElem_cons_zero, List.getElem_cons_succ, List.setIfInBounds_toArray, List.set_cons_zero, List.set_cons_succ]
  refine wpAnyH_take (i := 6) (v := ?_) rfl (by kernel_rfl) (by kernel_rfl) (by kernel_rfl) (fun _ _ _ h => h) (Or.inl ⟨by rfl, ?_⟩) (by assumption) ?_
  rotate_left
  · intro w hSw; (try dsimp only at hSw); go_simp; try with_reducible rfl
  try simp only [Act.put, List.getElem_toArray, List.getElem_cons_zero, List.getElem_cons_succ, List.setIfInBounds_toArray, List.set_cons_zero, List.set_cons_succ]
  refine wpAnyH_take (i := 7) (v := ?_) rfl (by kernel_rfl) (by kernel_rfl) (by kernel_rfl) (fun _ _ _ h => h) (Or.inl ⟨by rfl, ?_⟩) (by assumption) ?_
  rotate_left
  · intro w hSw; (try dsimp only at hSw); go_simp; try with_reducible rfl
  try simp only [Act.put, List.getElem_toArray, List.getElem_cons_zero, List.getElem_cons_succ, List.setIfInBounds_toArray, List.set_cons_zero, List.set_cons_succ]
  refine wpAnyH_take (i := 8) (v := ?_) rfl (by kernel_rfl) (by kernel_rfl) (by kernel_rfl) (fun _ _ _ h => h) (Or.inl ⟨by rfl, ?_⟩) (by assumption) ?_
  rotate_left
  · intro w hSw; (try dsimp only at hSw); go_simp; try with_reducible rfl
  try simp only [Act.put, List.getElem_toArray, List.getElem_cons_zero, List.getElem_cons_succ, List.setIfInBounds_toArray, List.set_cons_zero, List.set_cons_succ]
  refine wpAnyH_take (i := 9) rfl (by kernel_rfl) (by kernel_rfl) (by kernel_rfl) (fun _ _ _ h => h) (yieldsIf_load_row (by rfl) _ _ rfl _ rfl _ _ _ (fun wz h => h.2.2.1) Tryz.underlying69 rfl size_three) (by assumption) ?_
  try simp only [Act.put, List.getElem_toArray, List.getElem_cons_zero, List.getElem_cons_succ, List.setIfInBounds_toArray, List.set_cons_zero, List.set_cons_succ]
  refine wpAnyH_take (i := 10) (v := ?_) rfl (by kernel_rfl) (by kernel_rfl) (by kernel_rfl) (fun _ _ _ h => h) (Or.inl ⟨by rfl, ?_⟩) (by assumption) ?_
  rotate_left
  · intro w hSw; (try dsimp only at hSw); go_simp; try with_reducible rfl
  try simp only [Act.put, List.getElem_toArray, List.getElem_cons_zero, List.getElem_cons_succ, List.setIfInBounds_toArray, List.set_cons_zero, List.set_cons_succ]
  refine wpAnyH_take (i := 14) (v := ?_) rfl (by kernel_rfl) (by kernel_rfl) (by kernel_rfl) (fun _ _ _ h => h) (Or.inl ⟨by rfl, ?_⟩) (by assumption) ?_
  rotate_left
  · intro w hSw; (try dsimp only at hSw); go_simp; try with_reducible rfl
  try simp only [Act.put, List.getElem_toArray, List.getElem_cons_zero, List.getElem_cons_succ, List.setIfInBounds_toArray, List.set_cons_zero, List.set_cons_succ]
  refine wpAnyH_take (i := 15) (v := ?_) rfl (by kernel_rfl) (by kernel_rfl) (by kernel_rfl) (fun _ _ _ h => h) (Or.inl ⟨by rfl, ?_⟩) (by assumption) ?_
  rotate_left
  · intro w hSw; (try dsimp only at hSw); go_simp; try with_reducible rfl
  try simp only [Act.put, List.getElem_toArray, List.getElem_cons_zero, List.getElem_cons_succ, List.setIfInBounds_toArray, List.set_cons_zero, List.set_cons_succ]
  refine wpAnyH_take (i := 16) (v := ?_) rfl (by kernel_rfl) (by kernel_rfl) (by kernel_rfl) (fun _ _ _ h => h) (Or.inl ⟨by rfl, ?_⟩) (by assumption) ?_
  rotate_left
  · intro w hSw; (try dsimp only at hSw); go_simp; try with_reducible rfl
  try simp only [Act.put, List.getElem_toArray, List.getElem_cons_zero, List.getElem_cons_succ, List.setIfInBounds_toArray, List.set_cons_zero, List.set_cons_succ]
  refine wpAnyH_take (i := 17) (v := ?_) rfl (by kernel_rfl) (by kernel_rfl) (by kernel_rfl) (fun _ _ _ h => h) (Or.inl ⟨by rfl, ?_⟩) (by assumption) ?_
  rotate_left
  · intro w hSw; (try dsimp only at hSw); go_simp; try with_reducible rfl
  try simp only [Act.put, List.getElem_toArray, List.getElem_cons_zero, List.getElem_cons_succ, List.setIfInBounds_toArray, List.set_cons_zero, List.set_cons_succ]
  refine wpAnyH_ready (rs := [11]) (by kernel_rfl) (by simp) ?_
  refine AllReadyH.cons rfl (fun K hK => ?_) AllReadyH.nil
  try simp only [List.getElem_toArray, List.getElem_cons_zero, List.getElem_cons_succ]
  rw [if_pos (by rfl)]
  go_wp2_with (go_at_call 117; refine (HP7.out _ HK6.out).mono ?_; rintro e y11 ⟨rfl, hY11⟩)
  have z11 := Lib.hid hY11
  clear hY11
  refine hK.out _ _ (HSc.out _ z11.out) (fun _ => ?_)
  clear hK K
  try simp only [Act.put, List.getElem_toArray, List.getElem_cons_zero, List.getElem_cons_succ, List.setIfInBounds_toArray, List.set_cons_zero, List.set_cons_succ]
  refine wpAnyH_ready (rs := [12]) (by kernel_rfl) (by simp) ?_
  refine AllReadyH.cons rfl (fun K hK => ?_) AllReadyH.nil
  try simp only [List.getElem_toArray, List.getElem_cons_zero, List.getElem_cons_succ]
  rw [if_pos (by rfl)]
  go_wp2_with (go_at_call 182; refine (HR7.out _ z11.out).mono ?_; rintro e y12 ⟨rfl, hY12⟩)
  have z12 := Lib.hid hY12
  clear hY12
  refine hK.out _ _ (HSc.out _ z12.out) (fun _ => ?_)
  clear hK K
  try simp only [Act.put, List.getElem_toArray, List.getElem_cons_zero, List.getElem_cons_succ, List.setIfInBounds_toArray, List.set_cons_zero, List.set_cons_succ]
  refine wpAnyH_ready (rs := [13]) (by kernel_rfl) (by simp) ?_
  refine AllReadyH.cons rfl (fun K hK => ?_) AllReadyH.nil
  try simp only [List.getElem_toArray, List.getElem_cons_zero, List.getElem_cons_succ]
  rw [if_pos (by rfl)]
  go_wp2_with (go_at_call 140; refine (HS7.out _ z12.out).mono ?_; rintro e y13 ⟨rfl, hY13⟩)
  have z13 := Lib.hid hY13
  clear hY13
  refine hK.out _ _ (HSc.out _ z13.out) (fun _ => ?_)
  clear hK K
  try simp only [Act.put, List.getElem_toArray, List.getElem_cons_zero, List.getElem_cons_succ, List.setIfInBounds_toArray, List.set_cons_zero, List.set_cons_succ]
  refine wpAnyH_ready (rs := [18]) (by kernel_rfl) (by simp) ?_
  refine AllReadyH.cons rfl (fun K hK => ?_) AllReadyH.nil
  try simp only [List.getElem_toArray, List.getElem_cons_zero, List.getElem_cons_succ]
  rw [if_pos (by rfl)]
  go_wp2_with (go_at_call 157; refine (HM7.out _ z13.out).mono ?_; rintro e y18 ⟨rfl, hY18⟩)
  have z18 := Lib.hid hY18
  clear hY18
  refine hK.out _ _ (HSc.out _ z18.out) (fun _ => ?_)
  clear hK K
  try simp only [Act.put, List.getElem_toArray, List.getElem_cons_zero, List.getElem_cons_succ, List.setIfInBounds_toArray, List.set_cons_zero, List.set_cons_succ]
  refine wpAnyH_ready (rs := [19]) (by kernel_rfl) (by simp) ?_
  refine AllReadyH.cons rfl (fun K hK => ?_) AllReadyH.nil
  try simp only [List.getElem_toArray, List.getElem_cons_zero, List.getElem_cons_succ]
  rw [if_pos (by rfl)]
  go_wp2_with (go_at_call 181; refine (HP9.out _ z18.out).mono ?_; rintro e y19 ⟨rfl, hY19⟩)
  have z19 := Lib.hid hY19
  clear hY19
  refine hK.out _ _ (HSc.out _ z19.out) (fun _ => ?_)
  clear hK K
  try simp only [Act.put, List.getElem_toArray, List.getElem_cons_zero, List.getElem_cons_succ, List.setIfInBounds_toArray, List.set_cons_zero, List.set_cons_succ]
  refine wpAnyH_ready (rs := [20]) (by kernel_rfl) (by simp) ?_
  refine AllReadyH.cons rfl (fun K hK => ?_) AllReadyH.nil
  try simp only [List.getElem_toArray, List.getElem_cons_zero, List.getElem_cons_succ]
  rw [if_pos (by rfl)]
  refine wp_store_row _ _ _ rfl _ _ rfl rfl _ _ (z19.out.2.2.2.1) size_three rfl (three_one _) ?_
  refine hK.out _ _ (HSt.out _ z19.out) (fun _ => ?_)
  clear hK K
  try simp only [Act.put, List.getElem_toArray, List.getElem_cons_zero, List.getElem_cons_succ, List.setIfInBounds_toArray, List.set_cons_zero, List.set_cons_succ]
  refine wpAnyH_done (by kernel_rfl) ?_ _
  go_wp2
  refine bodyPost_ret (results_cell_row rfl _ _ _ _ _ _ _ rfl (z19.out.2.2.2.1.setRow _) Tryz.underlying69 rfl size_three) (by rfl) ?_
  exact ⟨j, rfl, fin.out.1, fin.out.2.1, fin.out.2.2.1, fin.out.2.2.2, below_setRow z19.out.2.2.2.2 (by omega) _⟩
end Go.Proofs.YtemoginoanhjlaaGreat
end

section
/- Equality of threes of words. -/
set_option linter.unusedVariables false
set_option linter.unusedSimpArgs false
namespace Go.Proofs.YtemoginoanhjlaaGreat
open Go.RowKit
@[go_sem] theorem eq_three (a b c d e f : Int) (w : World) : (Op.equalIn 10000 69 (.agg #[.int .u64 a, .int .u64 b, .int .u64 c]) (.agg #[.int .u64 d, .int .u64 e, .int .u64 f])).run Tryz.prog w = .ok (a == d && b == e && c == f) w := by
  have u3 := Tryz.underlying22
  have a3 := Tryz.isAgg22
  have z3 := Tryz.sizeOf22
  rw [show (10000 : Nat) = 9999 + 1 from rfl, Op.equalIn]
  simp only [Sem.run_bind, run_underlying Tryz.underlying69, Result.andThen_ok]
  simp only [Std.Legacy.Range.forIn_eq_forIn_range', Std.Legacy.Range.size, Nat.sub_zero, Nat.add_sub_cancel, Nat.div_one, List.range'_succ, List.range'_zero, List.forIn_cons, List.forIn_nil]
  go_simp
  by_cases h1 : a = d <;> by_cases h2 : b = e <;> by_cases h3 : c = f <;> simp [h1, h2, h3]
@[go_sem] theorem eq_words (a b c d e f : Int) (w : World) : (Op.equalIn 10000 58 (.agg #[.int .u64 a, .int .u64 b, .int .u64 c]) (.agg #[.int .u64 d, .int .u64 e, .int .u64 f])).run Tryz.prog w = .ok (a == d && b == e && c == f) w := by
  have u3 := Tryz.underlying22
  have a3 := Tryz.isAgg22
  have z3 := Tryz.sizeOf22
  rw [show (10000 : Nat) = 9999 + 1 from rfl, Op.equalIn]
  simp only [Sem.run_bind, run_underlying Tryz.underlying58, Result.andThen_ok]
  simp only [Std.Legacy.Range.forIn_eq_forIn_range', Std.Legacy.Range.size, Nat.sub_zero, Nat.add_sub_cancel, Nat.div_one, List.range'_succ, List.range'_zero, List.forIn_cons, List.forIn_nil]
  go_simp
  by_cases h1 : a = d <;> by_cases h2 : b = e <;> by_cases h3 : c = f <;> simp [h1, h2, h3]
theorem eqn_dec (a b : Nat) (ha : a < 6277101735386680763835789423207666416102355444464034512896) (hb : b < 6277101735386680763835789423207666416102355444464034512896) : (((a % 18446744073709551616 : Nat) : Int) == ((b % 18446744073709551616 : Nat) : Int) && ((a / 18446744073709551616 % 18446744073709551616 : Nat) : Int) == ((b / 18446744073709551616 % 18446744073709551616 : Nat) : Int) && ((a / 340282366920938463463374607431768211456 % 18446744073709551616 : Nat) : Int) == ((b / 340282366920938463463374607431768211456 % 18446744073709551616 : Nat) : Int)) = decide (a = b) := by
  rw [Bool.eq_iff_iff]
  simp only [decide_eq_true_eq, Bool.and_eq_true, beq_iff_eq]
  omega
theorem eqn_three (a b : Nat) (ha : a < 6277101735386680763835789423207666416102355444464034512896) (hb : b < 6277101735386680763835789423207666416102355444464034512896) (w : World) : (Op.equalIn 10000 69 (.agg (three a)) (.agg (three b))).run Tryz.prog w = .ok (decide (a = b)) w := by
  have h := eq_three ((a % 18446744073709551616 : Nat) : Int) ((a / 18446744073709551616 % 18446744073709551616 : Nat) : Int) ((a / 340282366920938463463374607431768211456 % 18446744073709551616 : Nat) : Int) ((b % 18446744073709551616 : Nat) : Int) ((b / 18446744073709551616 % 18446744073709551616 : Nat) : Int) ((b / 340282366920938463463374607431768211456 % 18446744073709551616 : Nat) : Int) w
  rw [eqn_dec a b ha hb] at h
  exact h
theorem eqn_words (a b : Nat) (ha : a < 6277101735386680763835789423207666416102355444464034512896) (hb : b < 6277101735386680763835789423207666416102355444464034512896) (w : World) : (Op.equalIn 10000 58 (.agg (three a)) (.agg (three b))).run Tryz.prog w = .ok (decide (a = b)) w := by
  have h := eq_words ((a % 18446744073709551616 : Nat) : Int) ((a / 18446744073709551616 % 18446744073709551616 : Nat) : Int) ((a / 340282366920938463463374607431768211456 % 18446744073709551616 : Nat) : Int) ((b % 18446744073709551616 : Nat) : Int) ((b / 18446744073709551616 % 18446744073709551616 : Nat) : Int) ((b / 340282366920938463463374607431768211456 % 18446744073709551616 : Nat) : Int) w
  rw [eqn_dec a b ha hb] at h
  exact h
end Go.Proofs.YtemoginoanhjlaaGreat
end
