/- limbs: sums and differences. -/
import Derived.Test.YtemoginoanhjlaaGreatArr
import Derived.Test.YtemoginoanhjlaaGreatWMontModB
import Derived.Deep.RegionHeld3
set_option linter.unusedVariables false
set_option linter.unusedSimpArgs false
set_option linter.unusedSectionVars false
section
/- limbs: sums and differences. -/
namespace Go.Proofs.YtemoginoanhjlaaGreat
open Go.RowKit
theorem info_three : (Tryz.prog.info? 69).map (fun i => (i.zero, i.size)) = some (some (.agg (three 0)), 3) := by kernel_rfl
theorem size_three : (Tryz.prog.info? 69).map (·.size) = some 3 := by kernel_rfl
def cyA (a b i : Nat) : Nat := (a % 18446744073709551616 ^ i + b % 18446744073709551616 ^ i) / 18446744073709551616 ^ i
theorem cyA_zero (a b : Nat) : cyA a b 0 = 0 := by simp [cyA, Nat.mod_one]
theorem cyA_le (a b i : Nat) : cyA a b i ≤ 1 := by
  unfold cyA
  have hP : 0 < 18446744073709551616 ^ i := Nat.pow_pos (by omega)
  have h1 := Nat.mod_lt a hP
  have h2 := Nat.mod_lt b hP
  generalize 18446744073709551616 ^ i = P at *
  exact Nat.lt_succ_iff.1 (Nat.div_lt_of_lt_mul (by omega))
theorem cyA_next (a b i : Nat) (hi : i < 3) : (wd a i + wd b i + cyA a b i) / 18446744073709551616 = cyA a b (i + 1) ∧ (wd a i + wd b i + cyA a b i) % 18446744073709551616 = wd (a + b) i := by
  unfold cyA wd
  match i, hi with
  | 0, _ => simp only [Nat.reducePow, Nat.reduceAdd]; omega
  | 1, _ => simp only [Nat.reducePow, Nat.reduceAdd]; omega
  | 2, _ => simp only [Nat.reducePow, Nat.reduceAdd]; omega
theorem add_run (a b i : Nat) (hlt : i < 3) (W : World) : (callFunc 132 #[.int .u64 (wd a i : Nat), .int .u64 (wd b i : Nat), .int .u64 (cyA a b i : Nat)]).run Tryz.prog W = .ok (.value (.tuple #[.int .u64 (wd (a + b) i : Nat), .int .u64 (cyA a b (i + 1) : Nat)])) W := by
  have b0 := wd_lt a i
  have b1 := wd_lt b i
  have b2 := cyA_le a b i
  obtain ⟨n1, n2⟩ := cyA_next a b i hlt
  rw [add64_run _ _ _ (by omega) (by omega) (by omega) (by omega) (by omega) (by omega), ← n1, ← n2]
  have e1 : (((wd a i + wd b i + cyA a b i : Nat) : Int)) = (wd a i : Int) + (wd b i : Int) + (cyA a b i : Int) := by omega
  rw [Int.natCast_emod, Int.natCast_ediv, e1]; rfl
set_option maxHeartbeats 1000000 in
set_option maxRecDepth 100000 in
theorem ladd_any (a b : Nat) (w : World) :
    Calls Tryz.prog 213 #[.agg (three a), .agg (three b)] w fun e w' => e = .returned (.tuple #[.agg (three (a + b)), .bool (decide (cyA a b 3 = 1))]) ∧ Below w.heap.size w w' := by
  have hz := (zero_of_info info_three).1
  have hrun : Hid (∀ i, i < 3 → ∀ W, (callFunc 132 #[.int .u64 (wd a i : Nat), .int .u64 (wd b i : Nat), .int .u64 (cyA a b i : Nat)]).run Tryz.prog W = .ok (.value (.tuple #[.int .u64 (wd (a + b) i : Nat), .int .u64 (cyA a b (i + 1) : Nat)])) W) := Lib.hid (fun i hlt => add_run a b i hlt)
  obtain ⟨d, hd⟩ : ∃ d, d = a + b := ⟨_, rfl⟩
  rw [← hd] at hrun ⊢
  clear hd
  have R0 := Lib.hid (Rows4.new w 69 (three a) 69 (three b) 69 (three 0) 69 (three 0))
  go_enter Tryz.func213, Tryz.ntmps213
  go_wp2
  generalize ((((w.alloc (.cells (three a) 69)).alloc (.cells (three b) 69)).alloc (.cells (three 0) 69)).alloc (.cells (three 0) 69)) = w1 at *
  go_loopw [7, 9] (fun C I wr => ∃ i : Nat, I = .int .i64 i ∧ i ≤ 3 ∧ C = .int .u64 (cyA a b i : Nat) ∧ Hid (Rows4 w wr 69 (three a) 69 (three b) 69 (three 0) 69 (three (d % 18446744073709551616 ^ i)))) (fun _ I _ => 3 - (intOf I).toNat)
  case atStart => exact ⟨0, rfl, by omega, by rw [cyA_zero]; rfl, Lib.hid (by rw [Nat.pow_zero, Nat.mod_one]; exact R0.out)⟩
  case round =>
    clear R0
    obtain ⟨i, rfl, hi, rfl, R⟩ := hrel
    by_cases hlt : i < 3
    · have hc0 := R.out.1.cell (three_get a i hlt)
      have hc1 := R.out.2.1.cell (three_get b i hlt)
      have hA : (∀ W, (callFunc 132 #[.int .u64 (wd a i : Nat), .int .u64 (wd b i : Nat), .int .u64 (cyA a b i : Nat)]).run Tryz.prog W = .ok (.value (.tuple #[.int .u64 (wd d i : Nat), .int .u64 (cyA a b (i + 1) : Nat)])) W) := hrun.out i hlt
      have e0 := R.out.2.2.2.1.cell (three_get _ i hlt)
      have e1 := R.out.2.2.2.1.frozen i
      have hst := three_next (n := d) hlt
      obtain ⟨z, hz'⟩ : ∃ z, z = wd d i := ⟨_, rfl⟩
      rw [← hz'] at hst hA
      have R' := Lib.hid (R.out.set i (.int .u64 (z : Nat)) hst)
      have f0 : (0 : Int) ≤ (i : Int) := by omega
      have f1 : (i : Int) < 3 := by omega
      have HK0 : Hid ((wr.setCell ⟨w.heap.size + 1 + 1 + 1, i, none⟩ (.int .u64 (z : Nat))).cell? ⟨w.heap.size, i, none⟩ = some (.int .u64 (wd a i : Nat))) := Lib.hid (R'.out.1.cell (three_get a i hlt))
      have HK1 : Hid ((wr.setCell ⟨w.heap.size + 1 + 1 + 1, i, none⟩ (.int .u64 (z : Nat))).cell? ⟨w.heap.size + 1, i, none⟩ = some (.int .u64 (wd b i : Nat))) := Lib.hid (R'.out.2.1.cell (three_get b i hlt))
      obtain ⟨x, hx⟩ : ∃ x, x = wd a i := ⟨_, rfl⟩
      obtain ⟨y, hy⟩ : ∃ y, y = wd b i := ⟨_, rfl⟩
      obtain ⟨k, hk⟩ : ∃ k, k = cyA a b i := ⟨_, rfl⟩
      obtain ⟨k', hk'⟩ : ∃ k', k' = cyA a b (i + 1) := ⟨_, rfl⟩
      rw [← hx] at hc0 hA HK0
      rw [← hy] at hc1 hA HK1
      rw [← hk, ← hk'] at hA
      rw [← hk]
      have HK := Lib.hid hk'
      clear hst hz' hx hy hk hk'
      go_upto_region 6 with fail
      go_region_held3 (fun wz => wz.cell? ⟨w.heap.size, i, none⟩ = some (.int .u64 (x : Nat)) ∧ wz.cell? ⟨w.heap.size + 1, i, none⟩ = some (.int .u64 (y : Nat)))
        (first | exact ⟨HK0.out, HK1.out⟩ | go_keep | assumption)
        (fail)
      go_wp2
      go_roundw
      case rel => exact ⟨i + 1, by go_num, by omega, by rw [HK.out], Lib.hid (R'.out.drewN 1)⟩
      case measure => simp [intOf]; omega
    · obtain rfl : i = 3 := by omega
      have r3 := R.out.2.2.2.1
      rw [show (18446744073709551616 : Nat) ^ 3 = 6277101735386680763835789423207666416102355444464034512896 by rfl, three_mod] at r3
      have HE : Hid (((((cyA a b 3 : Nat) : Int)) == 1) = decide (cyA a b 3 = 1)) := Lib.hid (by rw [Bool.eq_iff_iff]; simp; omega)
      have r2 := R.out.2.2.1
      obtain ⟨r2', hB'⟩ := R.out.ret (three d)
      have HB' := Lib.hid hB'
      clear hB' R
      go_wp2_with (first | (refine wpList_load_row rfl _ _ rfl _ rfl _ _ _ _ r3 Tryz.underlying69 rfl size_three ?_) | (refine wpList_store_row rfl _ _ _ rfl _ _ rfl rfl _ _ r2 size_three rfl (three_one _) ?_))
      refine bodyPost_ret (results_row_tmp rfl _ _ _ _ _ _ rfl r2' Tryz.underlying69 rfl size_three) (by rfl) ?_
      exact ⟨by simp [HE.out], HB'.out⟩

/-- What is taken away: the borrow. -/
def cyS (a b i : Nat) : Nat := if a % 18446744073709551616 ^ i < b % 18446744073709551616 ^ i then 1 else 0
theorem cyS_zero (a b : Nat) : cyS a b 0 = 0 := by simp [cyS, Nat.mod_one]
theorem cyS_le (a b i : Nat) : cyS a b i ≤ 1 := by unfold cyS; split <;> omega
def dif (a b : Nat) : Nat := a % 6277101735386680763835789423207666416102355444464034512896 + 6277101735386680763835789423207666416102355444464034512896 - b % 6277101735386680763835789423207666416102355444464034512896
theorem cyS_next (a b i : Nat) (hi : i < 3) : (if wd a i < wd b i + cyS a b i then 1 else 0) = cyS a b (i + 1) ∧ (wd a i + 18446744073709551616 - wd b i - cyS a b i) % 18446744073709551616 = wd (dif a b) i := by
  unfold cyS wd dif
  match i, hi with
  | 0, _ => simp only [Nat.reducePow, Nat.reduceAdd, Nat.mod_one, Nat.div_one]; constructor <;> (repeat' split) <;> omega
  | 1, _ => simp only [Nat.reducePow, Nat.reduceAdd]; constructor <;> (repeat' split) <;> omega
  | 2, _ => simp only [Nat.reducePow, Nat.reduceAdd]; constructor <;> (repeat' split) <;> omega
def sub64Ent : Array Value → Sem Value := fun args => do
  let (x, y, b) ← Extern.MathBitsCarry.three "Sub64" args
  pure (Extern.MathBitsCarry.pair ((x + Extern.MathBitsCarry.m64 - y - b) % Extern.MathBitsCarry.m64) (if x < y + b then 1 else 0))
theorem run_sub64' {P : Program} (x y b : Nat) (hb : b ≤ 1) (w : World) :
    (sub64Ent #[.int .u64 x, .int .u64 y, .int .u64 b]).run P w =
      .ok (.tuple #[.int .u64 (((x + 18446744073709551616 - y - b) % 18446744073709551616 : Nat) : Int), .int .u64 ((if x < y + b then 1 else 0 : Nat) : Int)]) w := by
  have : b = 0 ∨ b = 1 := by omega
  rcases this with rfl | rfl <;> rfl
theorem sub_run (a b i : Nat) (hlt : i < 3) (W : World) : (callFunc 135 #[.int .u64 (wd a i : Nat), .int .u64 (wd b i : Nat), .int .u64 (cyS a b i : Nat)]).run Tryz.prog W = .ok (.value (.tuple #[.int .u64 (wd (dif a b) i : Nat), .int .u64 (cyS a b (i + 1) : Nat)])) W := by
  obtain ⟨n1, n2⟩ := cyS_next a b i hlt
  rw [run_callFunc_extern Tryz.func135 (by kernel_rfl) (by kernel_rfl) (by kernel_rfl) (e := sub64Ent) (by kernel_rfl), run_sub64' _ _ _ (cyS_le a b i), n1, n2]
  rfl
set_option maxHeartbeats 1000000 in
set_option maxRecDepth 100000 in
theorem lsub_any (a b : Nat) (w : World) :
    Calls Tryz.prog 84 #[.agg (three a), .agg (three b)] w fun e w' => e = .returned (.tuple #[.agg (three (dif a b)), .bool (decide (cyS a b 3 = 1))]) ∧ Below w.heap.size w w' := by
  have hz := (zero_of_info info_three).1
  have hrun : Hid (∀ i, i < 3 → ∀ W, (callFunc 135 #[.int .u64 (wd a i : Nat), .int .u64 (wd b i : Nat), .int .u64 (cyS a b i : Nat)]).run Tryz.prog W = .ok (.value (.tuple #[.int .u64 (wd (dif a b) i : Nat), .int .u64 (cyS a b (i + 1) : Nat)])) W) := Lib.hid (fun i hlt => sub_run a b i hlt)
  obtain ⟨d, hd⟩ : ∃ d, d = dif a b := ⟨_, rfl⟩
  rw [← hd] at hrun ⊢
  clear hd
  have R0 := Lib.hid (Rows4.new w 69 (three a) 69 (three b) 69 (three 0) 69 (three 0))
  go_enter Tryz.func84, Tryz.ntmps84
  go_wp2
  generalize ((((w.alloc (.cells (three a) 69)).alloc (.cells (three b) 69)).alloc (.cells (three 0) 69)).alloc (.cells (three 0) 69)) = w1 at *
  go_loopw [7, 9] (fun C I wr => ∃ i : Nat, I = .int .i64 i ∧ i ≤ 3 ∧ C = .int .u64 (cyS a b i : Nat) ∧ Hid (Rows4 w wr 69 (three a) 69 (three b) 69 (three 0) 69 (three (d % 18446744073709551616 ^ i)))) (fun _ I _ => 3 - (intOf I).toNat)
  case atStart => exact ⟨0, rfl, by omega, by rw [cyS_zero]; rfl, Lib.hid (by rw [Nat.pow_zero, Nat.mod_one]; exact R0.out)⟩
  case round =>
    clear R0
    obtain ⟨i, rfl, hi, rfl, R⟩ := hrel
    by_cases hlt : i < 3
    · have hc0 := R.out.1.cell (three_get a i hlt)
      have hc1 := R.out.2.1.cell (three_get b i hlt)
      have hA : (∀ W, (callFunc 135 #[.int .u64 (wd a i : Nat), .int .u64 (wd b i : Nat), .int .u64 (cyS a b i : Nat)]).run Tryz.prog W = .ok (.value (.tuple #[.int .u64 (wd d i : Nat), .int .u64 (cyS a b (i + 1) : Nat)])) W) := hrun.out i hlt
      have e0 := R.out.2.2.2.1.cell (three_get _ i hlt)
      have e1 := R.out.2.2.2.1.frozen i
      have hst := three_next (n := d) hlt
      obtain ⟨z, hz'⟩ : ∃ z, z = wd d i := ⟨_, rfl⟩
      rw [← hz'] at hst hA
      have R' := Lib.hid (R.out.set i (.int .u64 (z : Nat)) hst)
      have f0 : (0 : Int) ≤ (i : Int) := by omega
      have f1 : (i : Int) < 3 := by omega
      have HK0 : Hid ((wr.setCell ⟨w.heap.size + 1 + 1 + 1, i, none⟩ (.int .u64 (z : Nat))).cell? ⟨w.heap.size, i, none⟩ = some (.int .u64 (wd a i : Nat))) := Lib.hid (R'.out.1.cell (three_get a i hlt))
      have HK1 : Hid ((wr.setCell ⟨w.heap.size + 1 + 1 + 1, i, none⟩ (.int .u64 (z : Nat))).cell? ⟨w.heap.size + 1, i, none⟩ = some (.int .u64 (wd b i : Nat))) := Lib.hid (R'.out.2.1.cell (three_get b i hlt))
      obtain ⟨x, hx⟩ : ∃ x, x = wd a i := ⟨_, rfl⟩
      obtain ⟨y, hy⟩ : ∃ y, y = wd b i := ⟨_, rfl⟩
      obtain ⟨k, hk⟩ : ∃ k, k = cyS a b i := ⟨_, rfl⟩
      obtain ⟨k', hk'⟩ : ∃ k', k' = cyS a b (i + 1) := ⟨_, rfl⟩
      rw [← hx] at hc0 hA HK0
      rw [← hy] at hc1 hA HK1
      rw [← hk, ← hk'] at hA
      rw [← hk]
      have HK := Lib.hid hk'
      clear hst hz' hx hy hk hk'
      go_upto_region 6 with fail
      go_region_held3 (fun wz => wz.cell? ⟨w.heap.size, i, none⟩ = some (.int .u64 (x : Nat)) ∧ wz.cell? ⟨w.heap.size + 1, i, none⟩ = some (.int .u64 (y : Nat)))
        (first | exact ⟨HK0.out, HK1.out⟩ | go_keep | assumption)
        (fail)
      go_wp2
      go_roundw
      case rel => exact ⟨i + 1, by go_num, by omega, by rw [HK.out], Lib.hid (R'.out.drewN 1)⟩
      case measure => simp [intOf]; omega
    · obtain rfl : i = 3 := by omega
      have r3 := R.out.2.2.2.1
      rw [show (18446744073709551616 : Nat) ^ 3 = 6277101735386680763835789423207666416102355444464034512896 by rfl, three_mod] at r3
      have HE : Hid (((((cyS a b 3 : Nat) : Int)) == 1) = decide (cyS a b 3 = 1)) := Lib.hid (by rw [Bool.eq_iff_iff]; simp; omega)
      have r2 := R.out.2.2.1
      obtain ⟨r2', hB'⟩ := R.out.ret (three d)
      have HB' := Lib.hid hB'
      clear hB' R
      go_wp2_with (first | (refine wpList_load_row rfl _ _ rfl _ rfl _ _ _ _ r3 Tryz.underlying69 rfl size_three ?_) | (refine wpList_store_row rfl _ _ _ rfl _ _ rfl rfl _ _ r2 size_three rfl (three_one _) ?_))
      refine bodyPost_ret (results_row_tmp rfl _ _ _ _ _ _ rfl r2' Tryz.underlying69 rfl size_three) (by rfl) ?_
      exact ⟨by simp [HE.out], HB'.out⟩
end Go.Proofs.YtemoginoanhjlaaGreat
end

section
/- limbs: products by a word, comparing, rests, halves, signs. -/
namespace Go.Proofs.YtemoginoanhjlaaGreat
open Go.RowKit
def cyM (a k i : Nat) : Nat := (a % 18446744073709551616 ^ i) * k / 18446744073709551616 ^ i
theorem cyM_zero (a k : Nat) : cyM a k 0 = 0 := by simp [cyM, Nat.mod_one]
theorem cyM_le (a k i : Nat) : cyM a k i ≤ k := by
  unfold cyM
  have hP : 0 < 18446744073709551616 ^ i := Nat.pow_pos (by omega)
  have h1 := Nat.mod_lt a hP
  generalize 18446744073709551616 ^ i = P at *
  exact Nat.div_le_of_le_mul (Nat.mul_le_mul_right k (Nat.le_of_lt h1))
theorem mod_wd (a i : Nat) : a % 18446744073709551616 ^ (i + 1) = a % 18446744073709551616 ^ i + 18446744073709551616 ^ i * wd a i := by
  unfold wd
  rw [Nat.pow_succ, Nat.mod_mul]
theorem cyM_next (a k i : Nat) : (wd a i * k + cyM a k i) / 18446744073709551616 = cyM a k (i + 1) ∧ (wd a i * k + cyM a k i) % 18446744073709551616 = wd (a * k) i := by
  have hP : 0 < 18446744073709551616 ^ i := Nat.pow_pos (by omega)
  constructor
  · unfold cyM
    rw [mod_wd, Nat.add_mul, Nat.mul_assoc, Nat.pow_succ, ← Nat.div_div_eq_div_mul, Nat.add_mul_div_left _ _ hP, Nat.add_comm]
  · have h1 : a * k / 18446744073709551616 ^ i = cyM a k i + (a / 18446744073709551616 ^ i) * k := by
      unfold cyM
      have h2 : a * k = (a % 18446744073709551616 ^ i) * k + 18446744073709551616 ^ i * ((a / 18446744073709551616 ^ i) * k) := by
        rw [← Nat.mul_assoc, ← Nat.add_mul, Nat.mod_add_div]
      conv => lhs; rw [h2]
      rw [Nat.add_mul_div_left _ _ hP]
    unfold wd
    rw [h1]
    have h3 := Nat.div_add_mod (a / 18446744073709551616 ^ i) 18446744073709551616
    generalize a / 18446744073709551616 ^ i = q at *
    have h4 : q * k = (q % 18446744073709551616) * k + 18446744073709551616 * ((q / 18446744073709551616) * k) := by
      rw [← Nat.mul_assoc, ← Nat.add_mul, Nat.mod_add_div]
    rw [h4]
    generalize q % 18446744073709551616 * k = u
    generalize q / 18446744073709551616 * k = v
    omega
set_option maxHeartbeats 1000000 in
set_option maxRecDepth 100000 in
theorem lscale_any (a k : Nat) (hk : k < 18446744073709551616) (w : World) :
    Calls Tryz.prog 75 #[.agg (three a), .int .u64 (k : Nat)] w fun e w' => e = .returned (.tuple #[.agg (three (a * k)), .int .u64 (cyM a k 3 : Nat)]) ∧ Below w.heap.size w w' := by
  have hz := (zero_of_info info_three).1
  obtain ⟨d, hd⟩ : ∃ d, d = a * k := ⟨_, rfl⟩
  have HD := Lib.hid hd
  rw [← hd]
  clear hd
  have R0 := Lib.hid (Rows3.new w 69 (three a) 69 (three 0) 69 (three 0))
  go_enter Tryz.func75, Tryz.ntmps75
  have r0 := R0.out.1
  go_wp2_with (first | (refine wpList_load_row rfl _ _ rfl _ rfl _ _ _ _ r0 Tryz.underlying69 rfl size_three ?_))
  generalize (((w.alloc (.cells (three a) 69)).alloc (.cells (three 0) 69)).alloc (.cells (three 0) 69)) = w1 at *
  go_loopw [7, 15] (fun C I wr => ∃ i : Nat, I = .int .i64 i ∧ i ≤ 3 ∧ C = .int .u64 (cyM a k i : Nat) ∧ Hid (Rows3 w wr 69 (three a) 69 (three 0) 69 (three (d % 18446744073709551616 ^ i)))) (fun _ I _ => 3 - (intOf I).toNat)
  case atStart => exact ⟨0, rfl, by omega, by rw [cyM_zero]; rfl, Lib.hid (by rw [Nat.pow_zero, Nat.mod_one]; exact R0.out)⟩
  case round =>
    clear R0 r0
    obtain ⟨i, rfl, hi, rfl, R⟩ := hrel
    by_cases hlt : i < 3
    · have hix : ∀ W, (Instr.index 69 (.agg (three a)) (.int .i64 (i : Int))).run Tryz.prog W = .ok (.int .u64 (wd a i : Nat)) W := fun W => run_index_row _ _ _ _ _ _ _ Tryz.underlying69 rfl Tryz.underlying22 (by kernel_rfl) hlt (three_get a i hlt) W
      have e0 := R.out.2.2.1.cell (three_get _ i hlt)
      have e1 := R.out.2.2.1.frozen i
      have hst := three_next (n := d) hlt
      have f0 : (0 : Int) ≤ (i : Int) := by omega
      have f1 : (i : Int) < 3 := by omega
      have hM : ∀ W, Calls Tryz.prog 131 #[.int .u64 (wd a i : Nat), .int .u64 (k : Nat)] W fun e w' => e = .returned (.tuple #[.int .u64 (((wd a i * k / 18446744073709551616 : Nat)) : Int), .int .u64 (((wd a i * k % 18446744073709551616 : Nat)) : Int)]) ∧ W = w' := fun W => by
        have h1 := wd_lt a i
        have h2 := mul64_any (wd a i : Nat) (k : Nat) W (by omega) (by omega) (by omega) (by omega)
        rw [Int.natCast_ediv, Int.natCast_emod, Int.natCast_mul]; exact h2
      obtain ⟨n1, n2⟩ := cyM_next a k i
      rw [← HD.out] at n2
      have b1 := cyM_le a k (i + 1)
      obtain ⟨X, hX⟩ : ∃ X, X = wd a i * k := ⟨_, rfl⟩
      rw [← hX] at hM n1 n2
      obtain ⟨c, hc⟩ : ∃ c, c = cyM a k i := ⟨_, rfl⟩
      have b2 : c ≤ k := by rw [hc]; exact cyM_le a k i
      rw [← hc] at n1 n2
      rw [← hc]
      obtain ⟨c', hc'⟩ : ∃ c', c' = cyM a k (i + 1) := ⟨_, rfl⟩
      rw [← hc'] at n1 b1
      obtain ⟨z, hz'⟩ : ∃ z, z = wd d i := ⟨_, rfl⟩
      rw [← hz'] at n2 hst
      have hA : ∀ W, (callFunc 132 #[.int .u64 (((X % 18446744073709551616 : Nat)) : Int), .int .u64 (c : Nat), .int .u64 0]).run Tryz.prog W = .ok (.value (.tuple #[.int .u64 (z : Nat), .int .u64 ((((X % 18446744073709551616 + c) / 18446744073709551616 : Nat)) : Int)])) W := fun W => by
        rw [add64_run _ _ _ (by omega) (by omega) (by omega) (by omega) (by omega) (by omega)]
        have e1 : ((((X % 18446744073709551616 : Nat)) : Int) + (c : Int) + 0) = ((X % 18446744073709551616 + c : Nat) : Int) := by omega
        rw [e1, ← n2, show (X + c) % 18446744073709551616 = (X % 18446744073709551616 + c) % 18446744073709551616 by omega, Int.natCast_emod, Int.natCast_ediv]; rfl
      have hs : IntKind.u64.wrap (((X / 18446744073709551616 : Nat) : Int) + (((X % 18446744073709551616 + c) / 18446744073709551616 : Nat) : Int)) = (c' : Nat) := by
        rw [IntKind.wrap_u64]; omega
      have R' := Lib.hid (R.out.set i (.int .u64 (z : Nat)) hst)
      have HC' := Lib.hid hc'
      obtain ⟨hi1, hhi⟩ : ∃ h, h = X / 18446744073709551616 := ⟨_, rfl⟩
      obtain ⟨lo1, hlo⟩ : ∃ h, h = X % 18446744073709551616 := ⟨_, rfl⟩
      rw [← hhi, ← hlo] at hM
      rw [← hlo] at hA
      rw [← hhi, ← hlo] at hs
      obtain ⟨c1, hc1⟩ : ∃ h, h = (lo1 + c) / 18446744073709551616 := ⟨_, rfl⟩
      rw [← hc1] at hA hs
      obtain ⟨x, hx⟩ : ∃ x, x = wd a i := ⟨_, rfl⟩
      rw [← hx] at hM hix
      clear hst n1 n2 b1 b2 hX hc hc' hz' hhi hlo hc1 hx
      go_wp2_with (first | (go_at_call 131; refine (hM _).mono ?_; rintro e w9 ⟨rfl, rfl⟩))
      go_roundw
      case rel => exact ⟨i + 1, by go_num, by omega, by rw [HC'.out], R'⟩
      case measure => simp [intOf]; omega
    · obtain rfl : i = 3 := by omega
      have r3 := R.out.2.2.1
      rw [show (18446744073709551616 : Nat) ^ 3 = 6277101735386680763835789423207666416102355444464034512896 by rfl, three_mod] at r3
      have r2 := R.out.2.1
      obtain ⟨r2', hB'⟩ := R.out.ret (three d)
      have HB' := Lib.hid hB'
      clear hB' R HD
      go_wp2_with (first | (refine wpList_load_row rfl _ _ rfl _ rfl _ _ _ _ r3 Tryz.underlying69 rfl size_three ?_) | (refine wpList_store_row rfl _ _ _ rfl _ _ rfl rfl _ _ r2 size_three rfl (three_one _) ?_))
      refine bodyPost_ret (results_row_tmp rfl _ _ _ _ _ _ rfl r2' Tryz.underlying69 rfl size_three) (by rfl) ?_
      exact ⟨by simp, HB'.out⟩
end Go.Proofs.YtemoginoanhjlaaGreat
end

section
/- limbs: comparing, rests, halves, signs. -/
namespace Go.Proofs.YtemoginoanhjlaaGreat
open Go.RowKit
theorem div_wd (a i : Nat) : a / 18446744073709551616 ^ i = 18446744073709551616 * (a / 18446744073709551616 ^ (i + 1)) + wd a i := by
  unfold wd
  have h := Nat.div_add_mod (a / 18446744073709551616 ^ i) 18446744073709551616
  rw [Nat.pow_succ, ← Nat.div_div_eq_div_mul]; omega
def cmpN (a b : Nat) : Int := if a < b then -1 else if b < a then 1 else 0
theorem lt_of_div {x y P : Nat} (h : x / P < y / P) : x < y := by
  rcases Nat.lt_or_ge x y with h1 | h1
  · exact h1
  · have := Nat.div_le_div_right (c := P) h1; omega
theorem cmp_lt {a b i : Nat} (h : a / 18446744073709551616 ^ (i + 1) = b / 18446744073709551616 ^ (i + 1)) (hlt : wd a i < wd b i) : cmpN a b = -1 := by
  have h1 : a < b := lt_of_div (P := 18446744073709551616 ^ i) (by rw [div_wd a i, div_wd b i, h]; omega)
  unfold cmpN; rw [if_pos h1]
theorem cmp_gt {a b i : Nat} (h : a / 18446744073709551616 ^ (i + 1) = b / 18446744073709551616 ^ (i + 1)) (hlt : wd b i < wd a i) : cmpN a b = 1 := by
  have h1 : b < a := lt_of_div (P := 18446744073709551616 ^ i) (by rw [div_wd a i, div_wd b i, h]; omega)
  unfold cmpN; rw [if_neg (by omega), if_pos h1]
theorem cmp_next {a b i : Nat} (h : a / 18446744073709551616 ^ (i + 1) = b / 18446744073709551616 ^ (i + 1)) (h1 : ¬ wd a i < wd b i) (h2 : ¬ wd b i < wd a i) : a / 18446744073709551616 ^ i = b / 18446744073709551616 ^ i := by
  rw [div_wd a i, div_wd b i, h]; omega
theorem or_join' (x y : Int) (s : Nat) (hs : s ≤ 63) (hx0 : 0 ≤ x) (hx : x < 18446744073709551616) (hy0 : 0 ≤ y) (hd : x % ((2 ^ s : Nat) : Int) = 0) (hy : y < ((2 ^ s : Nat) : Int)) : bits .or .u64 y x = y + x := by
  rw [Int.add_comm, ← or_join x y s hs hx0 hx hy0 hd hy]
  obtain ⟨a, rfl⟩ := Int.eq_ofNat_of_zero_le hx0
  obtain ⟨b, rfl⟩ := Int.eq_ofNat_of_zero_le hy0
  have hp : 2 ^ s ≤ 2 ^ 63 := Nat.pow_le_pow_right (by omega) hs
  rw [u64_or_nat a b (by omega) (by omega), u64_or_nat b a (by omega) (by omega), Nat.or_comm]
set_option maxHeartbeats 1000000 in
set_option maxRecDepth 100000 in
theorem lcmp_any (a b : Nat) (ha : a < 6277101735386680763835789423207666416102355444464034512896) (hb : b < 6277101735386680763835789423207666416102355444464034512896) (w : World) :
    Calls Tryz.prog 77 #[.agg (three a), .agg (three b)] w fun e w' => e = .returned (.int .i64 (cmpN a b)) ∧ Below w.heap.size w w' := by
  have R0 := Lib.hid (Rows2.new w 69 (three a) 69 (three b))
  have h0 : Hid (a / 18446744073709551616 ^ 3 = b / 18446744073709551616 ^ 3) := Lib.hid (by simp only [Nat.reducePow]; omega)
  clear ha hb
  go_enter Tryz.func77, Tryz.ntmps77
  go_wp2_with fail
  generalize ((w.alloc (.cells (three a) 69)).alloc (.cells (three b) 69)) = w1 at *
  go_loopw [5] (fun I wr => ∃ i : Nat, I = .int .i64 ((i : Int) - 1) ∧ i ≤ 3 ∧ Hid (a / 18446744073709551616 ^ i = b / 18446744073709551616 ^ i) ∧ Hid (Rows2 w wr 69 (three a) 69 (three b))) (fun I _ => (intOf I + 1).toNat)
  case atStart => exact ⟨3, rfl, by omega, h0, R0⟩
  case round =>
    clear R0 h0
    obtain ⟨j, rfl, hi, hE, R⟩ := hrel
    rcases j with _ | i
    · have fin : Hid (cmpN a b = 0) := Lib.hid (by
        have h := hE.out
        rw [Nat.pow_zero, Nat.div_one, Nat.div_one] at h
        unfold cmpN; rw [h, if_neg (by omega), if_neg (by omega)])
      have t1 : decide ((((0 : Nat) : Int) - 1) ≥ 0) = false := by decide
      go_wp2
      go_ret
      exact ⟨ret_int fin.out.symm, R.out.2.2⟩
    · have e1 : (((i + 1 : Nat) : Int) - 1) = (i : Int) := by omega
      rw [e1]
      have f0 : (0 : Int) ≤ (i : Int) := by omega
      have f1 : (i : Int) < 3 := by omega
      have c0 := R.out.1.cell (three_get a i (by omega))
      have c1 := R.out.2.1.cell (three_get b i (by omega))
      have HB : Hid (∀ n, Below w.heap.size w (wr.drewN n)) := Lib.hid (fun n => below_drewN R.out.2.2 n)
      have t1 : decide ((i : Int) ≥ 0) = true := by simp
      obtain ⟨x, hx⟩ : ∃ x, x = wd a i := ⟨_, rfl⟩
      obtain ⟨y, hy⟩ : ∃ y, y = wd b i := ⟨_, rfl⟩
      rw [← hx] at c0
      rw [← hy] at c1
      have HX := Lib.hid hx
      have HY := Lib.hid hy
      clear hx hy e1
      by_cases k1 : x < y
      · have fin : Hid (cmpN a b = -1) := Lib.hid (cmp_lt hE.out (by rw [← HX.out, ← HY.out]; exact k1))
        have t2 : decide ((x : Int) < (y : Int)) = true := decide_eq_true (by omega)
        go_wp2
        go_quiet (fail)
        go_wp2
        go_ret
        exact ⟨ret_int fin.out.symm, HB.out _⟩
      · have t2 : decide ((x : Int) < (y : Int)) = false := decide_eq_false (by omega)
        by_cases k2 : y < x
        · have fin : Hid (cmpN a b = 1) := Lib.hid (cmp_gt hE.out (by rw [← HX.out, ← HY.out]; exact k2))
          have t3 : decide ((y : Int) < (x : Int)) = true := decide_eq_true (by omega)
          go_wp2
          go_quiet (fail)
          go_wp2
          go_quiet (fail)
          go_wp2
          go_ret
          exact ⟨ret_int fin.out.symm, below_drewN (HB.out _) _⟩
        · have t3 : decide ((y : Int) < (x : Int)) = false := decide_eq_false (by omega)
          have hn : Hid (a / 18446744073709551616 ^ i = b / 18446744073709551616 ^ i) := Lib.hid (cmp_next hE.out (by rw [← HX.out, ← HY.out]; exact k1) (by rw [← HX.out, ← HY.out]; exact k2))
          have R' : Hid (∀ n, Rows2 w (wr.drewN n) 69 (three a) 69 (three b)) := Lib.hid (fun n => ⟨R.out.1, R.out.2.1, HB.out n⟩)
          go_wp2
          go_quiet (fail)
          go_wp2
          go_quiet (fail)
          go_wp2
          go_roundw
          case rel => first | exact ⟨i, rfl, by omega, hn, R'.out _⟩ | exact ⟨i, rfl, by omega, hn, Lib.hid ⟨R.out.1, R.out.2.1, below_drewN (HB.out _) _⟩⟩
          case measure => simp [intOf]
set_option maxHeartbeats 1000000 in
set_option maxRecDepth 100000 in
theorem lrest_any (a m : Nat) (hm : m < 18446744073709551616) (w : World) :
    Calls Tryz.prog 182 #[.agg (three a), .int .u64 (m : Nat)] w fun e w' => e = .returned (.int .u64 (if m = 0 then 0 else ((a % 6277101735386680763835789423207666416102355444464034512896 % m : Nat) : Int))) ∧ Below w.heap.size w w' := by
  obtain ⟨R0, hB0⟩ := lay1 w 69 (three a)
  obtain ⟨A, hA⟩ : ∃ A, A = a % 6277101735386680763835789423207666416102355444464034512896 := ⟨_, rfl⟩
  rw [← hA]
  have HA : Hid (∀ i, i < 3 → wd A i = wd a i) := Lib.hid (fun i hi => by
    rw [hA]; unfold wd
    match i, hi with
    | 0, _ => simp only [Nat.reducePow]; omega
    | 1, _ => simp only [Nat.reducePow]; omega
    | 2, _ => simp only [Nat.reducePow]; omega)
  have h0 : Hid (A / 18446744073709551616 ^ 3 = 0) := Lib.hid (by simp only [Nat.reducePow]; omega)
  clear hA
  by_cases hz : m = 0
  · subst hz
    have HB := Lib.hid hB0
    clear hB0 R0
    go_enter Tryz.func182, Tryz.ntmps182
    go_wp2
    go_ret
    exact ⟨by simp, HB.out⟩
  · have t0 : (((m : Nat) : Int) == 0) = false := by simp; omega
    have HR0 := Lib.hid R0
    have HB0 := Lib.hid hB0
    rw [if_neg hz]
    clear R0 hB0
    go_enter Tryz.func182, Tryz.ntmps182
    go_wp2_with fail
    generalize (w.alloc (.cells (three a) 69)) = w1 at *
    go_loopw [5, 6] (fun C I wr => ∃ i : Nat, I = .int .i64 ((i : Int) - 1) ∧ i ≤ 3 ∧ C = .int .u64 ((A / 18446744073709551616 ^ i % m : Nat) : Int) ∧ Hid (RowAt wr w.heap.size 69 (three a)) ∧ Hid (Below w.heap.size w wr)) (fun _ I _ => (intOf I + 1).toNat)
    case atStart => exact ⟨3, rfl, by omega, by rw [h0.out]; simp, HR0, HB0⟩
    case round =>
      clear HR0 HB0
      obtain ⟨j, rfl, hi, rfl, R, HB⟩ := hrel
      rcases j with _ | i
      · have t1 : decide ((((0 : Nat) : Int) - 1) ≥ 0) = false := by decide
        go_wp2
        go_ret
        exact ⟨ret_int (by rw [Nat.pow_zero, Nat.div_one]), HB.out⟩
      · have e1 : (((i + 1 : Nat) : Int) - 1) = (i : Int) := by omega
        rw [e1]
        have f0 : (0 : Int) ≤ (i : Int) := by omega
        have f1 : (i : Int) < 3 := by omega
        have t1 : decide ((i : Int) ≥ 0) = true := by simp
        have c0 := R.out.cell (three_get a i (by omega))
        rw [← HA.out i (by omega)] at c0
        have hd := div_wd A i
        have b0 := wd_lt A i
        have hr := Nat.mod_lt (A / 18446744073709551616 ^ (i + 1)) (show 0 < m by omega)
        have hnext : A / 18446744073709551616 ^ i % m = (A / 18446744073709551616 ^ (i + 1) % m * 18446744073709551616 + wd A i) % m := by
          rw [hd, Nat.add_mod, Nat.mul_mod, Nat.mul_comm (18446744073709551616 % m), ← Nat.mul_mod]
          conv => rhs; rw [Nat.add_mod, Nat.mod_mul_mod]
        obtain ⟨r, hr'⟩ : ∃ r, r = A / 18446744073709551616 ^ (i + 1) % m := ⟨_, rfl⟩
        obtain ⟨x, hx⟩ : ∃ x, x = wd A i := ⟨_, rfl⟩
        rw [← hr'] at hnext hr
        rw [← hx] at hnext b0 c0
        rw [← hr']
        have hM : Hid (∀ W, Calls Tryz.prog 172 #[.int .u64 (r : Nat), .int .u64 (x : Nat), .int .u64 (m : Nat)] W fun e w' => e = .returned (.int .u64 ((A / 18446744073709551616 ^ i % m : Nat) : Int)) ∧ ∃ n, w' = W.drewN n) := Lib.hid (fun W => by
          have h := rem64_any (r : Nat) (x : Nat) (m : Nat) W (by omega) (by omega) (by omega) (by omega) (by omega) (by omega)
          rw [hnext, Int.natCast_emod, Int.natCast_add, Int.natCast_mul]; exact h)
        clear hd b0 hr hnext hr' hx e1
        go_wp2_with (first | (go_at_call 172; refine (hM.out _).mono ?_; rintro e w9 ⟨rfl, n, rfl⟩))
        go_roundw
        case rel => exact ⟨i, rfl, by omega, rfl, Lib.hid (R.out.drewN n), Lib.hid (below_drewN HB.out n)⟩
        case measure => simp [intOf]
end Go.Proofs.YtemoginoanhjlaaGreat
end
