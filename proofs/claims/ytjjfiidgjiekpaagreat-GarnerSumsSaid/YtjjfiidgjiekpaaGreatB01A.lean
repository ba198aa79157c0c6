/- epicycleref01: bits, words, comparing, rests, sums, moving. -/
import Derived.Test.YtjjfiidgjiekpaaGreatWLimDGarA
set_option linter.unusedVariables false
set_option linter.unusedSimpArgs false
set_option linter.unusedSectionVars false
namespace Go.Proofs.YtjjfiidgjiekpaaGreat
open Go.RowKit
theorem info_bits : (Tryz.prog.info? 38).map (fun i => (i.zero, i.size)) = some (some (.agg (bcells 0)), 256) := by kernel_rfl
theorem size_bits : (Tryz.prog.info? 38).map (·.size) = some 256 := by kernel_rfl
theorem info_words : (Tryz.prog.info? 28).map (fun i => (i.zero, i.size)) = some (some (.agg (three 0)), 3) := by kernel_rfl
theorem size_words : (Tryz.prog.info? 28).map (·.size) = some 3 := by kernel_rfl
theorem two_le {i n : Nat} (h : i ≤ n) : 2 ^ i ≤ 2 ^ n := Nat.pow_le_pow_right (by omega) h
theorem r1power_any (n : Nat) (hn : n < 64) (w : World) :
    Calls Tryz.prog 100 #[.int .i64 (n : Int)] w fun e w' => e = .returned (.int .u64 ((2 ^ n : Nat) : Int)) ∧ w = w' := by
  go_enter Tryz.func100, Tryz.ntmps100
  go_wp2_with fail
  go_loop [3, 4] (fun P I => ∃ i : Nat, I = .int .i64 i ∧ i ≤ n ∧ P = .int .u64 ((2 ^ i : Nat) : Int)) (fun _ I => n - (intOf I).toNat)
  case atStart => exact ⟨0, rfl, by omega, rfl⟩
  case round =>
    obtain ⟨i, rfl, hi, rfl⟩ := hrel
    by_cases hlt : i < n
    · have h1 : 2 ^ (i + 1) ≤ 2 ^ 63 := two_le (by omega)
      have h2 : 2 ^ (i + 1) = 2 * 2 ^ i := by rw [Nat.pow_succ]; omega
      obtain ⟨v, hv⟩ : ∃ v, v = 2 ^ i := ⟨_, rfl⟩
      rw [← hv] at h2 ⊢
      have h3 : v ≤ 4611686018427387904 := by rw [h2] at h1; simp only [Nat.reducePow] at h1; omega
      have HV := Lib.hid h2
      clear h1 h2 hv
      go_wp2
      go_round
      case rel => exact ⟨i + 1, by go_num, by omega, by rw [HV.out]; go_num⟩
      case measure => simp [intOf]; omega
    · obtain rfl : i = n := by omega
      go_wp2
      go_ret
      exact ⟨rfl, rfl⟩
theorem bit_words {a i : Nat} : a.testBit i = decide (wd a (i / 64) / 2 ^ (i % 64) % 2 = 1) := by
  rw [wd_pow]
  have h1 : (a / 2 ^ (64 * (i / 64)) % 2 ^ 64).testBit (i % 64) = a.testBit i := by
    rw [Nat.testBit_mod_two_pow, Nat.testBit_div_two_pow]
    have e2 : i % 64 + 64 * (i / 64) = i := by omega
    have l : i % 64 < 64 := Nat.mod_lt _ (by omega)
    rw [e2]; simp [l]
  rw [← h1, Nat.testBit_eq_decide_div_mod_eq]
set_option maxHeartbeats 1000000 in
set_option maxRecDepth 100000 in
theorem r1bit_any (a : Nat) (ha : a < 6277101735386680763835789423207666416102355444464034512896) (w : World) :
    Calls Tryz.prog 60 #[.agg (three a)] w fun e w' => e = .returned (.agg (bcells a)) ∧ Below w.heap.size w w' := by
  have hz := (zero_of_info info_bits).1
  have hfin : Hid (a % 2 ^ 192 = a) := Lib.hid (Nat.mod_eq_of_lt ha)
  clear ha
  have R0 := Lib.hid (Rows3.new w 28 (three a) 38 (bcells 0) 38 (bcells 0))
  go_enter Tryz.func60, Tryz.ntmps60
  go_wp2_with fail
  generalize (((w.alloc (.cells (three a) 28)).alloc (.cells (bcells 0) 38)).alloc (.cells (bcells 0) 38)) = w1 at *
  go_loopw [4] (fun I wr => ∃ i : Nat, I = .int .i64 i ∧ i ≤ 192 ∧ Hid (Rows3 w wr 28 (three a) 38 (bcells 0) 38 (bcells (a % 2 ^ i)))) (fun I _ => 192 - (intOf I).toNat)
  case atStart => exact ⟨0, rfl, by omega, Lib.hid (by rw [Nat.pow_zero, Nat.mod_one]; exact R0.out)⟩
  case round =>
    clear R0
    obtain ⟨i, rfl, hi, R⟩ := hrel
    by_cases hlt : i < 192
    · obtain ⟨q, hq⟩ : ∃ q, q = i / 64 := ⟨_, rfl⟩
      obtain ⟨r, hr⟩ : ∃ r, r = i % 64 := ⟨_, rfl⟩
      have c0 := R.out.1.cell (three_get a q (by omega))
      have b0 := wd_lt a q
      have hb : a.testBit i = decide (wd a q / 2 ^ r % 2 = 1) := by rw [hq, hr]; exact bit_words
      have v1 : (i : Int) / 64 = (q : Int) := by omega
      have v2 : (i : Int).tdiv 64 = (q : Int) := by rw [Int.tdiv_eq_ediv_of_nonneg (by omega)]; exact v1
      have v3 : (i : Int) % 64 = (r : Int) := by omega
      have v4 : (i : Int).tmod 64 = (r : Int) := by rw [Int.tmod_eq_emod_of_nonneg (by omega)]; exact v3
      have l0 : (0 : Int) ≤ (q : Int) := by omega
      have l1 : (q : Int) < 3 := by omega
      have hP : Hid (∀ W, Calls Tryz.prog 100 #[.int .i64 (r : Int)] W fun e w' => e = .returned (.int .u64 ((2 ^ r : Nat) : Int)) ∧ W = w') := Lib.hid (fun W => r1power_any r (by omega) W)
      have p0 : 0 < 2 ^ r := Nat.two_pow_pos r
      have p1 : 2 ^ r ≤ 2 ^ 63 := two_le (by omega)
      obtain ⟨x, hx⟩ : ∃ x, x = wd a q := ⟨_, rfl⟩
      obtain ⟨p, hp⟩ : ∃ p, p = 2 ^ r := ⟨_, rfl⟩
      rw [← hx] at c0 hb b0
      rw [← hp] at hb hP p0 p1
      have p2 : p ≤ 9223372036854775808 := by simpa using p1
      have tp : ((p : Int) == 0) = false := by simp; omega
      have hb' : (((x : Int) / (p : Int)) % 2 == 1) = a.testBit i := by
        rw [hb, Bool.eq_iff_iff]
        simp only [beq_iff_eq, decide_eq_true_eq]
        have : ((x / p % 2 : Nat) : Int) = (x : Int) / (p : Int) % 2 := by rw [Int.natCast_emod, Int.natCast_ediv]; rfl
        omega
      have x0 : (0 : Int) ≤ (x : Int) / (p : Int) := Int.ediv_nonneg (by omega) (by omega)
      have x1 : (x : Int) / (p : Int) ≤ 18446744073709551615 := Int.ediv_le_of_le_mul (by omega) (by have : (18446744073709551615 : Int) ≤ 18446744073709551615 * (p : Int) := by omega
                                                                                                     omega)
      have hst := bcells_next (n := a) (i := i) (by omega)
      have HST := Lib.hid hst
      have f0 : (0 : Int) ≤ (i : Int) := by omega
      have f1 : (i : Int) < 256 := by omega
      clear hq hr hb hx hp p1 hst
      go_upto_region 5 with fail
      refine wp_region_qtail 11 (by kernel_rfl) (by kernel_rfl) ?_
      simp only [List.take_succ_cons, List.take_zero, List.drop_succ_cons, List.drop_zero]
      repeat (go_big_quiet_step ((first | (go_at_call 100; exact Calls.quiet_of (quiet0 (hP.out _))))))
      refine wpQuiet_nil ?_
      intro _ hw'
      obtain ⟨nq, hw''⟩ := hw'
      subst hw''
      have e0 := (R.out.drewN nq).2.2.1.cell (bcells_get _ i (by omega))
      have e1 := (R.out.drewN nq).2.2.1.frozen i
      have R' := Lib.hid ((R.out.drewN nq).set i (.bool (a.testBit i)) (d := bcells (a % 2 ^ (i + 1))) HST.out)
      clear c0
      go_wp2
      go_roundw
      case rel => exact ⟨i + 1, by go_num, by omega, R'⟩
      case measure => simp [intOf]; omega
    · obtain rfl : i = 192 := by omega
      have r3 := R.out.2.2.1
      rw [hfin.out] at r3
      have r2 := R.out.2.1
      obtain ⟨r2', hB'⟩ := R.out.ret (bcells a)
      have HB' := Lib.hid hB'
      clear hB' R
      go_wp2_with (first | (refine wpList_load_row rfl _ _ rfl _ rfl _ _ _ _ r3 Tryz.underlying38 rfl size_bits ?_) | (refine wpList_store_row rfl _ _ _ rfl _ _ rfl rfl _ _ r2 size_bits rfl (bcells_one _) ?_))
      refine bodyPost_ret (results_cell_row rfl _ _ _ _ _ _ _ rfl r2' Tryz.underlying38 rfl size_bits) (by rfl) ?_
      exact ⟨rfl, HB'.out⟩
set_option maxHeartbeats 1000000 in
set_option maxRecDepth 100000 in
theorem r1word_any (b n : Nat) (hn : n ≤ 192) (w : World) :
    Calls Tryz.prog 66 #[.agg (bcells b), .int .i64 (n : Int)] w fun e w' => e = .returned (.int .u64 ((b / 2 ^ n % 2 ^ 64 : Nat) : Int)) ∧ Below w.heap.size w w' := by
  obtain ⟨R0, hB0⟩ := lay1 w 38 (bcells b)
  have HR0 := Lib.hid R0
  have HB0 := Lib.hid hB0
  clear R0 hB0
  go_enter Tryz.func66, Tryz.ntmps66
  go_wp2_with fail
  generalize (w.alloc (.cells (bcells b) 38)) = w1 at *
  go_loopw [5, 6] (fun N I wr => ∃ i : Nat, I = .int .i64 ((i : Int) - 1) ∧ i ≤ 64 ∧ N = .int .u64 ((b / 2 ^ (n + i) % 2 ^ (64 - i) : Nat) : Int) ∧ Hid (RowAt wr w.heap.size 38 (bcells b)) ∧ Hid (Below w.heap.size w wr)) (fun _ I _ => (intOf I + 1).toNat)
  case atStart => exact ⟨64, rfl, by omega, by rw [Nat.sub_self, Nat.pow_zero, Nat.mod_one]; rfl, HR0, HB0⟩
  case round =>
    clear HR0 HB0
    obtain ⟨j, rfl, hi, rfl, R, HB⟩ := hrel
    rcases j with _ | i
    · have t1 : decide ((((0 : Nat) : Int) - 1) ≥ 0) = false := by decide
      go_wp2
      go_ret
      exact ⟨rfl, HB.out⟩
    · have e1 : (((i + 1 : Nat) : Int) - 1) = (i : Int) := by omega
      rw [e1]
      have hnx := word_next b (n + i) (63 - i)
      rw [show 63 - i + 1 = 64 - i by omega] at hnx
      have hlt := Nat.mod_lt (b / 2 ^ (n + i + 1)) (Nat.two_pow_pos (63 - i))
      have h63 : 2 ^ (63 - i) ≤ 2 ^ 63 := two_le (by omega)
      rw [show n + (i + 1) = n + i + 1 by omega, show 64 - (i + 1) = 63 - i by omega]
      obtain ⟨v, hv⟩ : ∃ v, v = b / 2 ^ (n + i + 1) % 2 ^ (63 - i) := ⟨_, rfl⟩
      rw [← hv] at hnx hlt ⊢
      have v1 : v < 9223372036854775808 := by
        have h := Nat.lt_of_lt_of_le hlt h63
        simpa using h
      have f0 : (0 : Int) ≤ (n : Int) + (i : Int) := by omega
      have f1 : (n : Int) + (i : Int) < 256 := by omega
      have t1 : decide ((i : Int) ≥ 0) = true := by simp
      have c0 := R.out.cell (bcells_get b (n + i) (by omega))
      obtain ⟨u, hu⟩ : ∃ u, u = b.testBit (n + i) := ⟨_, rfl⟩
      rw [← hu] at hnx c0
      have ea : ((n : Int) + (i : Int)).toNat = n + i := by omega
      clear hv hlt h63 hu e1
      cases u
      · have HN : Hid (b / 2 ^ (n + i) % 2 ^ (64 - i) = 2 * v) := Lib.hid (by rw [hnx]; simp)
        clear hnx
        go_wp2
        go_roundw
        case rel => exact ⟨i, rfl, by omega, by rw [HN.out]; go_num, R, HB⟩
        case measure => simp [intOf]
      · have HN : Hid (b / 2 ^ (n + i) % 2 ^ (64 - i) = 2 * v + 1) := Lib.hid (by rw [hnx]; simp)
        clear hnx
        go_wp2
        go_roundw
        case rel => exact ⟨i, rfl, by omega, by rw [HN.out]; go_num, R, HB⟩
        case measure => simp [intOf]
set_option maxHeartbeats 1000000 in
set_option maxRecDepth 100000 in
theorem r1less_any (a b : Nat) (ha : a < 2 ^ 256) (hb : b < 2 ^ 256) (w : World) :
    Calls Tryz.prog 19 #[.agg (bcells a), .agg (bcells b)] w fun e w' => e = .returned (.bool (decide (a < b))) ∧ Below w.heap.size w w' := by
  have R0 := Lib.hid (Rows2.new w 38 (bcells a) 38 (bcells b))
  have h0 : Hid (a / 2 ^ 256 = b / 2 ^ 256) := Lib.hid (by rw [Nat.div_eq_of_lt ha, Nat.div_eq_of_lt hb])
  clear ha hb
  go_enter Tryz.func19, Tryz.ntmps19
  go_wp2_with fail
  generalize ((w.alloc (.cells (bcells a) 38)).alloc (.cells (bcells b) 38)) = w1 at *
  go_loopw [5] (fun I wr => ∃ i : Nat, I = .int .i64 ((i : Int) - 1) ∧ i ≤ 256 ∧ Hid (a / 2 ^ i = b / 2 ^ i) ∧ Hid (Rows2 w wr 38 (bcells a) 38 (bcells b))) (fun I _ => (intOf I + 1).toNat)
  case atStart => exact ⟨256, rfl, by omega, h0, R0⟩
  case round =>
    clear R0 h0
    obtain ⟨j, rfl, hi, hE, R⟩ := hrel
    rcases j with _ | i
    · have fin : Hid (decide (a < b) = false) := Lib.hid (by
        have h := hE.out
        rw [Nat.pow_zero, Nat.div_one, Nat.div_one] at h
        rw [h]; simp)
      have t1 : decide ((((0 : Nat) : Int) - 1) ≥ 0) = false := by decide
      go_wp2
      go_ret
      exact ⟨ret_bool fin.out.symm, R.out.2.2⟩
    · have e1 : (((i + 1 : Nat) : Int) - 1) = (i : Int) := by omega
      rw [e1]
      have f0 : (0 : Int) ≤ (i : Int) := by omega
      have f1 : (i : Int) < 256 := by omega
      have c0 := R.out.1.cell (bcells_get a i (by omega))
      have c1 := R.out.2.1.cell (bcells_get b i (by omega))
      have HB : Hid (∀ n, Below w.heap.size w (wr.drewN n)) := Lib.hid (fun n => below_drewN R.out.2.2 n)
      have t1 : decide ((i : Int) ≥ 0) = true := by simp
      by_cases k1 : a.testBit i = b.testBit i
      · have hn : Hid (a / 2 ^ i = b / 2 ^ i) := Lib.hid (less_next hE.out k1)
        have R' : Hid (∀ n, Rows2 w (wr.drewN n) 38 (bcells a) 38 (bcells b)) := Lib.hid (fun n => ⟨R.out.1, R.out.2.1, HB.out n⟩)
        rw [k1] at c0
        obtain ⟨y, hy⟩ : ∃ y, y = b.testBit i := ⟨_, rfl⟩
        rw [← hy] at c0 c1
        clear hy k1 e1
        have ty : (y != y) = false := by cases y <;> rfl
        go_wp2
        go_quiet (fail)
        go_wp2
        go_roundw
        case rel => exact ⟨i, rfl, by omega, hn, R'.out _⟩
        case measure => simp [intOf]
      · have fin : Hid (decide (a < b) = b.testBit i) := Lib.hid (less_at hE.out k1)
        obtain ⟨x, hx⟩ : ∃ x, x = a.testBit i := ⟨_, rfl⟩
        obtain ⟨y, hy⟩ : ∃ y, y = b.testBit i := ⟨_, rfl⟩
        rw [← hx] at c0 k1
        rw [← hy] at c1 k1 fin
        have hxy : x = !y := by cases x <;> cases y <;> simp at k1 ⊢
        subst hxy
        clear hx hy k1 e1
        cases y
        · go_wp2
          go_quiet (fail)
          go_wp2
          go_ret
          exact ⟨ret_bool fin.out.symm, HB.out _⟩
        · go_wp2
          go_quiet (fail)
          go_wp2
          go_ret
          exact ⟨ret_bool fin.out.symm, HB.out _⟩
set_option maxHeartbeats 1000000 in
set_option maxRecDepth 100000 in
theorem r1rest_any (a m : Nat) (ha : a < 2 ^ 256) (hm : m < 18446744073709551616) (w : World) :
    Calls Tryz.prog 29 #[.agg (bcells a), .int .u64 (m : Nat)] w fun e w' => e = .returned (.int .u64 (if m = 0 then 0 else ((a % m : Nat) : Int))) ∧ Below w.heap.size w w' := by
  obtain ⟨R0, hB0⟩ := lay1 w 38 (bcells a)
  have HR0 := Lib.hid R0
  have HB0 := Lib.hid hB0
  have h0 : Hid (a / 2 ^ 256 = 0) := Lib.hid (Nat.div_eq_of_lt ha)
  clear R0 hB0 ha
  by_cases hz : m = 0
  · subst hz
    go_enter Tryz.func29, Tryz.ntmps29
    go_wp2
    go_ret
    exact ⟨by simp, HB0.out⟩
  · have t0 : (((m : Nat) : Int) == 0) = false := by simp; omega
    rw [if_neg hz]
    have m1 : 1 ≤ m := by omega
    go_enter Tryz.func29, Tryz.ntmps29
    go_wp2_with fail
    generalize (w.alloc (.cells (bcells a) 38)) = w1 at *
    go_loopw [5, 6] (fun C I wr => ∃ i : Nat, I = .int .i64 ((i : Int) - 1) ∧ i ≤ 256 ∧ C = .int .u64 ((a / 2 ^ i % m : Nat) : Int) ∧ Hid (RowAt wr w.heap.size 38 (bcells a)) ∧ Hid (Below w.heap.size w wr)) (fun _ I _ => (intOf I + 1).toNat)
    case atStart => exact ⟨256, rfl, by omega, by rw [h0.out]; simp, HR0, HB0⟩
    case round =>
      clear HR0 HB0
      obtain ⟨j, rfl, hi, rfl, R, HB⟩ := hrel
      rcases j with _ | i
      · have t1 : decide ((((0 : Nat) : Int) - 1) ≥ 0) = false := by decide
        go_wp2
        go_ret
        exact ⟨ret_int (by rw [Nat.pow_zero, Nat.div_one]), HB.out⟩
      · have e1 : (((i + 1 : Nat) : Int) - 1) = (i : Int) := by omega
        rw [e1]
        have f0 : (0 : Int) ≤ (i : Int) := by omega
        have f1 : (i : Int) < 256 := by omega
        have t1 : decide ((i : Int) ≥ 0) = true := by simp
        have c0 := R.out.cell (bcells_get a i (by omega))
        have hn := rest_next (a := a) (i := i) (m := m) (by omega)
        have hr := Nat.mod_lt (a / 2 ^ (i + 1)) (show 0 < m by omega)
        obtain ⟨r, hr'⟩ : ∃ r, r = a / 2 ^ (i + 1) % m := ⟨_, rfl⟩
        obtain ⟨z, hz'⟩ : ∃ z, z = a / 2 ^ i % m := ⟨_, rfl⟩
        obtain ⟨u, hu⟩ : ∃ u, u = a.testBit i := ⟨_, rfl⟩
        rw [← hr', ← hz', ← hu] at hn
        rw [← hr'] at hr
        rw [← hu] at c0
        rw [← hr']
        have HZ := Lib.hid hz'
        have z1 : z < m := by rw [hz']; exact Nat.mod_lt _ (by omega)
        clear hr' hz' hu e1
        unfold restStep at hn
        have rel : ∀ wq, Hid (RowAt wq w.heap.size 38 (bcells a)) → Hid (Below w.heap.size w wq) → ∃ k : Nat, Value.int .i64 ((i : Int) - 1) = .int .i64 ((k : Int) - 1) ∧ k ≤ 256 ∧ Value.int .u64 (z : Nat) = .int .u64 ((a / 2 ^ k % m : Nat) : Int) ∧ Hid (RowAt wq w.heap.size 38 (bcells a)) ∧ Hid (Below w.heap.size w wq) :=
          fun wq h1 h2 => ⟨i, rfl, by omega, by rw [HZ.out], h1, h2⟩
        have REL := Lib.hid rel
        clear rel
        by_cases k1 : m - r ≤ r
        · have t2 : decide ((r : Int) ≥ (m : Int) - (r : Int)) = true := decide_eq_true (by omega)
          simp only [if_pos k1] at hn
          cases u
          · simp only [Bool.toNat_false, Nat.add_zero] at hn
            rw [if_neg (by omega)] at hn
            have q0 : (r : Int) - ((m : Int) - (r : Int)) = (z : Int) := by omega
            have t3 : ((z : Int) == (m : Int)) = false := beq_eq_false_iff_ne.2 (by omega)
            have HN := Lib.hid hn
            clear hn k1
            go_wp2
            go_roundw
            case rel => exact REL.out _ R HB
            case measure => simp [intOf]
          · simp only [Bool.toNat_true] at hn
            by_cases k2 : r - (m - r) + 1 = m
            · exfalso; omega
            · rw [if_neg k2] at hn
              have q0 : (r : Int) - ((m : Int) - (r : Int)) + 1 = (z : Int) := by omega
              have t3 : ((z : Int) == (m : Int)) = false := beq_eq_false_iff_ne.2 (by omega)
              have HN := Lib.hid hn
              have k9 : (0 : Int) ≤ (r : Int) - ((m : Int) - (r : Int)) := by omega
              clear hn k1
              go_wp2
              go_roundw
              case rel => exact REL.out _ R HB
              case measure => simp [intOf]
        · have t2 : decide ((r : Int) ≥ (m : Int) - (r : Int)) = false := decide_eq_false (by omega)
          simp only [if_neg k1] at hn
          cases u
          · simp only [Bool.toNat_false, Nat.add_zero] at hn
            rw [if_neg (by omega)] at hn
            have q0 : (r : Int) + (r : Int) = (z : Int) := by omega
            have t3 : ((z : Int) == (m : Int)) = false := beq_eq_false_iff_ne.2 (by omega)
            have HN := Lib.hid hn
            clear hn k1
            go_wp2
            go_roundw
            case rel => exact REL.out _ R HB
            case measure => simp [intOf]
          · simp only [Bool.toNat_true] at hn
            by_cases k2 : r + r + 1 = m
            · rw [if_pos k2] at hn
              have q0 : (r : Int) + (r : Int) + 1 = (m : Int) := by omega
              subst hn
              clear k1 k2
              go_wp2
              go_roundw
              case rel => exact REL.out _ R HB
              case measure => simp [intOf]
            · rw [if_neg k2] at hn
              have q0 : (r : Int) + (r : Int) + 1 = (z : Int) := by omega
              have t3 : ((z : Int) == (m : Int)) = false := beq_eq_false_iff_ne.2 (by omega)
              have HN := Lib.hid hn
              clear hn k1
              go_wp2
              go_roundw
              case rel => exact REL.out _ R HB
              case measure => simp [intOf]
set_option maxHeartbeats 1000000 in
set_option maxRecDepth 100000 in
theorem r1sum_any (a b : Nat) (w : World) :
    Calls Tryz.prog 20 #[.agg (bcells a), .agg (bcells b)] w fun e w' => e = .returned (.agg (bcells (a + b))) ∧ Below w.heap.size w w' := by
  have hz := (zero_of_info info_bits).1
  have R0 := Lib.hid (Rows4.new w 38 (bcells a) 38 (bcells b) 38 (bcells 0) 38 (bcells 0))
  obtain ⟨d, hd⟩ : ∃ d, d = a + b := ⟨_, rfl⟩
  have HS : Hid (∀ i, d.testBit i = ((a.testBit i != b.testBit i) != bcarry a b i)) := Lib.hid (fun i => by rw [hd]; exact sum_bit a b i)
  rw [← hd]
  clear hd
  go_enter Tryz.func20, Tryz.ntmps20
  go_wp2_with fail
  generalize ((((w.alloc (.cells (bcells a) 38)).alloc (.cells (bcells b) 38)).alloc (.cells (bcells 0) 38)).alloc (.cells (bcells 0) 38)) = w1 at *
  go_loopw [6, 8] (fun C I wr => ∃ i : Nat, I = .int .i64 i ∧ i ≤ 256 ∧ C = .bool (bcarry a b i) ∧ Hid (Rows4 w wr 38 (bcells a) 38 (bcells b) 38 (bcells 0) 38 (bcells (d % 2 ^ i)))) (fun _ I _ => 256 - (intOf I).toNat)
  case atStart => exact ⟨0, rfl, by omega, by rw [bcarry_zero], Lib.hid (by rw [Nat.pow_zero, Nat.mod_one]; exact R0.out)⟩
  case round =>
    clear R0
    obtain ⟨i, rfl, hi, rfl, R⟩ := hrel
    by_cases hlt : i < 256
    · have c0 := R.out.1.cell (bcells_get a i hlt)
      have c1 := R.out.2.1.cell (bcells_get b i hlt)
      have hb := HS.out i
      have hc := bcarry_succ a b i
      have HST := Lib.hid (bcells_next (n := d) hlt)
      have f0 : (0 : Int) ≤ (i : Int) := by omega
      have f1 : (i : Int) < 256 := by omega
      obtain ⟨x, hx⟩ : ∃ x, x = a.testBit i := ⟨_, rfl⟩
      obtain ⟨y, hy⟩ : ∃ y, y = b.testBit i := ⟨_, rfl⟩
      obtain ⟨c, hc0⟩ : ∃ c, c = bcarry a b i := ⟨_, rfl⟩
      obtain ⟨c', hc1⟩ : ∃ c', c' = bcarry a b (i + 1) := ⟨_, rfl⟩
      obtain ⟨z, hz0⟩ : ∃ z, z = d.testBit i := ⟨_, rfl⟩
      rw [← hx] at c0 hb hc
      rw [← hy] at c1 hb hc
      rw [← hc0] at hb hc ⊢
      rw [← hc1] at hc
      rw [← hz0] at hb HST
      have HC1 := Lib.hid hc1
      clear hx hy hc0 hc1 hz0
      have c0' : ∀ n, (wr.drewN n).cell? ⟨w.heap.size, i, none⟩ = some (.bool x) := fun n => c0
      have HR : Hid (∀ n, Rows4 w ((wr.drewN n).setCell ⟨w.heap.size + 1 + 1 + 1, i, none⟩ (.bool z)) 38 (bcells a) 38 (bcells b) 38 (bcells 0) 38 (bcells (d % 2 ^ (i + 1)))) := Lib.hid (fun n => (R.out.drewN n).set i _ HST.out)
      clear c0'
      have HC0 : Hid (wr.cell? ⟨w.heap.size, i, none⟩ = some (.bool x)) := Lib.hid c0
      have HC2 : Hid (wr.cell? ⟨w.heap.size + 1, i, none⟩ = some (.bool y)) := Lib.hid c1
      have HK : Hid (∀ n v, ((wr.drewN n).setCell ⟨w.heap.size + 1 + 1 + 1, i, none⟩ v).cell? ⟨w.heap.size, i, none⟩ = some (.bool x) ∧ ((wr.drewN n).setCell ⟨w.heap.size + 1 + 1 + 1, i, none⟩ v).cell? ⟨w.heap.size + 1, i, none⟩ = some (.bool y)) := Lib.hid (fun n v => by
        have h := (R.out.drewN n).set i v rfl
        have e0 : ((wr.drewN n).setCell ⟨w.heap.size + 1 + 1 + 1, i, none⟩ v).cell? ⟨w.heap.size, i, none⟩ = wr.cell? ⟨w.heap.size, i, none⟩ := by
          rw [h.1.cell (bcells_get a i hlt), R.out.1.cell (bcells_get a i hlt)]
        have e1 : ((wr.drewN n).setCell ⟨w.heap.size + 1 + 1 + 1, i, none⟩ v).cell? ⟨w.heap.size + 1, i, none⟩ = wr.cell? ⟨w.heap.size + 1, i, none⟩ := by
          rw [h.2.1.cell (bcells_get b i hlt), R.out.2.1.cell (bcells_get b i hlt)]
        exact ⟨e0.trans HC0.out, e1.trans HC2.out⟩)
      go_upto_region 6 with fail
      refine wp_region_qtail 10 (by kernel_rfl) (by kernel_rfl) ?_
      simp only [List.take_succ_cons, List.take_zero, List.drop_succ_cons, List.drop_zero]
      repeat (go_big_quiet_step (fail))
      refine wpQuiet_nil ?_
      intro _ hw'
      obtain ⟨nq, hw''⟩ := hw'
      subst hw''
      have e0 := (R.out.drewN nq).2.2.2.1.cell (bcells_get _ i hlt)
      have e1 := (R.out.drewN nq).2.2.2.1.frozen i
      have k0 : ∀ v, ((wr.drewN nq).setCell ⟨w.heap.size + 1 + 1 + 1, i, none⟩ v).cell? ⟨w.heap.size, i, none⟩ = some (.bool x) := fun v => (HK.out nq v).1
      have k1 : ∀ v, ((wr.drewN nq).setCell ⟨w.heap.size + 1 + 1 + 1, i, none⟩ v).cell? ⟨w.heap.size + 1, i, none⟩ = some (.bool y) := fun v => (HK.out nq v).2
      have HR' := Lib.hid (HR.out nq)
      clear HR HK c0 c1
      subst hb
      subst hc
      cases x <;> cases y <;> cases c <;> go_wp2 <;> go_roundw
      all_goals first | exact ⟨i + 1, by go_num, by omega, by rw [← HC1.out]; first | done | rfl, HR'⟩ | (simp [intOf]; omega)
    · obtain rfl : i = 256 := by omega
      have r3 := R.out.2.2.2.1
      rw [bcells_mod] at r3
      have r2 := R.out.2.2.1
      obtain ⟨r2', hB'⟩ := R.out.ret (bcells d)
      have HB' := Lib.hid hB'
      clear hB' R
      go_wp2_with (first | (refine wpList_load_row rfl _ _ rfl _ rfl _ _ _ _ r3 Tryz.underlying38 rfl size_bits ?_) | (refine wpList_store_row rfl _ _ _ rfl _ _ rfl rfl _ _ r2 size_bits rfl (bcells_one _) ?_))
      refine bodyPost_ret (results_cell_row rfl _ _ _ _ _ _ _ rfl r2' Tryz.underlying38 rfl size_bits) (by rfl) ?_
      exact ⟨rfl, HB'.out⟩
end Go.Proofs.YtjjfiidgjiekpaaGreat
