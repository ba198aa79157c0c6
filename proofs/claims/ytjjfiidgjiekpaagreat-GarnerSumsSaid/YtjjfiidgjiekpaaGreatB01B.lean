/- epicycleref01: moving, products, turning, words; epicycleref23. -/
import Derived.Test.YtjjfiidgjiekpaaGreatB01A
set_option linter.unusedVariables false
set_option linter.unusedSimpArgs false
set_option linter.unusedSectionVars false
namespace Go.Proofs.YtjjfiidgjiekpaaGreat
open Go.RowKit
theorem run_load_row {P : Program} {w : World} {G : Nat} {t ty : TypeId} {c : Array Value} {d : TypeDesc} (h : RowAt w G t c) (hu : P.underlying ty = some d) (hd : (match d with | .struct _ | .array _ _ => true | _ => false) = true) (hi : (P.info? ty).map (·.size) = some c.size) :
    (Instr.loadAt ty (.pointer (some ⟨G, 0, none⟩))).run P w = .ok (.agg c) w := by
  simp only [Instr.loadAt, Instr.sureAddr, Sem.run_bind, Sem.run_pure, Result.andThen]
  exact run_loadVar_row w G t ty c (0, 0) d h hu hd hi
theorem yieldsIf_load_row {P : Program} {ops : Array Oper} {S : World → Prop} {op : Oper} {a : Act} (hw : Region.wanted op (yielded ops a.tmps) = true) (ty : TypeId) (x : Operand) (ho : op.op = .load ty x)
    (G : Nat) (hx : a.eval x = .pointer (some ⟨G, 0, none⟩)) (t : TypeId) (c : Array Value) (d : TypeDesc) (hS : ∀ w, S w → RowAt w G t c)
    (hu : P.underlying ty = some d) (hd : (match d with | .struct _ | .array _ _ => true | _ => false) = true) (hi : (P.info? ty).map (·.size) = some c.size) : YieldsIf P ops S op (.agg c) a :=
  .inl ⟨hw, fun w hw' => by
    unfold execOp
    simp only [ho, hx, Instr.loadAt, Instr.sureAddr, Sem.run_bind, Sem.run_pure, Result.andThen_ok, run_loadVar_row w G t ty c (0, 0) d (hS w hw') hu hd hi]⟩
set_option maxHeartbeats 1000000 in
set_option maxRecDepth 100000 in
theorem r1moved_any (a n : Nat) (hn : n < 64) (w : World) :
    Calls Tryz.prog 127 #[.agg (bcells a), .int .i64 (n : Int), .int .i64 256] w fun e w' => e = .returned (.agg (bcells (a * 2 ^ n))) ∧ Below w.heap.size w w' := by
  have hz := (zero_of_info info_bits).1
  obtain ⟨d, hd⟩ : ∃ d, d = a * 2 ^ n := ⟨_, rfl⟩
  have HS : Hid (∀ i, d.testBit i = (decide (n ≤ i) && a.testBit (i - n))) := Lib.hid (fun i => by rw [hd]; exact bit_shift a n i)
  rw [← hd]
  clear hd
  have R0 := Lib.hid (Rows3.new w 38 (bcells a) 38 (bcells 0) 38 (bcells 0))
  go_enter Tryz.func127, Tryz.ntmps127
  go_wp2_with fail
  generalize (((w.alloc (.cells (bcells a) 38)).alloc (.cells (bcells 0) 38)).alloc (.cells (bcells 0) 38)) = w1 at *
  go_loopw [8] (fun I wr => ∃ i : Nat, I = .int .i64 i ∧ i ≤ 256 ∧ Hid (Rows3 w wr 38 (bcells a) 38 (bcells 0) 38 (bcells (d % 2 ^ i)))) (fun I _ => 256 - (intOf I).toNat)
  case atStart => exact ⟨0, rfl, by omega, Lib.hid (by rw [Nat.pow_zero, Nat.mod_one]; exact R0.out)⟩
  case round =>
    clear R0
    obtain ⟨i, rfl, hi, R⟩ := hrel
    by_cases hlt : i < 256
    · have f0 : (0 : Int) ≤ (i : Int) := by omega
      have f1 : (i : Int) < 256 := by omega
      have hb := HS.out i
      by_cases hni : n ≤ i
      · have g0 : (0 : Int) ≤ (i : Int) - (n : Int) := by omega
        have g1 : (i : Int) - (n : Int) < 256 := by omega
        have ea : ((i : Int) - (n : Int)).toNat = i - n := by omega
        have c0 := R.out.1.cell (bcells_get a (i - n) (by omega))
        have e0 := R.out.2.2.1.cell (bcells_get _ i hlt)
        have e1 := R.out.2.2.1.frozen i
        rw [decide_eq_true hni, Bool.true_and] at hb
        have R' := Lib.hid (R.out.set i (.bool (d.testBit i)) (d := bcells (d % 2 ^ (i + 1))) (bcells_next hlt))
        rw [hb] at R'
        clear hb
        go_wp2
        go_roundw
        case rel => exact ⟨i + 1, by go_num, by omega, R'⟩
        case measure => simp [intOf]; omega
      · have t0 : decide ((i : Int) - (n : Int) ≥ 0) = false := decide_eq_false (by omega)
        have t1 : (i : Int) < (n : Int) := by omega
        rw [decide_eq_false hni, Bool.false_and] at hb
        have R' : Hid (Rows3 w wr 38 (bcells a) 38 (bcells 0) 38 (bcells (d % 2 ^ (i + 1)))) := Lib.hid (by rw [← bcells_skip hb]; exact R.out)
        clear hb
        go_wp2
        go_roundw
        case rel => exact ⟨i + 1, by go_num, by omega, R'⟩
        case measure => simp [intOf]; omega
    · obtain rfl : i = 256 := by omega
      have r3 := R.out.2.2.1
      rw [bcells_mod] at r3
      have r2 := R.out.2.1
      obtain ⟨r2', hB'⟩ := R.out.ret (bcells d)
      have HB' := Lib.hid hB'
      clear hB' R
      go_wp2_with (first | (refine wpList_load_row rfl _ _ rfl _ rfl _ _ _ _ r3 Tryz.underlying38 rfl size_bits ?_) | (refine wpList_store_row rfl _ _ _ rfl _ _ rfl rfl _ _ r2 size_bits rfl (bcells_one _) ?_))
      refine bodyPost_ret (results_cell_row rfl _ _ _ _ _ _ _ rfl r2' Tryz.underlying38 rfl size_bits) (by rfl) ?_
      exact ⟨rfl, HB'.out⟩
set_option maxHeartbeats 1000000 in
set_option maxRecDepth 100000 in
theorem r1prod_any (a k : Nat) (hk : k < 18446744073709551616) (w : World) :
    Calls Tryz.prog 88 #[.agg (bcells a), .int .u64 (k : Nat)] w fun e w' => e = .returned (.agg (bcells (a * k))) ∧ Below w.heap.size w w' := by
  have hz := (zero_of_info info_bits).1
  have hfin : Hid (k % 2 ^ 64 = k) := Lib.hid (Nat.mod_eq_of_lt (by simpa using hk))
  have R0 := Lib.hid (Rows3.new w 38 (bcells a) 38 (bcells 0) 38 (bcells 0))
  go_enter Tryz.func88, Tryz.ntmps88
  go_wp2_with fail
  generalize (((w.alloc (.cells (bcells a) 38)).alloc (.cells (bcells 0) 38)).alloc (.cells (bcells 0) 38)) = w1 at *
  go_loopw [6] (fun I wr => ∃ i : Nat, I = .int .i64 i ∧ i ≤ 64 ∧ Hid (Rows3 w wr 38 (bcells a) 38 (bcells 0) 38 (bcells (a * (k % 2 ^ i))))) (fun I _ => 64 - (intOf I).toNat)
  case atStart => exact ⟨0, rfl, by omega, Lib.hid (by rw [Nat.pow_zero, Nat.mod_one, Nat.mul_zero]; exact R0.out)⟩
  case round =>
    clear R0
    obtain ⟨i, rfl, hi, R⟩ := hrel
    by_cases hlt : i < 64
    · have f0 : (0 : Int) ≤ (i : Int) := by omega
      have f1 : (i : Int) < 64 := by omega
      have hP : Hid (∀ W, Calls Tryz.prog 100 #[.int .i64 (i : Int)] W fun e w' => e = .returned (.int .u64 ((2 ^ i : Nat) : Int)) ∧ W = w') := Lib.hid (fun W => r1power_any i hlt W)
      have p0 : 0 < 2 ^ i := Nat.two_pow_pos i
      have hb : k.testBit i = decide (k / 2 ^ i % 2 = 1) := Nat.testBit_eq_decide_div_mod_eq
      have hst := prod_next a k i
      have HMv : Hid (∀ W, Calls Tryz.prog 127 #[.agg (bcells a), .int .i64 (i : Int), .int .i64 256] W fun e w' => e = .returned (.agg (bcells (a * 2 ^ i))) ∧ Below W.heap.size W w') := Lib.hid (fun W => r1moved_any a i hlt W)
      obtain ⟨p, hp⟩ : ∃ p, p = 2 ^ i := ⟨_, rfl⟩
      have HPe := Lib.hid hp
      rw [← hp] at hP p0 hb
      have tp : ((p : Int) == 0) = false := by simp; omega
      have x0 : (0 : Int) ≤ (k : Int) / (p : Int) := Int.ediv_nonneg (by omega) (by omega)
      have x1 : (k : Int) / (p : Int) ≤ 18446744073709551615 := Int.ediv_le_of_le_mul (by omega) (by have : (18446744073709551615 : Int) ≤ 18446744073709551615 * (p : Int) := by omega
                                                                                                     omega)
      have hb' : (((k : Int) / (p : Int)) % 2 == 1) = k.testBit i := by
        rw [hb, Bool.eq_iff_iff]
        simp only [beq_iff_eq, decide_eq_true_eq]
        have : ((k / p % 2 : Nat) : Int) = (k : Int) / (p : Int) % 2 := by rw [Int.natCast_emod, Int.natCast_ediv]; rfl
        omega
      clear hb hp
      cases hkt : k.testBit i
      · rw [hkt] at hb' hst
        have R' : Hid (Rows3 w wr 38 (bcells a) 38 (bcells 0) 38 (bcells (a * (k % 2 ^ (i + 1))))) := Lib.hid (by
          rw [← bcells_mod (a * (k % 2 ^ (i + 1))), hst, if_neg (by simp), Nat.add_zero, bcells_mod, bcells_mod]; exact R.out)
        clear hkt hst HMv
        go_wp2_with (first | (go_at_call 100; refine (hP.out _).mono ?_; rintro e w9 ⟨rfl, rfl⟩))
        go_roundw
        case rel => exact ⟨i + 1, by go_num, by omega, R'⟩
        case measure => simp [intOf]; omega
      · rw [hkt] at hb' hst
        have HST : Hid (bcells (a * (k % 2 ^ i) + a * 2 ^ i) = bcells (a * (k % 2 ^ (i + 1)))) := Lib.hid (by
          rw [← bcells_mod (a * (k % 2 ^ (i + 1))), hst, if_pos rfl, bcells_mod, ← bcells_mod (a * (k % 2 ^ i) % 2 ^ 256 + _), Nat.mod_add_mod, bcells_mod])
        clear hkt hst
        go_wp2_with (first | (go_at_call 100; refine (hP.out _).mono ?_; rintro e w9 ⟨rfl, rfl⟩))
        obtain ⟨d, hd⟩ : ∃ d, d = a * (k % 2 ^ i) := ⟨_, rfl⟩
        rw [← hd] at HST R
        obtain ⟨m, hm⟩ : ∃ m, m = a * 2 ^ i := ⟨_, rfl⟩
        rw [← hm] at HST HMv
        have HKp : Hid (∀ W W', Rows3 w W 38 (bcells a) 38 (bcells 0) 38 (bcells d) → Below W.heap.size W W' → Rows3 w W' 38 (bcells a) 38 (bcells 0) 38 (bcells d)) := Lib.hid (fun W W' h hB => ⟨h.1.keep hB, h.2.1.keep hB, h.2.2.1.keep hB, h.2.2.2.trans (hB.mono h.2.2.2.size)⟩)
        have HSm : Hid (∀ W, Calls Tryz.prog 20 #[.agg (bcells d), .agg (bcells m)] W fun e w' => e = .returned (.agg (bcells (d + m))) ∧ Below W.heap.size W w') := Lib.hid (fun W => r1sum_any d m W)
        have HR := Lib.hid (Rows3.drewN R.out 1)
        have HRet : Hid (∀ wz, Rows3 w wz 38 (bcells a) 38 (bcells 0) 38 (bcells d) → Rows3 w (wz.setRow (w.heap.size + 1 + 1) (bcells (d + m))) 38 (bcells a) 38 (bcells 0) 38 (bcells (a * (k % 2 ^ (i + 1))))) := Lib.hid (fun wz h => by
          rw [← HST.out]
          exact ⟨h.1.setRowOther _ _ (by omega), h.2.1.setRowOther _ _ (by omega), h.2.2.1.setRow _, below_setRow h.2.2.2 (by omega) _⟩)
        clear hd hm hb' R
        change (Code.region _ _ true).wp _ _ _ _
        refine wp_region_held_drew (S := fun wz => RowAt wz w.heap.size 38 (bcells a)) (by kernel_rfl) (HR.out.1) (fun hHeld => ?_)
        refine wpAnyH_take (i := 1) rfl (by kernel_rfl) (by kernel_rfl) (by kernel_rfl) (fun _ _ _ h => h) (yieldsIf_load_row (by rfl) _ _ rfl _ rfl _ _ _ (fun wz h => h) Tryz.underlying38 rfl size_bits) (by assumption) ?_
        try simp only [Act.put, List.getElem_toArray, List.getElem_cons_zero, List.getElem_cons_succ, List.setIfInBounds_toArray, List.set_cons_zero, List.set_cons_succ]
        refine wpAnyH_take (i := 2) (v := ?_) rfl (by kernel_rfl) (by kernel_rfl) (by kernel_rfl) (fun _ _ _ h => h) (Or.inl ⟨by rfl, ?_⟩) (by assumption) ?_
        rotate_left
        · intro w hSw; go_simp; try with_reducible rfl
        try simp only [Act.put, List.getElem_toArray, List.getElem_cons_zero, List.getElem_cons_succ, List.setIfInBounds_toArray, List.set_cons_zero, List.set_cons_succ]
        refine wpAnyH_ready (rs := [0, 3]) (by kernel_rfl) (by simp) ?_
        refine AllReadyH.cons rfl (fun K hK => ?_) ?_
        · try simp only [List.getElem_toArray, List.getElem_cons_zero, List.getElem_cons_succ]
          rw [if_pos (by rfl)]
          refine wp_load_row _ _ rfl _ rfl _ _ _ _ (HR.out.2.2.1) Tryz.underlying38 rfl size_bits ?_
          refine hK.out _ _ (HR.out.1) (fun _ => ?_)
          clear hK K
          try simp only [Act.put, List.getElem_toArray, List.getElem_cons_zero, List.getElem_cons_succ, List.setIfInBounds_toArray, List.set_cons_zero, List.set_cons_succ]
          refine wpAnyH_ready (rs := [3]) (by kernel_rfl) (by simp) ?_
          refine AllReadyH.cons rfl (fun K hK => ?_) AllReadyH.nil
          try simp only [List.getElem_toArray, List.getElem_cons_zero, List.getElem_cons_succ]
          rw [if_pos (by rfl)]
          go_wp2_with (go_at_call 127; refine (HMv.out _).mono ?_; rintro r w8 ⟨rfl, hB8⟩)
          have zb := Lib.hid (HKp.out _ _ HR.out hB8)
          clear hB8
          refine hK.out _ _ (zb.out.1) (fun _ => ?_)
          clear hK K
          try simp only [Act.put, List.getElem_toArray, List.getElem_cons_zero, List.getElem_cons_succ, List.setIfInBounds_toArray, List.set_cons_zero, List.set_cons_succ]
          refine wpAnyH_ready (rs := [4]) (by kernel_rfl) (by simp) ?_
          refine AllReadyH.cons rfl (fun K hK => ?_) AllReadyH.nil
          try simp only [List.getElem_toArray, List.getElem_cons_zero, List.getElem_cons_succ]
          rw [if_pos (by rfl)]
          go_wp2_with (go_at_call 20; refine (HSm.out _).mono ?_; rintro r w9 ⟨rfl, hB9⟩)
          have zc := Lib.hid (HKp.out _ _ zb.out hB9)
          clear hB9
          refine hK.out _ _ (zc.out.1) (fun _ => ?_)
          clear hK K
          try simp only [Act.put, List.getElem_toArray, List.getElem_cons_zero, List.getElem_cons_succ, List.setIfInBounds_toArray, List.set_cons_zero, List.set_cons_succ]
          refine wpAnyH_ready (rs := [5]) (by kernel_rfl) (by simp) ?_
          refine AllReadyH.cons rfl (fun K hK => ?_) AllReadyH.nil
          try simp only [List.getElem_toArray, List.getElem_cons_zero, List.getElem_cons_succ]
          rw [if_pos (by rfl)]
          refine wp_store_row _ _ _ rfl _ _ rfl rfl _ _ (zc.out.2.2.1) size_bits rfl (bcells_one _) ?_
          refine hK.out _ _ ((HRet.out _ zc.out).1) (fun _ => ?_)
          clear hK K
          try simp only [Act.put, List.getElem_toArray, List.getElem_cons_zero, List.getElem_cons_succ, List.setIfInBounds_toArray, List.set_cons_zero, List.set_cons_succ]
          refine wpAnyH_done (by kernel_rfl) ?_ _
          have HZ := Lib.hid (HRet.out _ zc.out)
          clear zb zc
          go_wp2
          go_roundw
          case rel => exact ⟨i + 1, by go_num, by omega, HZ⟩
          case measure => simp [intOf]; omega
        · refine AllReadyH.cons rfl (fun K hK => ?_) AllReadyH.nil
          try simp only [List.getElem_toArray, List.getElem_cons_zero, List.getElem_cons_succ]
          rw [if_pos (by rfl)]
          go_wp2_with (go_at_call 127; refine (HMv.out _).mono ?_; rintro r w8 ⟨rfl, hB8⟩)
          have zb := Lib.hid (HKp.out _ _ HR.out hB8)
          clear hB8
          refine hK.out _ _ (zb.out.1) (fun _ => ?_)
          clear hK K
          try simp only [Act.put, List.getElem_toArray, List.getElem_cons_zero, List.getElem_cons_succ, List.setIfInBounds_toArray, List.set_cons_zero, List.set_cons_succ]
          refine wpAnyH_ready (rs := [0]) (by kernel_rfl) (by simp) ?_
          refine AllReadyH.cons rfl (fun K hK => ?_) AllReadyH.nil
          try simp only [List.getElem_toArray, List.getElem_cons_zero, List.getElem_cons_succ]
          try simp only [List.getElem_toArray, List.getElem_cons_zero, List.getElem_cons_succ]
          rw [if_pos (by rfl)]
          refine wp_load_row _ _ rfl _ rfl _ _ _ _ (zb.out.2.2.1) Tryz.underlying38 rfl size_bits ?_
          refine hK.out _ _ (zb.out.1) (fun _ => ?_)
          clear hK K
          try simp only [Act.put, List.getElem_toArray, List.getElem_cons_zero, List.getElem_cons_succ, List.setIfInBounds_toArray, List.set_cons_zero, List.set_cons_succ]
          refine wpAnyH_ready (rs := [4]) (by kernel_rfl) (by simp) ?_
          refine AllReadyH.cons rfl (fun K hK => ?_) AllReadyH.nil
          try simp only [List.getElem_toArray, List.getElem_cons_zero, List.getElem_cons_succ]
          rw [if_pos (by rfl)]
          go_wp2_with (go_at_call 20; refine (HSm.out _).mono ?_; rintro r w9 ⟨rfl, hB9⟩)
          have zc := Lib.hid (HKp.out _ _ zb.out hB9)
          clear hB9
          refine hK.out _ _ (zc.out.1) (fun _ => ?_)
          clear hK K
          try simp only [Act.put, List.getElem_toArray, List.getElem_cons_zero, List.getElem_cons_succ, List.setIfInBounds_toArray, List.set_cons_zero, List.set_cons_succ]
          refine wpAnyH_ready (rs := [5]) (by kernel_rfl) (by simp) ?_
          refine AllReadyH.cons rfl (fun K hK => ?_) AllReadyH.nil
          try simp only [List.getElem_toArray, List.getElem_cons_zero, List.getElem_cons_succ]
          rw [if_pos (by rfl)]
          refine wp_store_row _ _ _ rfl _ _ rfl rfl _ _ (zc.out.2.2.1) size_bits rfl (bcells_one _) ?_
          refine hK.out _ _ ((HRet.out _ zc.out).1) (fun _ => ?_)
          clear hK K
          try simp only [Act.put, List.getElem_toArray, List.getElem_cons_zero, List.getElem_cons_succ, List.setIfInBounds_toArray, List.set_cons_zero, List.set_cons_succ]
          refine wpAnyH_done (by kernel_rfl) ?_ _
          have HZ := Lib.hid (HRet.out _ zc.out)
          clear zb zc
          go_wp2
          go_roundw
          case rel => exact ⟨i + 1, by go_num, by omega, HZ⟩
          case measure => simp [intOf]; omega
    · obtain rfl : i = 64 := by omega
      have r3 := R.out.2.2.1
      rw [hfin.out] at r3
      have r2 := R.out.2.1
      obtain ⟨r2', hB'⟩ := R.out.ret (bcells (a * k))
      have HB' := Lib.hid hB'
      clear hB' R
      go_wp2_with (first | (refine wpList_load_row rfl _ _ rfl _ rfl _ _ _ _ r3 Tryz.underlying38 rfl size_bits ?_) | (refine wpList_store_row rfl _ _ _ rfl _ _ rfl rfl _ _ r2 size_bits rfl (bcells_one _) ?_))
      refine bodyPost_ret (results_cell_row rfl _ _ _ _ _ _ _ rfl r2' Tryz.underlying38 rfl size_bits) (by rfl) ?_
      exact ⟨rfl, HB'.out⟩
end Go.Proofs.YtjjfiidgjiekpaaGreat
