/- mont: the context's calls. -/
import Derived.Test.YtmalmijdjhkklaaGreatWContToWalk
import Derived.Test.YtmalmijdjhkklaaGreatMontM
import Derived.Laws.Externs
set_option linter.unusedVariables false
set_option linter.unusedSimpArgs false
set_option linter.unusedSectionVars false
section
/- mont: the context's calls. -/
namespace Go.Proofs.YtmalmijdjhkklaaGreat
open Go.RowKit

theorem quiet0 {P : Program} {f : FuncId} {args : Array Value} {w : World} {v : Value} (h : Calls P f args w fun e w' => e = .returned v ∧ w = w') : Calls P f args w fun e w' => e = .returned v ∧ ∃ n, w' = w.drewN n :=
  h.mono fun _ _ ⟨he, hw⟩ => ⟨he, 0, hw.symm⟩
theorem quietB {P : Program} {f : FuncId} {args : Array Value} {w : World} {v : Value} (h : Calls P f args w fun e w' => e = .returned v ∧ ∃ n, w' = w.drewN n) : Calls P f args w fun e w' => e = .returned v ∧ Below w.heap.size w w' :=
  h.mono fun _ _ ⟨he, n, hw⟩ => ⟨he, hw ▸ below_drewN (Below.refl _ _) n⟩

theorem add64_run (x y c : Int) (hx0 : 0 ≤ x) (hx : x ≤ 18446744073709551615) (hy0 : 0 ≤ y) (hy : y ≤ 18446744073709551615) (hc0 : 0 ≤ c) (hc : c ≤ 1) (w : World) :
    (callFunc 183 #[.int .u64 x, .int .u64 y, .int .u64 c]).run Tryz.prog w =
      .ok (.value (.tuple #[.int .u64 ((x + y + c) % 18446744073709551616), .int .u64 ((x + y + c) / 18446744073709551616)])) w := by
  obtain ⟨a, rfl⟩ := Int.eq_ofNat_of_zero_le hx0
  obtain ⟨b, rfl⟩ := Int.eq_ofNat_of_zero_le hy0
  obtain ⟨d, rfl⟩ := Int.eq_ofNat_of_zero_le hc0
  rw [run_callFunc_extern Tryz.func183 (by kernel_rfl) (by kernel_rfl) (by kernel_rfl) (e := add64Entry) (by kernel_rfl), run_add64 a b d (by omega) (by omega) (by omega) (by omega)]
  simp only [Result.andThen]

/-- A context: its modulus, and what goes with it. -/
structure Ctx (w : World) (c : Nat) (m t o s : Int) : Prop where
  c0 : w.cell? ⟨c, 0, none⟩ = some (.int .u64 m)
  c1 : w.cell? ⟨c, 1, none⟩ = some (.int .u64 t)
  c2 : w.cell? ⟨c, 2, none⟩ = some (.int .u64 o)
  c3 : w.cell? ⟨c, 3, none⟩ = some (.int .u64 s)
  m1 : 3 ≤ m
  m2 : m < 9223372036854775808
  mo : m % 2 = 1
  t0 : 0 ≤ t
  t1 : t ≤ 18446744073709551615
  tm : t * m % 18446744073709551616 = 18446744073709551615
  eo : o = 18446744073709551616 % m
  es : s = 340282366920938463463374607431768211456 % m
theorem Ctx.lt {w : World} {c : Nat} {m t o s : Int} (h : Ctx w c m t o s) : c < w.heap.size := World.block_lt_of_cell? w _ h.c0
theorem Ctx.below {w w' : World} {c B : Nat} {m t o s : Int} (h : Ctx w c m t o s) (hb : Below B w w') (hB : c < B) : Ctx w' c m t o s :=
  ⟨cell_keep hb hB h.c0, cell_keep hb hB h.c1, cell_keep hb hB h.c2, cell_keep hb hB h.c3, h.m1, h.m2, h.mo, h.t0, h.t1, h.tm, h.eo, h.es⟩
theorem Ctx.drewN {w : World} {c : Nat} {m t o s : Int} (h : Ctx w c m t o s) (n : Nat) : Ctx (w.drewN n) c m t o s := ⟨h.c0, h.c1, h.c2, h.c3, h.m1, h.m2, h.mo, h.t0, h.t1, h.tm, h.eo, h.es⟩

set_option maxHeartbeats 1000000 in
theorem reduce_any {w : World} {c : Nat} {m t o s : Int} (hC : Ctx w c m t o s) (h l : Int) (hh0 : 0 ≤ h) (hh : h < m) (hl0 : 0 ≤ l) (hl : l ≤ 18446744073709551615) :
    Calls Tryz.prog 141 #[.pointer (some ⟨c, 0, none⟩), .int .u64 h, .int .u64 l] w fun e w' => e = .returned (.int .u64 ((h * 18446744073709551616 + l) * Mont.rinv m % m)) ∧ ∃ n, w' = w.drewN n := by
  have c0 := hC.c0
  have c1 := hC.c1
  have m1 := hC.m1
  have m2 := hC.m2
  obtain ⟨q, hq⟩ : ∃ q, l * t % 18446744073709551616 = q := ⟨_, rfl⟩
  have hw : IntKind.u64.wrap (l * t) = q := by rw [IntKind.wrap_u64]; exact hq
  have q0 : 0 ≤ q := by rw [← hq]; exact Int.emod_nonneg _ (by omega)
  have q1 : q < 18446744073709551616 := by rw [← hq]; exact Int.emod_lt_of_pos _ (by omega)
  obtain ⟨r0, r1, r2⟩ := Mont.redc (q := q) (by omega) m2 hC.mo hC.tm hh0 hh hl0 (by omega) hq.symm
  have hb0 : 0 ≤ q * m / 18446744073709551616 := Int.ediv_nonneg (Int.mul_nonneg q0 (by omega)) (by omega)
  obtain ⟨H, hH⟩ : ∃ H, q * m / 18446744073709551616 = H := ⟨_, rfl⟩
  obtain ⟨L, hL⟩ : ∃ L, q * m % 18446744073709551616 = L := ⟨_, rfl⟩
  have L0 : 0 ≤ L := by rw [← hL]; exact Int.emod_nonneg _ (by omega)
  have L1 : L < 18446744073709551616 := by rw [← hL]; exact Int.emod_lt_of_pos _ (by omega)
  rw [hH] at r0 r1 r2 hb0
  rw [hL] at r0 r1 r2
  obtain ⟨d, hd⟩ : ∃ d, (l + L) / 18446744073709551616 = d := ⟨_, rfl⟩
  have d0 : 0 ≤ d := by omega
  have d1 : d ≤ 1 := by omega
  rw [hd] at r0 r1 r2
  have e1 := add64_run l L 0 hl0 hl L0 (by omega) (by omega) (by omega)
  rw [Int.add_zero, hd] at e1
  have e2 := add64_run h H d hh0 (by omega) hb0 (by omega) d0 d1
  rw [show (h + H + d) % 18446744073709551616 = h + H + d by omega] at e2
  have hM := Lib.hid (mul64_any q m · q0 (by omega) (by omega) (by omega))
  have fin : Hid ((if h + H + d ≥ m then h + H + d - m else h + H + d) = (h * 18446744073709551616 + l) * Mont.rinv m % m) := Lib.hid (by
    refine Mont.by_rinv (by omega) hC.mo ?_ (by split <;> omega) (by split <;> omega)
    have e : (h + H + d) * 18446744073709551616 % m = (h * 18446744073709551616 + l) % m := by
      rw [r2]; exact Int.add_mul_emod_self_right ..
    split
    · rw [Int.sub_mul, ← e]
      rw [show (h + H + d) * 18446744073709551616 - m * 18446744073709551616 = (h + H + d) * 18446744073709551616 + m * (-18446744073709551616) by omega]
      exact Int.add_mul_emod_self_left ..
    · exact e)
  clear hq r2 hd
  by_cases hge : h + H + d ≥ m
  · rw [if_pos hge] at fin
    go_enter Tryz.func141, Tryz.ntmps141
    go_wp2
    go_quiet ((go_at_call 142; exact Calls.quiet_of (quiet0 (hM.out _))))
    go_wp2
    go_ret
    exact ⟨ret_int fin.out, _, rfl⟩
  · rw [if_neg hge] at fin
    go_enter Tryz.func141, Tryz.ntmps141
    go_wp2
    go_quiet ((go_at_call 142; exact Calls.quiet_of (quiet0 (hM.out _))))
    go_wp2
    go_ret
    exact ⟨ret_int fin.out, _, rfl⟩

theorem cut_any {w : World} {c : Nat} {m t o s : Int} (hC : Ctx w c m t o s) (a : Int) (h0 : 0 ≤ a) (h1 : a ≤ 18446744073709551615) :
    Calls Tryz.prog 143 #[.pointer (some ⟨c, 0, none⟩), .int .u64 a] w fun e w' => e = .returned (.int .u64 (a % m)) ∧ ∃ n, w' = w.drewN n := by
  have c0 := hC.c0
  have m1 := hC.m1
  have hz : (m == 0) = false := beq_eq_false_iff_ne.2 (by omega)
  by_cases hge : m ≤ a
  · go_enter Tryz.func143, Tryz.ntmps143
    go_wp2
    go_ret
    exact ⟨rfl, 0, rfl⟩
  · have e := Lib.hid (Int.emod_eq_of_lt h0 (show a < m by omega))
    go_enter Tryz.func143, Tryz.ntmps143
    go_wp2
    go_ret
    exact ⟨ret_int e.out.symm, 0, rfl⟩

theorem mmul_any {w : World} {c : Nat} {m t o s : Int} (hC : Ctx w c m t o s) (x y : Int) (hx0 : 0 ≤ x) (hx : x ≤ 18446744073709551615) (hy0 : 0 ≤ y) (hy : y ≤ 18446744073709551615) :
    Calls Tryz.prog 84 #[.pointer (some ⟨c, 0, none⟩), .int .u64 x, .int .u64 y] w fun e w' => e = .returned (.int .u64 (x * y * Mont.rinv m % m)) ∧ ∃ n, w' = w.drewN n := by
  have m1 := hC.m1
  have m2 := hC.m2
  have x0 := Int.emod_nonneg x (show m ≠ 0 by omega)
  have x1 := Int.emod_lt_of_pos x (show 0 < m by omega)
  have y0 := Int.emod_nonneg y (show m ≠ 0 by omega)
  have y1 := Int.emod_lt_of_pos y (show 0 < m by omega)
  have hp0 : 0 ≤ (x % m) * (y % m) := Int.mul_nonneg x0 y0
  have hp1 : (x % m) * (y % m) < 18446744073709551616 * m := by
    have a1 : (x % m) * (y % m) ≤ (x % m) * m := Int.mul_le_mul_of_nonneg_left (by omega) x0
    have a2 : (x % m) * m < 18446744073709551616 * m := Int.mul_lt_mul_of_pos_right (by omega) (by omega)
    omega
  have hh : (x % m) * (y % m) / 18446744073709551616 < m := Int.ediv_lt_of_lt_mul (by omega) (by rw [Int.mul_comm m]; exact hp1)
  have fin : Hid (((x % m) * (y % m) / 18446744073709551616 * 18446744073709551616 + (x % m) * (y % m) % 18446744073709551616) * Mont.rinv m % m = x * y * Mont.rinv m % m) := Lib.hid (by
    rw [show (x % m) * (y % m) / 18446744073709551616 * 18446744073709551616 + (x % m) * (y % m) % 18446744073709551616 = (x % m) * (y % m) by omega]
    rw [Int.mul_emod, ← Int.mul_emod x y, ← Int.mul_emod])
  go_enter Tryz.func84, Tryz.ntmps84
  go_wp2_with fail
  refine (cut_any hC x hx0 hx).mono ?_
  rintro e w1 ⟨rfl, n1, rfl⟩
  go_wp2_with fail
  refine (cut_any (hC.drewN n1) y hy0 hy).mono ?_
  rintro e w1 ⟨rfl, n2, rfl⟩
  go_wp2_with fail
  refine (mul64_any _ _ _ x0 (by omega) y0 (by omega)).mono ?_
  rintro e w1 ⟨rfl, rfl⟩
  go_wp2_with fail
  refine (reduce_any (hC.drewN _) _ _ (Int.ediv_nonneg hp0 (by omega)) hh (Int.emod_nonneg _ (by omega)) (by omega)).mono ?_
  rintro e w1 ⟨rfl, n3, rfl⟩
  go_wp2
  go_ret
  exact ⟨ret_int fin.out, _, rfl⟩

/-- What stands for a number. -/
def lft (m a : Int) : Int := a * 18446744073709551616 % m
theorem lft_range {m : Int} (hm : 1 ≤ m) (a : Int) : 0 ≤ lft m a ∧ lft m a < m := ⟨Int.emod_nonneg _ (by omega), Int.emod_lt_of_pos _ (by omega)⟩
theorem lft_emod (m a : Int) : lft m (a % m) = lft m a := by
  unfold lft; rw [Int.mul_emod, Int.emod_emod_of_dvd _ ⟨1, by simp⟩, ← Int.mul_emod]
theorem lft_mul {m a y : Int} (hm : 1 < m) (ho : m % 2 = 1) : lft m a * y * Mont.rinv m % m = a * y % m := by
  unfold lft
  have e := Mont.rinv_spec hm ho
  have e1 : a * 18446744073709551616 % m * y * Mont.rinv m % m = (a * 18446744073709551616) * (y * Mont.rinv m) % m := by
    rw [Int.mul_assoc, Int.mul_emod, Int.emod_emod_of_dvd _ ⟨1, by simp⟩, ← Int.mul_emod]
  have e2 : (a * 18446744073709551616) * (y * Mont.rinv m) = (a * y) * (Mont.rinv m * 18446744073709551616) := by grind
  rw [e1, e2, Int.mul_emod, e]; simp
theorem in_eq {m a : Int} (hm : 1 < m) (ho : m % 2 = 1) : a * (340282366920938463463374607431768211456 % m) * Mont.rinv m % m = lft m a := by
  have e := Mont.rinv_spec hm ho
  have e1 : a * (340282366920938463463374607431768211456 % m) * Mont.rinv m % m = (a * Mont.rinv m) * 340282366920938463463374607431768211456 % m := by
    have : a * (340282366920938463463374607431768211456 % m) * Mont.rinv m = (a * Mont.rinv m) * (340282366920938463463374607431768211456 % m) := by grind
    rw [this, Int.mul_emod, Int.emod_emod_of_dvd _ ⟨1, by simp⟩, ← Int.mul_emod]
  have e2 : (a * Mont.rinv m) * 340282366920938463463374607431768211456 = (a * 18446744073709551616) * (Mont.rinv m * 18446744073709551616) := by grind
  rw [e1, e2, Int.mul_emod, e]; unfold lft; simp
theorem in_any {w : World} {c : Nat} {m t o s : Int} (hC : Ctx w c m t o s) (a : Int) (h0 : 0 ≤ a) (h1 : a ≤ 18446744073709551615) :
    Calls Tryz.prog 85 #[.pointer (some ⟨c, 0, none⟩), .int .u64 a] w fun e w' => e = .returned (.int .u64 (lft m a)) ∧ ∃ n, w' = w.drewN n := by
  have c3 := hC.c3
  have m1 := hC.m1
  have m2 := hC.m2
  have es := hC.es
  have s0 : 0 ≤ s := by rw [es]; exact Int.emod_nonneg _ (by omega)
  have s1 : s ≤ 18446744073709551615 := by have := Int.emod_lt_of_pos 340282366920938463463374607431768211456 (show 0 < m by omega); omega
  have fin : Hid (a * s * Mont.rinv m % m = lft m a) := Lib.hid (by rw [es]; exact in_eq (by omega) hC.mo)
  clear es
  go_enter Tryz.func85, Tryz.ntmps85
  go_wp2_with fail
  refine (mmul_any hC a s h0 h1 s0 s1).mono ?_
  rintro e w1 ⟨rfl, n1, rfl⟩
  go_wp2
  go_ret
  exact ⟨ret_int fin.out, _, rfl⟩

theorem mmul_lft {w : World} {c : Nat} {m t o s : Int} (hC : Ctx w c m t o s) (a b : Int) :
    Calls Tryz.prog 84 #[.pointer (some ⟨c, 0, none⟩), .int .u64 (lft m a), .int .u64 (lft m b)] w fun e w' => e = .returned (.int .u64 (lft m (a * b))) ∧ ∃ n, w' = w.drewN n := by
  have m1 := hC.m1
  have m2 := hC.m2
  have ra := lft_range (show 1 ≤ m by omega) a
  have rb := lft_range (show 1 ≤ m by omega) b
  refine (mmul_any hC _ _ ra.1 (by omega) rb.1 (by omega)).mono ?_
  rintro e w' ⟨rfl, h⟩
  refine ⟨ret_int ?_, h⟩
  rw [lft_mul (by omega) hC.mo]
  unfold lft
  rw [Int.mul_emod, Int.emod_emod_of_dvd _ ⟨1, by simp⟩, ← Int.mul_emod, Int.mul_assoc]
theorem one_any {w : World} {c : Nat} {m t o s : Int} (hC : Ctx w c m t o s) :
    Calls Tryz.prog 217 #[.pointer (some ⟨c, 0, none⟩)] w fun e w' => e = .returned (.int .u64 (lft m 1)) ∧ ∃ n, w' = w.drewN n := by
  have c2 := hC.c2
  have fin : Hid (o = lft m 1) := Lib.hid (by rw [hC.eo]; unfold lft; simp)
  go_enter Tryz.func217, Tryz.ntmps217
  go_wp2
  go_ret
  exact ⟨ret_int fin.out, 0, rfl⟩
theorem lft_congr {m a b : Int} (h : a % m = b % m) : lft m a = lft m b := by rw [← lft_emod, h, lft_emod]
theorem lft_pow_step (m a z : Int) (y : Int) (hy : 0 < y) : lft m ((if y % 2 = 1 then z * a else z) * (a * a) ^ (y / 2).toNat) = lft m (z * a ^ y.toNat) := by
  apply lft_congr
  have he : a ^ y.toNat = (a * a) ^ (y / 2).toNat * a ^ (y % 2).toNat := by
    have : y.toNat = 2 * (y / 2).toNat + (y % 2).toNat := by omega
    conv => lhs; rw [this]
    rw [Int.pow_add, Int.pow_mul]
    congr 2
    rw [Int.pow_succ, Int.pow_succ, Int.pow_zero]; grind
  rw [he]
  split
  · rename_i h1
    rw [h1]; congr 1; simp; grind
  · have h1 : y % 2 = 0 := by omega
    rw [h1]; congr 1; simp
set_option maxHeartbeats 400000 in
theorem mpow_any {w : World} {c : Nat} {m t o s : Int} (hC : Ctx w c m t o s) (a b : Int) (hb0 : 0 ≤ b) (hb : b ≤ 18446744073709551615) :
    Calls Tryz.prog 216 #[.pointer (some ⟨c, 0, none⟩), .int .u64 (lft m a), .int .u64 b] w fun e w' => e = .returned (.int .u64 (lft m (a ^ b.toNat))) ∧ ∃ n, w' = w.drewN n := by
  have c2 := hC.c2
  have m1 := hC.m1
  have eo : o = lft m 1 := by rw [hC.eo]; unfold lft; simp
  subst eo
  obtain ⟨L, hL⟩ : ∃ L, L = lft m a := ⟨_, rfl⟩
  rw [← hL]
  obtain ⟨u, hu⟩ : ∃ u, u = lft m 1 := ⟨_, rfl⟩
  rw [← hu] at c2
  have HL := Lib.hid hL
  have HU := Lib.hid hu
  clear hL hu
  go_enter Tryz.func216, Tryz.ntmps216
  go_wp2
  go_loopw [1, 2, 7] (fun X E O wr => ∃ x y z : Int, ∃ vx vz : Int, ∃ n, 0 ≤ y ∧ y ≤ 18446744073709551615 ∧ X = .int .u64 vx ∧ E = .int .u64 y ∧ O = .int .u64 vz ∧ Hid (vx = lft m x) ∧ Hid (vz = lft m z) ∧ Hid (lft m (z * x ^ y.toNat) = lft m (a ^ b.toNat)) ∧ wr = w.drewN n) (fun _ E _ _ => (intOf E).toNat)
  case atStart => exact ⟨a, b, 1, L, u, 0, hb0, hb, rfl, rfl, rfl, HL, HU, Lib.hid (by rw [Int.one_mul]), rfl⟩
  case round =>
    obtain ⟨x, y, z, vx, vz, n, hy0, hy, rfl, rfl, rfl, hx, hz, H, rfl⟩ := hrel
    have hD := Lib.hid (hC.drewN (n := n))
    by_cases hlt : 0 < y
    · have st := Lib.hid (lft_pow_step m x z y hlt)
      have ea := and_one y hy0 hy
      have mm := Int.emod_nonneg y (show (2:Int) ≠ 0 by omega)
      by_cases hodd : y % 2 = 1
      · have ho : (bits .and .u64 y 1 == 1) = true := by rw [ea, hodd]; rfl
        rw [if_pos hodd] at st
        clear ea hodd
        go_wp2_with fail
        rw [hx.out, hz.out]
        refine (mmul_lft hD.out z x).mono ?_
        rintro e w' ⟨rfl, n1, rfl⟩
        rw [← hx.out]
        go_wp2_with fail
        rw [hx.out]
        refine (mmul_lft (hC.drewN _) x x).mono ?_
        rintro e w' ⟨rfl, n2, rfl⟩
        go_wp2
        go_roundw
        case rel => exact ⟨x * x, y / 2, z * x, _, _, _, by omega, by omega, rfl, rfl, rfl, Lib.hid rfl, Lib.hid rfl, Lib.hid (by rw [st.out, H.out]), rfl⟩
        case measure => simp [intOf]; omega
      · have ho : (bits .and .u64 y 1 == 1) = false := by rw [ea]; exact beq_eq_false_iff_ne.2 hodd
        rw [if_neg hodd] at st
        clear ea hodd
        go_wp2_with fail
        rw [hx.out]
        refine (mmul_lft hD.out x x).mono ?_
        rintro e w' ⟨rfl, n2, rfl⟩
        go_wp2
        go_roundw
        case rel => exact ⟨x * x, y / 2, z, _, vz, _, by omega, by omega, rfl, rfl, rfl, Lib.hid rfl, hz, Lib.hid (by rw [st.out, H.out]), rfl⟩
        case measure => simp [intOf]; omega
    · obtain rfl : y = 0 := by omega
      go_wp2
      go_ret
      exact ⟨ret_int (by rw [← H.out]; simp [hz.out]), _, rfl⟩
theorem new_no (m : Int) (w : World) (h0 : 0 ≤ m) (h1 : m ≤ 18446744073709551615) (h : m % 2 = 0 ∨ m < 3 ∨ 9223372036854775808 ≤ m) :
    Calls Tryz.prog 101 #[.int .u64 m] w fun e w' => e = .returned (.tuple #[.pointer none, .int .i64 1]) ∧ w = w' := by
  have ea := and_one m h0 h1
  by_cases a : m % 2 = 0
  · have t1 : (bits .and .u64 m 1 == 0) = true := by rw [ea, a]; rfl
    clear ea h
    go_enter Tryz.func101, Tryz.ntmps101
    go_wp2
    go_ret2
    exact ⟨rfl, rfl⟩
  · have t1 : (bits .and .u64 m 1 == 0) = false := by rw [ea]; exact beq_eq_false_iff_ne.2 a
    clear ea
    by_cases b : m < 3
    · clear h
      go_enter Tryz.func101, Tryz.ntmps101
      go_wp2
      go_ret2
      exact ⟨rfl, rfl⟩
    · have c : 9223372036854775808 ≤ m := by omega
      clear h
      go_enter Tryz.func101, Tryz.ntmps101
      go_wp2
      go_ret2
      exact ⟨rfl, rfl⟩
/-- How far the inverse is right after so many steps. -/
def newK (i : Nat) : Int := match i with | 0 => 8 | 1 => 64 | 2 => 4096 | 3 => 16777216 | 4 => 281474976710656 | _ => 18446744073709551616
theorem newK_step {m x y : Int} {i : Nat} (hi : i < 5) (h : (1 - m * x) % newK i = 0) (hy : y = x * (2 - m * x) % 18446744073709551616) : (1 - m * y) % newK (i + 1) = 0 := by
  have hi' : i = 0 ∨ i = 1 ∨ i = 2 ∨ i = 3 ∨ i = 4 := by omega
  rcases hi' with rfl | rfl | rfl | rfl | rfl
  · exact Mont.newton_mod (k := 8) (j := 64) (.inl rfl) ⟨288230376151711744, rfl⟩ h hy
  · exact Mont.newton_mod (k := 64) (j := 4096) (.inl rfl) ⟨4503599627370496, rfl⟩ h hy
  · exact Mont.newton_mod (k := 4096) (j := 16777216) (.inl rfl) ⟨1099511627776, rfl⟩ h hy
  · exact Mont.newton_mod (k := 16777216) (j := 281474976710656) (.inl rfl) ⟨65536, rfl⟩ h hy
  · exact Mont.newton_mod (k := 281474976710656) (j := 18446744073709551616) (.inr ⟨4294967296, rfl⟩) ⟨1, rfl⟩ h hy
theorem new_slot (m x : Int) : IntKind.u64.wrap (x * IntKind.u64.wrap (2 - IntKind.u64.wrap (m * x))) = x * (2 - m * x) % 18446744073709551616 := by
  simp only [IntKind.wrap_u64]
  rw [Int.mul_emod, Int.emod_emod_of_dvd _ ⟨1, by simp⟩, Int.sub_emod, Int.emod_emod_of_dvd _ ⟨1, by simp⟩, ← Int.sub_emod, ← Int.mul_emod]
theorem new_turn {m x : Int} (h : (1 - m * x) % 18446744073709551616 = 0) : IntKind.u64.wrap (-x) * m % 18446744073709551616 = 18446744073709551615 := by
  rw [IntKind.wrap_u64, Int.mul_emod, Int.emod_emod_of_dvd _ ⟨1, by simp⟩, ← Int.mul_emod]
  have : -x * m = (1 - m * x) - 1 := by grind
  rw [this]
  omega
theorem new_one {m : Int} (h0 : 3 ≤ m) (h1 : m < 9223372036854775808) : IntKind.u64.wrap (-m) % m = 18446744073709551616 % m := by
  rw [IntKind.wrap_u64, show (-m) % 18446744073709551616 = 18446744073709551616 - m by omega, ← Int.sub_emod_right 18446744073709551616 m]
theorem new_sq (m : Int) : (18446744073709551616 % m * (18446744073709551616 % m) / 18446744073709551616 * 18446744073709551616 + 18446744073709551616 % m * (18446744073709551616 % m) % 18446744073709551616) % m = 340282366920938463463374607431768211456 % m := by
  rw [show ∀ z : Int, z / 18446744073709551616 * 18446744073709551616 + z % 18446744073709551616 = z from fun z => by omega, ← Int.mul_emod]
  rfl
set_option maxHeartbeats 1000000 in
theorem new_any (m : Int) (w : World) (h3 : 3 ≤ m) (h1 : m < 9223372036854775808) (ho : m % 2 = 1) :
    Calls Tryz.prog 101 #[.int .u64 m] w fun e w' => ∃ c t o s, e = .returned (.tuple #[.pointer (some ⟨c, 0, none⟩), .int .i64 0]) ∧ Ctx w' c m t o s ∧ w.heap.size ≤ c ∧ Below w.heap.size w w' := by
  have ea := and_one m (by omega) (by omega)
  have t1 : (bits .and .u64 m 1 == 0) = false := by rw [ea, ho]; rfl
  have t2 : decide (m < 3) = false := by simp; omega
  have HO := Lib.hid ho
  clear ea ho
  go_enter Tryz.func101, Tryz.ntmps101
  go_wp2
  go_loop [4, 20] (fun X I => ∃ i : Nat, ∃ x : Int, X = .int .u64 x ∧ I = .int .i64 i ∧ i ≤ 5 ∧ 0 ≤ x ∧ x ≤ 18446744073709551615 ∧ Hid ((1 - m * x) % newK i = 0)) (fun _ I => 5 - (intOf I).toNat)
  case atStart => exact ⟨0, m, rfl, rfl, by omega, by omega, by omega, Lib.hid (Mont.square_odd HO.out)⟩
  case round =>
    obtain ⟨i, x, rfl, rfl, hi, hx0, hx1, H⟩ := hrel
    by_cases hlt : i < 5
    · obtain ⟨y, hy⟩ : ∃ y, x * (2 - m * x) % 18446744073709551616 = y := ⟨_, rfl⟩
      have hw : IntKind.u64.wrap (x * IntKind.u64.wrap (2 - IntKind.u64.wrap (m * x))) = y := by rw [new_slot]; exact hy
      have y0 : 0 ≤ y := by rw [← hy]; exact Int.emod_nonneg _ (by omega)
      have y1 : y < 18446744073709551616 := by rw [← hy]; exact Int.emod_lt_of_pos _ (by omega)
      have H2 := Lib.hid (newK_step hlt H.out hy.symm)
      clear hy
      go_wp2
      go_round
      case rel => exact ⟨i + 1, y, rfl, by go_num, by omega, y0, by omega, H2⟩
      case measure => simp [intOf]; omega
    · obtain rfl : i = 5 := by omega
      have et : IntKind.u64.wrap (-x) * m % 18446744073709551616 = 18446744073709551615 := new_turn H.out
      have ET := Lib.hid et
      obtain ⟨t, ht⟩ : ∃ t, IntKind.u64.wrap (-x) = t := ⟨_, rfl⟩
      have t0 : 0 ≤ t := by rw [← ht, IntKind.wrap_u64]; omega
      have t3 : t ≤ 18446744073709551615 := by rw [← ht, IntKind.wrap_u64]; omega
      rw [ht] at ET
      obtain ⟨o, heo⟩ : ∃ o, 18446744073709551616 % m = o := ⟨_, rfl⟩
      have hwo : (IntKind.u64.wrap (-m)).tmod m = o := by
        rw [Int.tmod_eq_emod_of_nonneg (by rw [IntKind.wrap_u64]; omega), new_one h3 h1]; exact heo
      have o0 : 0 ≤ o := by rw [← heo]; exact Int.emod_nonneg _ (by omega)
      have o1 : o < m := by rw [← heo]; exact Int.emod_lt_of_pos _ (by omega)
      have oo0 : 0 ≤ o * o := Int.mul_nonneg o0 o0
      have oo1 : o * o ≤ 18446744073709551615 * 18446744073709551615 := Int.mul_le_mul (by omega) (by omega) o0 (by omega)
      have hsq := new_sq m
      rw [heo] at hsq
      obtain ⟨sq, hsqe⟩ : ∃ sq, 340282366920938463463374607431768211456 % m = sq := ⟨_, rfl⟩
      rw [hsqe] at hsq
      have HQ := Lib.hid hsqe
      have HS := Lib.hid hsq
      have HE := Lib.hid heo
      clear et hsq heo hsqe
      go_wp2_with fail
      refine (mul64_any o o _ o0 (by omega) o0 (by omega)).mono ?_
      rintro e w1 ⟨rfl, rfl⟩
      go_wp2_with fail
      refine (rem64_any _ _ _ _ (Int.ediv_nonneg oo0 (by omega)) (by omega) (by omega) (Int.emod_nonneg _ (by omega)) (by omega) (by omega)).mono ?_
      rintro e w1 ⟨rfl, n, rfl⟩
      rw [HS.out]
      go_wp2
      go_ret2
      refine ⟨w.heap.size, t, o, sq, rfl, ⟨?_, ?_, ?_, ?_, h3, h1, HO.out, t0, t3, ET.out, HE.out.symm, HQ.out.symm⟩, Nat.le_refl _, ?_⟩
      · exact (World.cell?_alloc_at (w := w.drewN n) _ _ _ _ rfl).trans rfl
      · exact (World.cell?_alloc_at (w := w.drewN n) _ _ _ _ rfl).trans rfl
      · exact (World.cell?_alloc_at (w := w.drewN n) _ _ _ _ rfl).trans rfl
      · exact (World.cell?_alloc_at (w := w.drewN n) _ _ _ _ rfl).trans rfl
      · exact (below_drewN (Below.refl _ _) _).alloc (Nat.le_refl _) _
end Go.Proofs.YtmalmijdjhkklaaGreat
end

section
/- modular: Add, Neg, Sub, Inv. -/
namespace Go.Proofs.YtmalmijdjhkklaaGreat
open Go.RowKit
theorem mod2add_any (a b m : Int) (w : World) (ha0 : 0 ≤ a) (ha : a ≤ 18446744073709551615) (hb0 : 0 ≤ b) (hb : b ≤ 18446744073709551615) (hm0 : 0 < m) (hm : m ≤ 18446744073709551615) :
    Calls Tryz.prog 235 #[.int .u64 a, .int .u64 b, .int .u64 m] w fun e w' => e = .returned (.int .u64 ((a + b) % m)) ∧ ∃ n, w' = w.drewN n := by
  have h0 : (m == 0) = false := beq_eq_false_iff_ne.2 (by omega)
  have x0 := Int.emod_nonneg a (show m ≠ 0 by omega)
  have x1 := Int.emod_lt_of_pos a hm0
  have y0 := Int.emod_nonneg b (show m ≠ 0 by omega)
  have y1 := Int.emod_lt_of_pos b hm0
  have fin : Hid ((a % m + b % m) % m = (a + b) % m) := Lib.hid (by rw [← Int.add_emod])
  have e1 := add64_run (a % m) (b % m) 0 x0 (by omega) y0 (by omega) (by omega) (by omega)
  rw [Int.add_zero] at e1
  obtain ⟨u, hu⟩ : ∃ u, a % m = u := ⟨_, rfl⟩
  obtain ⟨v, hv⟩ : ∃ v, b % m = v := ⟨_, rfl⟩
  rw [hu, hv] at e1 fin
  rw [hu] at x0 x1
  rw [hv] at y0 y1
  obtain ⟨l, hl⟩ : ∃ l, (u + v) % 18446744073709551616 = l := ⟨_, rfl⟩
  obtain ⟨h, hh⟩ : ∃ h, (u + v) / 18446744073709551616 = h := ⟨_, rfl⟩
  have e2 : Hid (h * 18446744073709551616 + l = u + v) := Lib.hid (by omega)
  have l0 : 0 ≤ l := by omega
  have l1 : l ≤ 18446744073709551615 := by omega
  have g0 : 0 ≤ h := by omega
  have g1 : h ≤ 1 := by omega
  rw [hl, hh] at e1
  clear hl hh
  go_enter Tryz.func235, Tryz.ntmps235
  go_wp2_with fail
  go_quiet (fail)
  go_wp2_with fail
  refine (rem64_any h l m _ g0 (by omega) hm0 l0 l1 hm).mono ?_
  rintro e w1 ⟨rfl, n, rfl⟩
  go_wp2
  go_ret
  exact ⟨ret_int (by rw [e2.out, fin.out]), _, rfl⟩
theorem mod2neg_any (a m : Int) (w : World) (ha0 : 0 ≤ a) (ha : a ≤ 18446744073709551615) (hm0 : 0 < m) (hm : m ≤ 18446744073709551615) :
    Calls Tryz.prog 236 #[.int .u64 a, .int .u64 m] w fun e w' => e = .returned (.int .u64 ((-a) % m)) ∧ w = w' := by
  have h0 : (m == 0) = false := beq_eq_false_iff_ne.2 (by omega)
  have x0 := Int.emod_nonneg a (show m ≠ 0 by omega)
  have x1 := Int.emod_lt_of_pos a hm0
  have e1 : (-a) % m = (- (a % m)) % m := by
    rw [← Int.zero_sub, ← Int.zero_sub, Int.sub_emod, Int.sub_emod 0 (a % m), Int.emod_emod]
  by_cases hz : a % m = 0
  · have tz : (a % m == 0) = true := by simp [hz]
    have fin : Hid ((-a) % m = 0) := Lib.hid (by rw [e1, hz]; simp)
    clear hz e1
    go_enter Tryz.func236, Tryz.ntmps236
    go_wp2
    go_ret
    exact ⟨ret_int fin.out.symm, rfl⟩
  · have tz : (a % m == 0) = false := by simp [hz]
    have fin : Hid (m - a % m = (-a) % m) := Lib.hid (by
      rw [e1, show -(a % m) = (m - a % m) + m * (-1) by omega, Int.add_mul_emod_self_left, show (m - a % m) % m = m - a % m from Int.emod_eq_of_lt (by omega) (by omega)])
    clear hz e1
    go_enter Tryz.func236, Tryz.ntmps236
    go_wp2
    go_ret
    exact ⟨ret_int fin.out, rfl⟩
theorem mod2sub_any (a b m : Int) (w : World) (ha0 : 0 ≤ a) (ha : a ≤ 18446744073709551615) (hb0 : 0 ≤ b) (hb : b ≤ 18446744073709551615) (hm0 : 0 < m) (hm : m ≤ 18446744073709551615) :
    Calls Tryz.prog 220 #[.int .u64 a, .int .u64 b, .int .u64 m] w fun e w' => e = .returned (.int .u64 ((a - b) % m)) ∧ ∃ n, w' = w.drewN n := by
  have x0 := Int.emod_nonneg (-b) (show m ≠ 0 by omega)
  have x1 := Int.emod_lt_of_pos (-b) hm0
  have fin : Hid ((a + (-b) % m) % m = (a - b) % m) := Lib.hid (by rw [Int.add_emod_emod, Int.sub_eq_add_neg])
  have hN := Lib.hid (mod2neg_any b m w hb0 hb hm0 hm)
  have hA := Lib.hid (mod2add_any a ((-b) % m) m w ha0 ha x0 (by omega) hm0 hm)
  obtain ⟨q, hq⟩ : ∃ q, q = (-b) % m := ⟨_, rfl⟩
  rw [← hq] at fin hN hA x0 x1
  clear hq
  go_enter Tryz.func220, Tryz.ntmps220
  go_wp2_with fail
  refine hN.out.mono ?_
  rintro e w1 ⟨rfl, rfl⟩
  go_wp2_with fail
  refine hA.out.mono ?_
  rintro e w1 ⟨rfl, n2, rfl⟩
  go_wp2
  go_ret
  exact ⟨ret_int fin.out, _, rfl⟩

/-- What Inv answers, of a modulus from 2 on. -/
def InvP (a m : Int) (w : World) (r : Ending) (w' : World) : Prop :=
  (∃ n, w' = w.drewN n) ∧ ((Nat.gcd m.toNat (a % m).toNat = 1 ∧ ∃ t, r = .returned (.tuple #[.int .u64 t, .bool true]) ∧ 0 ≤ t ∧ t < m ∧ t * a % m = 1) ∨ (Nat.gcd m.toNat (a % m).toNat ≠ 1 ∧ r = .returned (.tuple #[.int .u64 0, .bool false])))
theorem inv_step {a m t s r x q : Int} (h1 : (t * a - r) % m = 0) (h2 : (s * a - x) % m = 0) : (((t - q * s % m) % m) * a - (r - q * x)) % m = 0 := by
  obtain ⟨c1, e1⟩ := Int.dvd_of_emod_eq_zero h1
  obtain ⟨c2, e2⟩ := Int.dvd_of_emod_eq_zero h2
  have d1 := Int.emod_def (q * s) m
  have d2 := Int.emod_def (t - q * s % m) m
  apply Int.emod_eq_zero_of_dvd
  rw [d2, d1]
  refine ⟨c1 - q * c2 + (q * s / m) * a - ((t - (q * s - m * (q * s / m))) / m) * a, ?_⟩
  generalize (t - (q * s - m * (q * s / m))) / m = z
  generalize q * s / m = y
  grind
theorem modinv_any (a m : Int) (w : World) (ha0 : 0 ≤ a) (ha : a ≤ 18446744073709551615) (hm0 : 2 ≤ m) (hm : m ≤ 18446744073709551615) :
    Calls Tryz.prog 205 #[.int .u64 a, .int .u64 m] w (InvP a m w) := by
  have t0 : decide (m < 2) = false := by simp; omega
  have tz : (m == 0) = false := beq_eq_false_iff_ne.2 (by omega)
  have x0 := Int.emod_nonneg a (show m ≠ 0 by omega)
  have x1 := Int.emod_lt_of_pos a (show 0 < m by omega)
  have hs : Hid ((1 * a - a % m) % m = 0) := Lib.hid (by rw [Int.one_mul]; exact Int.emod_eq_zero_of_dvd ⟨a / m, by have := Int.emod_def a m; omega⟩)
  have hs0 : Hid ((0 * a - m) % m = 0) := Lib.hid (by rw [Int.zero_mul, Int.zero_sub]; simp)
  obtain ⟨x, hx⟩ : ∃ x, x = a % m := ⟨_, rfl⟩
  have HX := Lib.hid hx
  rw [← hx] at x0 x1 hs
  have hxe : a % m = x := hx.symm
  clear hx
  go_enter Tryz.func205, Tryz.ntmps205
  go_wp2_with fail
  go_quiet (fail)
  clear hxe
  go_wp2_with fail
  go_loopw [6, 7, 8, 9, 10] (fun R N T S _ wr => ∃ (r x' t s : Int) (n : Nat), R = .int .u64 r ∧ N = .int .u64 x' ∧ T = .int .u64 t ∧ S = .int .u64 s ∧ wr = w.drewN n ∧ 0 ≤ x' ∧ x' < r ∧ r ≤ m ∧ 0 ≤ t ∧ t < m ∧ 0 ≤ s ∧ s < m ∧ Hid ((t * a - r) % m = 0) ∧ Hid ((s * a - x') % m = 0) ∧ Hid (Nat.gcd r.toNat x'.toNat = Nat.gcd m.toNat x.toNat)) (fun _ N _ _ _ _ => (intOf N).toNat)
  case atStart => exact ⟨m, x, 0, 1, _, rfl, by rw [HX.out], rfl, rfl, rfl, x0, x1, by omega, by omega, by omega, by omega, by omega, hs0, hs, Lib.hid rfl⟩
  case round =>
    obtain ⟨r, y, t, s, n, rfl, rfl, rfl, rfl, rfl, y0, y1, hr, t1, t2, s1, s2, ht, hs', hg⟩ := hrel
    by_cases hy : 0 < y
    · have ty : (y == 0) = false := beq_eq_false_iff_ne.2 (by omega)
      have ty2 : decide (0 < y) = true := by simpa using hy
      obtain ⟨q, hq⟩ : ∃ q, r / y = q := ⟨_, rfl⟩
      have q0 : 0 ≤ q := by rw [← hq]; exact Int.ediv_nonneg (by omega) y0
      have q1 : q ≤ r := by rw [← hq]; exact Int.ediv_le_self _ (by omega)
      have hm1 := Int.emod_nonneg r (show y ≠ 0 by omega)
      have hm2 := Int.emod_lt_of_pos r hy
      have hd : r % y = r - q * y := by rw [← hq, Int.emod_def, Int.mul_comm]
      have hz0 : 0 ≤ q * y := Int.mul_nonneg q0 y0
      obtain ⟨z, hz⟩ : ∃ z, q * y = z := ⟨_, rfl⟩
      rw [hd, hz] at hm1 hm2
      rw [hz] at hz0 hd
      have hst := inv_step (q := q) ht.out hs'.out
      have hgc : Hid (Nat.gcd y.toNat (r - z).toNat = Nat.gcd m.toNat x.toNat) := Lib.hid (by
        rw [← hg.out, ← hd, Nat.gcd_comm r.toNat, Nat.gcd_rec y.toNat r.toNat, Nat.gcd_comm (r.toNat % y.toNat)]
        congr 1
        rw [Int.toNat_emod (by omega) (by omega)])
      rw [hz] at hst
      have hMul := Lib.hid (fun w => modmul_any q s m w q0 (by omega) s1 (by omega) (by omega) hm)
      obtain ⟨v, hv⟩ : ∃ v, q * s % m = v := ⟨_, rfl⟩
      have v0 : 0 ≤ v := by rw [← hv]; exact Int.emod_nonneg _ (by omega)
      have v1 : v < m := by rw [← hv]; exact Int.emod_lt_of_pos _ (by omega)
      rw [hv] at hMul hst
      have hSub := Lib.hid (fun w => mod2sub_any t v m w t1 (by omega) v0 (by omega) (by omega) hm)
      obtain ⟨u, hu⟩ : ∃ u, (t - v) % m = u := ⟨_, rfl⟩
      have u0 : 0 ≤ u := by rw [← hu]; exact Int.emod_nonneg _ (by omega)
      have u1 : u < m := by rw [← hu]; exact Int.emod_lt_of_pos _ (by omega)
      rw [hu] at hSub hst
      have HST : Hid ((u * a - (r - z)) % m = 0) := Lib.hid hst
      have ez : IntKind.u64.wrap (q * y) = z := by rw [hz]; exact IntWalk.u64_in _ (by omega)
      have ez2 : IntKind.u64.wrap (r - z) = r - z := IntWalk.u64_in _ (by omega)
      clear hst hu hv hd
      go_wp2_with fail
      refine (hMul.out _).mono ?_
      rintro e w1 ⟨rfl, n1, rfl⟩
      go_wp2_with fail
      refine (hSub.out _).mono ?_
      rintro e w1 ⟨rfl, n2, rfl⟩
      go_wp2
      go_roundw
      case rel => exact ⟨y, r - z, s, u, _, rfl, rfl, rfl, rfl, rfl, hm1, hm2, by omega, s1, s2, u0, u1, hs', HST, hgc⟩
      case measure => simp only [intOf]; omega
    · obtain rfl : y = 0 := by omega
      have ty2 : decide ((0 : Int) < 0) = false := by simp
      have hgr : r.toNat = Nat.gcd m.toNat x.toNat := by rw [← hg.out]; simp
      by_cases h1 : r = 1
      · subst h1
        have HT : Hid (t * a % m = 1) := Lib.hid (by
          obtain ⟨c, hc⟩ := Int.dvd_of_emod_eq_zero ht.out
          rw [show t * a = 1 + m * c by omega, Int.add_mul_emod_self_left, Int.emod_eq_of_lt (by omega) (by omega)])
        have HG : Hid (Nat.gcd m.toNat x.toNat = 1) := Lib.hid (by rw [← hgr]; rfl)
        clear hgr
        go_wp2
        go_ret2
        exact ⟨⟨_, rfl⟩, .inl ⟨by rw [← HX.out]; exact HG.out, t, rfl, t1, t2, HT.out⟩⟩
      · have tr : (r != 1) = true := by simp [h1]
        have HG : Hid (Nat.gcd m.toNat x.toNat ≠ 1) := Lib.hid (by rw [← hgr]; omega)
        clear hgr h1
        go_wp2
        go_ret2
        exact ⟨⟨_, rfl⟩, .inr ⟨by rw [← HX.out]; exact HG.out, rfl⟩⟩
end Go.Proofs.YtmalmijdjhkklaaGreat
end
