/- modular: Add, Neg, Sub, Inv. -/
import Derived.Test.YtgdadkkiefkimaaGreatMont
set_option linter.unusedVariables false
set_option linter.unusedSimpArgs false
set_option linter.unusedSectionVars false
namespace Go.Proofs.YtgdadkkiefkimaaGreat
open Go.RowKit
theorem mod2add_any (a b m : Int) (w : World) (ha0 : 0 ≤ a) (ha : a ≤ 18446744073709551615) (hb0 : 0 ≤ b) (hb : b ≤ 18446744073709551615) (hm0 : 0 < m) (hm : m ≤ 18446744073709551615) :
    Calls Tryz.prog 184 #[.int .u64 a, .int .u64 b, .int .u64 m] w fun e w' => e = .returned (.int .u64 ((a + b) % m)) ∧ ∃ n, w' = w.drewN n := by
  have h0 : (m == 0) = false := beq_eq_false_iff_ne.2 (by omega)
  have x0 := Int.emod_nonneg a (show m ≠ 0 by omega)
  have x1 := Int.emod_lt_of_pos a hm0
  have y0 := Int.emod_nonneg b (show m ≠ 0 by omega)
  have y1 := Int.emod_lt_of_pos b hm0
  have fin : Hid ((a % m + b % m) % m = (a + b) % m) := Lib.hid (by rw [← Int.add_emod])
  have e1 := add64_run (a % m) (b % m) 0 x0 (by omega) y0 (by omega) (by omega) (by omega)
  rw [Int.add_zero] at e1
  obtain ⟨u, hu⟩ : ∃ u, a % m = u := ⟨_, rfl⟩
  obtain ⟨v, hv⟩ : ∃ v, b % m = v := ⟨_, rfl⟩
  rw [hu, hv] at e1 fin
  rw [hu] at x0 x1
  rw [hv] at y0 y1
  obtain ⟨l, hl⟩ : ∃ l, (u + v) % 18446744073709551616 = l := ⟨_, rfl⟩
  obtain ⟨h, hh⟩ : ∃ h, (u + v) / 18446744073709551616 = h := ⟨_, rfl⟩
  have e2 : Hid (h * 18446744073709551616 + l = u + v) := Lib.hid (by omega)
  have l0 : 0 ≤ l := by omega
  have l1 : l ≤ 18446744073709551615 := by omega
  have g0 : 0 ≤ h := by omega
  have g1 : h ≤ 1 := by omega
  rw [hl, hh] at e1
  clear hl hh
  go_enter Tryz.func184, Tryz.ntmps184
  go_wp2_with fail
  go_quiet (fail)
  go_wp2_with fail
  refine (rem64_any h l m _ g0 (by omega) hm0 l0 l1 hm).mono ?_
  rintro e w1 ⟨rfl, n, rfl⟩
  go_wp2
  go_ret
  exact ⟨ret_int (by rw [e2.out, fin.out]), _, rfl⟩
theorem mod2neg_any (a m : Int) (w : World) (ha0 : 0 ≤ a) (ha : a ≤ 18446744073709551615) (hm0 : 0 < m) (hm : m ≤ 18446744073709551615) :
    Calls Tryz.prog 185 #[.int .u64 a, .int .u64 m] w fun e w' => e = .returned (.int .u64 ((-a) % m)) ∧ w = w' := by
  have h0 : (m == 0) = false := beq_eq_false_iff_ne.2 (by omega)
  have x0 := Int.emod_nonneg a (show m ≠ 0 by omega)
  have x1 := Int.emod_lt_of_pos a hm0
  have e1 : (-a) % m = (- (a % m)) % m := by
    rw [← Int.zero_sub, ← Int.zero_sub, Int.sub_emod, Int.sub_emod 0 (a % m), Int.emod_emod]
  by_cases hz : a % m = 0
  · have tz : (a % m == 0) = true := by simp [hz]
    have fin : Hid ((-a) % m = 0) := Lib.hid (by rw [e1, hz]; simp)
    clear hz e1
    go_enter Tryz.func185, Tryz.ntmps185
    go_wp2
    go_ret
    exact ⟨ret_int fin.out.symm, rfl⟩
  · have tz : (a % m == 0) = false := by simp [hz]
    have fin : Hid (m - a % m = (-a) % m) := Lib.hid (by
      rw [e1, show -(a % m) = (m - a % m) + m * (-1) by omega, Int.add_mul_emod_self_left, show (m - a % m) % m = m - a % m from Int.emod_eq_of_lt (by omega) (by omega)])
    clear hz e1
    go_enter Tryz.func185, Tryz.ntmps185
    go_wp2
    go_ret
    exact ⟨ret_int fin.out, rfl⟩
theorem mod2sub_any (a b m : Int) (w : World) (ha0 : 0 ≤ a) (ha : a ≤ 18446744073709551615) (hb0 : 0 ≤ b) (hb : b ≤ 18446744073709551615) (hm0 : 0 < m) (hm : m ≤ 18446744073709551615) :
    Calls Tryz.prog 175 #[.int .u64 a, .int .u64 b, .int .u64 m] w fun e w' => e = .returned (.int .u64 ((a - b) % m)) ∧ ∃ n, w' = w.drewN n := by
  have x0 := Int.emod_nonneg (-b) (show m ≠ 0 by omega)
  have x1 := Int.emod_lt_of_pos (-b) hm0
  have fin : Hid ((a + (-b) % m) % m = (a - b) % m) := Lib.hid (by rw [Int.add_emod_emod, Int.sub_eq_add_neg])
  have hN := Lib.hid (mod2neg_any b m w hb0 hb hm0 hm)
  have hA := Lib.hid (mod2add_any a ((-b) % m) m w ha0 ha x0 (by omega) hm0 hm)
  obtain ⟨q, hq⟩ : ∃ q, q = (-b) % m := ⟨_, rfl⟩
  rw [← hq] at fin hN hA x0 x1
  clear hq
  go_enter Tryz.func175, Tryz.ntmps175
  go_wp2_with fail
  refine hN.out.mono ?_
  rintro e w1 ⟨rfl, rfl⟩
  go_wp2_with fail
  refine hA.out.mono ?_
  rintro e w1 ⟨rfl, n2, rfl⟩
  go_wp2
  go_ret
  exact ⟨ret_int fin.out, _, rfl⟩

/-- What Inv answers, of a modulus from 2 on. -/
def InvP (a m : Int) (w : World) (r : Ending) (w' : World) : Prop :=
  (∃ n, w' = w.drewN n) ∧ ((Nat.gcd m.toNat (a % m).toNat = 1 ∧ ∃ t, r = .returned (.tuple #[.int .u64 t, .bool true]) ∧ 0 ≤ t ∧ t < m ∧ t * a % m = 1) ∨ (Nat.gcd m.toNat (a % m).toNat ≠ 1 ∧ r = .returned (.tuple #[.int .u64 0, .bool false])))
theorem inv_step {a m t s r x q : Int} (h1 : (t * a - r) % m = 0) (h2 : (s * a - x) % m = 0) : (((t - q * s % m) % m) * a - (r - q * x)) % m = 0 := by
  obtain ⟨c1, e1⟩ := Int.dvd_of_emod_eq_zero h1
  obtain ⟨c2, e2⟩ := Int.dvd_of_emod_eq_zero h2
  have d1 := Int.emod_def (q * s) m
  have d2 := Int.emod_def (t - q * s % m) m
  apply Int.emod_eq_zero_of_dvd
  rw [d2, d1]
  refine ⟨c1 - q * c2 + (q * s / m) * a - ((t - (q * s - m * (q * s / m))) / m) * a, ?_⟩
  generalize (t - (q * s - m * (q * s / m))) / m = z
  generalize q * s / m = y
  grind
theorem modinv_any (a m : Int) (w : World) (ha0 : 0 ≤ a) (ha : a ≤ 18446744073709551615) (hm0 : 2 ≤ m) (hm : m ≤ 18446744073709551615) :
    Calls Tryz.prog 157 #[.int .u64 a, .int .u64 m] w (InvP a m w) := by
  have t0 : decide (m < 2) = false := by simp; omega
  have tz : (m == 0) = false := beq_eq_false_iff_ne.2 (by omega)
  have x0 := Int.emod_nonneg a (show m ≠ 0 by omega)
  have x1 := Int.emod_lt_of_pos a (show 0 < m by omega)
  have hs : Hid ((1 * a - a % m) % m = 0) := Lib.hid (by rw [Int.one_mul]; exact Int.emod_eq_zero_of_dvd ⟨a / m, by have := Int.emod_def a m; omega⟩)
  have hs0 : Hid ((0 * a - m) % m = 0) := Lib.hid (by rw [Int.zero_mul, Int.zero_sub]; simp)
  obtain ⟨x, hx⟩ : ∃ x, x = a % m := ⟨_, rfl⟩
  have HX := Lib.hid hx
  rw [← hx] at x0 x1 hs
  have hxe : a % m = x := hx.symm
  clear hx
  go_enter Tryz.func157, Tryz.ntmps157
  go_wp2_with fail
  go_quiet (fail)
  clear hxe
  go_wp2_with fail
  go_loopw [6, 7, 8, 9, 10] (fun R N T S _ wr => ∃ (r x' t s : Int) (n : Nat), R = .int .u64 r ∧ N = .int .u64 x' ∧ T = .int .u64 t ∧ S = .int .u64 s ∧ wr = w.drewN n ∧ 0 ≤ x' ∧ x' < r ∧ r ≤ m ∧ 0 ≤ t ∧ t < m ∧ 0 ≤ s ∧ s < m ∧ Hid ((t * a - r) % m = 0) ∧ Hid ((s * a - x') % m = 0) ∧ Hid (Nat.gcd r.toNat x'.toNat = Nat.gcd m.toNat x.toNat)) (fun _ N _ _ _ _ => (intOf N).toNat)
  case atStart => exact ⟨m, x, 0, 1, _, rfl, by rw [HX.out], rfl, rfl, rfl, x0, x1, by omega, by omega, by omega, by omega, by omega, hs0, hs, Lib.hid rfl⟩
  case round =>
    obtain ⟨r, y, t, s, n, rfl, rfl, rfl, rfl, rfl, y0, y1, hr, t1, t2, s1, s2, ht, hs', hg⟩ := hrel
    by_cases hy : 0 < y
    · have ty : (y == 0) = false := beq_eq_false_iff_ne.2 (by omega)
      have ty2 : decide (0 < y) = true := by simpa using hy
      obtain ⟨q, hq⟩ : ∃ q, r / y = q := ⟨_, rfl⟩
      have q0 : 0 ≤ q := by rw [← hq]; exact Int.ediv_nonneg (by omega) y0
      have q1 : q ≤ r := by rw [← hq]; exact Int.ediv_le_self _ (by omega)
      have hm1 := Int.emod_nonneg r (show y ≠ 0 by omega)
      have hm2 := Int.emod_lt_of_pos r hy
      have hd : r % y = r - q * y := by rw [← hq, Int.emod_def, Int.mul_comm]
      have hz0 : 0 ≤ q * y := Int.mul_nonneg q0 y0
      obtain ⟨z, hz⟩ : ∃ z, q * y = z := ⟨_, rfl⟩
      rw [hd, hz] at hm1 hm2
      rw [hz] at hz0 hd
      have hst := inv_step (q := q) ht.out hs'.out
      have hgc : Hid (Nat.gcd y.toNat (r - z).toNat = Nat.gcd m.toNat x.toNat) := Lib.hid (by
        rw [← hg.out, ← hd, Nat.gcd_comm r.toNat, Nat.gcd_rec y.toNat r.toNat, Nat.gcd_comm (r.toNat % y.toNat)]
        congr 1
        rw [Int.toNat_emod (by omega) (by omega)])
      rw [hz] at hst
      have hMul := Lib.hid (fun w => modmul_any q s m w q0 (by omega) s1 (by omega) (by omega) hm)
      obtain ⟨v, hv⟩ : ∃ v, q * s % m = v := ⟨_, rfl⟩
      have v0 : 0 ≤ v := by rw [← hv]; exact Int.emod_nonneg _ (by omega)
      have v1 : v < m := by rw [← hv]; exact Int.emod_lt_of_pos _ (by omega)
      rw [hv] at hMul hst
      have hSub := Lib.hid (fun w => mod2sub_any t v m w t1 (by omega) v0 (by omega) (by omega) hm)
      obtain ⟨u, hu⟩ : ∃ u, (t - v) % m = u := ⟨_, rfl⟩
      have u0 : 0 ≤ u := by rw [← hu]; exact Int.emod_nonneg _ (by omega)
      have u1 : u < m := by rw [← hu]; exact Int.emod_lt_of_pos _ (by omega)
      rw [hu] at hSub hst
      have HST : Hid ((u * a - (r - z)) % m = 0) := Lib.hid hst
      have ez : IntKind.u64.wrap (q * y) = z := by rw [hz]; exact IntWalk.u64_in _ (by omega)
      have ez2 : IntKind.u64.wrap (r - z) = r - z := IntWalk.u64_in _ (by omega)
      clear hst hu hv hd
      go_wp2_with fail
      refine (hMul.out _).mono ?_
      rintro e w1 ⟨rfl, n1, rfl⟩
      go_wp2_with fail
      refine (hSub.out _).mono ?_
      rintro e w1 ⟨rfl, n2, rfl⟩
      go_wp2
      go_roundw
      case rel => exact ⟨y, r - z, s, u, _, rfl, rfl, rfl, rfl, rfl, hm1, hm2, by omega, s1, s2, u0, u1, hs', HST, hgc⟩
      case measure => simp only [intOf]; omega
    · obtain rfl : y = 0 := by omega
      have ty2 : decide ((0 : Int) < 0) = false := by simp
      have hgr : r.toNat = Nat.gcd m.toNat x.toNat := by rw [← hg.out]; simp
      by_cases h1 : r = 1
      · subst h1
        have HT : Hid (t * a % m = 1) := Lib.hid (by
          obtain ⟨c, hc⟩ := Int.dvd_of_emod_eq_zero ht.out
          rw [show t * a = 1 + m * c by omega, Int.add_mul_emod_self_left, Int.emod_eq_of_lt (by omega) (by omega)])
        have HG : Hid (Nat.gcd m.toNat x.toNat = 1) := Lib.hid (by rw [← hgr]; rfl)
        clear hgr
        go_wp2
        go_ret2
        exact ⟨⟨_, rfl⟩, .inl ⟨by rw [← HX.out]; exact HG.out, t, rfl, t1, t2, HT.out⟩⟩
      · have tr : (r != 1) = true := by simp [h1]
        have HG : Hid (Nat.gcd m.toNat x.toNat ≠ 1) := Lib.hid (by rw [← hgr]; omega)
        clear hgr h1
        go_wp2
        go_ret2
        exact ⟨⟨_, rfl⟩, .inr ⟨by rw [← HX.out]; exact HG.out, rfl⟩⟩
end Go.Proofs.YtgdadkkiefkimaaGreat
