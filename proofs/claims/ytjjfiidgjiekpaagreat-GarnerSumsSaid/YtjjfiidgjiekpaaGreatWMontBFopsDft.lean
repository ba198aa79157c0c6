/- mont: Out, Add, Neg, Sub. -/
import Derived.Test.YtjjfiidgjiekpaaGreatWMontModB
import Derived.Test.YtjjfiidgjiekpaaGreatWClaimFieldDivides
import Derived.Test.YtjjfiidgjiekpaaGreatWContToRef05
set_option linter.unusedVariables false
set_option linter.unusedSimpArgs false
set_option linter.unusedSectionVars false
section
/- mont: Out, Add, Neg, Sub. -/
namespace Go.Proofs.YtjjfiidgjiekpaaGreat
open Go.RowKit
theorem out_any {w : World} {c : Nat} {m t o s : Int} (hC : Ctx w c m t o s) (a : Int) (h0 : 0 ≤ a) (h1 : a ≤ 18446744073709551615) :
    Calls Tryz.prog 190 #[.pointer (some ⟨c, 0, none⟩), .int .u64 a] w fun e w' => e = .returned (.int .u64 (a * Mont.rinv m % m)) ∧ ∃ n, w' = w.drewN n := by
  have m1 := hC.m1
  have m2 := hC.m2
  have x0 := Int.emod_nonneg a (show m ≠ 0 by omega)
  have x1 := Int.emod_lt_of_pos a (show 0 < m by omega)
  have fin : Hid ((0 * 18446744073709551616 + a % m) * Mont.rinv m % m = a * Mont.rinv m % m) := Lib.hid (by
    rw [Int.zero_mul, Int.zero_add, Int.mul_emod, Int.emod_emod_of_dvd _ ⟨1, by simp⟩, ← Int.mul_emod])
  go_enter Tryz.func190, Tryz.ntmps190
  go_wp2_with fail
  refine (cut_any hC a h0 h1).mono ?_
  rintro e w1 ⟨rfl, n1, rfl⟩
  go_wp2_with fail
  refine (reduce_any (hC.drewN _) 0 _ (by omega) (by omega) x0 (by omega)).mono ?_
  rintro e w1 ⟨rfl, n2, rfl⟩
  go_wp2
  go_ret
  exact ⟨ret_int (by rw [← fin.out]; simp), _, rfl⟩
theorem madd_any {w : World} {c : Nat} {m t o s : Int} (hC : Ctx w c m t o s) (x y : Int) (hx0 : 0 ≤ x) (hx : x ≤ 18446744073709551615) (hy0 : 0 ≤ y) (hy : y ≤ 18446744073709551615) :
    Calls Tryz.prog 68 #[.pointer (some ⟨c, 0, none⟩), .int .u64 x, .int .u64 y] w fun e w' => e = .returned (.int .u64 ((x + y) % m)) ∧ ∃ n, w' = w.drewN n := by
  have c0 := hC.c0
  have m1 := hC.m1
  have m2 := hC.m2
  have x0 := Int.emod_nonneg x (show m ≠ 0 by omega)
  have x1 := Int.emod_lt_of_pos x (show 0 < m by omega)
  have y0 := Int.emod_nonneg y (show m ≠ 0 by omega)
  have y1 := Int.emod_lt_of_pos y (show 0 < m by omega)
  have e0 : (x + y) % m = (x % m + y % m) % m := Int.add_emod ..
  by_cases hge : m ≤ x % m + y % m
  · have fin : Hid (x % m + y % m - m = (x + y) % m) := Lib.hid (by
      rw [e0, show x % m + y % m = (x % m + y % m - m) + m * 1 by omega, Int.add_mul_emod_self_left, show (x % m + y % m - m) % m = x % m + y % m - m from Int.emod_eq_of_lt (by omega) (by omega)]; omega)
    clear e0
    go_enter Tryz.func68, Tryz.ntmps68
    go_wp2_with fail
    refine (cut_any hC x hx0 hx).mono ?_
    rintro e w1 ⟨rfl, n1, rfl⟩
    go_wp2_with fail
    refine (cut_any (hC.drewN n1) y hy0 hy).mono ?_
    rintro e w1 ⟨rfl, n2, rfl⟩
    go_wp2
    go_ret
    exact ⟨ret_int fin.out, _, rfl⟩
  · have fin : Hid (x % m + y % m = (x + y) % m) := Lib.hid (by
      rw [e0, show (x % m + y % m) % m = x % m + y % m from Int.emod_eq_of_lt (by omega) (by omega)])
    clear e0
    go_enter Tryz.func68, Tryz.ntmps68
    go_wp2_with fail
    refine (cut_any hC x hx0 hx).mono ?_
    rintro e w1 ⟨rfl, n1, rfl⟩
    go_wp2_with fail
    refine (cut_any (hC.drewN n1) y hy0 hy).mono ?_
    rintro e w1 ⟨rfl, n2, rfl⟩
    go_wp2
    go_ret
    exact ⟨ret_int fin.out, _, rfl⟩
theorem mneg_any {w : World} {c : Nat} {m t o s : Int} (hC : Ctx w c m t o s) (x : Int) (hx0 : 0 ≤ x) (hx : x ≤ 18446744073709551615) :
    Calls Tryz.prog 136 #[.pointer (some ⟨c, 0, none⟩), .int .u64 x] w fun e w' => e = .returned (.int .u64 ((-x) % m)) ∧ ∃ n, w' = w.drewN n := by
  have c0 := hC.c0
  have m1 := hC.m1
  have m2 := hC.m2
  have x0 := Int.emod_nonneg x (show m ≠ 0 by omega)
  have x1 := Int.emod_lt_of_pos x (show 0 < m by omega)
  have e1 : (-x) % m = (- (x % m)) % m := by
    rw [← Int.zero_sub, ← Int.zero_sub, Int.sub_emod, Int.sub_emod 0 (x % m), Int.emod_emod]
  by_cases hz : x % m = 0
  · have tz : (x % m == 0) = true := by simp [hz]
    have fin : Hid ((-x) % m = 0) := Lib.hid (by rw [e1, hz]; simp)
    have e : Hid (x % m = 0) := Lib.hid hz
    have hcut := fun w => cut_any (w := w) (c := c) (m := m) (t := t) (o := o) (s := s)
    obtain ⟨q, hq⟩ : ∃ q, q = x % m := ⟨_, rfl⟩
    have HC : Hid (Calls Tryz.prog 105 #[.pointer (some ⟨c, 0, none⟩), .int .u64 x] w fun e w' => e = .returned (.int .u64 q) ∧ ∃ n, w' = w.drewN n) := Lib.hid (by rw [hq]; exact cut_any hC x hx0 hx)
    rw [← hq] at tz
    clear hz e1 hq hcut
    go_enter Tryz.func136, Tryz.ntmps136
    go_wp2_with fail
    refine HC.out.mono ?_
    rintro e w1 ⟨rfl, n1, rfl⟩
    go_wp2
    go_ret
    exact ⟨ret_int fin.out.symm, _, rfl⟩
  · have tz : (x % m == 0) = false := by simp [hz]
    have fin : Hid (m - x % m = (-x) % m) := Lib.hid (by
      rw [e1, show -(x % m) = (m - x % m) + m * (-1) by omega, Int.add_mul_emod_self_left, show (m - x % m) % m = m - x % m from Int.emod_eq_of_lt (by omega) (by omega)])
    obtain ⟨q, hq⟩ : ∃ q, q = x % m := ⟨_, rfl⟩
    have HC : Hid (Calls Tryz.prog 105 #[.pointer (some ⟨c, 0, none⟩), .int .u64 x] w fun e w' => e = .returned (.int .u64 q) ∧ ∃ n, w' = w.drewN n) := Lib.hid (by rw [hq]; exact cut_any hC x hx0 hx)
    rw [← hq] at tz fin x0 x1
    clear hz e1 hq
    go_enter Tryz.func136, Tryz.ntmps136
    go_wp2_with fail
    refine HC.out.mono ?_
    rintro e w1 ⟨rfl, n1, rfl⟩
    go_wp2
    go_ret
    exact ⟨ret_int fin.out, _, rfl⟩
theorem msub_any {w : World} {c : Nat} {m t o s : Int} (hC : Ctx w c m t o s) (x y : Int) (hx0 : 0 ≤ x) (hx : x ≤ 18446744073709551615) (hy0 : 0 ≤ y) (hy : y ≤ 18446744073709551615) :
    Calls Tryz.prog 103 #[.pointer (some ⟨c, 0, none⟩), .int .u64 x, .int .u64 y] w fun e w' => e = .returned (.int .u64 ((x - y) % m)) ∧ ∃ n, w' = w.drewN n := by
  have m1 := hC.m1
  have m2 := hC.m2
  have x0 := Int.emod_nonneg (-y) (show m ≠ 0 by omega)
  have x1 := Int.emod_lt_of_pos (-y) (show 0 < m by omega)
  have fin : Hid ((x + (-y) % m) % m = (x - y) % m) := Lib.hid (by rw [Int.add_emod_emod, Int.sub_eq_add_neg])
  have hN := Lib.hid (mneg_any hC y hy0 hy)
  have hA := Lib.hid (fun n => madd_any (hC.drewN n) x ((-y) % m) hx0 hx x0 (by omega))
  obtain ⟨q, hq⟩ : ∃ q, q = (-y) % m := ⟨_, rfl⟩
  rw [← hq] at fin hN hA x0 x1
  clear hq
  go_enter Tryz.func103, Tryz.ntmps103
  go_wp2_with fail
  refine hN.out.mono ?_
  rintro e w1 ⟨rfl, n1, rfl⟩
  go_wp2_with fail
  refine (hA.out _).mono ?_
  rintro e w1 ⟨rfl, n2, rfl⟩
  go_wp2
  go_ret
  exact ⟨ret_int fin.out, _, rfl⟩

end Go.Proofs.YtjjfiidgjiekpaaGreat
end

section
/- The field's operations. -/
namespace Go.Proofs.YtjjfiidgjiekpaaGreat
open Go.RowKit
theorem Fd.drewN {w : World} {B : Nat} {v : Value} {p g : Int} (h : Fd w B v p g) (n : Nat) : Fd (w.drewN n) B v p g := h.below (below_drewN (Below.refl _ _) n)
theorem Fd.p3 {w : World} {B : Nat} {v : Value} {p g : Int} (h : Fd w B v p g) : 3 ≤ p := by
  obtain ⟨b, c, t, o, s, sv, rfl, hb, hc, hF⟩ := h
  exact hF.ctx.m1
theorem Fd.pmx {w : World} {B : Nat} {v : Value} {p g : Int} (h : Fd w B v p g) : p < 9223372036854775808 := by
  obtain ⟨b, c, t, o, s, sv, rfl, hb, hc, hF⟩ := h
  exact hF.ctx.m2

section
variable {w : World} {B : Nat} {v : Value} {p g : Int}
theorem fP_fd (h : Fd w B v p g) : Calls Tryz.prog 27 #[v] w fun e w' => e = .returned (.int .u64 p) ∧ w = w' := by
  obtain ⟨b, c, t, o, s, sv, rfl, hb, hc, hF⟩ := h
  have f1 := hF.f1
  go_enter Tryz.func27, Tryz.ntmps27
  go_wp2
  go_ret
  exact ⟨rfl, rfl⟩
theorem fP_nil (w : World) : Calls Tryz.prog 27 #[.pointer none] w fun e w' => e = .returned (.int .u64 0) ∧ w = w' := by
  go_enter Tryz.func27, Tryz.ntmps27
  go_wp2
  go_ret
  exact ⟨rfl, rfl⟩
theorem fgood_fd (h : Fd w B v p g) (x : Int) (h0 : 0 ≤ x) (h1 : x ≤ 18446744073709551615) : Calls Tryz.prog 143 #[v, .int .u64 x] w fun e w' => e = .returned (.bool (decide (x < p))) ∧ w = w' := by
  obtain ⟨b, c, t, o, s, sv, rfl, hb, hc, hF⟩ := h
  have f1 := hF.f1
  go_enter Tryz.func143, Tryz.ntmps143
  go_wp2
  go_ret
  exact ⟨rfl, rfl⟩
theorem fadd_fd (h : Fd w B v p g) (x y : Int) (hx0 : 0 ≤ x) (hx : x ≤ 18446744073709551615) (hy0 : 0 ≤ y) (hy : y ≤ 18446744073709551615) :
    Calls Tryz.prog 31 #[v, .int .u64 x, .int .u64 y] w fun e w' => e = .returned (.int .u64 ((x + y) % p)) ∧ ∃ n, w' = w.drewN n := by
  obtain ⟨b, c, t, o, s, sv, rfl, hb, hc, hF⟩ := h
  have f0 := hF.f0
  go_enter Tryz.func31, Tryz.ntmps31
  go_wp2_with fail
  refine (madd_any hF.ctx x y hx0 hx hy0 hy).mono ?_
  rintro e w1 ⟨rfl, n1, rfl⟩
  go_wp2
  go_ret
  exact ⟨rfl, _, rfl⟩
theorem fsub_fd (h : Fd w B v p g) (x y : Int) (hx0 : 0 ≤ x) (hx : x ≤ 18446744073709551615) (hy0 : 0 ≤ y) (hy : y ≤ 18446744073709551615) :
    Calls Tryz.prog 64 #[v, .int .u64 x, .int .u64 y] w fun e w' => e = .returned (.int .u64 ((x - y) % p)) ∧ ∃ n, w' = w.drewN n := by
  obtain ⟨b, c, t, o, s, sv, rfl, hb, hc, hF⟩ := h
  have f0 := hF.f0
  go_enter Tryz.func64, Tryz.ntmps64
  go_wp2_with fail
  refine (msub_any hF.ctx x y hx0 hx hy0 hy).mono ?_
  rintro e w1 ⟨rfl, n1, rfl⟩
  go_wp2
  go_ret
  exact ⟨rfl, _, rfl⟩
theorem flift_fd (h : Fd w B v p g) (x : Int) (hx0 : 0 ≤ x) (hx : x ≤ 18446744073709551615) :
    Calls Tryz.prog 117 #[v, .int .u64 x] w fun e w' => e = .returned (.int .u64 (lft p x)) ∧ ∃ n, w' = w.drewN n := by
  obtain ⟨b, c, t, o, s, sv, rfl, hb, hc, hF⟩ := h
  have f0 := hF.f0
  go_enter Tryz.func117, Tryz.ntmps117
  go_wp2_with fail
  refine (in_any hF.ctx x hx0 hx).mono ?_
  rintro e w1 ⟨rfl, n1, rfl⟩
  go_wp2
  go_ret
  exact ⟨rfl, _, rfl⟩
theorem ftimes_fd (h : Fd w B v p g) (a y : Int) (hy0 : 0 ≤ y) (hy : y ≤ 18446744073709551615) :
    Calls Tryz.prog 77 #[v, .int .u64 (lft p a), .int .u64 y] w fun e w' => e = .returned (.int .u64 (a * y % p)) ∧ ∃ n, w' = w.drewN n := by
  obtain ⟨b, c, t, o, s, sv, rfl, hb, hc, hF⟩ := h
  have f0 := hF.f0
  have m1 := hF.ctx.m1
  have m2 := hF.ctx.m2
  have hr := lft_range (show 1 ≤ p by omega) a
  have fin : Hid (lft p a * y * Mont.rinv p % p = a * y % p) := Lib.hid (lft_mul (by omega) hF.ctx.mo)
  have hM := Lib.hid (mmul_any hF.ctx (lft p a) y hr.1 (by omega) hy0 hy)
  obtain ⟨z, hz⟩ : ∃ z, z = lft p a := ⟨_, rfl⟩
  rw [← hz] at fin hM ⊢
  clear hz hr
  go_enter Tryz.func77, Tryz.ntmps77
  go_wp2_with fail
  refine hM.out.mono ?_
  rintro e w1 ⟨rfl, n1, rfl⟩
  go_wp2
  go_ret
  exact ⟨ret_int fin.out, _, rfl⟩
theorem fmul_fd (h : Fd w B v p g) (x y : Int) (hx0 : 0 ≤ x) (hx : x ≤ 18446744073709551615) (hy0 : 0 ≤ y) (hy : y ≤ 18446744073709551615) :
    Calls Tryz.prog 63 #[v, .int .u64 x, .int .u64 y] w fun e w' => e = .returned (.int .u64 (x * y % p)) ∧ ∃ n, w' = w.drewN n := by
  obtain ⟨b, c, t, o, s, sv, rfl, hb, hc, hF⟩ := h
  have f0 := hF.f0
  have m1 := hF.ctx.m1
  have m2 := hF.ctx.m2
  have hr := lft_range (show 1 ≤ p by omega) x
  have fin : Hid (lft p x * y * Mont.rinv p % p = x * y % p) := Lib.hid (lft_mul (by omega) hF.ctx.mo)
  have hI := Lib.hid (fun n => in_any (hF.ctx.drewN n) x hx0 hx)
  have hM := Lib.hid (fun n => mmul_any (hF.ctx.drewN n) (lft p x) y hr.1 (by omega) hy0 hy)
  obtain ⟨z, hz⟩ : ∃ z, z = lft p x := ⟨_, rfl⟩
  rw [← hz] at fin hM hI
  clear hz hr
  go_enter Tryz.func63, Tryz.ntmps63
  go_wp2_with fail
  go_quiet ((first | (go_at_call 102; exact Calls.quiet_of (hI.out _)) | (go_at_call 101; exact Calls.quiet_of (hM.out _))))
  go_wp2
  go_ret
  exact ⟨ret_int fin.out, _, rfl⟩
theorem fpow_fd (h : Fd w B v p g) (x y : Int) (hx0 : 0 ≤ x) (hx : x ≤ 18446744073709551615) (hy0 : 0 ≤ y) (hy : y ≤ 18446744073709551615) :
    Calls Tryz.prog 176 #[v, .int .u64 x, .int .u64 y] w fun e w' => e = .returned (.int .u64 (x ^ y.toNat % p)) ∧ ∃ n, w' = w.drewN n := by
  obtain ⟨b, c, t, o, s, sv, rfl, hb, hc, hF⟩ := h
  have f0 := hF.f0
  have m1 := hF.ctx.m1
  have m2 := hF.ctx.m2
  have hr := lft_range (show 1 ≤ p by omega) (x ^ y.toNat)
  have fin : Hid (lft p (x ^ y.toNat) * Mont.rinv p % p = x ^ y.toNat % p) := Lib.hid (by
    have := lft_mul (a := x ^ y.toNat) (y := 1) (show 1 < p by omega) hF.ctx.mo
    simpa using this)
  have hI := Lib.hid (fun n => in_any (hF.ctx.drewN n) x hx0 hx)
  have hP := Lib.hid (fun n => mpow_any (hF.ctx.drewN n) x y hy0 hy)
  have hO := Lib.hid (fun n => out_any (hF.ctx.drewN n) (lft p (x ^ y.toNat)) hr.1 (by omega))
  obtain ⟨z, hz⟩ : ∃ z, z = lft p x := ⟨_, rfl⟩
  obtain ⟨z2, hz2⟩ : ∃ z2, z2 = lft p (x ^ y.toNat) := ⟨_, rfl⟩
  obtain ⟨z3, hz3⟩ : ∃ z3, z3 = x ^ y.toNat % p := ⟨_, rfl⟩
  rw [← hz] at hI hP
  rw [← hz2] at fin hP hO
  rw [← hz3] at fin ⊢
  clear hz hz2 hz3 hr
  go_enter Tryz.func176, Tryz.ntmps176
  go_wp2_with fail
  go_quiet ((first | (go_at_call 102; exact Calls.quiet_of (hI.out _)) | (go_at_call 174; exact Calls.quiet_of (hP.out _)) | (go_at_call 190; exact Calls.quiet_of (hO.out _))))
  go_wp2
  go_ret
  exact ⟨ret_int fin.out, _, rfl⟩
/-- What makes 1 with it; 0, if there is none. -/
def InvOf (p x t : Int) : Prop := (Nat.gcd p.toNat (x % p).toNat = 1 ∧ 0 ≤ t ∧ t < p ∧ t * x % p = 1) ∨ (Nat.gcd p.toNat (x % p).toNat ≠ 1 ∧ t = 0)
/-- What Inv answers, of the field's prime. -/
def FInvP (p x : Int) (w : World) (r : Ending) (w' : World) : Prop :=
  (∃ n, w' = w.drewN n) ∧ ∃ t, r = .returned (.int .u64 t) ∧ InvOf p x t
theorem InvOf.range {p x t : Int} (hp : 1 ≤ p) (h : InvOf p x t) : 0 ≤ t ∧ t < p := by
  rcases h with ⟨_, a, b, _⟩ | ⟨_, rfl⟩
  · exact ⟨a, b⟩
  · omega
theorem finv_fd (h : Fd w B v p g) (x : Int) (hx0 : 0 ≤ x) (hx : x ≤ 18446744073709551615) :
    Calls Tryz.prog 96 #[v, .int .u64 x] w (FInvP p x w) := by
  have p3 := h.p3
  have pm := h.pmx
  have hP := Lib.hid (fP_fd h)
  have hI := Lib.hid (modinv_any x p w hx0 hx (by omega) (by omega))
  clear h
  go_enter Tryz.func96, Tryz.ntmps96
  go_wp2_with fail
  refine hP.out.mono ?_
  rintro e w1 ⟨rfl, rfl⟩
  go_wp2_with fail
  refine hI.out.mono ?_
  rintro e w1 ⟨⟨n, rfl⟩, ⟨hg, t, rfl, t0, t1, ht⟩ | ⟨hg, rfl⟩⟩
  · have HG := Lib.hid (And.intro hg ht)
    clear hg ht
    go_wp2
    go_ret
    exact ⟨⟨_, rfl⟩, t, rfl, .inl ⟨HG.out.1, t0, t1, HG.out.2⟩⟩
  · have HG := Lib.hid hg
    clear hg
    go_wp2
    go_ret
    exact ⟨⟨_, rfl⟩, 0, rfl, .inr ⟨HG.out, rfl⟩⟩
theorem froot_nil (n : Int) (w : World) : Calls Tryz.prog 163 #[.pointer none, .int .i64 n] w fun e w' => e = .returned (.tuple #[.int .u64 0, .int .i64 2]) ∧ w = w' := by
  go_enter Tryz.func163, Tryz.ntmps163
  go_wp2
  go_ret2
  exact ⟨rfl, rfl⟩
theorem froot_no (h : Fd w B v p g) (n : Int) (h0 : -9223372036854775808 ≤ n) (h1 : n ≤ 9223372036854775807) (hd : (decide (0 < n) && ((p - 1) % n == 0)) = false) :
    Calls Tryz.prog 163 #[v, .int .i64 n] w fun e w' => e = .returned (.tuple #[.int .u64 0, .int .i64 4]) ∧ w = w' := by
  have hD := Lib.hid (divides_fd h n h0 h1)
  rw [hd] at hD
  clear hd
  obtain ⟨b, c, t, o, s, sv, rfl, hb, hc, hF⟩ := h
  go_enter Tryz.func163, Tryz.ntmps163
  go_wp2_with fail
  refine hD.out.mono ?_
  rintro e w1 ⟨rfl, rfl⟩
  go_wp2
  go_ret2
  exact ⟨rfl, rfl⟩
theorem froot_yes (h : Fd w B v p g) (n : Int) (h0 : -9223372036854775808 ≤ n) (h1 : n ≤ 9223372036854775807) (hd : (decide (0 < n) && ((p - 1) % n == 0)) = true) (g0 : 0 ≤ g) (g1 : g < p) :
    Calls Tryz.prog 163 #[v, .int .i64 n] w fun e w' => e = .returned (.tuple #[.int .u64 (g ^ ((p - 1) / n).toNat % p), .int .i64 0]) ∧ ∃ k, w' = w.drewN k := by
  have hD := Lib.hid (divides_fd h n h0 h1)
  have p3 := h.p3
  have pm := h.pmx
  rw [hd] at hD
  have hn : 0 < n := by
    simp only [Bool.and_eq_true, decide_eq_true_eq] at hd
    exact hd.1
  have q0 : 0 ≤ (p - 1) / n := Int.ediv_nonneg (by omega) (by omega)
  have q1 : (p - 1) / n ≤ p - 1 := Int.ediv_le_self _ (by omega)
  have tn : (n == 0) = false := beq_eq_false_iff_ne.2 (by omega)
  have hPw := Lib.hid (fun k => fpow_fd (h.drewN k) g ((p - 1) / n) g0 (by omega) q0 (by omega))
  obtain ⟨z, hz⟩ : ∃ z, z = g ^ ((p - 1) / n).toNat % p := ⟨_, rfl⟩
  rw [← hz] at hPw ⊢
  clear hd hz
  obtain ⟨b, c, t, o, s, sv, rfl, hb, hc, hF⟩ := h
  have f1 := hF.f1
  have f2 := hF.f2
  have e1 : IntKind.u64.wrap (p - 1) = p - 1 := IntWalk.u64_in _ (by omega)
  have e2 : 0 ≤ p - 1 := by omega
  go_enter Tryz.func163, Tryz.ntmps163
  go_wp2_with fail
  refine hD.out.mono ?_
  rintro e w1 ⟨rfl, rfl⟩
  go_wp2_with fail
  go_quiet ((go_at_call 176; exact Calls.quiet_of (hPw.out _)))
  go_wp2
  go_ret2
  exact ⟨rfl, _, rfl⟩
end
end Go.Proofs.YtjjfiidgjiekpaaGreat
end

section
/- dft: Check, Good, Scale; the document's Check, Good. -/
namespace Go.Proofs.YtjjfiidgjiekpaaGreat
open Go.RowKit

theorem info_u64 : (Tryz.prog.info? 22).map (fun i => (i.zero, i.size, i.bytes)) = some (some (.int .u64 0), 1, 8) := by kernel_rfl
/-- What is wrong with a length. -/
def chk (p n most : Int) : Int := if n < 1 then 1 else if most < n then 13 else if (p - 1) % n = 0 then 0 else 4
theorem check_nil (n most : Int) (w : World) : Calls Tryz.prog 113 #[.pointer none, .int .i64 n, .int .i64 most] w fun e w' => e = .returned (.int .i64 2) ∧ w = w' := by
  go_enter Tryz.func113, Tryz.ntmps113
  go_wp2
  go_ret
  exact ⟨rfl, rfl⟩
theorem check_fd {w : World} {B : Nat} {v : Value} {p g : Int} (h : Fd w B v p g) (n most : Int) (h0 : -9223372036854775808 ≤ n) (h1 : n ≤ 9223372036854775807) :
    Calls Tryz.prog 113 #[v, .int .i64 n, .int .i64 most] w fun e w' => e = .returned (.int .i64 (chk p n most)) ∧ w = w' := by
  have hD := Lib.hid (divides_fd h n h0 h1)
  obtain ⟨b, c, t, o, s, sv, rfl, hb, hc, hF⟩ := h
  by_cases c1 : n < 1
  · have HC : Hid (chk p n most = 1) := Lib.hid (by unfold chk; rw [if_pos c1])
    go_enter Tryz.func113, Tryz.ntmps113
    go_wp2
    go_ret
    exact ⟨ret_int HC.out.symm, rfl⟩
  · by_cases c2 : most < n
    · have HC : Hid (chk p n most = 13) := Lib.hid (by unfold chk; rw [if_neg c1, if_pos c2])
      have t2 : decide (most < n) = true := by simpa using c2
      go_enter Tryz.func113, Tryz.ntmps113
      go_wp2
      go_ret
      exact ⟨ret_int HC.out.symm, rfl⟩
    · have hp : decide (0 < n) = true := by simp; omega
      have t2 : decide (most < n) = false := by simpa using c2
      by_cases c3 : (p - 1) % n = 0
      · have HC : Hid (chk p n most = 0) := Lib.hid (by unfold chk; rw [if_neg c1, if_neg c2, if_pos c3])
        have hb : (decide (0 < n) && ((p - 1) % n == 0)) = true := by rw [hp, c3]; rfl
        rw [hb] at hD
        clear c3 hb
        go_enter Tryz.func113, Tryz.ntmps113
        go_wp2_with fail
        refine hD.out.mono ?_
        rintro e w1 ⟨rfl, rfl⟩
        go_wp2
        go_ret
        exact ⟨ret_int HC.out.symm, rfl⟩
      · have HC : Hid (chk p n most = 4) := Lib.hid (by unfold chk; rw [if_neg c1, if_neg c2, if_neg c3])
        have hb : (decide (0 < n) && ((p - 1) % n == 0)) = false := by rw [hp]; simpa using c3
        rw [hb] at hD
        clear c3 hb
        go_enter Tryz.func113, Tryz.ntmps113
        go_wp2_with fail
        refine hD.out.mono ?_
        rintro e w1 ⟨rfl, rfl⟩
        go_wp2
        go_ret
        exact ⟨ret_int HC.out.symm, rfl⟩
theorem r11check_any (p n most : Int) (w : World) (p1 : 3 ≤ p) (p2 : p < 9223372036854775808) (h0 : -9223372036854775808 ≤ n) (h1 : n ≤ 9223372036854775807) :
    Calls Tryz.prog 35 #[.int .u64 p, .int .i64 n, .int .i64 most] w fun e w' => e = .returned (.int .i64 (chk p n most)) ∧ w = w' := by
  by_cases c1 : n < 1
  · have HC : Hid (chk p n most = 1) := Lib.hid (by unfold chk; rw [if_pos c1])
    go_enter Tryz.func35, Tryz.ntmps35
    go_wp2
    go_ret
    exact ⟨ret_int HC.out.symm, rfl⟩
  · by_cases c2 : most < n
    · have HC : Hid (chk p n most = 13) := Lib.hid (by unfold chk; rw [if_neg c1, if_pos c2])
      have t2 : decide (most < n) = true := by simpa using c2
      go_enter Tryz.func35, Tryz.ntmps35
      go_wp2
      go_ret
      exact ⟨ret_int HC.out.symm, rfl⟩
    · have hz : (n == 0) = false := beq_eq_false_iff_ne.2 (by omega)
      have t2 : decide (most < n) = false := by simpa using c2
      by_cases c3 : (p - 1) % n = 0
      · have HC : Hid (chk p n most = 0) := Lib.hid (by unfold chk; rw [if_neg c1, if_neg c2, if_pos c3])
        have hb : ((p - 1) % n != 0) = false := by simp [c3]
        clear c3
        go_enter Tryz.func35, Tryz.ntmps35
        go_wp2
        go_ret
        exact ⟨ret_int HC.out.symm, rfl⟩
      · have HC : Hid (chk p n most = 4) := Lib.hid (by unfold chk; rw [if_neg c1, if_neg c2, if_neg c3])
        have hb : ((p - 1) % n != 0) = true := by simp [c3]
        clear c3
        go_enter Tryz.func35, Tryz.ntmps35
        go_wp2
        go_ret
        exact ⟨ret_int HC.out.symm, rfl⟩

/-- Are all below p? -/
def goodB (p : Int) (L : List Int) : Bool := L.all fun x => decide (x < p)
theorem goodB_step {p : Int} {L : List Int} {k : Nat} (hk : k < L.length) (h : goodB p (L.take k) = true) : goodB p (L.take (k + 1)) = decide (L.getD k 0 < p) := by
  unfold goodB at *
  rw [List.take_succ_eq_append_getElem hk, List.all_append, h, List.getD_eq_getElem?_getD, List.getElem?_eq_getElem hk]; simp
theorem goodB_no {p : Int} {L : List Int} {k : Nat} (hk : k < L.length) (h : ¬ L.getD k 0 < p) : goodB p L = false := by
  unfold goodB
  rw [List.all_eq_false]
  exact ⟨L[k], List.getElem_mem hk, by rw [List.getD_eq_getElem?_getD, List.getElem?_eq_getElem hk] at h; simpa using h⟩
/-- Bounds of a list's numbers. -/
def U64s (L : List Int) : Prop := ∀ x ∈ L, 0 ≤ x ∧ x ≤ 18446744073709551615
theorem U64s.at {L : List Int} (h : U64s L) {k : Nat} (hk : k < L.length) : 0 ≤ L.getD k 0 ∧ L.getD k 0 ≤ 18446744073709551615 := by
  rw [List.getD_eq_getElem?_getD, List.getElem?_eq_getElem hk]; exact h _ (List.getElem_mem hk)

set_option maxHeartbeats 400000 in
theorem good_fd {w : World} {B : Nat} {v : Value} {p g : Int} (h : Fd w B v p g) (A : Option Addr) (c n : Nat) (L : List Int) (hl : L.length ≤ 140737488351232) (hU : U64s L) (hR : RdI w n .u64 A L) :
    Calls Tryz.prog 115 #[v, .slice A L.length c] w fun e w' => e = .returned (.bool (goodB p L)) ∧ w = w' := by
  have hG := Lib.hid (fun x h0 h1 => fgood_fd h x h0 h1)
  obtain ⟨bf, cf, t, o, s, sv, rfl, hb, hc, hF⟩ := h
  have HU := Lib.hid hU
  clear hF hU
  go_enter Tryz.func115, Tryz.ntmps115
  go_wp2
  go_loopw [6, 9] (fun _ I wr => ∃ k : Nat, I = .int .i64 k ∧ k ≤ L.length ∧ Hid (goodB p (L.take k) = true) ∧ wr = w) (fun _ I _ => L.length - (intOf I).toNat)
  case atStart => exact ⟨0, rfl, by omega, Lib.hid rfl, rfl⟩
  case round =>
    obtain ⟨k, rfl, hk, hg, rfl⟩ := hrel
    by_cases hlt : k < L.length
    · obtain ⟨b, o', rfl, hbl, hcell⟩ := hR (by omega)
      have d := hcell k hlt
      obtain ⟨x, hx⟩ : ∃ x, x = L.getD k 0 := ⟨_, rfl⟩
      have hu := HU.out.at hlt
      have hs := goodB_step hlt hg.out
      have hno := fun h => goodB_no (p := p) hlt h
      rw [← hx] at d hu hs hno
      clear hx hcell hR
      by_cases hxp : x < p
      · have HS : Hid (goodB p (L.take (k + 1)) = true) := Lib.hid (by rw [hs]; simpa using hxp)
        have t1 : decide (x < p) = true := by simpa using hxp
        clear hs hno
        go_wp2_with fail
        refine (hG.out x hu.1 hu.2).mono ?_
        rintro e w1 ⟨rfl, rfl⟩
        go_wp2
        go_roundw
        case rel => exact ⟨k + 1, by go_num, by omega, HS, by trivial⟩
        case measure => simp [intOf]; omega
      · have HS : Hid (goodB p L = false) := Lib.hid (hno hxp)
        have t1 : decide (x < p) = false := by simpa using hxp
        clear hs hno
        go_wp2_with fail
        refine (hG.out x hu.1 hu.2).mono ?_
        rintro e w1 ⟨rfl, rfl⟩
        go_wp2
        go_ret
        exact ⟨by rw [HS.out]; first | rfl | simp, rfl⟩
    · obtain rfl : k = L.length := by omega
      have hz := hg.out
      rw [List.take_length] at hz
      have HZ := Lib.hid hz
      clear hz hg
      go_wp2
      go_ret
      exact ⟨by rw [HZ.out]; first | rfl | simp, rfl⟩

theorem r11good_any (A : Option Addr) (c n : Nat) (p : Int) (L : List Int) (w : World) (hl : L.length ≤ 140737488351232) (hR : RdI w n .u64 A L) :
    Calls Tryz.prog 36 #[.int .u64 p, .slice A L.length c] w fun e w' => e = .returned (.bool (goodB p L)) ∧ w = w' := by
  go_enter Tryz.func36, Tryz.ntmps36
  go_wp2
  go_loopw [6, 9] (fun _ I wr => ∃ k : Nat, I = .int .i64 k ∧ k ≤ L.length ∧ Hid (goodB p (L.take k) = true) ∧ wr = w) (fun _ I _ => L.length - (intOf I).toNat)
  case atStart => exact ⟨0, rfl, by omega, Lib.hid rfl, rfl⟩
  case round =>
    obtain ⟨k, rfl, hk, hg, rfl⟩ := hrel
    by_cases hlt : k < L.length
    · obtain ⟨b, o', rfl, hbl, hcell⟩ := hR (by omega)
      have d := hcell k hlt
      obtain ⟨x, hx⟩ : ∃ x, x = L.getD k 0 := ⟨_, rfl⟩
      have hs := goodB_step hlt hg.out
      have hno := fun h => goodB_no (p := p) hlt h
      rw [← hx] at d hs hno
      clear hx hcell hR
      by_cases hxp : x < p
      · have HS : Hid (goodB p (L.take (k + 1)) = true) := Lib.hid (by rw [hs]; simpa using hxp)
        have t1 : decide (p ≤ x) = false := by simp; omega
        clear hs hno
        go_wp2
        go_roundw
        case rel => exact ⟨k + 1, by go_num, by omega, HS, by trivial⟩
        case measure => simp [intOf]; omega
      · have HS : Hid (goodB p L = false) := Lib.hid (hno hxp)
        have t1 : decide (p ≤ x) = true := by simp; omega
        clear hs hno
        go_wp2
        go_ret
        exact ⟨by rw [HS.out]; first | rfl | simp, rfl⟩
    · obtain rfl : k = L.length := by omega
      have hz := hg.out
      rw [List.take_length] at hz
      have HZ := Lib.hid hz
      clear hz hg
      go_wp2
      go_ret
      exact ⟨by rw [HZ.out]; first | rfl | simp, rfl⟩
end Go.Proofs.YtjjfiidgjiekpaaGreat
end
