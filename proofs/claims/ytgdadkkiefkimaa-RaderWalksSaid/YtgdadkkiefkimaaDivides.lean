/- (*Field).Divides. -/
import Derived.Test.YtgdadkkiefkimaaField
namespace Go.Proofs.Ytgdadkkiefkimaa
open Go.RowKit

theorem divides_nil (n : Int) (w : World) : Calls Try.prog 26 #[.pointer none, .int .i64 n] w fun e w' => e = .returned (.bool false) ∧ w = w' := by
  go_enter Try.func26, Try.ntmps26
  go_wp2
  go_ret
  exact ⟨rfl, rfl⟩
theorem divides_fd {w : World} {B : Nat} {v : Value} {p g : Int} (h : Fd w B v p g) (n : Int) (h0 : -9223372036854775808 ≤ n) (h1 : n ≤ 9223372036854775807) :
    Calls Try.prog 26 #[v, .int .i64 n] w fun e w' => e = .returned (.bool (decide (0 < n) && ((p - 1) % n == 0))) ∧ w = w' := by
  obtain ⟨b, c, t, o, s, sv, rfl, hb, hc, hF⟩ := h
  have f1 := hF.f1
  have m1 := hF.ctx.m1
  have m2 := hF.ctx.m2
  by_cases hn : 0 < n
  · have t1 : decide (0 < n) = true := by simpa using hn
    have t2 : (n == 0) = false := by simp; omega
    have HZ : Hid ((decide (0 < n) && ((p - 1) % n == 0)) = ((p - 1) % n == 0)) := Lib.hid (by rw [t1]; rfl)
    go_enter Try.func26, Try.ntmps26
    go_wp2
    go_ret
    exact ⟨by rw [HZ.out]; first | rfl | simp, rfl⟩
  · have t1 : decide (0 < n) = false := by simpa using hn
    have HZ : Hid ((decide (0 < n) && ((p - 1) % n == 0)) = false) := Lib.hid (by rw [t1]; rfl)
    clear hn
    go_enter Try.func26, Try.ntmps26
    go_wp2
    go_ret
    exact ⟨by rw [HZ.out]; first | rfl | simp, rfl⟩
end Go.Proofs.Ytgdadkkiefkimaa
