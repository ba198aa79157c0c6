/- The document's odd primes, orders, generators. -/
import Derived.Test.YtgdadkkiefkimaaRef16
import Derived.Test.YtgdadkkiefkimaaGen
namespace Go.Proofs.Ytgdadkkiefkimaa
open Go.RowKit
open Alg

theorem rodd_any (n : Int) (w : World) (h1 : 0 ≤ n) (h2 : n ≤ 18446744073709551615) :
    Calls Try.prog 32 #[.int .u64 n] w fun e w' => e = .returned (.bool (decide (2 < n) && decide (n ≤ 65536) && isP n.toNat)) ∧ w = w' := by
  by_cases a : 2 < n
  · by_cases b : n ≤ 65536
    · obtain ⟨k, rfl⟩ := Int.eq_ofNat_of_zero_le h1
      go_enter Try.func32, Try.ntmps32
      go_wp2_with (go_at_call 15; refine (rprime_any k _ (by omega) (by omega)).mono ?_; rintro e w1 ⟨rfl, rfl⟩)
      go_ret
      exact ⟨ret_bool (by simp; omega), rfl⟩
    · go_enter Try.func32, Try.ntmps32
      go_wp2
      go_ret
      exact ⟨ret_bool (by simp; omega), rfl⟩
  · go_enter Try.func32, Try.ntmps32
    go_wp2
    go_ret
    exact ⟨ret_bool (by simp; omega), rfl⟩

set_option maxHeartbeats 1000000 in
/-- How often a number is multiplied till it is 1: its order. -/
theorem rorder_any (g p N : Nat) (w : World) (hp : 2 ≤ p) (hp6 : p ≤ 65536) (hg : g < p) (hN : 0 < N) (hNp : N < p) (h1 : (g : Int) ^ N % (p : Int) = 1) (hno : ∀ k, 0 < k → k < N → (g : Int) ^ k % (p : Int) ≠ 1) :
    Calls Try.prog 39 #[.int .u64 g, .int .u64 p] w fun e w' => e = .returned (.int .u64 N) ∧ w = w' := by
  have tp : ((p : Int) == 0) = false := by simp; omega
  have e1 : (g : Int) % (p : Int) = (g : Int) := Int.emod_eq_of_lt (by omega) (by omega)
  have HK := Lib.hid (And.intro h1 hno)
  clear h1 hno
  go_enter Try.func39, Try.ntmps39
  go_wp2
  go_loopw [5, 6] (fun C X wr => ∃ (n : Nat) (x : Int), C = .int .u64 n ∧ X = .int .u64 x ∧ 1 ≤ n ∧ n ≤ N ∧ 0 ≤ x ∧ x < p ∧ Hid (x = (g : Int) ^ n % (p : Int)) ∧ wr = w) (fun C _ _ => N - (intOf C).toNat)
  case atStart => exact ⟨1, g, rfl, by first | rfl | rw [e1], by omega, by omega, by omega, by omega, Lib.hid (by rw [Int.pow_one, e1]), rfl⟩
  case round =>
    clear e1
    obtain ⟨n, x, rfl, rfl, n1, nN, x0, x1, hx, rfl⟩ := hrel
    by_cases hn : n = N
    · have hx1 : x = 1 := by rw [hx.out, hn]; exact HK.out.1
      subst hx1
      subst hn
      go_wp2
      go_ret
      exact ⟨rfl, rfl⟩
    · have hx1 : x ≠ 1 := by rw [hx.out]; exact HK.out.2 n (by omega) (by omega)
      have t1 : (x != 1) = true := by simp [hx1]
      have m0 : 0 ≤ x * g := Int.mul_nonneg x0 (by omega)
      have m1 : x * g ≤ 65536 * 65536 := Int.mul_le_mul (by omega) (by omega) (by omega) (by omega)
      obtain ⟨y, hy⟩ : ∃ y, x * g % p = y := ⟨_, rfl⟩
      have y0 : 0 ≤ y := by rw [← hy]; exact Int.emod_nonneg _ (by omega)
      have y1 : y < p := by rw [← hy]; exact Int.emod_lt_of_pos _ (by omega)
      have HY : Hid (y = (g : Int) ^ (n + 1) % (p : Int)) := Lib.hid (by rw [← hy, hx.out, Int.mul_emod, Int.emod_emod, ← Int.mul_emod, Int.pow_succ])
      go_wp2
      go_roundw
      case rel => exact ⟨n + 1, y, by go_num, by first | rfl | rw [hy], by omega, by omega, y0, y1, HY, by trivial⟩
      case measure => simp [intOf]; omega

/-- The order of a number modulo a prime. -/
theorem has_order {p g : Nat} (hp : Prime p) (h2 : 1 ≤ g) (hg : g < p) : ∃ N, 0 < N ∧ N < p ∧ (g : Int) ^ N % (p : Int) = 1 ∧ (∀ k, 0 < k → k < N → (g : Int) ^ k % (p : Int) ≠ 1) ∧ (N = p - 1 ↔ GenOk p g) := by
  haveI : NeZero p := ⟨by have := hp.1; omega⟩
  have hz : zt p (g : Int) ≠ 0 := fun h => by
    have h1 := zt_val (p := p) (g : Int)
    rw [h, Int.emod_eq_of_lt (by omega) (by omega)] at h1
    simp at h1; omega
  have hp2 := hp.1
  have hf := fermat hp _ hz
  obtain ⟨N, hN⟩ : ∃ N, Ord (zt p (g : Int)) N := by
    have key : ∀ n, (0 < n ∧ pw (zt p (g : Int)) n = 1) → ∃ N, Ord (zt p (g : Int)) N := by
      intro n
      induction n using Nat.strongRecOn with
      | _ n ih =>
        intro h
        by_cases hx : ∃ k, k < n ∧ 0 < k ∧ pw (zt p (g : Int)) k = 1
        · obtain ⟨k, k1, k2⟩ := hx
          exact ih k k1 k2
        · exact ⟨n, h.1, h.2, fun m m0 mn hm => hx ⟨m, mn, m0, hm⟩⟩
    exact key (p - 1) ⟨by omega, hf⟩
  have hle : N ≤ p - 1 := Nat.le_of_dvd (by omega) (hN.dvd.1 hf)
  refine ⟨N, hN.1, by omega, (zt_pow_one hp2 g N).2 hN.2.1, fun k k0 kN h => hN.2.2 k k0 kN ((zt_pow_one hp2 g k).1 h), fun h => ?_, fun h => ?_⟩
  · exact GenOk.of_ord hp2 (h ▸ hN)
  · have h1 := h.ord hp hz
    exact Nat.dvd_antisymm (hN.dvd.1 hf) (h1.dvd.1 hN.2.1)

set_option maxHeartbeats 1000000 in
theorem rgen_any (p : Nat) (w : World) (h3 : 3 ≤ p) (hp6 : p ≤ 65536) (hp : Prime p) :
    Calls Try.prog 24 #[.int .u64 p] w fun e w' => ∃ g : Nat, e = .returned (.int .u64 g) ∧ IsGen p g ∧ w = w' := by
  have ho : Hid ((decide (2 < (p : Int)) && decide ((p : Int) ≤ 65536) && isP (p : Int).toNat) = true) := Lib.hid (by
    simp; exact ⟨by omega, isP_true.2 hp⟩)
  obtain ⟨r, r2, rp, hr⟩ := gen_bound hp h3
  have HP := Lib.hid hp
  have HR := Lib.hid hr
  clear hp hr
  go_enter Try.func24, Try.ntmps24
  go_wp2_with fail
  refine (rodd_any _ _ (by omega) (by omega)).mono ?_
  rintro e w1 ⟨rfl, rfl⟩
  rw [ho.out]
  go_wp2
  go_loopw [3] (fun C wr => ∃ g : Nat, C = .int .u64 g ∧ 2 ≤ g ∧ g ≤ r ∧ Hid (∀ h, 2 ≤ h → h < g → ¬ GenOk p h) ∧ wr = w) (fun C _ => p - (intOf C).toNat)
  case atStart => exact ⟨2, rfl, by omega, by omega, Lib.hid (fun h a b => by omega), rfl⟩
  case round =>
    obtain ⟨g, rfl, g2, gr, hg, rfl⟩ := hrel
    obtain ⟨N, N0, Np, hN1, hN2, hN3⟩ := has_order HP.out (g := g) (by omega) (by omega)
    have HO := Lib.hid (And.intro hN1 hN2)
    have HI := Lib.hid hN3
    clear hN1 hN2 hN3
    have tl : decide ((g : Int) < p) = true := by simp; omega
    go_wp2_with fail
    refine (rorder_any g p N _ (by omega) hp6 (by omega) N0 Np HO.out.1 HO.out.2).mono ?_
    rintro e w1 ⟨rfl, rfl⟩
    by_cases hN : N = p - 1
    · have tn : ((N : Int) == (p : Int) - 1) = true := by simp; omega
      have HG : Hid (IsGen p g) := Lib.hid ⟨g2, HI.out.1 hN, hg.out⟩
      go_wp2
      go_ret
      exact ⟨g, rfl, HG.out, rfl⟩
    · have tn : ((N : Int) == (p : Int) - 1) = false := by simp; omega
      have hng : ¬ GenOk p g := fun h => hN (HI.out.2 h)
      have hne : g ≠ r := fun e => hng (e ▸ HR.out)
      have HH : Hid (∀ h, 2 ≤ h → h < g + 1 → ¬ GenOk p h) := Lib.hid (fun h a b => by
        by_cases e : h = g
        · rw [e]; exact hng
        · exact hg.out h a (by omega))
      clear hng
      go_wp2
      go_roundw
      case rel => exact ⟨g + 1, by go_num, by omega, by omega, HH, by trivial⟩
      case measure => simp [intOf]; omega
theorem rgen_no (n : Int) (w : World) (h1 : 0 ≤ n) (h2 : n ≤ 18446744073709551615) (h : (decide (2 < n) && decide (n ≤ 65536) && isP n.toNat) = false) :
    Calls Try.prog 24 #[.int .u64 n] w fun e w' => e = .returned (.int .u64 0) ∧ w = w' := by
  have H := Lib.hid h
  clear h
  go_enter Try.func24, Try.ntmps24
  go_wp2_with fail
  refine (rodd_any _ _ (by omega) (by omega)).mono ?_
  rintro e w1 ⟨rfl, rfl⟩
  rw [H.out]
  go_wp2
  go_ret
  exact ⟨rfl, rfl⟩
end Go.Proofs.Ytgdadkkiefkimaa
