/- chirp: Pad, Fits, Half; the document's. -/
import Derived.Test.YthhkljfgkihfgaaGreatChM
import Derived.Test.YthhkljfgkihfgaaGreatFaultR
import Derived.Test.YthhkljfgkihfgaaGreatWClaimFieldDivides
import Derived.Test.YthhkljfgkihfgaaGreatWContToRef05
set_option linter.unusedVariables false
set_option linter.unusedSimpArgs false
set_option linter.unusedSectionVars false
set_option linter.unusedVariables false
set_option linter.unusedSimpArgs false
namespace Go.Proofs.YthhkljfgkihfgaaGreat
open Go.RowKit
open Alg
def cpad (n : Int) : Int := if 1 ≤ n ∧ n ≤ 1024 then pd (2 * n - 1) else 0
theorem cpad_range (n : Int) : 0 ≤ cpad n ∧ cpad n ≤ 4096 := by
  unfold cpad
  split
  · rename_i h
    have := pd_spec (show 2 * n - 1 ≤ 4096 by omega)
    omega
  · omega
theorem cpad_any (n : Int) (w : World) (h0 : -9223372036854775808 ≤ n) (h1 : n ≤ 9223372036854775807) :
    Calls Tryz.prog 43 #[.int .i64 n] w fun e w' => e = .returned (.int .i64 (cpad n)) ∧ w = w' := by
  by_cases a : 1 ≤ n
  · by_cases b : n ≤ 1024
    · have HV : Hid (pd (2 * n - 1) = cpad n) := Lib.hid (by unfold cpad; rw [if_pos ⟨a, b⟩])
      have hP := Lib.hid (fun w => pad2_any (2 * n - 1) w (by omega) (by omega))
      obtain ⟨z, hz⟩ : ∃ z, z = pd (2 * n - 1) := ⟨_, rfl⟩
      rw [← hz] at hP HV
      have t1 : decide (n < 1) = false := by simp; omega
      have t2 : decide (1024 < n) = false := by simp; omega
      clear hz
      go_enter Tryz.func43, Tryz.ntmps43
      go_wp2_with fail
      refine (hP.out _).mono ?_
      rintro e w1 ⟨rfl, rfl⟩
      go_wp2
      go_ret
      exact ⟨ret_int HV.out, rfl⟩
    · have HV : Hid (cpad n = 0) := Lib.hid (by unfold cpad; rw [if_neg (by omega)])
      have t1 : decide (n < 1) = false := by simp; omega
      have t2 : decide (1024 < n) = true := by simp; omega
      go_enter Tryz.func43, Tryz.ntmps43
      go_wp2
      go_ret
      exact ⟨ret_int HV.out.symm, rfl⟩
  · have HV : Hid (cpad n = 0) := Lib.hid (by unfold cpad; rw [if_neg (by omega)])
    have t1 : decide (n < 1) = true := by simp; omega
    go_enter Tryz.func43, Tryz.ntmps43
    go_wp2
    go_ret
    exact ⟨ret_int HV.out.symm, rfl⟩
theorem rcpad_any (n : Int) (w : World) (h0 : -9223372036854775808 ≤ n) (h1 : n ≤ 9223372036854775807) :
    Calls Tryz.prog 44 #[.int .i64 n] w fun e w' => e = .returned (.int .i64 (cpad n)) ∧ w = w' := by
  by_cases a : 1 ≤ n
  · by_cases b : n ≤ 1024
    · have HV : Hid (pd (2 * n - 1) = cpad n) := Lib.hid (by unfold cpad; rw [if_pos ⟨a, b⟩])
      have hP := Lib.hid (fun w => rpad2_any (2 * n - 1) w (by omega) (by omega))
      obtain ⟨z, hz⟩ : ∃ z, z = pd (2 * n - 1) := ⟨_, rfl⟩
      rw [← hz] at hP HV
      have t1 : decide (n < 1) = false := by simp; omega
      have t2 : decide (1024 < n) = false := by simp; omega
      clear hz
      go_enter Tryz.func44, Tryz.ntmps44
      go_wp2_with fail
      refine (hP.out _).mono ?_
      rintro e w1 ⟨rfl, rfl⟩
      go_wp2
      go_ret
      exact ⟨ret_int HV.out, rfl⟩
    · have HV : Hid (cpad n = 0) := Lib.hid (by unfold cpad; rw [if_neg (by omega)])
      have t1 : decide (n < 1) = false := by simp; omega
      have t2 : decide (1024 < n) = true := by simp; omega
      go_enter Tryz.func44, Tryz.ntmps44
      go_wp2
      go_ret
      exact ⟨ret_int HV.out.symm, rfl⟩
  · have HV : Hid (cpad n = 0) := Lib.hid (by unfold cpad; rw [if_neg (by omega)])
    have t1 : decide (n < 1) = true := by simp; omega
    go_enter Tryz.func44, Tryz.ntmps44
    go_wp2
    go_ret
    exact ⟨ret_int HV.out.symm, rfl⟩
theorem cfits_nil (n : Int) (w : World) (h0 : -9223372036854775808 ≤ n) (h1 : n ≤ 9223372036854775807) : Calls Tryz.prog 46 #[.pointer none, .int .i64 n] w fun e w' => e = .returned (.bool false) ∧ w = w' := by
  go_enter Tryz.func46, Tryz.ntmps46
  go_wp2_with fail
  refine (cpad_any _ _ h0 h1).mono ?_
  rintro e w1 ⟨rfl, rfl⟩
  go_wp2_with fail
  refine (divides_nil _ _).mono ?_
  rintro e w2 ⟨rfl, rfl⟩
  go_wp2
  go_ret
  exact ⟨rfl, rfl⟩
theorem cfits_fd {w : World} {B : Nat} {v : Value} {p g : Int} (h : Fd w B v p g) (n : Int) (h0 : -9223372036854775808 ≤ n) (h1 : n ≤ 9223372036854775807) :
    Calls Tryz.prog 46 #[v, .int .i64 n] w fun e w' => e = .returned (.bool (fitR (cpad n) p)) ∧ w = w' := by
  obtain ⟨r0, r1⟩ := cpad_range n
  have hD : Hid (Calls Tryz.prog 94 #[v, .int .i64 (cpad n)] w fun e w' => e = .returned (.bool (fitR (cpad n) p)) ∧ w = w') := Lib.hid (divides_fd h (cpad n) (by omega) (by omega))
  have hP := Lib.hid (cpad_any n w h0 h1)
  obtain ⟨b, hb⟩ : ∃ b, b = fitR (cpad n) p := ⟨_, rfl⟩
  obtain ⟨z, hz⟩ : ∃ z, z = cpad n := ⟨_, rfl⟩
  rw [← hb, ← hz] at hD
  rw [← hz] at hP
  rw [← hb]
  clear hb hz h
  go_enter Tryz.func46, Tryz.ntmps46
  go_wp2_with fail
  refine hP.out.mono ?_
  rintro e w1 ⟨rfl, rfl⟩
  go_wp2_with fail
  refine hD.out.mono ?_
  rintro e w2 ⟨rfl, rfl⟩
  go_wp2
  go_ret
  exact ⟨rfl, rfl⟩
theorem rcfits_any (p n : Int) (w : World) (p1 : 3 ≤ p) (p2 : p < 9223372036854775808) (h0 : -9223372036854775808 ≤ n) (h1 : n ≤ 9223372036854775807) :
    Calls Tryz.prog 47 #[.int .u64 p, .int .i64 n] w fun e w' => e = .returned (.bool (fitR (cpad n) p)) ∧ w = w' := by
  obtain ⟨r0, r1⟩ := cpad_range n
  have hP := Lib.hid (fun w => rcpad_any n w h0 h1)
  have HV : Hid (fitR (cpad n) p = (decide (0 < cpad n) && ((p - 1) % cpad n == 0))) := Lib.hid rfl
  obtain ⟨z, hz⟩ : ∃ z, z = cpad n := ⟨_, rfl⟩
  rw [← hz] at hP HV r0 r1 ⊢
  clear hz
  by_cases hz0 : z = 0
  · subst hz0
    go_enter Tryz.func47, Tryz.ntmps47
    go_wp2_with fail
    refine (hP.out _).mono ?_
    rintro e w1 ⟨rfl, rfl⟩
    go_wp2
    go_ret
    exact ⟨by rw [HV.out]; first | rfl | simp, rfl⟩
  · have t1 : decide (0 < z) = true := by simp; omega
    have t2 : (z == 0) = false := by simp [hz0]
    have hz1 : 1 ≤ z := by omega
    obtain ⟨y, hy⟩ : ∃ y, y = (p - 1) % z := ⟨_, rfl⟩
    have HV2 : Hid (fitR z p = (y == 0)) := Lib.hid (by rw [HV.out, t1, hy]; simp)
    have ey : (p - 1) % z = y := hy.symm
    have v1 : IntKind.u64.wrap (p - 1) = p - 1 := IntWalk.u64_in _ (by omega)
    clear hy hz0
    go_enter Tryz.func47, Tryz.ntmps47
    go_wp2_with fail
    refine (hP.out _).mono ?_
    rintro e w1 ⟨rfl, rfl⟩
    go_wp2_with fail
    refine (hP.out _).mono ?_
    rintro e w1 ⟨rfl, rfl⟩
    go_wp2
    go_ret
    exact ⟨by rw [HV2.out]; first | rfl | simp, rfl⟩
/-- How many pairs, modulo a length; 0: it can't be. -/
def chf (k n : Int) : Int := if 1 ≤ n ∧ n ≤ 1024 ∧ 0 ≤ k ∧ k ≤ 2048 then ((tri k.toNat % n.toNat : Nat) : Int) else 0
theorem chf_nat {k n : Nat} (h1 : 1 ≤ n) (h2 : n ≤ 1024) (h3 : k ≤ 2048) : chf k n = ((tri k % n : Nat) : Int) := by
  unfold chf
  rw [if_pos ⟨by omega, by omega, by omega, by omega⟩, Int.toNat_natCast, Int.toNat_natCast]
set_option maxHeartbeats 1000000 in
theorem chalf_any (k n : Int) (w : World) (k0 : -9223372036854775808 ≤ k) (k1 : k ≤ 9223372036854775807) (h0 : -9223372036854775808 ≤ n) (h1 : n ≤ 9223372036854775807) :
    Calls Tryz.prog 33 #[.int .i64 k, .int .i64 n] w fun e w' => e = .returned (.int .i64 (chf k n)) ∧ w = w' := by
  by_cases hc : 1 ≤ n ∧ n ≤ 1024 ∧ 0 ≤ k ∧ k ≤ 2048
  · obtain ⟨c1, c2, c3, c4⟩ := hc
    obtain ⟨m, rfl⟩ := Int.eq_ofNat_of_zero_le (show 0 ≤ n by omega)
    obtain ⟨j, rfl⟩ := Int.eq_ofNat_of_zero_le c3
    have hb : j * (j - 1) ≤ 2048 * 2048 := Nat.mul_le_mul (by omega) (by omega)
    have e1 : (j : Int) * ((j : Int) - 1) = ((j * (j - 1) : Nat) : Int) := by
      rcases Nat.eq_zero_or_pos j with h | h
      · subst h; rfl
      · rw [Int.natCast_mul, show ((j - 1 : Nat) : Int) = (j : Int) - 1 by omega]
    have HV : Hid (((j * (j - 1) : Nat) : Int) / 2 % (m : Int) = chf j m) := Lib.hid (by
      rw [chf_nat (by omega) (by omega) (by omega), ← tri_div, Int.natCast_emod, Int.natCast_ediv]; rfl)
    obtain ⟨z, hz⟩ : ∃ z, z = j * (j - 1) := ⟨_, rfl⟩
    rw [← hz] at e1 HV hb
    have t1 : decide ((m : Int) < 1) = false := by simp; omega
    have t2 : decide ((1024 : Int) < m) = false := by simp; omega
    have t3 : decide ((j : Int) < 0) = false := decide_eq_false (by omega)
    have t4 : decide ((2048 : Int) < j) = false := by simp; omega
    have t5 : ((m : Int) == 0) = false := by simp; omega
    clear hz
    go_enter Tryz.func33, Tryz.ntmps33
    go_wp2
    go_ret
    exact ⟨ret_int HV.out, rfl⟩
  · have HV : Hid (chf k n = 0) := Lib.hid (by unfold chf; rw [if_neg hc])
    by_cases c1 : n < 1
    · have t1 : decide (n < 1) = true := by simp; omega
      clear hc
      go_enter Tryz.func33, Tryz.ntmps33
      go_wp2
      go_ret
      exact ⟨ret_int HV.out.symm, rfl⟩
    · have t1 : decide (n < 1) = false := by simp; omega
      by_cases c2 : 1024 < n
      · have t2 : decide (1024 < n) = true := by simp; omega
        clear hc
        go_enter Tryz.func33, Tryz.ntmps33
        go_wp2
        go_ret
        exact ⟨ret_int HV.out.symm, rfl⟩
      · have t2 : decide (1024 < n) = false := by simp; omega
        by_cases c3 : k < 0
        · have t3 : decide (k < 0) = true := by simp; omega
          clear hc
          go_enter Tryz.func33, Tryz.ntmps33
          go_wp2
          go_ret
          exact ⟨ret_int HV.out.symm, rfl⟩
        · have t3 : decide (k < 0) = false := by simp; omega
          have t4 : decide (2048 < k) = true := by simp; omega
          clear hc
          go_enter Tryz.func33, Tryz.ntmps33
          go_wp2
          go_ret
          exact ⟨ret_int HV.out.symm, rfl⟩
set_option maxHeartbeats 1000000 in
theorem rchalf_any (k n : Int) (w : World) (k0 : -9223372036854775808 ≤ k) (k1 : k ≤ 9223372036854775807) (h0 : -9223372036854775808 ≤ n) (h1 : n ≤ 9223372036854775807) :
    Calls Tryz.prog 45 #[.int .i64 k, .int .i64 n] w fun e w' => e = .returned (.int .i64 (chf k n)) ∧ w = w' := by
  by_cases hc : 1 ≤ n ∧ n ≤ 1024 ∧ 0 ≤ k ∧ k ≤ 2048
  · obtain ⟨c1, c2, c3, c4⟩ := hc
    obtain ⟨m, rfl⟩ := Int.eq_ofNat_of_zero_le (show 0 ≤ n by omega)
    obtain ⟨j, rfl⟩ := Int.eq_ofNat_of_zero_le c3
    have HV : Hid (((tri j % m : Nat) : Int) = chf j m) := Lib.hid (by rw [chf_nat (by omega) (by omega) (by omega)])
    have t1 : decide ((m : Int) < 1) = false := by simp; omega
    have t2 : decide ((1024 : Int) < m) = false := by simp; omega
    have t3 : decide ((j : Int) < 0) = false := decide_eq_false (by omega)
    have t4 : decide ((2048 : Int) < j) = false := by simp; omega
    have t5 : ((m : Int) == 0) = false := by simp; omega
    have hs0 : Hid ((0 : Nat) = tri 0 % m) := Lib.hid (by rw [tri, Nat.zero_mod])
    go_enter Tryz.func45, Tryz.ntmps45
    go_wp2
    go_loop [5, 6] (fun S I => ∃ (i s : Nat), I = .int .i64 i ∧ S = .int .i64 s ∧ i ≤ j ∧ s ≤ 1024 ∧ Hid (s = tri i % m)) (fun _ I => j - (intOf I).toNat)
    case atStart => exact ⟨0, 0, rfl, rfl, by omega, by omega, hs0⟩
    case round =>
      obtain ⟨i, s, rfl, rfl, hij, hs, hst⟩ := hrel
      by_cases hlt : i < j
      · have hn : (s + i) % m = tri (i + 1) % m := by rw [tri, hst.out, Nat.mod_add_mod]
        have HN := Lib.hid hn
        have hml : (s + i) % m < m := Nat.mod_lt _ (by omega)
        have e2 : ((s : Int) + (i : Int)) % (m : Int) = (((s + i) % m : Nat) : Int) := by rw [Int.natCast_emod, Int.natCast_add]
        obtain ⟨y, hy⟩ : ∃ y, y = (s + i) % m := ⟨_, rfl⟩
        have HY := Lib.hid hy
        rw [← hy] at e2 hml
        clear hn hy hst
        go_wp2
        go_round
        case rel => exact ⟨i + 1, y, by go_num, by first | rfl | go_num, by omega, by omega, Lib.hid (by rw [HY.out, HN.out])⟩
        case measure => simp [intOf]; omega
      · have hie : i = j := by omega
        have HS : Hid (s = tri j % m) := Lib.hid (by rw [← hie]; exact hst.out)
        clear hie hst
        go_wp2
        go_ret
        exact ⟨ret_int (by rw [← HV.out, HS.out]), rfl⟩
  · have HV : Hid (chf k n = 0) := Lib.hid (by unfold chf; rw [if_neg hc])
    by_cases c1 : n < 1
    · have t1 : decide (n < 1) = true := by simp; omega
      clear hc
      go_enter Tryz.func45, Tryz.ntmps45
      go_wp2
      go_ret
      exact ⟨ret_int HV.out.symm, rfl⟩
    · have t1 : decide (n < 1) = false := by simp; omega
      by_cases c2 : 1024 < n
      · have t2 : decide (1024 < n) = true := by simp; omega
        clear hc
        go_enter Tryz.func45, Tryz.ntmps45
        go_wp2
        go_ret
        exact ⟨ret_int HV.out.symm, rfl⟩
      · have t2 : decide (1024 < n) = false := by simp; omega
        by_cases c3 : k < 0
        · have t3 : decide (k < 0) = true := by simp; omega
          clear hc
          go_enter Tryz.func45, Tryz.ntmps45
          go_wp2
          go_ret
          exact ⟨ret_int HV.out.symm, rfl⟩
        · have t3 : decide (k < 0) = false := by simp; omega
          have t4 : decide (2048 < k) = true := by simp; omega
          clear hc
          go_enter Tryz.func45, Tryz.ntmps45
          go_wp2
          go_ret
          exact ⟨ret_int HV.out.symm, rfl⟩
end Go.Proofs.YthhkljfgkihfgaaGreat
