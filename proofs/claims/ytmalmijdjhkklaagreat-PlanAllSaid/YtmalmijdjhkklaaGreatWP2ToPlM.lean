/- Powers of two as lengths: radix2.Fits, the document's Fits; the document's Fault of layer 13. -/
import Derived.Test.YtmalmijdjhkklaaGreatWClaimToFit16
import Derived.Laws.BitsAllLaws
import Derived.Laws.BitsLemmas
import Derived.Test.YtmalmijdjhkklaaGreatWKnownFToChM
import Derived.Test.YtmalmijdjhkklaaGreatWSieveRPad
import Derived.Test.YtmalmijdjhkklaaGreatWContToWalk
set_option linter.unusedVariables false
set_option linter.unusedSimpArgs false
set_option linter.unusedSectionVars false
section
/- Powers of two as lengths: radix2.Fits, the document's Fits; the document's Fault of layer 13. -/
set_option linter.unusedVariables false
set_option linter.unusedSimpArgs false
namespace Go.Proofs.YtmalmijdjhkklaaGreat
open Go.RowKit

theorem ofInt64 (a : Nat) (ha : a < 9223372036854775808) : (BitVec.ofInt 64 (a : Int)).toNat = a := by
  rw [BitVec.ofInt_natCast, BitVec.toNat_ofNat]; exact Nat.mod_eq_of_lt (by omega)
theorem and64 (a b : Nat) (ha : a < 9223372036854775808) (hb : b < 9223372036854775808) : bits .and .i64 (a : Int) (b : Int) = ((a &&& b : Nat) : Int) := by
  have hx : a &&& b < 2 ^ 63 := Nat.and_lt_two_pow _ (by omega)
  show IntKind.i64.wrap ((BitVec.ofInt 64 (a : Int) &&& BitVec.ofInt 64 (b : Int)).toNat : Int) = _
  rw [BitVec.toNat_and, ofInt64 a ha, ofInt64 b hb, IntKind.wrap_i64]
  omega
/-- One of the powers of two, up to 2^12? -/
def p2 (n : Int) : Bool := n == 1 || n == 2 || n == 4 || n == 8 || n == 16 || n == 32 || n == 64 || n == 128 || n == 256 || n == 512 || n == 1024 || n == 2048 || n == 4096
def p2N (n : Nat) : Bool := n == 1 || n == 2 || n == 4 || n == 8 || n == 16 || n == 32 || n == 64 || n == 128 || n == 256 || n == 512 || n == 1024 || n == 2048 || n == 4096
theorem p2_cast (n : Nat) : p2 (n : Int) = p2N n := by
  unfold p2 p2N
  rw [Bool.eq_iff_iff]
  simp only [Bool.or_eq_true, beq_iff_eq]
  omega
theorem p2_table : ((List.range 4097).all fun n => decide (n = 0) || ((n &&& (n - 1)) == 0) == p2N n) = true := by decide +kernel
theorem p2_and (n : Nat) (h1 : 1 ≤ n) (h2 : n ≤ 4096) : ((n &&& (n - 1)) == 0) = p2N n := by
  have h := List.all_eq_true.1 p2_table n (List.mem_range.2 (by omega))
  simp only [Bool.or_eq_true, decide_eq_true_eq, beq_iff_eq] at h
  rcases h with h | h
  · omega
  · exact h
theorem p2_range {n : Int} (h : p2 n = true) : 1 ≤ n ∧ n ≤ 4096 := by
  unfold p2 at h
  simp only [Bool.or_eq_true, beq_iff_eq] at h
  omega
theorem fits2_any (n : Int) (w : World) (h0 : -9223372036854775808 ≤ n) (h1 : n ≤ 9223372036854775807) :
    Calls Tryz.prog 103 #[.int .i64 n] w fun e w' => e = .returned (.bool (p2 n)) ∧ w = w' := by
  by_cases hr : 1 ≤ n ∧ n ≤ 4096
  · obtain ⟨m, rfl⟩ := Int.eq_ofNat_of_zero_le (show 0 ≤ n by omega)
    have e1 : (m : Int) - 1 = ((m - 1 : Nat) : Int) := by omega
    have hb : (bits .and .i64 (m : Int) ((m : Int) - 1) == 0) = p2 m := by
      rw [e1, and64 m (m - 1) (by omega) (by omega), p2_cast, ← p2_and m (by omega) (by omega)]
      rw [Bool.eq_iff_iff]; simp only [beq_iff_eq]; omega
    have HB := Lib.hid hb
    obtain ⟨z, hz⟩ : ∃ z, z = bits .and .i64 (m : Int) ((m : Int) - 1) := ⟨_, rfl⟩
    have hze : bits .and .i64 (m : Int) ((m : Int) - 1) = z := hz.symm
    have HB2 : Hid ((z == 0) = p2 m) := Lib.hid (by rw [hz]; exact hb)
    clear hb e1 hz
    go_enter Tryz.func103, Tryz.ntmps103
    go_wp2
    go_ret
    exact ⟨by rw [← HB2.out]; first | rfl | (rw [hze]), rfl⟩
  · have hz : Hid (p2 n = false) := Lib.hid (by
      rw [Bool.eq_false_iff]; intro h; exact hr (p2_range h))
    have t : decide (0 < n) = false ∨ (decide (0 < n) = true ∧ decide (n ≤ 4096) = false) := by
      by_cases a : 0 < n
      · exact .inr ⟨by simpa using a, by simp; omega⟩
      · exact .inl (by simpa using a)
    clear hr
    rcases t with t | ⟨t, t'⟩
    all_goals
      go_enter Tryz.func103, Tryz.ntmps103
      go_wp2
      go_ret
      exact ⟨by rw [hz.out]; first | rfl | simp, rfl⟩
/-- Those among 1, 2, 4 .. below k. -/
def p2b (n k : Int) : Bool := p2 n && decide (n < k)
theorem r12fits_any (n : Int) (w : World) (h0 : -9223372036854775808 ≤ n) (h1 : n ≤ 9223372036854775807) :
    Calls Tryz.prog 109 #[.int .i64 n] w fun e w' => e = .returned (.bool (p2 n)) ∧ w = w' := by
  go_enter Tryz.func109, Tryz.ntmps109
  go_wp2
  go_loopw [3] (fun K wr => ∃ k : Int, K = .int .i64 k ∧ Hid (p2 k = true ∨ k = 8192) ∧ 1 ≤ k ∧ k ≤ 8192 ∧ Hid (p2b n k = false) ∧ wr = w) (fun K _ => (8192 - intOf K).toNat)
  case atStart => exact ⟨1, rfl, Lib.hid (.inl (by decide)), by omega, by omega, Lib.hid (by
    unfold p2b
    rw [Bool.eq_false_iff]; intro h
    simp only [Bool.and_eq_true, decide_eq_true_eq] at h
    have := p2_range h.1
    omega), rfl⟩
  case round =>
    obtain ⟨k, rfl, hk2, hk1, hk8, hb, rfl⟩ := hrel
    by_cases hlt : k ≤ 4096
    · by_cases he : n = k
      · have t : (n == k) = true := by simp [he]
        have HP : Hid (p2 n = true) := Lib.hid (by
          rcases hk2.out with h | h
          · rw [he]; exact h
          · omega)
        clear he
        go_wp2
        go_ret
        exact ⟨by rw [HP.out]; first | rfl | simp, rfl⟩
      · have t : (n == k) = false := by simp [he]
        have hk3 : Hid (p2 (2 * k) = true ∨ 2 * k = 8192) := Lib.hid (by
          rcases hk2.out with h | h
          · unfold p2 at h ⊢
            simp only [Bool.or_eq_true, beq_iff_eq] at h ⊢
            omega
          · omega)
        have hb3 : Hid (p2b n (2 * k) = false) := Lib.hid (by
          have h2 := hb.out
          have h3 := hk2.out
          rw [Bool.eq_false_iff] at h2 ⊢
          intro h4
          apply h2
          unfold p2b p2 at *
          simp only [Bool.and_eq_true, Bool.or_eq_true, beq_iff_eq, decide_eq_true_eq] at *
          refine ⟨h4.1, ?_⟩
          omega)
        clear he
        go_wp2
        go_roundw
        case rel => exact ⟨2 * k, by first | rfl | go_num, hk3, by omega, by omega, hb3, by trivial⟩
        case measure => simp [intOf]; omega
    · have HP : Hid (p2 n = false) := Lib.hid (by
        have h2 := hb.out
        rw [Bool.eq_false_iff] at h2 ⊢
        intro h4
        apply h2
        have := p2_range h4
        unfold p2b
        rw [h4]; simp; omega)
      go_wp2
      go_ret
      exact ⟨by rw [HP.out]; first | rfl | simp, rfl⟩
/-- The error's number, of a list. -/
def fault13 (p : Int) (L : List Int) : Int := if chk p L.length 4096 ≠ 0 then chk p L.length 4096 else if p2 L.length = false then 11 else if goodB p L = false then 9 else 0
end Go.Proofs.YtmalmijdjhkklaaGreat
end

section
/- There and back, as lists. -/
set_option linter.unusedVariables false
set_option linter.unusedSectionVars false
namespace Go.Proofs.YtmalmijdjhkklaaGreat
open Alg
section
variable {p : Nat} [NeZero p]
theorem tr_congr {G : Fin p} {n : Nat} {inv : Bool} {F F' : Nat → Fin p} (h : ∀ j, j < n → F j = F' j) (i : Nat) : tr G n inv F i = tr G n inv F' i := by
  show _ * dft _ n F i = _ * dft _ n F' i
  rw [dft_congr h]
theorem tr_rz (G : Fin p) (n : Nat) (inv : Bool) (F : Nat → Fin p) (i : Nat) : tr G n inv (rz p (lst n F)) i = tr G n inv F i := tr_congr (fun j hj => rz_lst hj) i
theorem back_lst {G : Fin p} {L : List Int} (hp : Prime p) (hg : Ord G (p - 1)) (hd : L.length ∣ p - 1) (h0 : 0 < L.length) (inv : Bool) (hgd : goodB p L = true) (hU : U64s L) :
    lst L.length (tr G L.length (!inv) (rz p (lst L.length (tr G L.length inv (rz p L))))) = L := by
  have h1 : lst L.length (tr G L.length (!inv) (rz p (lst L.length (tr G L.length inv (rz p L))))) = lst L.length (rz p L) := lst_congr fun i hi => by rw [tr_rz, tr_back hp hg hd h0 inv _ i hi]
  rw [h1, lst_rz hgd hU]
theorem chk_mono {q n a b : Int} (h : chk q n a = 0) (hab : a ≤ b) : chk q n b = 0 := by
  obtain ⟨h1, h2, h3⟩ := chk_zero h
  unfold chk
  rw [if_neg (by omega), if_neg (by omega), if_pos h3]
theorem fault13_of {q : Int} {L : List Int} (h1 : chk q L.length 4096 = 0) (h2 : p2 L.length = true) (h3 : goodB q L = true) : fault13 q L = 0 := by
  unfold fault13
  rw [if_neg (by simp [h1]), if_neg (by simp [h2]), if_neg (by simp [h3])]
theorem fault13_lst {n : Nat} (F : Nat → Fin p) (h1 : chk p n 4096 = 0) (h2 : p2 (n : Int) = true) : fault13 p (lst n F) = 0 := fault13_of (by rw [lst_length]; exact h1) (by rw [lst_length]; exact h2) (lst_good _ _)
end
end Go.Proofs.YtmalmijdjhkklaaGreat
end

section
/- Which error: transforms that are filled up to a power of two. -/
set_option linter.unusedVariables false
set_option linter.unusedSimpArgs false
namespace Go.Proofs.YtmalmijdjhkklaaGreat
open Go.RowKit
open Alg
/-- Whether a length that is filled up to r can be. -/
def fitR (r p : Int) : Bool := decide (0 < r) && ((p - 1) % r == 0)
def faultR (r p : Int) (L : List Int) : Int := if chk p L.length 1024 ≠ 0 then chk p L.length 1024 else if fitR r p = false then 11 else if goodB p L = false then 9 else 0
theorem faultR_parts {r p : Int} {L : List Int} (h : faultR r p L = 0) : chk p L.length 1024 = 0 ∧ fitR r p = true ∧ goodB p L = true := by
  unfold faultR at h
  split at h
  · rename_i h1; exact absurd h h1
  · rename_i h1
    split at h
    · omega
    · rename_i h2
      split at h
      · omega
      · rename_i h3
        exact ⟨by simpa using h1, by simpa using h2, by simpa using h3⟩
theorem faultR_of {r p : Int} {L : List Int} (h1 : chk p L.length 1024 = 0) (h2 : fitR r p = true) (h3 : goodB p L = true) : faultR r p L = 0 := by
  unfold faultR
  rw [if_neg (by simp [h1]), if_neg (by simp [h2]), if_neg (by simp [h3])]
theorem pd_spec {m : Int} (h : m ≤ 4096) : p2 (pd m) = true ∧ m ≤ pd m ∧ 1 ≤ pd m ∧ pd m ≤ 4096 := by
  rcases (show m ≤ 1 ∨ (1 < m ∧ m ≤ 2) ∨ (2 < m ∧ m ≤ 4) ∨ (4 < m ∧ m ≤ 8) ∨ (8 < m ∧ m ≤ 16) ∨ (16 < m ∧ m ≤ 32) ∨ (32 < m ∧ m ≤ 64) ∨ (64 < m ∧ m ≤ 128) ∨ (128 < m ∧ m ≤ 256) ∨ (256 < m ∧ m ≤ 512) ∨ (512 < m ∧ m ≤ 1024) ∨ (1024 < m ∧ m ≤ 2048) ∨ (2048 < m ∧ m ≤ 4096) by omega) with h | h | h | h | h | h | h | h | h | h | h | h | h
  all_goals (unfold pd; (repeat rw [if_neg (by omega)]); (try rw [if_pos (by omega)]); exact ⟨by decide, by omega, by omega, by omega⟩)
theorem fitR_chk {r p : Int} (h : fitR r p = true) (h1 : r ≤ 4096) : chk p r 4096 = 0 := by
  unfold fitR at h
  simp only [Bool.and_eq_true, decide_eq_true_eq, beq_iff_eq] at h
  unfold chk
  rw [if_neg (by omega), if_neg (by omega), if_pos h.2]
end Go.Proofs.YtmalmijdjhkklaaGreat
end

section
/- chirp: Pad, Fits, Half; the document's. -/
set_option linter.unusedVariables false
set_option linter.unusedSimpArgs false
namespace Go.Proofs.YtmalmijdjhkklaaGreat
open Go.RowKit
open Alg
def cpad (n : Int) : Int := if 1 ≤ n ∧ n ≤ 1024 then pd (2 * n - 1) else 0
theorem cpad_range (n : Int) : 0 ≤ cpad n ∧ cpad n ≤ 4096 := by
  unfold cpad
  split
  · rename_i h
    have := pd_spec (show 2 * n - 1 ≤ 4096 by omega)
    omega
  · omega
theorem cpad_any (n : Int) (w : World) (h0 : -9223372036854775808 ≤ n) (h1 : n ≤ 9223372036854775807) :
    Calls Tryz.prog 107 #[.int .i64 n] w fun e w' => e = .returned (.int .i64 (cpad n)) ∧ w = w' := by
  by_cases a : 1 ≤ n
  · by_cases b : n ≤ 1024
    · have HV : Hid (pd (2 * n - 1) = cpad n) := Lib.hid (by unfold cpad; rw [if_pos ⟨a, b⟩])
      have hP := Lib.hid (fun w => pad2_any (2 * n - 1) w (by omega) (by omega))
      obtain ⟨z, hz⟩ : ∃ z, z = pd (2 * n - 1) := ⟨_, rfl⟩
      rw [← hz] at hP HV
      have t1 : decide (n < 1) = false := by simp; omega
      have t2 : decide (1024 < n) = false := by simp; omega
      clear hz
      go_enter Tryz.func107, Tryz.ntmps107
      go_wp2_with fail
      refine (hP.out _).mono ?_
      rintro e w1 ⟨rfl, rfl⟩
      go_wp2
      go_ret
      exact ⟨ret_int HV.out, rfl⟩
    · have HV : Hid (cpad n = 0) := Lib.hid (by unfold cpad; rw [if_neg (by omega)])
      have t1 : decide (n < 1) = false := by simp; omega
      have t2 : decide (1024 < n) = true := by simp; omega
      go_enter Tryz.func107, Tryz.ntmps107
      go_wp2
      go_ret
      exact ⟨ret_int HV.out.symm, rfl⟩
  · have HV : Hid (cpad n = 0) := Lib.hid (by unfold cpad; rw [if_neg (by omega)])
    have t1 : decide (n < 1) = true := by simp; omega
    go_enter Tryz.func107, Tryz.ntmps107
    go_wp2
    go_ret
    exact ⟨ret_int HV.out.symm, rfl⟩
theorem rcpad_any (n : Int) (w : World) (h0 : -9223372036854775808 ≤ n) (h1 : n ≤ 9223372036854775807) :
    Calls Tryz.prog 112 #[.int .i64 n] w fun e w' => e = .returned (.int .i64 (cpad n)) ∧ w = w' := by
  by_cases a : 1 ≤ n
  · by_cases b : n ≤ 1024
    · have HV : Hid (pd (2 * n - 1) = cpad n) := Lib.hid (by unfold cpad; rw [if_pos ⟨a, b⟩])
      have hP := Lib.hid (fun w => rpad2_any (2 * n - 1) w (by omega) (by omega))
      obtain ⟨z, hz⟩ : ∃ z, z = pd (2 * n - 1) := ⟨_, rfl⟩
      rw [← hz] at hP HV
      have t1 : decide (n < 1) = false := by simp; omega
      have t2 : decide (1024 < n) = false := by simp; omega
      clear hz
      go_enter Tryz.func112, Tryz.ntmps112
      go_wp2_with fail
      refine (hP.out _).mono ?_
      rintro e w1 ⟨rfl, rfl⟩
      go_wp2
      go_ret
      exact ⟨ret_int HV.out, rfl⟩
    · have HV : Hid (cpad n = 0) := Lib.hid (by unfold cpad; rw [if_neg (by omega)])
      have t1 : decide (n < 1) = false := by simp; omega
      have t2 : decide (1024 < n) = true := by simp; omega
      go_enter Tryz.func112, Tryz.ntmps112
      go_wp2
      go_ret
      exact ⟨ret_int HV.out.symm, rfl⟩
  · have HV : Hid (cpad n = 0) := Lib.hid (by unfold cpad; rw [if_neg (by omega)])
    have t1 : decide (n < 1) = true := by simp; omega
    go_enter Tryz.func112, Tryz.ntmps112
    go_wp2
    go_ret
    exact ⟨ret_int HV.out.symm, rfl⟩
theorem cfits_nil (n : Int) (w : World) (h0 : -9223372036854775808 ≤ n) (h1 : n ≤ 9223372036854775807) : Calls Tryz.prog 132 #[.pointer none, .int .i64 n] w fun e w' => e = .returned (.bool false) ∧ w = w' := by
  go_enter Tryz.func132, Tryz.ntmps132
  go_wp2_with fail
  refine (cpad_any _ _ h0 h1).mono ?_
  rintro e w1 ⟨rfl, rfl⟩
  go_wp2_with fail
  refine (divides_nil _ _).mono ?_
  rintro e w2 ⟨rfl, rfl⟩
  go_wp2
  go_ret
  exact ⟨rfl, rfl⟩
theorem cfits_fd {w : World} {B : Nat} {v : Value} {p g : Int} (h : Fd w B v p g) (n : Int) (h0 : -9223372036854775808 ≤ n) (h1 : n ≤ 9223372036854775807) :
    Calls Tryz.prog 132 #[v, .int .i64 n] w fun e w' => e = .returned (.bool (fitR (cpad n) p)) ∧ w = w' := by
  obtain ⟨r0, r1⟩ := cpad_range n
  have hD : Hid (Calls Tryz.prog 55 #[v, .int .i64 (cpad n)] w fun e w' => e = .returned (.bool (fitR (cpad n) p)) ∧ w = w') := Lib.hid (divides_fd h (cpad n) (by omega) (by omega))
  have hP := Lib.hid (cpad_any n w h0 h1)
  obtain ⟨b, hb⟩ : ∃ b, b = fitR (cpad n) p := ⟨_, rfl⟩
  obtain ⟨z, hz⟩ : ∃ z, z = cpad n := ⟨_, rfl⟩
  rw [← hb, ← hz] at hD
  rw [← hz] at hP
  rw [← hb]
  clear hb hz h
  go_enter Tryz.func132, Tryz.ntmps132
  go_wp2_with fail
  refine hP.out.mono ?_
  rintro e w1 ⟨rfl, rfl⟩
  go_wp2_with fail
  refine hD.out.mono ?_
  rintro e w2 ⟨rfl, rfl⟩
  go_wp2
  go_ret
  exact ⟨rfl, rfl⟩
/-- How many pairs, modulo a length; 0: it can't be. -/
def chf (k n : Int) : Int := if 1 ≤ n ∧ n ≤ 1024 ∧ 0 ≤ k ∧ k ≤ 2048 then ((tri k.toNat % n.toNat : Nat) : Int) else 0
theorem chf_nat {k n : Nat} (h1 : 1 ≤ n) (h2 : n ≤ 1024) (h3 : k ≤ 2048) : chf k n = ((tri k % n : Nat) : Int) := by
  unfold chf
  rw [if_pos ⟨by omega, by omega, by omega, by omega⟩, Int.toNat_natCast, Int.toNat_natCast]
set_option maxHeartbeats 1000000 in
theorem chalf_any (k n : Int) (w : World) (k0 : -9223372036854775808 ≤ k) (k1 : k ≤ 9223372036854775807) (h0 : -9223372036854775808 ≤ n) (h1 : n ≤ 9223372036854775807) :
    Calls Tryz.prog 133 #[.int .i64 k, .int .i64 n] w fun e w' => e = .returned (.int .i64 (chf k n)) ∧ w = w' := by
  by_cases hc : 1 ≤ n ∧ n ≤ 1024 ∧ 0 ≤ k ∧ k ≤ 2048
  · obtain ⟨c1, c2, c3, c4⟩ := hc
    obtain ⟨m, rfl⟩ := Int.eq_ofNat_of_zero_le (show 0 ≤ n by omega)
    obtain ⟨j, rfl⟩ := Int.eq_ofNat_of_zero_le c3
    have hb : j * (j - 1) ≤ 2048 * 2048 := Nat.mul_le_mul (by omega) (by omega)
    have e1 : (j : Int) * ((j : Int) - 1) = ((j * (j - 1) : Nat) : Int) := by
      rcases Nat.eq_zero_or_pos j with h | h
      · subst h; rfl
      · rw [Int.natCast_mul, show ((j - 1 : Nat) : Int) = (j : Int) - 1 by omega]
    have HV : Hid (((j * (j - 1) : Nat) : Int) / 2 % (m : Int) = chf j m) := Lib.hid (by
      rw [chf_nat (by omega) (by omega) (by omega), ← tri_div, Int.natCast_emod, Int.natCast_ediv]; rfl)
    obtain ⟨z, hz⟩ : ∃ z, z = j * (j - 1) := ⟨_, rfl⟩
    rw [← hz] at e1 HV hb
    have t1 : decide ((m : Int) < 1) = false := by simp; omega
    have t2 : decide ((1024 : Int) < m) = false := by simp; omega
    have t3 : decide ((j : Int) < 0) = false := decide_eq_false (by omega)
    have t4 : decide ((2048 : Int) < j) = false := by simp; omega
    have t5 : ((m : Int) == 0) = false := by simp; omega
    clear hz
    go_enter Tryz.func133, Tryz.ntmps133
    go_wp2
    go_ret
    exact ⟨ret_int HV.out, rfl⟩
  · have HV : Hid (chf k n = 0) := Lib.hid (by unfold chf; rw [if_neg hc])
    by_cases c1 : n < 1
    · have t1 : decide (n < 1) = true := by simp; omega
      clear hc
      go_enter Tryz.func133, Tryz.ntmps133
      go_wp2
      go_ret
      exact ⟨ret_int HV.out.symm, rfl⟩
    · have t1 : decide (n < 1) = false := by simp; omega
      by_cases c2 : 1024 < n
      · have t2 : decide (1024 < n) = true := by simp; omega
        clear hc
        go_enter Tryz.func133, Tryz.ntmps133
        go_wp2
        go_ret
        exact ⟨ret_int HV.out.symm, rfl⟩
      · have t2 : decide (1024 < n) = false := by simp; omega
        by_cases c3 : k < 0
        · have t3 : decide (k < 0) = true := by simp; omega
          clear hc
          go_enter Tryz.func133, Tryz.ntmps133
          go_wp2
          go_ret
          exact ⟨ret_int HV.out.symm, rfl⟩
        · have t3 : decide (k < 0) = false := by simp; omega
          have t4 : decide (2048 < k) = true := by simp; omega
          clear hc
          go_enter Tryz.func133, Tryz.ntmps133
          go_wp2
          go_ret
          exact ⟨ret_int HV.out.symm, rfl⟩
end Go.Proofs.YtmalmijdjhkklaaGreat
end

section
/- plan: small factors, coprime parts, what can be a plan, what it costs. Plain. -/
set_option linter.unusedVariables false
set_option linter.unusedSimpArgs false
namespace Go.Proofs.YtmalmijdjhkklaaGreat
open Go.RowKit
/-- The least number from 2 to 7 that divides; 8: there is none. -/
def ldiv (n : Nat) : Nat := if n % 2 = 0 then 2 else if n % 3 = 0 then 3 else if n % 5 = 0 then 5 else if n % 7 = 0 then 7 else 8
theorem ldiv_two (n : Nat) : 2 ≤ ldiv n ∧ ldiv n ≤ 8 := by
  unfold ldiv
  split; · omega
  split; · omega
  split; · omega
  split <;> omega
/-- The factors 2, 3, 5, 7 whose product a number is, rising; none: it is no such product. -/
def rad (n : Nat) : Option (List Nat) := if n ≤ 1 then some [] else if ldiv n = 8 then none else (rad (n / ldiv n)).map (ldiv n :: ·)
termination_by n
decreasing_by exact Nat.div_lt_self (by omega) (by have := ldiv_two n; omega)
theorem rad_one {n : Nat} (h : n ≤ 1) : rad n = some [] := by rw [rad, if_pos h]
theorem rad_none {n : Nat} (h : 1 < n) (h8 : ldiv n = 8) : rad n = none := by rw [rad, if_neg (by omega), if_pos h8]
theorem rad_step {n r : Nat} (h : 1 < n) (hr : ldiv n = r) (h8 : r ≠ 8) : rad n = (rad (n / r)).map (r :: ·) := by
  rw [rad, if_neg (by omega), if_neg (by rw [hr]; exact h8), hr]
/-- The i-th of 2, 3, 5, 7. -/
def prK (i : Nat) : Nat := if i = 0 then 2 else if i = 1 then 3 else if i = 2 then 5 else 7
theorem prK_rng (i : Nat) : 2 ≤ prK i ∧ prK i ≤ 7 := by
  unfold prK
  split; · omega
  split; · omega
  split <;> omega
theorem prK_get (i : Nat) (h : i < 4) : (#[Value.int .i64 2, .int .i64 3, .int .i64 5, .int .i64 7] : Array Value)[i]? = some (.int .i64 ((prK i : Nat) : Int)) := by
  match i, h with
  | 0, _ => rfl
  | 1, _ => rfl
  | 2, _ => rfl
  | 3, _ => rfl
/-- Before the i-th nothing divides any more. -/
def NoDiv (n i : Nat) : Prop := ∀ j, j < i → n % prK j ≠ 0
theorem ldiv_at {n i : Nat} (hi : i < 4) (hn : NoDiv n i) (hd : n % prK i = 0) : ldiv n = prK i := by
  unfold ldiv
  match i, hi with
  | 0, _ => rw [if_pos (show n % 2 = 0 from hd)]; rfl
  | 1, _ => rw [if_neg (show ¬ n % 2 = 0 from hn 0 (by omega)), if_pos (show n % 3 = 0 from hd)]; rfl
  | 2, _ => rw [if_neg (show ¬ n % 2 = 0 from hn 0 (by omega)), if_neg (show ¬ n % 3 = 0 from hn 1 (by omega)), if_pos (show n % 5 = 0 from hd)]; rfl
  | 3, _ => rw [if_neg (show ¬ n % 2 = 0 from hn 0 (by omega)), if_neg (show ¬ n % 3 = 0 from hn 1 (by omega)), if_neg (show ¬ n % 5 = 0 from hn 2 (by omega)), if_pos (show n % 7 = 0 from hd)]; rfl
theorem ldiv_no {n : Nat} (hn : NoDiv n 4) : ldiv n = 8 := by
  unfold ldiv
  rw [if_neg (show ¬ n % 2 = 0 from hn 0 (by omega)), if_neg (show ¬ n % 3 = 0 from hn 1 (by omega)), if_neg (show ¬ n % 5 = 0 from hn 2 (by omega)), if_neg (show ¬ n % 7 = 0 from hn 3 (by omega))]
theorem noDiv_div {n i r : Nat} (hn : NoDiv n i) (hd : n % r = 0) : NoDiv (n / r) i := fun j hj h => by
  refine hn j hj (Nat.mod_eq_zero_of_dvd ?_)
  have h1 : prK j ∣ n / r := Nat.dvd_of_mod_eq_zero h
  have h2 : n = r * (n / r) := by have := Nat.div_add_mod n r; omega
  rw [h2]
  exact Nat.dvd_trans h1 (Nat.dvd_mul_left _ _)
theorem noDiv_succ {n i : Nat} (hn : NoDiv n i) (hd : n % prK i ≠ 0) : NoDiv n (i + 1) := fun j hj => by
  rcases Nat.lt_or_ge j i with h | h
  · exact hn j h
  · obtain rfl : j = i := by omega
    exact hd
/-- What has been split off so far. -/
def RadW (n m : Nat) (L : List Nat) : Prop := rad n = (rad m).map (L ++ ·) ∧ 1 ≤ m ∧ m * 2 ^ L.length ≤ n
theorem radW_start {n : Nat} (h : 1 ≤ n) : RadW n n [] := ⟨by cases rad n <;> simp, h, by simp⟩
theorem radW_step {n m r : Nat} {L : List Nat} (h : RadW n m L) (hr : ldiv m = r) (h8 : r ≠ 8) (h1 : 1 < m) (hd : m % r = 0) : RadW n (m / r) (L ++ [r]) := by
  obtain ⟨h2, h3, h4⟩ := h
  have hr2 := (ldiv_two m).1
  rw [hr] at hr2
  have hm : m = r * (m / r) := by have := Nat.div_add_mod m r; omega
  refine ⟨?_, Nat.div_pos (Nat.le_of_dvd (by omega) (Nat.dvd_of_mod_eq_zero hd)) (by omega), ?_⟩
  · rw [h2, rad_step h1 hr h8, Option.map_map]
    congr 1
    funext x
    simp
  · rw [List.length_append, List.length_singleton, Nat.pow_succ]
    have h5 : m / r * (2 ^ L.length * 2) ≤ m * 2 ^ L.length := by
      rw [Nat.mul_comm (2 ^ L.length) 2, ← Nat.mul_assoc]
      refine Nat.mul_le_mul_right _ ?_
      have := Nat.mul_le_mul_right (m / r) hr2
      rw [Nat.mul_comm] at this
      omega
    omega
theorem radW_len {n m : Nat} {L : List Nat} (h : RadW n m L) (hn : n ≤ 1024) : L.length ≤ 10 := by
  obtain ⟨_, h3, h4⟩ := h
  rcases Nat.lt_or_ge 10 L.length with h1 | h1
  · have h5 : 2 ^ 11 ≤ 2 ^ L.length := Nat.pow_le_pow_right (by omega) h1
    have h6 : 1 * 2 ^ L.length ≤ m * 2 ^ L.length := Nat.mul_le_mul_right _ h3
    omega
  · exact h1
theorem radW_le {n m : Nat} {L : List Nat} (h : RadW n m L) : m ≤ n := by
  obtain ⟨_, h3, h4⟩ := h
  have := Nat.le_mul_of_pos_right m (Nat.two_pow_pos L.length)
  omega
theorem radW_end {n : Nat} {L : List Nat} (h : RadW n 1 L) : rad n = some L := by rw [h.1, rad_one (Nat.le_refl _)]; simp
theorem radW_none {n m : Nat} {L : List Nat} (h : RadW n m L) (h1 : 1 < m) (h8 : ldiv m = 8) : rad n = none := by rw [h.1, rad_none h1 h8]; rfl
/-- Whether a is a part of n, coprime to the rest. -/
def copB (n a : Int) : Bool := decide (1 < a ∧ a < n ∧ n % a = 0 ∧ Nat.gcd a.toNat (n / a).toNat = 1)
theorem gcd_one_iff {a b : Nat} (ha : 0 < a) : Nat.gcd a b = 1 ↔ ∀ d, 2 ≤ d → d ≤ a → ¬ (a % d = 0 ∧ b % d = 0) := by
  constructor
  · intro h d h2 _ ⟨ha', hb'⟩
    have := Nat.dvd_gcd (Nat.dvd_of_mod_eq_zero ha') (Nat.dvd_of_mod_eq_zero hb')
    rw [h] at this
    have := Nat.le_of_dvd (by omega) this
    omega
  · intro h
    have h1 := Nat.gcd_dvd_left a b
    have h2 := Nat.gcd_dvd_right a b
    have h3 := Nat.gcd_pos_of_pos_left b ha
    rcases Nat.lt_or_ge (Nat.gcd a b) 2 with h4 | h4
    · omega
    · exact absurd ⟨Nat.mod_eq_zero_of_dvd h1, Nat.mod_eq_zero_of_dvd h2⟩ (h _ h4 (Nat.le_of_dvd ha h1))
def radOk (n : Int) : Bool := decide (1 ≤ n ∧ n ≤ 1024) && (rad n.toNat).isSome
/-- Whether it can be a plan. -/
noncomputable def canB (K N A : Int) : Bool :=
  decide (1 ≤ N ∧ N ≤ 1024) && (if K = 0 then A == 0 else if K = 1 ∨ K = 2 then A == 0 && p2 N else if K = 3 then A == 0 && radOk N else if K = 4 then copB N A
    else if K = 5 then decide (0 < A) && A == rpad N else if K = 6 then A == cpad N else false)
/-- How often a number is halved till it is 1. -/
def lg (n : Int) : Int := ((Nat.log2 n.toNat : Nat) : Int)
def halI (n : Int) : Int := n * 3 * lg n + n
def sumN (L : List Nat) : Nat := L.foldl (· + ·) 0
def radS (n : Int) : Int := ((sumN ((rad n.toNat).getD []) : Nat) : Int)
/-- What a plan costs that is not of parts. -/
noncomputable def cost1 (K N A : Int) : Int :=
  if K = 0 then N * N else if K = 1 then halI N else if K = 2 then N * 2 * lg N + 2 * N else if K = 3 then 2 * N * radS N + N
    else if K = 5 then 3 * halI A + 4 * N else 3 * halI A + 6 * N
noncomputable def partI (n : Int) : Int := if radOk n then cost1 3 n 0 else n * n
/-- What a plan costs. -/
noncomputable def costI (K N A : Int) : Int := if K = 4 then A * partI (N / A) + N / A * partI A + N else cost1 K N A
end Go.Proofs.YtmalmijdjhkklaaGreat
end
