/- Powers of two as lengths: radix2.Fits, the document's Fits; the document's Fault of layer 13. -/
import Derived.Test.YtemoginoanhjlaaGreatWClaimToDft
import Derived.Laws.BitsAllLaws
import Derived.Laws.BitsLemmas
import Derived.Test.YtemoginoanhjlaaGreatWTwidToRdB
import Derived.Test.YtemoginoanhjlaaGreatSieve
import Derived.Test.YtemoginoanhjlaaGreatWBitsRef02BRev
import Derived.Test.YtemoginoanhjlaaGreatWR2MToPadM
set_option linter.unusedVariables false
set_option linter.unusedSimpArgs false
set_option linter.unusedSectionVars false
section
/- Powers of two as lengths: radix2.Fits, the document's Fits; the document's Fault of layer 13. -/
set_option linter.unusedVariables false
set_option linter.unusedSimpArgs false
namespace Go.Proofs.YtemoginoanhjlaaGreat
open Go.RowKit

theorem ofInt64 (a : Nat) (ha : a < 9223372036854775808) : (BitVec.ofInt 64 (a : Int)).toNat = a := by
  rw [BitVec.ofInt_natCast, BitVec.toNat_ofNat]; exact Nat.mod_eq_of_lt (by omega)
theorem and64 (a b : Nat) (ha : a < 9223372036854775808) (hb : b < 9223372036854775808) : bits .and .i64 (a : Int) (b : Int) = ((a &&& b : Nat) : Int) := by
  have hx : a &&& b < 2 ^ 63 := Nat.and_lt_two_pow _ (by omega)
  show IntKind.i64.wrap ((BitVec.ofInt 64 (a : Int) &&& BitVec.ofInt 64 (b : Int)).toNat : Int) = _
  rw [BitVec.toNat_and, ofInt64 a ha, ofInt64 b hb, IntKind.wrap_i64]
  omega
/-- One of the powers of two, up to 2^12? -/
def p2 (n : Int) : Bool := n == 1 || n == 2 || n == 4 || n == 8 || n == 16 || n == 32 || n == 64 || n == 128 || n == 256 || n == 512 || n == 1024 || n == 2048 || n == 4096
def p2N (n : Nat) : Bool := n == 1 || n == 2 || n == 4 || n == 8 || n == 16 || n == 32 || n == 64 || n == 128 || n == 256 || n == 512 || n == 1024 || n == 2048 || n == 4096
theorem p2_cast (n : Nat) : p2 (n : Int) = p2N n := by
  unfold p2 p2N
  rw [Bool.eq_iff_iff]
  simp only [Bool.or_eq_true, beq_iff_eq]
  omega
theorem p2_table : ((List.range 4097).all fun n => decide (n = 0) || ((n &&& (n - 1)) == 0) == p2N n) = true := by decide +kernel
theorem p2_and (n : Nat) (h1 : 1 ≤ n) (h2 : n ≤ 4096) : ((n &&& (n - 1)) == 0) = p2N n := by
  have h := List.all_eq_true.1 p2_table n (List.mem_range.2 (by omega))
  simp only [Bool.or_eq_true, decide_eq_true_eq, beq_iff_eq] at h
  rcases h with h | h
  · omega
  · exact h
theorem p2_range {n : Int} (h : p2 n = true) : 1 ≤ n ∧ n ≤ 4096 := by
  unfold p2 at h
  simp only [Bool.or_eq_true, beq_iff_eq] at h
  omega
theorem fits2_any (n : Int) (w : World) (h0 : -9223372036854775808 ≤ n) (h1 : n ≤ 9223372036854775807) :
    Calls Tryz.prog 106 #[.int .i64 n] w fun e w' => e = .returned (.bool (p2 n)) ∧ w = w' := by
  by_cases hr : 1 ≤ n ∧ n ≤ 4096
  · obtain ⟨m, rfl⟩ := Int.eq_ofNat_of_zero_le (show 0 ≤ n by omega)
    have e1 : (m : Int) - 1 = ((m - 1 : Nat) : Int) := by omega
    have hb : (bits .and .i64 (m : Int) ((m : Int) - 1) == 0) = p2 m := by
      rw [e1, and64 m (m - 1) (by omega) (by omega), p2_cast, ← p2_and m (by omega) (by omega)]
      rw [Bool.eq_iff_iff]; simp only [beq_iff_eq]; omega
    have HB := Lib.hid hb
    obtain ⟨z, hz⟩ : ∃ z, z = bits .and .i64 (m : Int) ((m : Int) - 1) := ⟨_, rfl⟩
    have hze : bits .and .i64 (m : Int) ((m : Int) - 1) = z := hz.symm
    have HB2 : Hid ((z == 0) = p2 m) := Lib.hid (by rw [hz]; exact hb)
    clear hb e1 hz
    go_enter Tryz.func106, Tryz.ntmps106
    go_wp2
    go_ret
    exact ⟨by rw [← HB2.out]; first | rfl | (rw [hze]), rfl⟩
  · have hz : Hid (p2 n = false) := Lib.hid (by
      rw [Bool.eq_false_iff]; intro h; exact hr (p2_range h))
    have t : decide (0 < n) = false ∨ (decide (0 < n) = true ∧ decide (n ≤ 4096) = false) := by
      by_cases a : 0 < n
      · exact .inr ⟨by simpa using a, by simp; omega⟩
      · exact .inl (by simpa using a)
    clear hr
    rcases t with t | ⟨t, t'⟩
    all_goals
      go_enter Tryz.func106, Tryz.ntmps106
      go_wp2
      go_ret
      exact ⟨by rw [hz.out]; first | rfl | simp, rfl⟩
/-- Those among 1, 2, 4 .. below k. -/
def p2b (n k : Int) : Bool := p2 n && decide (n < k)
theorem r12fits_any (n : Int) (w : World) (h0 : -9223372036854775808 ≤ n) (h1 : n ≤ 9223372036854775807) :
    Calls Tryz.prog 112 #[.int .i64 n] w fun e w' => e = .returned (.bool (p2 n)) ∧ w = w' := by
  go_enter Tryz.func112, Tryz.ntmps112
  go_wp2
  go_loopw [3] (fun K wr => ∃ k : Int, K = .int .i64 k ∧ Hid (p2 k = true ∨ k = 8192) ∧ 1 ≤ k ∧ k ≤ 8192 ∧ Hid (p2b n k = false) ∧ wr = w) (fun K _ => (8192 - intOf K).toNat)
  case atStart => exact ⟨1, rfl, Lib.hid (.inl (by decide)), by omega, by omega, Lib.hid (by
    unfold p2b
    rw [Bool.eq_false_iff]; intro h
    simp only [Bool.and_eq_true, decide_eq_true_eq] at h
    have := p2_range h.1
    omega), rfl⟩
  case round =>
    obtain ⟨k, rfl, hk2, hk1, hk8, hb, rfl⟩ := hrel
    by_cases hlt : k ≤ 4096
    · by_cases he : n = k
      · have t : (n == k) = true := by simp [he]
        have HP : Hid (p2 n = true) := Lib.hid (by
          rcases hk2.out with h | h
          · rw [he]; exact h
          · omega)
        clear he
        go_wp2
        go_ret
        exact ⟨by rw [HP.out]; first | rfl | simp, rfl⟩
      · have t : (n == k) = false := by simp [he]
        have hk3 : Hid (p2 (2 * k) = true ∨ 2 * k = 8192) := Lib.hid (by
          rcases hk2.out with h | h
          · unfold p2 at h ⊢
            simp only [Bool.or_eq_true, beq_iff_eq] at h ⊢
            omega
          · omega)
        have hb3 : Hid (p2b n (2 * k) = false) := Lib.hid (by
          have h2 := hb.out
          have h3 := hk2.out
          rw [Bool.eq_false_iff] at h2 ⊢
          intro h4
          apply h2
          unfold p2b p2 at *
          simp only [Bool.and_eq_true, Bool.or_eq_true, beq_iff_eq, decide_eq_true_eq] at *
          refine ⟨h4.1, ?_⟩
          omega)
        clear he
        go_wp2
        go_roundw
        case rel => exact ⟨2 * k, by first | rfl | go_num, hk3, by omega, by omega, hb3, by trivial⟩
        case measure => simp [intOf]; omega
    · have HP : Hid (p2 n = false) := Lib.hid (by
        have h2 := hb.out
        rw [Bool.eq_false_iff] at h2 ⊢
        intro h4
        apply h2
        have := p2_range h4
        unfold p2b
        rw [h4]; simp; omega)
      go_wp2
      go_ret
      exact ⟨by rw [HP.out]; first | rfl | simp, rfl⟩
/-- The error's number, of a list. -/
def fault13 (p : Int) (L : List Int) : Int := if chk p L.length 4096 ≠ 0 then chk p L.length 4096 else if p2 L.length = false then 11 else if goodB p L = false then 9 else 0
end Go.Proofs.YtemoginoanhjlaaGreat
end

section
/- There and back, as lists. -/
set_option linter.unusedVariables false
set_option linter.unusedSectionVars false
namespace Go.Proofs.YtemoginoanhjlaaGreat
open Alg
section
variable {p : Nat} [NeZero p]
theorem tr_congr {G : Fin p} {n : Nat} {inv : Bool} {F F' : Nat → Fin p} (h : ∀ j, j < n → F j = F' j) (i : Nat) : tr G n inv F i = tr G n inv F' i := by
  show _ * dft _ n F i = _ * dft _ n F' i
  rw [dft_congr h]
theorem tr_rz (G : Fin p) (n : Nat) (inv : Bool) (F : Nat → Fin p) (i : Nat) : tr G n inv (rz p (lst n F)) i = tr G n inv F i := tr_congr (fun j hj => rz_lst hj) i
theorem back_lst {G : Fin p} {L : List Int} (hp : Prime p) (hg : Ord G (p - 1)) (hd : L.length ∣ p - 1) (h0 : 0 < L.length) (inv : Bool) (hgd : goodB p L = true) (hU : U64s L) :
    lst L.length (tr G L.length (!inv) (rz p (lst L.length (tr G L.length inv (rz p L))))) = L := by
  have h1 : lst L.length (tr G L.length (!inv) (rz p (lst L.length (tr G L.length inv (rz p L))))) = lst L.length (rz p L) := lst_congr fun i hi => by rw [tr_rz, tr_back hp hg hd h0 inv _ i hi]
  rw [h1, lst_rz hgd hU]
theorem chk_mono {q n a b : Int} (h : chk q n a = 0) (hab : a ≤ b) : chk q n b = 0 := by
  obtain ⟨h1, h2, h3⟩ := chk_zero h
  unfold chk
  rw [if_neg (by omega), if_neg (by omega), if_pos h3]
theorem fault13_of {q : Int} {L : List Int} (h1 : chk q L.length 4096 = 0) (h2 : p2 L.length = true) (h3 : goodB q L = true) : fault13 q L = 0 := by
  unfold fault13
  rw [if_neg (by simp [h1]), if_neg (by simp [h2]), if_neg (by simp [h3])]
theorem fault13_lst {n : Nat} (F : Nat → Fin p) (h1 : chk p n 4096 = 0) (h2 : p2 (n : Int) = true) : fault13 p (lst n F) = 0 := fault13_of (by rw [lst_length]; exact h1) (by rw [lst_length]; exact h2) (lst_good _ _)
end
end Go.Proofs.YtemoginoanhjlaaGreat
end

section
/- Which error: transforms that are filled up to a power of two. -/
set_option linter.unusedVariables false
set_option linter.unusedSimpArgs false
namespace Go.Proofs.YtemoginoanhjlaaGreat
open Go.RowKit
open Alg
/-- Whether a length that is filled up to r can be. -/
def fitR (r p : Int) : Bool := decide (0 < r) && ((p - 1) % r == 0)
def faultR (r p : Int) (L : List Int) : Int := if chk p L.length 1024 ≠ 0 then chk p L.length 1024 else if fitR r p = false then 11 else if goodB p L = false then 9 else 0
theorem faultR_parts {r p : Int} {L : List Int} (h : faultR r p L = 0) : chk p L.length 1024 = 0 ∧ fitR r p = true ∧ goodB p L = true := by
  unfold faultR at h
  split at h
  · rename_i h1; exact absurd h h1
  · rename_i h1
    split at h
    · omega
    · rename_i h2
      split at h
      · omega
      · rename_i h3
        exact ⟨by simpa using h1, by simpa using h2, by simpa using h3⟩
theorem faultR_of {r p : Int} {L : List Int} (h1 : chk p L.length 1024 = 0) (h2 : fitR r p = true) (h3 : goodB p L = true) : faultR r p L = 0 := by
  unfold faultR
  rw [if_neg (by simp [h1]), if_neg (by simp [h2]), if_neg (by simp [h3])]
theorem pd_spec {m : Int} (h : m ≤ 4096) : p2 (pd m) = true ∧ m ≤ pd m ∧ 1 ≤ pd m ∧ pd m ≤ 4096 := by
  rcases (show m ≤ 1 ∨ (1 < m ∧ m ≤ 2) ∨ (2 < m ∧ m ≤ 4) ∨ (4 < m ∧ m ≤ 8) ∨ (8 < m ∧ m ≤ 16) ∨ (16 < m ∧ m ≤ 32) ∨ (32 < m ∧ m ≤ 64) ∨ (64 < m ∧ m ≤ 128) ∨ (128 < m ∧ m ≤ 256) ∨ (256 < m ∧ m ≤ 512) ∨ (512 < m ∧ m ≤ 1024) ∨ (1024 < m ∧ m ≤ 2048) ∨ (2048 < m ∧ m ≤ 4096) by omega) with h | h | h | h | h | h | h | h | h | h | h | h | h
  all_goals (unfold pd; (repeat rw [if_neg (by omega)]); (try rw [if_pos (by omega)]); exact ⟨by decide, by omega, by omega, by omega⟩)
theorem fitR_chk {r p : Int} (h : fitR r p = true) (h1 : r ≤ 4096) : chk p r 4096 = 0 := by
  unfold fitR at h
  simp only [Bool.and_eq_true, decide_eq_true_eq, beq_iff_eq] at h
  unfold chk
  rw [if_neg (by omega), if_neg (by omega), if_pos h.2]
end Go.Proofs.YtemoginoanhjlaaGreat
end

section
/- radix2: check, turned, ended. -/
set_option linter.unusedVariables false
set_option linter.unusedSimpArgs false
namespace Go.Proofs.YtemoginoanhjlaaGreat
open Go.RowKit
open Alg
theorem r2check_nil (A : Option Addr) (c n : Nat) (w : World) : Calls Tryz.prog 136 #[.pointer none, .slice A n c] w fun e w' => e = .returned (.int .i64 2) ∧ w = w' := by
  go_enter Tryz.func136, Tryz.ntmps136
  go_wp2_with fail
  refine (check_nil _ _ _).mono ?_
  rintro e w1 ⟨rfl, rfl⟩
  go_wp2
  go_ret
  exact ⟨rfl, rfl⟩
set_option maxHeartbeats 1000000 in
theorem r2check_fd {p : Nat} {w : World} {v : Value} {g : Int} (h : Fd w w.heap.size v p g) (A : Option Addr) (c : Nat) (L : List Int) (hl : L.length ≤ 140737488351232) (hU : U64s L) (hR : RdI w w.heap.size .u64 A L) :
    Calls Tryz.prog 136 #[v, .slice A L.length c] w fun e w' => e = .returned (.int .i64 (fault13 p L)) ∧ w = w' := by
  have hC := Lib.hid (fun m => check_fd h L.length m (by omega) (by omega))
  have hG := Lib.hid (good_fd h A c w.heap.size L hl hU hR)
  have hF := Lib.hid (fun w => fits2_any L.length w (by omega) (by omega))
  have HV : Hid (fault13 p L = if chk p L.length 4096 ≠ 0 then chk p L.length 4096 else if p2 L.length = false then 11 else if goodB p L = false then 9 else 0) := Lib.hid rfl
  clear h hU hR
  by_cases c1 : chk p L.length 4096 = 0
  · have hC2 := Lib.hid (hC.out 4096)
    rw [c1] at hC2
    by_cases c2 : p2 L.length = false
    · have HV2 : Hid (fault13 p L = 11) := Lib.hid (by rw [HV.out, if_neg (by simp [c1]), if_pos c2])
      rw [c2] at hF
      clear c1 c2 hC
      go_enter Tryz.func136, Tryz.ntmps136
      go_wp2_with fail
      refine hC2.out.mono ?_
      rintro e w1 ⟨rfl, rfl⟩
      go_wp2_with fail
      refine (hF.out _).mono ?_
      rintro e w1 ⟨rfl, rfl⟩
      go_wp2
      go_ret
      exact ⟨by rw [HV2.out]; first | rfl | simp, rfl⟩
    · have c2' : p2 L.length = true := by simpa using c2
      rw [c2'] at hF
      obtain ⟨b, hb⟩ : ∃ b, b = goodB p L := ⟨_, rfl⟩
      rw [← hb] at hG
      have HV2 : Hid (fault13 p L = if b = false then 9 else 0) := Lib.hid (by rw [HV.out, if_neg (by simp [c1]), if_neg c2, hb])
      clear c1 c2 c2' hC hb HV
      go_enter Tryz.func136, Tryz.ntmps136
      go_wp2_with fail
      refine hC2.out.mono ?_
      rintro e w1 ⟨rfl, rfl⟩
      go_wp2_with fail
      refine (hF.out _).mono ?_
      rintro e w1 ⟨rfl, rfl⟩
      go_wp2_with fail
      refine hG.out.mono ?_
      rintro e w1 ⟨rfl, rfl⟩
      cases b
      · go_wp2
        go_ret
        exact ⟨by rw [HV2.out]; first | rfl | simp, rfl⟩
      · go_wp2
        go_ret
        exact ⟨by rw [HV2.out]; first | rfl | simp, rfl⟩
  · have HV2 : Hid (fault13 p L = chk p L.length 4096) := Lib.hid (by rw [HV.out, if_pos c1])
    have hC2 := Lib.hid (hC.out 4096)
    obtain ⟨z, hz⟩ : ∃ z, z = chk p L.length 4096 := ⟨_, rfl⟩
    rw [← hz] at hC2 HV2 c1
    have t : (z != 0) = true := by simp [c1]
    clear hz c1 hC
    go_enter Tryz.func136, Tryz.ntmps136
    go_wp2_with fail
    refine hC2.out.mono ?_
    rintro e w1 ⟨rfl, rfl⟩
    go_wp2
    go_ret
    exact ⟨by rw [HV2.out]; first | rfl | simp, rfl⟩
theorem bitLen_pow {k : Nat} (h : k ≤ 12) : Lib.bitLen (2 ^ k) = k + 1 := by
  have : ((List.range 13).all fun k => Lib.bitLen (2 ^ k) == k + 1) = true := by decide +kernel
  exact beq_iff_eq.1 (List.all_eq_true.1 this k (List.mem_range.2 (by omega)))
set_option maxRecDepth 100000 in
set_option maxHeartbeats 1000000 in
theorem turned_any (k : Nat) (A : Option Addr) (c : Nat) (L : List Int) (w : World) (hk : k ≤ 12) (hl : L.length = 2 ^ k) (hU : U64s L) (hR : RdI w w.heap.size .u64 A L) :
    Calls Tryz.prog 142 #[.slice A L.length c] w fun r w' => ∃ V, r = .returned V ∧ OwnU w' w.heap.size V L.length (full L.length fun j => L.getD (rev k j) 0) ∧ Below w.heap.size w w' := by
  obtain ⟨i0, hi, hz0, hz1, hz2⟩ := info_parts info_u64
  have hl2 : L.length ≤ 4096 := by rw [hl]; exact pow12 hk
  have hl1 : 1 ≤ L.length := by rw [hl]; exact Nat.pow_pos (by omega)
  have hbl : Lib.bitLen L.length = k + 1 := by rw [hl]; exact bitLen_pow hk
  have hLn := Lib.hid (fun w => len_any L.length w (by omega) (by omega))
  rw [Int.toNat_natCast, hbl] at hLn
  have HL := Lib.hid hl
  have hz : List.replicate L.length 0 = trow k L 0 := by rw [trow_zero, hl]
  have hf : (full L.length fun j => L.getD (rev k j) 0) = trow k L L.length := by rw [hl, trow_full]
  rw [hf]
  have HZ := Lib.hid hz
  have HT : Hid (∀ i, i < L.length → (trow k L i).set (rev k i) (L.getD i 0) = trow k L (i + 1)) := Lib.hid (fun i hi => trow_step (by rw [← HL.out]; exact hi))
  have HB : Hid (∀ (i : Nat) (w : World), i < L.length → Calls Tryz.prog 188 #[.int .i64 i, .int .i64 k] w fun e w' => e = .returned (.int .i64 (rev k i)) ∧ w = w') := Lib.hid (fun i w hi => bits_any i k w hk (by rw [← HL.out]; exact hi))
  have HRv : Hid (∀ i, rev k i < L.length) := Lib.hid (fun i => by rw [HL.out]; exact rev_lt k i)
  have ek : IntKind.i64.wrap (((k + 1 : Nat) : Int) - 1) = (k : Int) := by rw [show (((k + 1 : Nat) : Int) - 1) = (k : Int) by omega]; exact IntWalk.i64_in _ (by omega)
  have EK := Lib.hid ek
  clear hl hbl hf hz ek hU
  go_enter Tryz.func142, Tryz.ntmps142
  go_wp2_with fail
  refine (hLn.out _).mono ?_
  rintro e w1 ⟨rfl, rfl⟩
  have e1 : ((k + 1 : Nat) : Int) - 1 = (k : Int) := by omega
  go_wp2_with (at_make; refine wpList_make_full _ rfl _ _ 64 rfl w.heap.size 22 i0 (.int .u64 0) 1 Tryz.underlying64 hi hz0 hz1 _ _ _ _ L.length rfl rfl ?l1 ?l2 ?b2 ?b3 (Nat.le_refl _) ?_)
  case l1 => omega
  case l2 => omega
  case b2 => rw [hz2]; omega
  case b3 => unfold maxLen; omega
  intro w3 hown hgrow
  have hown0 : OwnU w3 w.heap.size (.slice (some ⟨w.heap.size, 0, none⟩) L.length L.length) L.length (trow k L 0) := by
    unfold OwnU
    rw [← HZ.out, ints_zero', ← toList_madeCells_one]; exact hown
  have hB3 : Below w.heap.size w w3 := (Below.refl _ _).grown hgrow (Nat.le_refl _) (fun k h => by cases h)
  obtain ⟨G, hG⟩ : ∃ G, G = w.heap.size := ⟨_, rfl⟩
  rw [← hG] at hown0
  have hGb : w.heap.size ≤ G := by omega
  rw [← hG]
  have hown1 := hown0.mono (show G ≤ G by omega)
  clear hown hgrow hown0 e1 hG
  go_wp2
  go_loopw [17] (fun I wr => ∃ i : Nat, I = .int .i64 i ∧ i ≤ L.length ∧ OwnU wr G (.slice (some ⟨G, 0, none⟩) L.length L.length) L.length (trow k L i) ∧ Below w.heap.size w wr) (fun I _ => L.length - (intOf I).toNat)
  case atStart => exact ⟨0, rfl, by omega, hown1, hB3⟩
  case round =>
    clear hown1 hB3
    obtain ⟨i, rfl, hil, hown, hB⟩ := hrel
    by_cases hlt : i < L.length
    · obtain ⟨b, o', rfl, hbl, hcell⟩ := hR (by omega)
      have d := cell_keep hB hbl (hcell i hlt)
      obtain ⟨x, hx⟩ : ∃ x, x = L.getD i 0 := ⟨_, rfl⟩
      rw [← hx] at d
      have hst := HT.out i hlt
      rw [← hx] at hst
      have hrl := HRv.out i
      have hBi := Lib.hid (HB.out i)
      obtain ⟨j, hj⟩ : ∃ j, j = rev k i := ⟨_, rfl⟩
      rw [← hj] at hst hrl hBi
      obtain ⟨hset, hce, hfr, _⟩ := hown.set j hrl x
      rw [hst] at hset
      have HS := Lib.hid hset
      clear hst hset hx hj hcell hown hR
      go_wp2_with fail
      refine (hBi.out _ hlt).mono ?_
      rintro e w4 ⟨rfl, rfl⟩
      go_wp2
      go_roundw
      case rel => exact ⟨i + 1, by go_num, by omega, HS.out, hB.setCell hGb _⟩
      case measure => simp [intOf]; omega
    · obtain rfl : i = L.length := by omega
      have HO := Lib.hid (hown.mono hGb)
      clear hown
      go_wp2
      go_ret
      exact ⟨_, rfl, HO.out, hB⟩
theorem ended_no (v : Value) (A : Option Addr) (c n : Nat) (w : World) : Calls Tryz.prog 141 #[v, .slice A n c, .bool false] w fun e w' => e = .returned (.slice A n c) ∧ w = w' := by
  go_enter Tryz.func141, Tryz.ntmps141
  go_wp2
  go_ret
  exact ⟨rfl, rfl⟩
set_option maxRecDepth 100000 in
set_option maxHeartbeats 1000000 in
/-- The list scaled, if it is the inverse one. -/
theorem ended_any {p : Nat} [NeZero p] {w : World} {v : Value} {g : Int} (hp : Prime p) (h : Fd w w.heap.size v p g) (V : Value) (B n : Nat) (F : Nat → Fin p) (inv : Bool) (hd : n ∣ p - 1) (hn0 : 0 < n) (hn : n ≤ 4096) (hO : OwnU w B V n (lst n F)) (hB : B ≤ w.heap.size) :
    Calls Tryz.prog 141 #[v, V, .bool inv] w fun r w' => ∃ V', r = .returned V' ∧ OwnU w' B V' n (lst n fun i => sc p n inv * F i) ∧ Below w.heap.size w w' := by
  obtain ⟨A, c, rfl, hR⟩ := hO.rd
  cases inv with
  | false =>
    refine (ended_no v A c n w).mono ?_
    rintro e w' ⟨rfl, rfl⟩
    refine ⟨_, rfl, ?_, Below.refl _ _⟩
    have : (lst n fun i => sc p n false * F i) = lst n F := lst_congr fun i _ => by show (1 : Fin p) * _ = _; grind
    rw [this]; exact hO
  | true =>
    have pm := h.pmx
    have hS := scale_fd h A c (lst n F) (by rw [lst_length]; omega) (lst_u64 pm _ _) hR
    rw [lst_length] at hS
    have HS := Lib.hid hS
    have he : Hid (∀ t, InvOf p n t → (full n fun i => t * (lst n F).getD i 0 % (p : Int)) = lst n fun i => sc p n true * F i) := Lib.hid (fun t ht => full_congr fun i hi => by
      rw [lst_get hi, ev_mul, zt_of_val, sc_of hp hd hn0 ht])
    clear hS hR hO
    go_enter Tryz.func141, Tryz.ntmps141
    go_wp2_with fail
    refine HS.out.mono ?_
    rintro e w1 ⟨V, t, rfl, ht, hO, hB1⟩
    rw [he.out t ht] at hO
    have HO := Lib.hid (hO.mono hB)
    clear hO ht
    go_wp2
    go_ret
    exact ⟨_, rfl, HO.out, hB1⟩
end Go.Proofs.YtemoginoanhjlaaGreat
end
