/- modular.Mul, modular.Pow. -/
import Derived.Test.YtgdadkkiefkimaaGreatDiv64
import Derived.Test.YtgdadkkiefkimaaGreatWFacGen
import Derived.Deep.DeepCutAuto
import Derived.Deep.CutBlock
set_option linter.unusedVariables false
set_option linter.unusedSimpArgs false
set_option linter.unusedSectionVars false
section
/- modular.Mul, modular.Pow. -/
namespace Go.Proofs.YtgdadkkiefkimaaGreat
open Go.RowKit

theorem modmul_any (a b m : Int) (w : World) (ha0 : 0 ≤ a) (ha : a ≤ 18446744073709551615) (hb0 : 0 ≤ b) (hb : b ≤ 18446744073709551615) (hm0 : 0 < m) (hm : m ≤ 18446744073709551615) :
    Calls Tryz.prog 120 #[.int .u64 a, .int .u64 b, .int .u64 m] w fun e w' => e = .returned (.int .u64 (a * b % m)) ∧ ∃ n, w' = w.drewN n := by
  have h0 : (m == 0) = false := beq_eq_false_iff_ne.2 (by omega)
  have hp0 : 0 ≤ a * b := Int.mul_nonneg ha0 hb0
  have hp1 : a * b ≤ 18446744073709551615 * 18446744073709551615 := Int.mul_le_mul ha hb hb0 (by omega)
  have e1 : Hid (a * b / 18446744073709551616 * 18446744073709551616 + a * b % 18446744073709551616 = a * b) := Lib.hid (by omega)
  go_enter Tryz.func120, Tryz.ntmps120
  go_wp2_with (first | (go_at_call 140; refine (mul64_any _ _ _ ha0 ha hb0 hb).mono ?_; rintro e w' ⟨rfl, rfl⟩) | (go_at_call 127; refine (rem64_any _ _ _ _ (by omega) (by omega) hm0 (by omega) (by omega) hm).mono ?_; rintro e w' ⟨rfl, n, rfl⟩))
  go_ret
  exact ⟨ret_int (by rw [e1.out]), _, rfl⟩

theorem pow_step (x y z m : Int) (hy : 0 < y) : (if y % 2 = 1 then z * x % m else z) * (x * x % m) ^ (y / 2).toNat % m = z * x ^ y.toNat % m := by
  have hc : ∀ k : Nat, ((x * x % m) ^ k) % m = ((x * x) ^ k) % m := by
    intro k
    induction k with
    | zero => simp
    | succ k ih => rw [Int.pow_succ, Int.pow_succ, Int.mul_emod, ih, Int.emod_emod_of_dvd _ ⟨1, by simp⟩, ← Int.mul_emod]
  have he : x ^ y.toNat = (x * x) ^ (y / 2).toNat * x ^ (y % 2).toNat := by
    have : y.toNat = 2 * (y / 2).toNat + (y % 2).toNat := by omega
    conv => lhs; rw [this]
    rw [Int.pow_add, Int.pow_mul]
    congr 2
    rw [Int.pow_succ, Int.pow_succ, Int.pow_zero]; grind
  rw [he]
  split
  · rename_i h1
    rw [h1, Int.mul_emod, hc, Int.emod_emod_of_dvd _ ⟨1, by simp⟩, ← Int.mul_emod]
    congr 1
    simp; grind
  · have h1 : y % 2 = 0 := by omega
    rw [h1, Int.mul_emod, hc, ← Int.mul_emod]
    congr 1
    simp

theorem and_one (y : Int) (h0 : 0 ≤ y) (h1 : y ≤ 18446744073709551615) : bits .and .u64 y 1 = y % 2 := by go_bits2

set_option maxHeartbeats 400000 in
theorem modpow_any (a b m : Int) (w : World) (ha0 : 0 ≤ a) (ha : a ≤ 18446744073709551615) (hb0 : 0 ≤ b) (hb : b ≤ 18446744073709551615) (hm0 : 0 < m) (hm : m ≤ 18446744073709551615) :
    Calls Tryz.prog 179 #[.int .u64 a, .int .u64 b, .int .u64 m] w fun e w' => e = .returned (.int .u64 (a ^ b.toNat % m)) ∧ ∃ n, w' = w.drewN n := by
  have h0 : (m == 0) = false := beq_eq_false_iff_ne.2 (by omega)
  go_enter Tryz.func179, Tryz.ntmps179
  go_wp2
  go_loopw [0, 1, 7] (fun A E O wr => ∃ x y z : Int, ∃ n, 0 ≤ x ∧ x ≤ 18446744073709551615 ∧ 0 ≤ y ∧ y ≤ 18446744073709551615 ∧ 0 ≤ z ∧ z ≤ 18446744073709551615 ∧ A = .int .u64 x ∧ E = .int .u64 y ∧ O = .int .u64 z ∧ Hid (z * x ^ y.toNat % m = a ^ b.toNat % m) ∧ Hid (z % m = z) ∧ wr = w.drewN n) (fun _ E _ _ => (intOf E).toNat)
  case atStart =>
    have := Int.emod_nonneg 1 (show m ≠ 0 by omega)
    have := Int.emod_lt_of_pos 1 hm0
    exact ⟨a, b, 1 % m, 0, ha0, ha, hb0, hb, by omega, by omega, rfl, rfl, rfl, Lib.hid (by rw [Int.mul_emod, Int.emod_emod_of_dvd _ ⟨1, by simp⟩, ← Int.mul_emod]; simp), Lib.hid (Int.emod_emod_of_dvd _ ⟨1, by simp⟩), rfl⟩
  case round =>
    obtain ⟨x, y, z, n, hx0, hx, hy0, hy, hz0, hz, rfl, rfl, rfl, H, H2, rfl⟩ := hrel
    by_cases hlt : 0 < y
    · have st := Lib.hid (pow_step x y z m hlt)
      have ea := and_one y hy0 hy
      have m0 := Int.emod_nonneg (x * x) (show m ≠ 0 by omega)
      have m1 := Int.emod_lt_of_pos (x * x) hm0
      have m2 := Int.emod_nonneg (z * x) (show m ≠ 0 by omega)
      have m3 := Int.emod_lt_of_pos (z * x) hm0
      have mm := Int.emod_nonneg y (show (2:Int) ≠ 0 by omega)
      by_cases hodd : y % 2 = 1
      · have ho : (bits .and .u64 y 1 == 1) = true := by rw [ea, hodd]; rfl
        rw [if_pos hodd] at st
        clear ea hodd
        go_wp2_with fail
        refine (modmul_any z x m _ hz0 hz hx0 hx hm0 hm).mono ?_
        rintro e w' ⟨rfl, n1, rfl⟩
        go_wp2_with fail
        refine (modmul_any x x m _ hx0 hx hx0 hx hm0 hm).mono ?_
        rintro e w' ⟨rfl, n2, rfl⟩
        go_wp2
        go_roundw
        case rel => exact ⟨x * x % m, y / 2, z * x % m, _, m0, by omega, by omega, by omega, m2, by omega, rfl, rfl, rfl, Lib.hid (by rw [st.out, H.out]), Lib.hid (Int.emod_emod_of_dvd _ ⟨1, by simp⟩), rfl⟩
        case measure => simp [intOf]; omega
      · have ho : (bits .and .u64 y 1 == 1) = false := by rw [ea]; exact beq_eq_false_iff_ne.2 hodd
        rw [if_neg hodd] at st
        clear ea hodd
        go_wp2_with fail
        refine (modmul_any x x m _ hx0 hx hx0 hx hm0 hm).mono ?_
        rintro e w' ⟨rfl, n2, rfl⟩
        go_wp2
        go_roundw
        case rel => exact ⟨x * x % m, y / 2, z, _, m0, by omega, by omega, by omega, hz0, hz, rfl, rfl, rfl, Lib.hid (by rw [st.out, H.out]), H2, rfl⟩
        case measure => simp [intOf]; omega
    · obtain rfl : y = 0 := by omega
      go_wp2
      go_ret
      exact ⟨ret_int (by rw [← H.out]; simp [H2.out]), _, rfl⟩
end Go.Proofs.YtgdadkkiefkimaaGreat
end

section
/- sieve.Factor. -/
namespace Go.Proofs.YtgdadkkiefkimaaGreat
open Go.RowKit
open Alg (FacI IsFac)

theorem info_pow : (Tryz.prog.info? 170).map (fun i => (i.zero, i.size, i.bytes)) = some (some (.agg #[.int .u64 0, .int .i64 0]), 2, 16) := by kernel_rfl
def powCells (fs : List (Nat × Nat)) : List Value := fs.flatMap fun x => [.int .u64 x.1, .int .i64 x.2]
theorem powCells_append (a : List (Nat × Nat)) (x : Nat × Nat) : powCells (a ++ [x]) = powCells a ++ [.int .u64 x.1, .int .i64 x.2] := by simp [powCells]
theorem inner_pow {m d e M : Nat} (h : m * d ^ e = M) (hd : 2 ≤ d) (hM : 1 ≤ M) (hM2 : M ≤ 4294967296) : e ≤ 32 := by
  have hm : 1 ≤ m := Nat.pos_of_ne_zero fun h0 => by subst h0; omega
  have h1 : 2 ^ e ≤ d ^ e := Nat.pow_le_pow_left hd e
  have h2 : 1 * d ^ e ≤ m * d ^ e := Nat.mul_le_mul_right _ hm
  exact (Nat.pow_le_pow_iff_right (a := 2) (by omega)).1 (show 2 ^ e ≤ 2 ^ 32 by omega)

set_option maxHeartbeats 2000000 in
set_option maxRecDepth 100000 in
theorem factor_any (n : Nat) (w : World) (h1 : 2 ≤ n) (h2 : n ≤ 4294967296) :
    Calls Tryz.prog 163 #[.int .u64 n] w fun e w' => ∃ v fs, e = .returned v ∧ IsFac n fs ∧ w'.ownsRow w.heap.size 170 2 v fs.length (powCells fs) ∧ Below w.heap.size w w' := by
  obtain ⟨i0, hi, hz0, hz1, hz2⟩ := info_parts info_pow
  have t1 : (decide ((n : Int) < 2)) = false := by simp; omega
  have t2 : (decide ((4294967296 : Int) < n)) = false := by simp; omega
  go_enter Tryz.func163, Tryz.ntmps163
  go_wp2
  go_loopw [0, 3, 4] (fun N O D wr => ∃ m d : Nat, ∃ fs, N = .int .u64 m ∧ D = .int .u64 d ∧ FacI n m d fs ∧ (1 < m → d ≤ 65537) ∧ d ≤ 4294967297 ∧ wr.ownsRow w.heap.size 170 2 O fs.length (powCells fs) ∧ Below w.heap.size w wr)
    (fun N _ D _ => (intOf N).toNat + (70000 - intOf D).toNat)
  case atStart => exact ⟨n, 2, [], rfl, rfl, FacI.start n (by omega), by omega, by omega, World.ownsRow_nil _ _ _ _, Below.refl _ _⟩
  case round =>
    obtain ⟨m, d, fs, rfl, rfl, hF, hd1, hd2, hown, hB⟩ := hrel
    have hm1 := hF.m1
    by_cases hlt : 1 < m
    · have hd3 := hd1 hlt
      have hmn := hF.le (by omega)
      have hd4 := hF.d2
      have hdd : d * d ≤ 65537 * 65537 := Nat.mul_le_mul hd3 hd3
      have hddi : ((d : Int) * d) = ((d * d : Nat) : Int) := by simp
      have hw : IntKind.u64.wrap ((d : Int) * d) = (d : Int) * d := IntWalk.u64_in _ (by rw [hddi]; omega)
      obtain ⟨wo, rfl⟩ : ∃ wo : World, wo = wr := ⟨_, rfl⟩
      have hdlim : ¬ m < d * d → d ≤ 65536 := fun hb => by
        rcases Nat.lt_or_ge 65536 d with h | h
        · have : 65537 * 65537 ≤ d * d := Nat.mul_le_mul h h
          omega
        · exact h
      obtain ⟨D, hFD, hD2, hDd0, hDm0, hD3, hD4⟩ : ∃ D : Nat, Hid (FacI n m D fs) ∧ 2 ≤ D ∧ (m < d * d → D = m) ∧ (¬ m < d * d → D = d ∧ D ≤ 65536) ∧ D ≤ 4294967296 ∧ d ≤ D := by
        have hle := hF.d_le hlt
        by_cases hb : m < d * d
        · exact ⟨m, Lib.hid (hF.last hlt hb), by omega, fun _ => rfl, fun h => absurd hb h, by omega, hle⟩
        · exact ⟨d, Lib.hid hF, hd4, fun h => absurd h hb, fun _ => ⟨rfl, hdlim hb⟩, by omega, Nat.le_refl _⟩
      have hDd := Lib.hid hDd0
      have hDm := Lib.hid hDm0
      have HDD := Lib.hid hddi
      clear hF hddi hdlim hdd hDd0 hDm0
      go_upto_if 20 with (fail)
      go_cut [4] (fun v wx => v = .int .u64 D ∧ wx = wo)
      case first =>
        by_cases hb : m < d * d
        · have tb : decide ((m : Int) < (d : Int) * d) = true := by rw [HDD.out]; simp; omega
          have hDm := Lib.hid (hDd.out hb)
          go_wp2
          go_meet
          exact ⟨by rw [hDm.out], rfl⟩
        · have tb : decide ((m : Int) < (d : Int) * d) = false := by rw [HDD.out]; simp; omega
          have hDm := Lib.hid (hDm.out hb).1
          go_wp2
          go_meet
          exact ⟨by rw [hDm.out], rfl⟩
      case rest =>
        obtain ⟨rfl, rfl⟩ := hcut
        go_wp2
        go_loopw [0, 5] (fun N E wr => ∃ k e : Nat, N = .int .u64 k ∧ E = .int .i64 e ∧ Hid (k * D ^ e = m) ∧ wr = wc ∧ 1 ≤ k ∧ e ≤ 32 ∧ k ≤ 4294967296) (fun N _ _ => (intOf N).toNat)
        case atStart => exact ⟨m, 0, rfl, rfl, Lib.hid (by simp), rfl, hm1, by omega, by omega⟩
        case round =>
          obtain ⟨k, e, rfl, rfl, hk, rfl, hk1, he, hk2⟩ := hrel
          by_cases hdv : D ∣ k
          · obtain ⟨c, hc⟩ := hdv
            have hdv : ((k : Int) % D == 0) = true := by
              rw [beq_iff_eq, ← Int.natCast_emod, hc, Nat.mul_mod_right]; rfl
            have hdi : (k : Int) / D = (c : Nat) := by
              rw [← Int.natCast_ediv, hc, Nat.mul_div_cancel_left _ (by omega)]
            have hc1 : 1 ≤ c := Nat.pos_of_ne_zero fun h0 => by subst h0; omega
            have hc64 : (c : Int) ≤ 4294967296 := by have : 1 * c ≤ D * c := Nat.mul_le_mul_right c (by omega); omega
            have hck : c < k := by have : 2 * c ≤ D * c := Nat.mul_le_mul_right c hD2; omega
            have hk' : Hid (c * D ^ (e + 1) = m) := Lib.hid (by rw [← hk.out, hc, Nat.pow_succ]; rw [Nat.mul_comm D c, Nat.mul_assoc, Nat.mul_comm D])
            have he' := inner_pow hk'.out hD2 hm1 (by omega)
            clear hc
            go_wp2
            go_roundw
            case rel => exact ⟨c, e + 1, rfl, by go_num, hk', by trivial, hc1, he', by omega⟩
            case measure => simp [intOf]; omega
          · have hdv' : ((k : Int) % D == 0) = false := by
              rw [beq_eq_false_iff_ne, ← Int.natCast_emod]
              intro h0
              exact hdv (Nat.dvd_of_mod_eq_zero (by omega))
            have HDV := Lib.hid hdv
            clear hdv
            by_cases he0 : e = 0
            · subst he0
              have hkm : k = m := by have := hk.out; simpa using this
              subst hkm
              have hmore : 1 < k → D ≤ 65536 := fun _ => by
                by_cases hb : k < d * d
                · exact absurd (by rw [hDd.out hb]; exact Nat.dvd_refl _) HDV.out
                · exact (hDm.out hb).2
              have HS := Lib.hid (hFD.out.skip HDV.out)
              go_wp2
              go_roundw
              case rel => exact ⟨k, D + 1, fs, rfl, by go_num, HS.out, by (intro hk0; have := hmore hk0; omega), by omega, hown, hB⟩
              case measure =>
                simp only [intOf]
                omega
            · have hmore : 1 < k → D ≤ 65536 := fun hk0 => by
                by_cases hb : m < d * d
                · exfalso
                  have h1 := hk.out
                  rw [hDd.out hb] at h1
                  have h2 : m ^ 1 ≤ m ^ e := Nat.pow_le_pow_right (by omega) (by omega)
                  have h3 : 2 * m ^ e ≤ k * m ^ e := Nat.mul_le_mul_right _ hk0
                  simp at h2
                  omega
                · exact (hDm.out hb).2
              have hkm : k ≤ m := by
                have h1 := hk.out
                have h2 : 1 ≤ D ^ e := Nat.pow_pos (by omega)
                have h3 : k * 1 ≤ k * D ^ e := Nat.mul_le_mul_left k h2
                omega
              have HS := Lib.hid (hFD.out.take (by omega) hk.out HDV.out)
              have hl := hFD.out.len (by omega) (by omega)
              go_wp2_with (at_builtin; refine wpList_append_own _ rfl _ _ 128 rfl w.heap.size 170 i0 (.agg #[.int .u64 0, .int .i64 0]) 2 16 Tryz.underlying128 hi hz0 hz1 hz2 rfl (by decide) _ _ _ rfl (hown.alloc _) ⟨wr.heap.size, 0, none⟩ 1 1 [.int .u64 D, .int .i64 e] rfl rfl ?c1 ?c2 ?c3 ?c4 ?c5 ?_)
              case c1 =>
                intro j u hj
                match j, hj with
                | 0, hj => simp at hj; subst hj; simp [Addr.add]
                | 1, hj => simp at hj; subst hj; simp [Addr.add]
              case c2 => intro u hu; simp at hu; rcases hu with rfl | rfl <;> rfl
              case c3 => unfold maxLen; omega
              case c4 => omega
              case c5 => have := hB.size; simp; omega
              intro v' w1 hown' hgrow _
              rw [← powCells_append fs (D, e)] at hown'
              have hB' := (hB.alloc hB.size (.cells #[.int .u64 D, .int .i64 e] 170)).grown hgrow (by have := hB.size; simp; omega) (fun k hk => (hown.lt k hk).1)
              clear hgrow hown hB
              go_wp2
              go_roundw
              case rel => exact ⟨k, D + 1, fs ++ [(D, e)], rfl, by go_num, HS.out, by (intro hk0; have := hmore hk0; omega), by omega, by simpa using hown', hB'⟩
              case measure =>
                simp only [intOf]
                omega
    · obtain rfl : m = 1 := by omega
      have HF := Lib.hid hF.done
      clear hF
      go_wp2
      go_ret
      exact ⟨_, fs, rfl, HF.out, hown, hB⟩
end Go.Proofs.YtgdadkkiefkimaaGreat
end
