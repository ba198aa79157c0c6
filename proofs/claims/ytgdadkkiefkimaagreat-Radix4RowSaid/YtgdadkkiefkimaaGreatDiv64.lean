/- A part of the proof. -/
import Derived.Test.YtgdadkkiefkimaaGreatWBitsRef02
import Derived.Test.YtgdadkkiefkimaaGreatDiv
import Derived.Deep.DeepCutAuto
import Derived.Deep.CutBlock
set_option linter.unusedVariables false
set_option linter.unusedSimpArgs false
set_option linter.unusedSectionVars false
namespace Go.Proofs.YtgdadkkiefkimaaGreat
open Go.RowKit
set_option maxHeartbeats 2000000 in
set_option maxRecDepth 100000 in
theorem div64_main (h l y s Y U L y1 y0 u1 u0 q r t1 V q2 r2 t0 R : Int) (w : World) (h0 : (h == 0) = false) (hh0 : 0 ≤ h) (hhy : h < y) (hl0 : 0 ≤ l) (hl : l ≤ 18446744073709551615) (hy : y ≤ 18446744073709551615)
    (hs : Hid (64 - (Lib.bitLen y.toNat : Int) = s)) (hs0 : 0 ≤ s) (hs1 : s ≤ 63) (eY : IntKind.u64.wrap (y * 2 ^ s.toNat) = Y) (eL : IntKind.u64.wrap (l * 2 ^ s.toNat) = L)
    (eU : bits .or .u64 (IntKind.u64.wrap (h * 2 ^ s.toNat)) (l / 2 ^ (64 - s).toNat) = U)
    (ey1 : Y / 4294967296 = y1) (ey0 : bits .and .u64 Y 4294967295 = y0) (eu1 : L / 4294967296 = u1) (eu0 : bits .and .u64 L 4294967295 = u0)
    (b1 : 2147483648 ≤ y1) (b2 : y1 ≤ 4294967295) (b3 : 0 ≤ y0) (b4 : y0 ≤ 4294967295) (b5 : 0 ≤ u1) (b6 : u1 ≤ 4294967295) (b7 : 0 ≤ u0) (b8 : u0 ≤ 4294967295) (b9 : 0 ≤ U) (b10 : U ≤ 18446744073709551615)
    (eq : U / y1 = q) (er : IntKind.u64.wrap (U - IntKind.u64.wrap (q * y1)) = r) (hq : Div.QI U u1 Y y1 y0 q r)
    (ht1 : Hid ((U * 4294967296 + u1) / Y = t1)) (bt1 : 0 ≤ t1) (bt1' : t1 ≤ 4294967295)
    (eV : IntKind.u64.wrap (IntKind.u64.wrap (IntKind.u64.wrap (U * 4294967296) + u1) - IntKind.u64.wrap (t1 * Y)) = V) (bV : 0 ≤ V) (bV' : V ≤ 18446744073709551615)
    (eq2 : V / y1 = q2) (er2 : IntKind.u64.wrap (V - IntKind.u64.wrap (q2 * y1)) = r2) (hq2 : Div.QI V u0 Y y1 y0 q2 r2)
    (ht0 : Hid ((V * 4294967296 + u0) / Y = t0)) (bt0 : 0 ≤ t0) (bt0' : t0 ≤ 4294967295)
    (eR : IntKind.u64.wrap (IntKind.u64.wrap (IntKind.u64.wrap (V * 4294967296) + u0) - IntKind.u64.wrap (t0 * Y)) = R) (bR : 0 ≤ R)
    (fin1 : Hid (t1 * 4294967296 + t0 = (h * 18446744073709551616 + l) / y)) (fin2 : Hid (R / 2 ^ s.toNat = (h * 18446744073709551616 + l) % y)) :
    Calls Tryz.prog 160 #[.int .u64 h, .int .u64 l, .int .u64 y] w fun e w' => e = .returned (.tuple #[.int .u64 ((h * 18446744073709551616 + l) / y), .int .u64 ((h * 18446744073709551616 + l) % y)]) ∧ ∃ n, w' = w.drewN n := by
  have c1 : (y == 0) = false := beq_eq_false_iff_ne.2 (by omega)
  go_enter Tryz.func160, Tryz.ntmps160
  go_upto_block 0 with (go_at_call 176; refine (lz64_any y _ (by omega) hy).mono ?_; rintro e w' ⟨rfl, rfl⟩; rw [hs.out])
  have eqs := Lib.hid eq
  have eVs := Lib.hid eV
  have eqs2 := Lib.hid eq2
  have ers2 := Lib.hid er2
  have eRs := Lib.hid eR
  clear eY eL eU ey1 ey0 eu1 eu0 eq er c1 eV eq2 er2 eR
  go_cut [15] (fun v wx => v = .int .u64 t1 ∧ wx = w)
  case first =>
    go_wp2_with fail
    go_loop [15, 16] (fun a b => ∃ q r : Int, a = .int .u64 q ∧ b = .int .u64 r ∧ Div.QI U u1 Y y1 y0 q r) (fun a _ => (intOf a).toNat)
    case atStart => exact ⟨q, r, by rw [eqs.out], rfl, hq⟩
    case round =>
      clear hq eqs
      obtain ⟨q, r, rfl, rfl, hq⟩ := hrel
      have f1 := hq.t_lt
      have f2 := hq.le
      have f3 := hq.r0
      have f4 := hq.rb
      have f5 := hq.qb
      have g1 : 0 ≤ q := by omega
      have f6 := hq.y0b
      by_cases hbig : 4294967296 ≤ q
      · have e := hq.test_big hbig
        have e1 : 1 ≤ q := by omega
        by_cases hb : 4294967296 ≤ r + y1
        · have es := hq.stop e hb
          have HQ := Lib.hid hq
          have HS := Lib.hid es
          clear f1 f2 e hq es
          go_wp2
          go_meet
          exact ⟨by rw [← ht1.out, HS.out], rfl⟩
        · have en := Lib.hid (hq.next e (by omega))
          clear f1 f2 e hq
          go_wp2
          go_round
          case rel => exact ⟨q - 1, r + y1, rfl, rfl, en.out⟩
          case measure => simp [intOf]; omega
      · have hp : 0 ≤ q * y0 ∧ q * y0 ≤ 4294967295 * 4294967295 := ⟨Int.mul_nonneg g1 b3, Int.mul_le_mul (by omega) (by omega) b3 (by omega)⟩
        have hw : IntKind.u64.wrap (q * y0) = q * y0 := IntWalk.u64_in _ (by omega)
        by_cases ht : 4294967296 * r + u1 < q * y0
        · have e := hq.test_yes ht
          have e1 : 1 ≤ q := by omega
          by_cases hb : 4294967296 ≤ r + y1
          · have es := hq.stop e hb
            have HS := Lib.hid es
            clear f1 f2 e hq es hp
            go_wp2
            go_meet
            exact ⟨by rw [← ht1.out, HS.out], rfl⟩
          · have en := Lib.hid (hq.next e (by omega))
            clear f1 f2 e hq hp
            go_wp2
            go_round
            case rel => exact ⟨q - 1, r + y1, rfl, rfl, en.out⟩
            case measure => simp [intOf]; omega
        · have e := Lib.hid (hq.test_no (by omega))
          clear f1 f2 hq hp
          go_wp2
          go_meet
          exact ⟨by rw [← ht1.out, e.out], rfl⟩
  case rest =>
    obtain ⟨rfl, rfl⟩ := hcut
    clear hq
    have eV := eVs.out
    have eq2 := eqs2.out
    have er2 := ers2.out
    clear eVs ers2
    go_upto_block 2 with fail
    clear eV er2 eq2
    go_cut [18] (fun v wx => v = .int .u64 t0 ∧ wx = wc)
    case first =>
      go_wp2_with fail
      go_loop [18, 16] (fun a b => ∃ q r : Int, a = .int .u64 q ∧ b = .int .u64 r ∧ Div.QI V u0 Y y1 y0 q r) (fun a _ => (intOf a).toNat)
      case atStart => exact ⟨q2, r2, by rw [eqs2.out], rfl, hq2⟩
      case round =>
        clear hq2 eqs2
        obtain ⟨q, r, rfl, rfl, hq⟩ := hrel
        have f1 := hq.t_lt
        have f2 := hq.le
        have f3 := hq.r0
        have f4 := hq.rb
        have f5 := hq.qb
        have g1 : 0 ≤ q := by omega
        have f6 := hq.y0b
        by_cases hbig : 4294967296 ≤ q
        · have e := hq.test_big hbig
          have e1 : 1 ≤ q := by omega
          by_cases hb : 4294967296 ≤ r + y1
          · have es := hq.stop e hb
            have HQ := Lib.hid hq
            have HS := Lib.hid es
            clear f1 f2 e hq es
            go_wp2
            go_meet
            exact ⟨by rw [← ht0.out, HS.out], rfl⟩
          · have en := Lib.hid (hq.next e (by omega))
            clear f1 f2 e hq
            go_wp2
            go_round
            case rel => exact ⟨q - 1, r + y1, rfl, rfl, en.out⟩
            case measure => simp [intOf]; omega
        · have hp : 0 ≤ q * y0 ∧ q * y0 ≤ 4294967295 * 4294967295 := ⟨Int.mul_nonneg g1 b3, Int.mul_le_mul (by omega) (by omega) b3 (by omega)⟩
          have hw : IntKind.u64.wrap (q * y0) = q * y0 := IntWalk.u64_in _ (by omega)
          by_cases ht : 4294967296 * r + u0 < q * y0
          · have e := hq.test_yes ht
            have e1 : 1 ≤ q := by omega
            by_cases hb : 4294967296 ≤ r + y1
            · have es := hq.stop e hb
              have HS := Lib.hid es
              clear f1 f2 e hq es hp
              go_wp2
              go_meet
              exact ⟨by rw [← ht0.out, HS.out], rfl⟩
            · have en := Lib.hid (hq.next e (by omega))
              clear f1 f2 e hq hp
              go_wp2
              go_round
              case rel => exact ⟨q - 1, r + y1, rfl, rfl, en.out⟩
              case measure => simp [intOf]; omega
          · have e := Lib.hid (hq.test_no (by omega))
            clear f1 f2 hq hp
            go_wp2
            go_meet
            exact ⟨by rw [← ht0.out, e.out], rfl⟩
    case rest =>
      obtain ⟨rfl, rfl⟩ := hcut
      clear hq2
      have eR := eRs.out
      clear eRs
      go_wp2
      go_ret2
      exact ⟨ret_int2 fin1.out fin2.out, 0, rfl⟩

theorem bitLen_bounds (n : Nat) : ∀ x : Nat, x ≤ n → x ≠ 0 → x < 18446744073709551616 → 2 ^ (Lib.bitLen x - 1) ≤ x ∧ x < 2 ^ Lib.bitLen x ∧ 1 ≤ Lib.bitLen x := by
  induction n with
  | zero => intro x h0 h1; omega
  | succ n ih =>
    intro x hx h0 h1
    have e := Lib.bitLen_half x h0 h1
    by_cases hx1 : x / 2 = 0
    · have hb : Lib.bitLen (x / 2) = 0 := by rw [hx1]; decide
      have hx2 : x = 1 := by omega
      rw [e, hb]; subst hx2
      decide
    · obtain ⟨a, b, c⟩ := ih (x / 2) (by omega) hx1 (by omega)
      rw [e]
      obtain ⟨m, hm⟩ : ∃ m, Lib.bitLen (x / 2) = m + 1 := ⟨Lib.bitLen (x / 2) - 1, by omega⟩
      rw [hm] at a b ⊢
      have e1 : 1 + (m + 1) - 1 = m + 1 := by omega
      have e2 : 1 + (m + 1) = (m + 1) + 1 := by omega
      rw [e1, e2, Nat.pow_succ 2 (m + 1)]
      have e3 : m + 1 - 1 = m := by omega
      rw [e3] at a
      have e4 : 2 ^ (m + 1) = 2 ^ m * 2 := Nat.pow_succ ..
      omega

theorem or_join (x y : Int) (s : Nat) (hs : s ≤ 63) (hx0 : 0 ≤ x) (hx : x < 18446744073709551616) (hy0 : 0 ≤ y) (hd : x % ((2 ^ s : Nat) : Int) = 0) (hy : y < ((2 ^ s : Nat) : Int)) : bits .or .u64 x y = x + y := by
  obtain ⟨a, rfl⟩ := Int.eq_ofNat_of_zero_le hx0
  obtain ⟨b, rfl⟩ := Int.eq_ofNat_of_zero_le hy0
  have hp : 2 ^ s ≤ 2 ^ 63 := Nat.pow_le_pow_right (by omega) hs
  rw [u64_or_nat a b (by omega) (by omega), nat_join s a b (by omega) (by omega)]
  rfl

theorem div64_any (h l y : Int) (w : World) (hh0 : 0 ≤ h) (hhy : h < y) (hl0 : 0 ≤ l) (hl : l ≤ 18446744073709551615) (hy : y ≤ 18446744073709551615) :
    Calls Tryz.prog 160 #[.int .u64 h, .int .u64 l, .int .u64 y] w fun e w' => e = .returned (.tuple #[.int .u64 ((h * 18446744073709551616 + l) / y), .int .u64 ((h * 18446744073709551616 + l) % y)]) ∧ ∃ n, w' = w.drewN n := by
  by_cases h0 : h = 0
  · subst h0
    have b1 : (y == 0) = false := beq_eq_false_iff_ne.2 (by omega)
    go_enter Tryz.func160, Tryz.ntmps160
    go_wp2
    go_quiet (fail)
    go_wp2
    go_ret2
    exact ⟨ret_int2 (by simp) (by simp), _, rfl⟩
  · obtain ⟨c1, c2, c3⟩ := bitLen_bounds y.toNat y.toNat (Nat.le_refl _) (by omega) (by omega)
    have c4 := bitLen_le64 y (by omega) hy
    generalize hb : Lib.bitLen y.toNat = b at c1 c2 c3 c4
    -- the shift, and the two powers that make 2^64
    have hk : (2 : Int) ^ (64 - b) * 2 ^ b = 18446744073709551616 := by
      rw [← Int.pow_add, show 64 - b + b = 64 by omega]; rfl
    have hk2 : (2 : Int) ^ b = 2 * 2 ^ (b - 1) := by
      rw [show b = (b - 1) + 1 by omega, Int.pow_succ]; simp; omega
    have hyb : (2 : Int) ^ (b - 1) ≤ y := by have := Int.ofNat_le.2 c1; simp at this; omega
    have hyb2 : y < (2 : Int) ^ b := by have := Int.ofNat_lt.2 c2; simp at this; omega
    have hK0 : (0 : Int) < 2 ^ (64 - b) := Int.pow_pos (by omega)
    have hs : (64 - (b : Int)).toNat = 64 - b := by omega
    have hs2 : (64 - (64 - (b : Int))).toNat = b := by omega
    have hJ0 : (0 : Int) < 2 ^ b := Int.pow_pos (by omega)
    have hor : ∀ x z : Int, 0 ≤ x → x < 18446744073709551616 → 0 ≤ z → x % 2 ^ (64 - b) = 0 → z < 2 ^ (64 - b) → bits .or .u64 x z = x + z := fun x z a1 a2 a3 a4 a5 =>
      or_join x z (64 - b) (by omega) a1 a2 a3 (by simpa using a4) (by simpa using a5)
    generalize hKe : (2 : Int) ^ (64 - b) = K at *
    generalize hJe : (2 : Int) ^ b = J at *
    generalize (2 : Int) ^ (b - 1) = I at *
    have hYlo : 9223372036854775808 ≤ y * K := by
      have : I * K ≤ y * K := Int.mul_le_mul_of_nonneg_right hyb (by omega)
      have e : K * J = 2 * (I * K) := by rw [hk2]; grind
      omega
    have hYhi : y * K < 18446744073709551616 := by
      have : y * K < J * K := Int.mul_lt_mul_of_pos_right hyb2 hK0
      have e : J * K = K * J := Int.mul_comm ..
      omega
    have hhK : h * K ≤ y * K - K := by
      have : h * K ≤ (y - 1) * K := Int.mul_le_mul_of_nonneg_right (by omega) (by omega)
      have e : (y - 1) * K = y * K - K := by grind
      omega
    have hhK0 : 0 ≤ h * K := Int.mul_nonneg hh0 (by omega)
    -- the low number, moved
    have hlJ : l / J < K := Int.ediv_lt_of_lt_mul hJ0 (by rw [hk]; omega)
    have hlJ0 : 0 ≤ l / J := Int.ediv_nonneg hl0 (by omega)
    have hlK : l * K = (l / J) * 18446744073709551616 + (l * K) % 18446744073709551616 := by
      have d := Int.mul_ediv_add_emod l J
      have e : l * K = (l / J) * (K * J) + (l % J) * K := by
        have : l * K = (J * (l / J) + l % J) * K := by rw [d]
        rw [this]; grind
      have hm : 0 ≤ (l % J) * K ∧ (l % J) * K < 18446744073709551616 := by
        have m0 := Int.emod_nonneg l (show J ≠ 0 by omega)
        have m1 := Int.emod_lt_of_pos l hJ0
        refine ⟨Int.mul_nonneg m0 (by omega), ?_⟩
        have : (l % J) * K < J * K := Int.mul_lt_mul_of_pos_right m1 hK0
        have e : J * K = K * J := Int.mul_comm ..
        omega
      rw [e, hk]
      generalize (l % J) * K = z at *
      generalize l / J = v at *
      omega
    have hmul : (h * 18446744073709551616 + l) * K = (h * K + l / J) * 18446744073709551616 + (l * K) % 18446744073709551616 := by
      have e : (h * 18446744073709551616 + l) * K = (h * K) * 18446744073709551616 + l * K := by grind
      rw [e]
      generalize (l * K) % 18446744073709551616 = z at *
      generalize l / J = v at *
      generalize h * K = a at *
      omega
    have hwY : IntKind.u64.wrap (y * K) = y * K := IntWalk.u64_in _ (by omega)
    have hwh : IntKind.u64.wrap (h * K) = h * K := IntWalk.u64_in _ (by omega)
    have hU := hor (h * K) (l / J) hhK0 (by omega) hlJ0 (Int.mul_emod_left h K) hlJ
    have sc := Div.scaled (h * 18446744073709551616 + l) y K hK0 (by omega)
    rw [hmul] at sc
    have hUY : h * K + l / J < y * K := by omega
    have hU0 : 0 ≤ h * K + l / J := by omega
    have hL0 := Int.emod_nonneg (l * K) (show (18446744073709551616 : Int) ≠ 0 by omega)
    have hL1 := Int.emod_lt_of_pos (l * K) (show (0 : Int) < 18446744073709551616 by omega)
    generalize hYe : y * K = Y at *
    generalize hUe : h * K + l / J = U at *
    generalize hLe : (l * K) % 18446744073709551616 = L at *
    have q1 := Div.QI.start (U := U) (u := L / 4294967296) (Y := Y) (y1 := Y / 4294967296) (y0 := Y % 4294967296) (by omega) (by omega) (by omega) (by omega) (by omega) (by omega) (by omega) hU0 hUY
    have t1b := q1.t_lt
    have hV0 := Int.emod_nonneg (U * 4294967296 + L / 4294967296) (show Y ≠ 0 by omega)
    have hV1 := Int.emod_lt_of_pos (U * 4294967296 + L / 4294967296) (show 0 < Y by omega)
    have hVd := Int.mul_ediv_add_emod (U * 4294967296 + L / 4294967296) Y
    have q0 := Div.QI.start (U := (U * 4294967296 + L / 4294967296) % Y) (u := L % 4294967296) (Y := Y) (y1 := Y / 4294967296) (y0 := Y % 4294967296) (by omega) (by omega) (by omega) (by omega) (by omega) (by omega) (by omega) hV0 hV1
    have t0b := q0.t_lt
    have tw := Div.two (U * 18446744073709551616 + L) Y (L / 4294967296) (L % 4294967296) U _ _ (by omega) rfl rfl (by omega) (by omega) (by omega)
    have hRd := Int.mul_ediv_add_emod ((U * 4294967296 + L / 4294967296) % Y * 4294967296 + L % 4294967296) Y
    have hR0 := Int.emod_nonneg ((U * 4294967296 + L / 4294967296) % Y * 4294967296 + L % 4294967296) (show Y ≠ 0 by omega)
    have hR1 := Int.emod_lt_of_pos ((U * 4294967296 + L / 4294967296) % Y * 4294967296 + L % 4294967296) (show 0 < Y by omega)
    refine div64_main h l y (64 - (b : Int)) Y U L (Y / 4294967296) (Y % 4294967296) (L / 4294967296) (L % 4294967296) _ _ _ ((U * 4294967296 + L / 4294967296) % Y) _ _ _ (((U * 4294967296 + L / 4294967296) % Y * 4294967296 + L % 4294967296) % Y) w (beq_eq_false_iff_ne.2 h0) hh0 hhy hl0 hl hy
      (Lib.hid (by rw [hb])) (by omega) (by omega) (by rw [hs, hKe, hYe]; exact hwY) (by rw [hs, hKe, IntKind.wrap_u64]; exact hLe) (by rw [hs, hs2, hKe, hJe, hwh]; exact hU) rfl (and_low32 Y (by omega) (by omega)) rfl (and_low32 L (by omega) (by omega))
      (by omega) (by omega) (by omega) (by omega) (by omega) (by omega) (by omega) (by omega) hU0 (by omega) rfl ?_ q1 (Lib.hid rfl) t1b.1 (by omega) ?_ hV0 (by omega) rfl ?_ q0 (Lib.hid rfl) t0b.1 (by omega) ?_ hR0 (Lib.hid ?_) (Lib.hid ?_)
    · have := q1.er
      have r0 := q1.r0
      have rb := q1.rb
      rw [IntKind.wrap_u64, IntKind.wrap_u64]
      generalize (U / (Y / 4294967296)) * (Y / 4294967296) = z at *
      omega
    · have e : (U * 4294967296 + L / 4294967296) / Y * Y = Y * ((U * 4294967296 + L / 4294967296) / Y) := Int.mul_comm ..
      rw [e]
      simp only [IntKind.wrap_u64]
      generalize Y * ((U * 4294967296 + L / 4294967296) / Y) = z at *
      omega
    · have := q0.er
      have r0 := q0.r0
      have rb := q0.rb
      rw [IntKind.wrap_u64, IntKind.wrap_u64]
      generalize ((U * 4294967296 + L / 4294967296) % Y / (Y / 4294967296)) * (Y / 4294967296) = z at *
      omega
    · have e : ((U * 4294967296 + L / 4294967296) % Y * 4294967296 + L % 4294967296) / Y * Y = Y * (((U * 4294967296 + L / 4294967296) % Y * 4294967296 + L % 4294967296) / Y) := Int.mul_comm ..
      rw [e]
      simp only [IntKind.wrap_u64]
      generalize Y * (((U * 4294967296 + L / 4294967296) % Y * 4294967296 + L % 4294967296) / Y) = z at *
      omega
    · rw [← tw.1]; exact sc.1
    · rw [hs, hKe, ← tw.2]; exact sc.2

theorem rem64_any (h l y : Int) (w : World) (hh0 : 0 ≤ h) (hh : h ≤ 18446744073709551615) (hy0 : 0 < y) (hl0 : 0 ≤ l) (hl : l ≤ 18446744073709551615) (hy : y ≤ 18446744073709551615) :
    Calls Tryz.prog 127 #[.int .u64 h, .int .u64 l, .int .u64 y] w fun e w' => e = .returned (.int .u64 ((h * 18446744073709551616 + l) % y)) ∧ ∃ n, w' = w.drewN n := by
  have m0 := Int.emod_nonneg h (show y ≠ 0 by omega)
  have m1 := Int.emod_lt_of_pos h hy0
  have e : Hid ((h % y * 18446744073709551616 + l) % y = (h * 18446744073709551616 + l) % y) := Lib.hid (by
    rw [Int.add_emod, Int.mul_emod, Int.emod_emod_of_dvd h ⟨1, by simp⟩, ← Int.mul_emod, ← Int.add_emod])
  go_enter Tryz.func127, Tryz.ntmps127
  go_wp2_with (go_at_call 160; refine (div64_any _ _ _ _ m0 m1 hl0 hl hy).mono ?_; rintro e w' ⟨rfl, n, rfl⟩)
  go_ret
  exact ⟨ret_int e.out, _, rfl⟩
end Go.Proofs.YtgdadkkiefkimaaGreat
