/- The law SeriesBinomial. -/
import Derived.Test.YthhkljfgkihfgaaGreatAl25
import Derived.Test.YthhkljfgkihfgaaGreatRef25
import Derived.Test.YthhkljfgkihfgaaGreatMs25
import Derived.Test.YthhkljfgkihfgaaGreatBinM
set_option linter.unusedVariables false
set_option linter.unusedSimpArgs false
set_option linter.unusedSectionVars false
set_option linter.unusedVariables false
set_option linter.unusedSimpArgs false
namespace Go.Proofs.YthhkljfgkihfgaaGreat
open Go.RowKit
open Alg
set_option maxHeartbeats 16000000 in
set_option maxRecDepth 100000 in
theorem seriesBinomial_walk (w : World) (A0 : Option Addr) (c0 : Nat) (kind0 kk0 pp0 : Int) (es0 : List Ent) (A1 : Option Addr) (c1 : Nat) (L1 : List Int) (x2 : Int) (x3 : Int) (x4 : Int) (hs0 : SrcA w A0 c0 kind0 kk0 pp0 es0) (hl1 : LstA w A1 c1 L1) (h02 : 0 ≤ x2) (h12 : x2 ≤ 18446744073709551615) (h03 : 0 ≤ x3) (h13 : x3 ≤ 18446744073709551615) (h04 : -9223372036854775808 ≤ x4) (h14 : x4 ≤ 9223372036854775807) :
    Calls Tryz.prog 17 #[.agg #[.int .i64 kind0, .int .i64 kk0, .int .u64 pp0, .slice A0 es0.length c0], .slice A1 L1.length c1, .int .u64 x2, .int .u64 x3, .int .i64 x4] w fun e w' => e = .returned (.bool true) ∧ Below w.heap.size w w' := by
  have hLl := hl1.hl
  have HU := Lib.hid hl1.hU
  have HS := Lib.hid hs0
  have hB0 := (Below.refl w.heap.size w).alloc (Nat.le_refl _) (.cells #[.int .i64 kind0, .int .i64 kk0, .int .u64 pp0, .slice A0 es0.length c0] 28)
  have b0 : (w.alloc (.cells #[.int .i64 kind0, .int .i64 kk0, .int .u64 pp0, .slice A0 es0.length c0] 28)).cell? ⟨w.heap.size, 0, none⟩ = some (.int .i64 kind0) := World.cell?_alloc_at _ _ _ _ rfl
  have b1 : (w.alloc (.cells #[.int .i64 kind0, .int .i64 kk0, .int .u64 pp0, .slice A0 es0.length c0] 28)).cell? ⟨w.heap.size, 1, none⟩ = some (.int .i64 kk0) := World.cell?_alloc_at _ _ _ _ rfl
  have b2 : (w.alloc (.cells #[.int .i64 kind0, .int .i64 kk0, .int .u64 pp0, .slice A0 es0.length c0] 28)).cell? ⟨w.heap.size, 2, none⟩ = some (.int .u64 pp0) := World.cell?_alloc_at _ _ _ _ rfl
  have b3 : (w.alloc (.cells #[.int .i64 kind0, .int .i64 kk0, .int .u64 pp0, .slice A0 es0.length c0] 28)).cell? ⟨w.heap.size, 3, none⟩ = some (.slice A0 es0.length c0) := World.cell?_alloc_at _ _ _ _ rfl
  have hs1 : w.heap.size + 1 ≤ (w.alloc (.cells #[.int .i64 kind0, .int .i64 kk0, .int .u64 pp0, .slice A0 es0.length c0] 28)).heap.size := by simp
  have hAl := Lib.hid (alive25_any (w.alloc (.cells #[.int .i64 kind0, .int .i64 kk0, .int .u64 pp0, .slice A0 es0.length c0] 28)))
  have HL0 := Lib.hid hl1
  clear hs0 hl1
  go_enter Tryz.func17, Tryz.ntmps17
  go_wp2_with fail
  generalize w.alloc (.cells #[.int .i64 kind0, .int .i64 kk0, .int .u64 pp0, .slice A0 es0.length c0] 28) = w1 at *
  refine hAl.out.mono ?_
  rintro r w2 ⟨rfl, hB2⟩
  have d0 := cell_keep hB2 (by omega) b0
  have d1 := cell_keep hB2 (by omega) b1
  have d2 := cell_keep hB2 (by omega) b2
  have d3 := cell_keep hB2 (by omega) b3
  have hBw := hB0.trans (hB2.mono (show w.heap.size ≤ w1.heap.size by omega))
  clear b0 b1 b2 b3 hB0 hB2 hAl
  go_wp2_with fail
  refine (made_src (HS.out.below hBw)).mono ?_
  rintro r w3 ⟨v, p', g', rfl, hM, hB3⟩
  have hBx := hBw.trans (hB3.mono hBw.size)
  have HL4 := Lib.hid (HL0.out.below hBx)
  have HM := Lib.hid hM
  have HBx := Lib.hid hBx
  clear d0 d1 d2 d3 hBw hM hs1 hB3 HL0 hBx
  rcases HM.out with ⟨rfl, rfl, rfl⟩ | ⟨p3, hC, hF⟩
  · clear HM
    go_wp2
    go_ret
    exact ⟨by first | rfl | simp, HBx.out⟩
  · obtain ⟨q, rfl⟩ := Int.eq_ofNat_of_zero_le (show 0 ≤ p' by omega)
    have pm := hF.pmx
    haveI : NeZero q := ⟨by omega⟩
    obtain ⟨hp, hord⟩ := hC.nat
    have hg := hC.gr
    have HO : Hid (Ord (zt q g') (q - 1)) := Lib.hid hord
    have HP := Lib.hid hp
    have HF := Lib.hid hF
    have tp : ((q : Int) == 0) = false := by simp; omega
    have HPM := Lib.hid (And.intro p3 pm)
    have hg0 : 0 ≤ g' := by omega
    have hqg : Hid (g' < (q : Int)) := Lib.hid hg.2
    clear HM hC hp hord hg
    by_cases cc1 : 60 < L1.length
    · have t1 : decide ((60 : Int) < (L1.length : Int)) = true := decide_eq_true (by omega)
      go_wp2
      go_ret
      exact ⟨by first | rfl | simp, HBx.out⟩
    have t1 : decide ((60 : Int) < (L1.length : Int)) = false := decide_eq_false (by omega)
    by_cases cc2 : x4 < 1
    · have t2 : decide (x4 < 1) = true := decide_eq_true cc2
      go_wp2
      go_ret
      exact ⟨by first | rfl | simp, HBx.out⟩
    have t2 : decide (x4 < 1) = false := decide_eq_false cc2
    by_cases cc3 : 40 < x4
    · have t3 : decide (40 < x4) = true := decide_eq_true cc3
      go_wp2
      go_ret
      exact ⟨by first | rfl | simp, HBx.out⟩
    have t3 : decide (40 < x4) = false := decide_eq_false cc3
    by_cases cc4 : 2147483648 ≤ x2
    · have t4 : decide (2147483648 ≤ x2) = true := decide_eq_true cc4
      go_wp2
      go_ret
      exact ⟨by first | rfl | simp, HBx.out⟩
    have t4 : decide (2147483648 ≤ x2) = false := decide_eq_false cc4
    by_cases cc5 : 2147483648 ≤ x3
    · have t5 : decide (2147483648 ≤ x3) = true := decide_eq_true cc5
      go_wp2
      go_ret
      exact ⟨by first | rfl | simp, HBx.out⟩
    have t5 : decide (2147483648 ≤ x3) = false := decide_eq_false cc5
    obtain ⟨n, rfl⟩ := Int.eq_ofNat_of_zero_le (show 0 ≤ x4 by omega)
    obtain ⟨j, rfl⟩ := Int.eq_ofNat_of_zero_le h02
    obtain ⟨k, rfl⟩ := Int.eq_ofNat_of_zero_le h03
    have n1' : 1 ≤ n := by omega
    have n2' : n ≤ 40 := by omega
    have j1' : j < 2147483648 := by omega
    have k1' : k < 2147483648 := by omega
    have hb := (Below.refl w3.heap.size w3).alloc (Nat.le_refl _) (.cells #[.slice A1 L1.length c1] 29)
    have hFt1 := r25fault_any w3.heap.size 1 [(A1, c1, L1)] q n (w3.alloc (.cells #[.slice A1 L1.length c1] 29)) HPM.out.1 HPM.out.2 h04 h14 (by simp) (fun i e he => by
      match i, he with
      | 0, he => cases he; exact ⟨World.cell?_alloc_at _ _ _ _ rfl, hLl, (HL4.out.below hb).hR⟩
      | i + 1, he => simp at he)
    rw [show flt q n ([(A1, c1, L1)].map fun e => goodB q e.2.2) = sf1 q n L1 from flt1 _ _ _] at hFt1
    have HFt1 : Hid (Calls Tryz.prog 57 #[.int .u64 (q : Int), .slice (some ⟨w3.heap.size, 0, none⟩) 1 1, .int .i64 n] (w3.alloc (.cells #[.slice A1 L1.length c1] 29)) fun e w' => e = .returned (.int .i64 (sf1 q n L1)) ∧ w3.alloc (.cells #[.slice A1 L1.length c1] 29) = w') := Lib.hid hFt1
    have HL5 := Lib.hid (HL4.out.below hb)
    have HF5 := Lib.hid ((HF.out.below hb).mono hb.size)
    have HBy := Lib.hid (HBx.out.trans (hb.mono HBx.out.size))
    clear hFt1 hb HL4 HF HBx cc1 cc2 cc3 cc4 cc5 h02 h12 h03 h13 h04 h14
    by_cases hs1 : sf1 q n L1 = 0
    · rw [hs1] at HFt1
      obtain ⟨hsk, hgd⟩ := sf1_zero hs1
      obtain ⟨_, _, hft⟩ := schk_zero hsk
      have hlt := fit_lt n1' (by omega) HPM.out.1 hft
      go_wp2_with fail
      generalize w3.alloc (.cells #[.slice A1 L1.length c1] 29) = w4 at *
      refine HFt1.out.mono ?_
      rintro r w4' ⟨rfl, rfl⟩
      clear HFt1
      have HPw : Hid (∀ (e : Nat) wz, e < 4294967296 → Below w4.heap.size w4 wz → Calls Tryz.prog 63 #[v, .slice A1 L1.length c1, .int .u64 e, .int .i64 n] wz fun r w' => ∃ V, r = .returned (.tuple #[V, .int .i64 0]) ∧ OwnU w' wz.heap.size V n (lst n (spw (rz q L1) e)) ∧ Below wz.heap.size wz w') := Lib.hid (fun e wz he hz => by
        have h1 := gpow_yes HP.out HO.out hg0 hqg.out ((HF5.out.below hz).mono hz.size) A1 c1 L1 e n (by omega) (by omega) hLl HU.out (HL5.out.below hz).hR hs1
        rw [Int.toNat_natCast] at h1
        exact h1)
      have HMl : Hid (∀ wz (V W : Value) (B B' : Nat) (P Q : Nat → Fin q), Below w4.heap.size w4 wz → OwnU wz B V n (lst n P) → OwnU wz B' W n (lst n Q) → Calls Tryz.prog 62 #[v, V, W, .int .i64 n] wz fun r w' => ∃ V, r = .returned (.tuple #[V, .int .i64 0]) ∧ OwnU w' wz.heap.size V n (lst n (cv P Q)) ∧ Below wz.heap.size wz w') := Lib.hid (fun wz V W B B' P Q hz hV hW => by
        obtain ⟨Y, cY, rfl, rY⟩ := hV.rd
        obtain ⟨Z, cZ, rfl, rZ⟩ := hW.rd
        have h1 := gMul_yes HP.out HO.out hg0 hqg.out ((HF5.out.below hz).mono hz.size) Y Z cY cZ (lst n P) (lst n Q) n (by rw [lst_length]; omega) (by rw [lst_length]; omega) (lst_u64 HPM.out.2 _ _) (lst_u64 HPM.out.2 _ _) rY rZ (by unfold sf2; rw [hsk, lst_good, lst_good]; simp)
        rw [lst_length, lst_length, rz_pad, rz_pad, lst_eqn (cv_eqn (pad_eqn n P) (pad_eqn n Q))] at h1
        exact h1)
      have HOn : Hid (∀ wz, Below w4.heap.size w4 wz → Calls Tryz.prog 63 #[v, .slice (some ⟨wz.heap.size, 0, none⟩) 2 2, .int .u64 q, .int .i64 n] (wz.alloc (.cells #[.int .u64 1, .int .u64 1] 25)) fun r w' => ∃ V, r = .returned (.tuple #[V, .int .i64 0]) ∧ OwnU w' wz.heap.size V n (lst n (uno : Nat → Fin q)) ∧ Below wz.heap.size wz w') := Lib.hid (fun wz hz => by
        have hb := (Below.refl wz.heap.size wz).alloc (Nat.le_refl _) (.cells (ints .u64 [1, 1]).toArray 25)
        have hR := RdU.lit wz [1, 1]
        have hsz : (wz.alloc (.cells (ints .u64 [1, 1]).toArray 25)).heap.size = wz.heap.size + 1 := by simp
        have hz' := hz.trans (hb.mono hz.size)
        have h1 := gpow_yes HP.out HO.out hg0 hqg.out ((HF5.out.below hz').mono hz'.size) (some ⟨wz.heap.size, 0, none⟩) 2 [1, 1] q n (by omega) (by have := HPM.out.2; omega) (by decide) (fun x hx => by simp at hx; omega) (by rw [hsz]; exact hR) (by
          unfold sf1
          have : goodB q [1, 1] = true := by unfold goodB; simp; have := HPM.out.1; omega
          rw [hsk, this]; simp)
        rw [Int.toNat_natCast, lst_eqn (bin_p HP.out (show n ≤ q by omega))] at h1
        exact h1.mono fun e w' ⟨V, he, hO, hB⟩ => ⟨V, he, hO.mono hb.size, hb.trans (hB.mono hb.size)⟩)
      clear hs1 hsk hgd hft
      have e1 : (j : Int) + (k : Int) = ((j + k : Nat) : Int) := by omega
      have HP1 := Lib.hid (HPw.out j w4 (by omega) (Below.refl _ _))
      have HP2 := Lib.hid (HPw.out k)
      have HP3 := Lib.hid (HPw.out (j + k))
      have hjk : j + k < 4294967296 := by omega
      obtain ⟨m, hm⟩ : ∃ m, m = j + k := ⟨_, rfl⟩
      have HMe : Hid (m = j + k) := Lib.hid hm
      rw [← hm] at HP3 e1 hjk
      clear hm HPw HL5 HF5
      go_wp2_with fail
      refine HP1.out.mono ?_
      rintro r w5 ⟨V5, rfl, hO5, hB5⟩
      have HO5 := Lib.hid hO5
      have HB5 := Lib.hid hB5
      clear hO5 hB5 HP1
      go_wp2_with fail
      refine (HP2.out w5 (by omega) HB5.out).mono ?_
      rintro r w6 ⟨V6, rfl, hO6, hB6⟩
      have HO6 := Lib.hid hO6
      have HO5 := Lib.hid (HO5.out.below hB6)
      have HB6 := Lib.hid (HB5.out.trans (hB6.mono HB5.out.size))
      clear hO6 hB6 HP2 HB5
      go_wp2_with fail
      refine (HP3.out w6 hjk HB6.out).mono ?_
      rintro r w7 ⟨V7, rfl, hO7, hB7⟩
      have HO7 := Lib.hid hO7
      have HO5 := Lib.hid (HO5.out.below hB7)
      have HO6 := Lib.hid (HO6.out.below hB7)
      have HB7 := Lib.hid (HB6.out.trans (hB7.mono HB6.out.size))
      clear hO7 hB7 HP3 HB6
      have HM1 := Lib.hid (HMl.out w7 V5 V6 _ _ _ _ HB7.out HO5.out HO6.out)
      clear HMl HO5 HO6
      go_wp2_with fail
      refine HM1.out.mono ?_
      rintro r w8 ⟨V8, rfl, hO8, hB8⟩
      rw [← spw_add, ← HMe.out] at hO8
      have HO8 := Lib.hid hO8
      have HO7 := Lib.hid (HO7.out.below hB8)
      have HB8 := Lib.hid (HB7.out.trans (hB8.mono HB7.out.size))
      clear hO8 hB8 HM1 HB7
      have HOn1 := Lib.hid (HOn.out w8 HB8.out)
      go_wp2_with fail
      refine HOn1.out.mono ?_
      rintro r w9 ⟨V9, rfl, hO9, hB9⟩
      obtain ⟨A9, c9, rfl, hR9⟩ := hO9.rd
      obtain ⟨b9, o9, rfl, hb9, hc9⟩ := hR9 (by rw [lst_length]; omega)
      have HC9 : Hid (∀ i, i < n → w9.cell? ⟨b9, o9 + i, none⟩ = some (.int .u64 (((uno i : Fin q)).val : Int))) := Lib.hid (fun i hi => by
        have h1 := hc9 i (by rw [lst_length]; exact hi)
        rw [lst_get hi] at h1; exact h1)
      obtain ⟨A8, c8, rfl, hR8⟩ := (HO8.out.below hB9).rd
      obtain ⟨A7, c7, rfl, hR7⟩ := (HO7.out.below hB9).rd
      have hSm := same_any A8 A7 c8 c7 _ (lst n (spw (rz q L1) m)) (lst n (spw (rz q L1) m)) w9 (by rw [lst_length]; omega) (by rw [lst_length]; omega) hR8 hR7
      rw [lst_length, decide_eq_true rfl] at hSm
      have HSm := Lib.hid hSm
      have HB9 := Lib.hid (HB8.out.trans (hB9.mono HB8.out.size))
      clear hO9 hB9 hR9 hc9 hR8 hR7 hSm HO8 HO7 HB8 HOn HOn1
      go_wp2
      go_loopw [134] (fun I wr => ∃ i : Nat, I = .int .i64 i ∧ i ≤ n ∧ wr = w9) (fun I _ => n - (intOf I).toNat)
      case atStart => exact ⟨0, rfl, by omega, rfl⟩
      case round =>
        obtain ⟨i, rfl, hi, rfl⟩ := hrel
        by_cases hlt' : i < n
        · have d := HC9.out i hlt'
          by_cases hi0 : i = 0
          · have hv : (((uno i : Fin q)).val : Int) = 1 := by
              unfold uno
              rw [if_pos hi0]
              have h1 := zt_val (p := q) 1
              rw [zt_one] at h1
              rw [h1, Int.emod_eq_of_lt (by omega) (by have := HPM.out.1; omega)]
            rw [hv] at d
            have tl : ((i : Int) == 0) = true := by simp [hi0]
            clear hv hi0
            go_wp2
            go_roundw
            case rel => exact ⟨i + 1, by go_num, by omega, by first | rfl | trivial⟩
            case measure => simp [intOf]; omega
          · have hv : (((uno i : Fin q)).val : Int) = 0 := by
              unfold uno
              rw [if_neg hi0]; rfl
            rw [hv] at d
            have tl : ((i : Int) == 0) = false := beq_eq_false_iff_ne.2 (by omega)
            have tq : ((i : Int) == (q : Int)) = false := beq_eq_false_iff_ne.2 (by omega)
            clear hv hi0
            go_wp2
            go_roundw
            case rel => exact ⟨i + 1, by go_num, by omega, by first | rfl | trivial⟩
            case measure => simp [intOf]; omega
        · have tj : decide ((i : Int) < (n : Int)) = false := decide_eq_false (by omega)
          go_wp2_with fail
          refine HSm.out.mono ?_
          rintro r w10 ⟨rfl, hB10⟩
          have HBf := Lib.hid (HB9.out.trans (hB10.mono HB9.out.size))
          clear hB10
          go_wp2
          go_ret
          exact ⟨by first | rfl | simp, HBy.out.trans (HBf.out.mono HBy.out.size)⟩
    · obtain ⟨z, hze⟩ : ∃ z, z = sf1 q n L1 := ⟨_, rfl⟩
      rw [← hze] at HFt1 hs1
      have tz : (z != 0) = true := by simp [hs1]
      clear hze hs1
      go_wp2_with fail
      refine HFt1.out.mono ?_
      rintro r w4' ⟨rfl, rfl⟩
      go_wp2
      go_ret
      exact ⟨by first | rfl | simp, HBy.out⟩
end Go.Proofs.YthhkljfgkihfgaaGreat
