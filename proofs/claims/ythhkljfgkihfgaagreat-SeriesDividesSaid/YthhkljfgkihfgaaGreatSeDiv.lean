/- The law SeriesDivides. -/
import Derived.Test.YthhkljfgkihfgaaGreatAl25
import Derived.Test.YthhkljfgkihfgaaGreatRef25
import Derived.Test.YthhkljfgkihfgaaGreatMs25
set_option linter.unusedVariables false
set_option linter.unusedSimpArgs false
set_option linter.unusedSectionVars false
set_option linter.unusedVariables false
set_option linter.unusedSimpArgs false
namespace Go.Proofs.YthhkljfgkihfgaaGreat
open Go.RowKit
open Alg
theorem sfd_eq (p n : Int) (L M : List Int) : sfd p n L M = if sf2 p n L M ≠ 0 then sf2 p n L M else if M.getD 0 0 = 0 then 14 else 0 := by
  unfold sfd sfi sf1 sf2
  by_cases c1 : schk p n = 0
  · by_cases c2 : goodB p L = true
    · by_cases c3 : goodB p M = true
      · simp [c1, c2, c3]
      · simp [c1, c2, c3]
    · simp [c1, c2]
  · simp [c1]
theorem div_back {p : Nat} [NeZero p] {n : Nat} {A B U : Nat → Fin p} (h : Eqn n (cv B U) uno) : Eqn n (cv (cv A U) B) A := by
  have h1 : Eqn n (cv A (cv B U)) (cv A uno) := cv_eqn (Eqn.refl _ _) h
  rw [cv_uno] at h1
  rw [cv_assoc, cv_comm U B]
  exact h1
theorem mul_back {p : Nat} [NeZero p] {n : Nat} {A B U : Nat → Fin p} (h : Eqn n (cv B U) uno) : Eqn n (cv (cv A B) U) A := by
  have h1 : Eqn n (cv A (cv B U)) (cv A uno) := cv_eqn (Eqn.refl _ _) h
  rw [cv_uno] at h1
  rw [cv_assoc]
  exact h1
set_option maxHeartbeats 8000000 in
set_option maxRecDepth 100000 in
theorem seriesDivides_walk (w : World) (A0 : Option Addr) (c0 : Nat) (kind0 kk0 pp0 : Int) (es0 : List Ent) (A1 : Option Addr) (c1 : Nat) (L1 : List Int) (A2 : Option Addr) (c2 : Nat) (L2 : List Int) (x3 : Int) (hs0 : SrcA w A0 c0 kind0 kk0 pp0 es0) (hl1 : LstA w A1 c1 L1) (hl2 : LstA w A2 c2 L2) (h03 : -9223372036854775808 ≤ x3) (h13 : x3 ≤ 9223372036854775807) :
    Calls Tryz.prog 15 #[.agg #[.int .i64 kind0, .int .i64 kk0, .int .u64 pp0, .slice A0 es0.length c0], .slice A1 L1.length c1, .slice A2 L2.length c2, .int .i64 x3] w fun e w' => e = .returned (.bool true) ∧ Below w.heap.size w w' := by
  obtain ⟨i0, hi, hz0, hz1, hz2⟩ := info_parts info_u64
  have hLl := hl1.hl
  have hKl := hl2.hl
  have HU := Lib.hid hl1.hU
  have HW := Lib.hid hl2.hU
  have HS := Lib.hid hs0
  have hB0 := (Below.refl w.heap.size w).alloc (Nat.le_refl _) (.cells #[.int .i64 kind0, .int .i64 kk0, .int .u64 pp0, .slice A0 es0.length c0] 28)
  have b0 : (w.alloc (.cells #[.int .i64 kind0, .int .i64 kk0, .int .u64 pp0, .slice A0 es0.length c0] 28)).cell? ⟨w.heap.size, 0, none⟩ = some (.int .i64 kind0) := World.cell?_alloc_at _ _ _ _ rfl
  have b1 : (w.alloc (.cells #[.int .i64 kind0, .int .i64 kk0, .int .u64 pp0, .slice A0 es0.length c0] 28)).cell? ⟨w.heap.size, 1, none⟩ = some (.int .i64 kk0) := World.cell?_alloc_at _ _ _ _ rfl
  have b2 : (w.alloc (.cells #[.int .i64 kind0, .int .i64 kk0, .int .u64 pp0, .slice A0 es0.length c0] 28)).cell? ⟨w.heap.size, 2, none⟩ = some (.int .u64 pp0) := World.cell?_alloc_at _ _ _ _ rfl
  have b3 : (w.alloc (.cells #[.int .i64 kind0, .int .i64 kk0, .int .u64 pp0, .slice A0 es0.length c0] 28)).cell? ⟨w.heap.size, 3, none⟩ = some (.slice A0 es0.length c0) := World.cell?_alloc_at _ _ _ _ rfl
  have hs1 : w.heap.size + 1 ≤ (w.alloc (.cells #[.int .i64 kind0, .int .i64 kk0, .int .u64 pp0, .slice A0 es0.length c0] 28)).heap.size := by simp
  have hAl := Lib.hid (alive25_any (w.alloc (.cells #[.int .i64 kind0, .int .i64 kk0, .int .u64 pp0, .slice A0 es0.length c0] 28)))
  have HL0 := Lib.hid hl1
  have HK0 := Lib.hid hl2
  clear hs0 hl1 hl2
  go_enter Tryz.func15, Tryz.ntmps15
  go_wp2_with fail
  generalize w.alloc (.cells #[.int .i64 kind0, .int .i64 kk0, .int .u64 pp0, .slice A0 es0.length c0] 28) = w1 at *
  refine hAl.out.mono ?_
  rintro r w2 ⟨rfl, hB2⟩
  have d0 := cell_keep hB2 (by omega) b0
  have d1 := cell_keep hB2 (by omega) b1
  have d2 := cell_keep hB2 (by omega) b2
  have d3 := cell_keep hB2 (by omega) b3
  have hBw := hB0.trans (hB2.mono (show w.heap.size ≤ w1.heap.size by omega))
  clear b0 b1 b2 b3 hB0 hB2 hAl
  have hL2 := HL0.out.below hBw
  have hK2 := HK0.out.below hBw
  have hBl : Below w2.heap.size w2 (w2.alloc (.cells #[.slice A1 L1.length c1, .slice A2 L2.length c2] 29)) := (Below.refl _ _).alloc (Nat.le_refl _) _
  have hGr : Calls Tryz.prog 54 #[.slice (some ⟨w2.heap.size, 0, none⟩) 2 2, .int .i64 x3] (w2.alloc (.cells #[.slice A1 L1.length c1, .slice A2 L2.length c2] 29)) fun e w' => e = .returned (.bool (grt [L1.length, L2.length] x3)) ∧ _ = w' := great25_any w2.heap.size 2 [(A1, c1, L1.length), (A2, c2, L2.length)] x3 _ (by simp) (fun i e he => by
    match i, he with
    | 0, he => cases he; exact ⟨World.cell?_alloc_at _ _ _ _ rfl, hLl⟩
    | 1, he => cases he; exact ⟨World.cell?_alloc_at _ _ _ _ rfl, hKl⟩
    | i + 2, he => simp at he)
  have hBv := hBw.trans (hBl.mono hBw.size)
  have HL3 := Lib.hid ((hL2.below hBl))
  have HK3 := Lib.hid ((hK2.below hBl))
  have HBv := Lib.hid hBv
  have e0 := cell_keep hBl (World.block_lt_of_cell? _ _ d0) d0
  have e1 := cell_keep hBl (World.block_lt_of_cell? _ _ d1) d1
  have e2 := cell_keep hBl (World.block_lt_of_cell? _ _ d2) d2
  have e3 := cell_keep hBl (World.block_lt_of_cell? _ _ d3) d3
  have HGr := Lib.hid hGr
  clear hGr hL2 hK2 hBl d0 d1 d2 d3 hBw hBv HL0 HK0
  go_wp2_with fail
  generalize w2.alloc (.cells #[.slice A1 L1.length c1, .slice A2 L2.length c2] 29) = w2' at *
  refine HGr.out.mono ?_
  rintro r w3 ⟨rfl, rfl⟩
  rcases hgr : grt [L1.length, L2.length] x3 with _ | _
  case true =>
    go_wp2
    go_ret
    exact ⟨rfl, HBv.out⟩
  case false =>
    have hBw := HBv.out
    have hn40 : x3 ≤ 40 ∨ 512 < x3 := by
      unfold grt at hgr
      simp at hgr
      omega
    clear hgr HGr
    go_wp2_with fail
    refine (made_src (HS.out.below hBw)).mono ?_
    rintro r w3 ⟨v, p', g', rfl, hM, hB3⟩
    have hBx := hBw.trans (hB3.mono hBw.size)
    have HL4 := Lib.hid (HL3.out.below hB3)
    have HK4 := Lib.hid (HK3.out.below hB3)
    have HM := Lib.hid hM
    have HBx := Lib.hid hBx
    clear e0 e1 e2 e3 hBw hM hs1 hB3 HL3 HK3 HBv hBx
    rcases HM.out with ⟨rfl, rfl, rfl⟩ | ⟨p3, hC, hF⟩
    · clear HM
      go_wp2_with fail
      refine (gdiv_nil _ _ _ _ _ _ _ _).mono ?_
      rintro r w4 ⟨rfl, rfl⟩
      go_wp2
      go_ret
      exact ⟨by first | rfl | simp, HBx.out⟩
    · obtain ⟨q, rfl⟩ := Int.eq_ofNat_of_zero_le (show 0 ≤ p' by omega)
      have pm := hF.pmx
      haveI : NeZero q := ⟨by omega⟩
      obtain ⟨hp, hord⟩ := hC.nat
      have hg := hC.gr
      have HO : Hid (Ord (zt q g') (q - 1)) := Lib.hid hord
      have HP := Lib.hid hp
      have HF := Lib.hid hF
      have tp : ((q : Int) == 0) = false := by simp; omega
      have HPM := Lib.hid (And.intro p3 pm)
      have hg0 : 0 ≤ g' := by omega
      have hqg : Hid (g' < (q : Int)) := Lib.hid hg.2
      clear HM hC hp hord hg
      have hFt : ∀ wz, Below w3.heap.size w3 wz → Calls Tryz.prog 57 #[.int .u64 (q : Int), .slice (some ⟨wz.heap.size, 0, none⟩) 2 2, .int .i64 x3] (wz.alloc (.cells #[.slice A1 L1.length c1, .slice A2 L2.length c2] 29)) fun e w' => e = .returned (.int .i64 (sf2 q x3 L1 L2)) ∧ wz.alloc (.cells #[.slice A1 L1.length c1, .slice A2 L2.length c2] 29) = w' := fun wz hz => by
        have hb := (Below.refl wz.heap.size wz).alloc (Nat.le_refl _) (.cells #[.slice A1 L1.length c1, .slice A2 L2.length c2] 29)
        have h1 := r25fault_any wz.heap.size 2 [(A1, c1, L1), (A2, c2, L2)] q x3 (wz.alloc (.cells #[.slice A1 L1.length c1, .slice A2 L2.length c2] 29)) HPM.out.1 HPM.out.2 h03 h13 (by simp) (fun i e he => by
          match i, he with
          | 0, he => cases he; exact ⟨World.cell?_alloc_at _ _ _ _ rfl, hLl, ((HL4.out.below hz).below hb).hR⟩
          | 1, he => cases he; exact ⟨World.cell?_alloc_at _ _ _ _ rfl, hKl, ((HK4.out.below hz).below hb).hR⟩
          | i + 2, he => simp at he)
        rw [show flt q x3 ([(A1, c1, L1), (A2, c2, L2)].map fun e => goodB q e.2.2) = sf2 q x3 L1 L2 from flt2 _ _ _ _] at h1
        exact h1
      have HFt := Lib.hid hFt
      clear hFt
      by_cases hz : sfd q x3 L1 L2 = 0
      · have hse := sfd_eq q x3 L1 L2
        rw [hz] at hse
        have hf2 : sf2 q x3 L1 L2 = 0 := by
          by_cases h : sf2 q x3 L1 L2 = 0
          · exact h
          · rw [if_pos h] at hse; exact hse.symm
        obtain ⟨hsa, hsi⟩ := sfd_zero hz
        obtain ⟨_, hne0, hk0⟩ := sfi_zero hsi
        obtain ⟨hsk, hgd⟩ := sf1_zero hsa
        obtain ⟨n1, n2, _⟩ := schk_zero hsk
        obtain ⟨n, rfl⟩ := Int.eq_ofNat_of_zero_le (show 0 ≤ x3 by omega)
        have n1' : 1 ≤ n := by omega
        have n2' : n ≤ 40 := by omega
        have hI := Lib.hid (gdiv_yes HP.out HO.out hg0 hqg.out HF.out A1 A2 c1 c2 L1 L2 n hLl hKl HU.out HW.out HL4.out.hR HK4.out.hR hz)
        rw [hf2] at HFt
        have hGt2 : Hid (∀ wz, Below w3.heap.size w3 wz → Calls Tryz.prog 58 #[.slice A2 L2.length c2, .int .i64 0] wz fun e w' => e = .returned (.int .u64 (L2.getD 0 0)) ∧ w' = wz) := Lib.hid (fun wz hz => r25get_any A2 c2 L2 0 wz.heap.size wz (by omega) hKl (HK4.out.below hz).hR)
        have hGt1 : Hid (∀ (i : Nat) wz, i ≤ 40 → Below w3.heap.size w3 wz → Calls Tryz.prog 58 #[.slice A1 L1.length c1, .int .i64 i] wz fun e w' => e = .returned (.int .u64 (L1.getD i 0)) ∧ w' = wz) := Lib.hid (fun i wz hi hz => r25get_any A1 c1 L1 i wz.heap.size wz (by omega) hLl (HL4.out.below hz).hR)
        have hrs : Hid (lst n (rz q L1) = cutL L1 n) := Lib.hid (cut_rz hgd HU.out n).symm
        have hz2 : sfd q n (lst n (cv (rz q L1) (rz q L2))) L2 = 0 := by
          unfold sfd
          have : sf1 q n (lst n (cv (rz q L1) (rz q L2))) = 0 := by
            unfold sf1
            rw [hsk, lst_good]; simp
          rw [this, if_neg (by simp)]
          exact hsi
        have HZ2 := Lib.hid hz2
        have HF2 := Lib.hid hf2
        have ty : (L2.getD 0 0 == 0) = false := by simpa using hne0
        obtain ⟨y0, hy0⟩ : ∃ y, y = L2.getD 0 0 := ⟨_, rfl⟩
        rw [← hy0] at hGt2 ty
        have hl3 : (((lst n (cv (rz q L1) (rz q L2))).length : Nat)) = n := lst_length _ _
        have HL3' := Lib.hid hl3
        clear hz hse hf2 hsa hsi hne0 hk0 hsk hgd hz2 hy0 n1 n2 h03 h13 hn40 hl3
        go_wp2_with fail
        refine hI.out.mono ?_
        rintro r w4 ⟨V, U, rfl, hO4, hE, hB4⟩
        obtain ⟨AX, cX, rfl, hRX⟩ := hO4.rd
        have HB4 := Lib.hid hB4
        have HE := Lib.hid hE
        have hBl : Below w4.heap.size w4 (w4.alloc (.cells #[.slice A1 L1.length c1, .slice A2 L2.length c2] 29)) := (Below.refl _ _).alloc (Nat.le_refl _) _
        have HF1 := Lib.hid (HFt.out w4 hB4)
        have hB5 := hB4.trans (hBl.mono hB4.size)
        have HG1 := Lib.hid (hGt2.out _ hB5)
        have HRX := Lib.hid ((hRX.below hBl).mono hBl.size)
        have HB5 := Lib.hid hB5
        clear hO4 hE hB4 hBl hRX HFt hGt2 hI hB5 HB4
        go_wp2_with fail
        generalize w4.alloc (.cells #[.slice A1 L1.length c1, .slice A2 L2.length c2] 29) = w5 at *
        refine HF1.out.mono ?_
        rintro r w6 ⟨rfl, rfl⟩
        go_wp2_with fail
        refine HG1.out.mono ?_
        rintro r w6 ⟨rfl, rfl⟩
        clear HF1 HG1
        obtain ⟨X, hX⟩ : ∃ X : Nat → Fin q, X = cv (rz q L1) U := ⟨_, rfl⟩
        rw [← hX] at HRX
        have hGood := r11good_any AX cX _ q (lst n X) w6 (by rw [lst_length]; omega) HRX.out
        rw [lst_length, lst_good] at hGood
        have hBK := HK4.out.below HB5.out
        have hMu := r25mul_any (p := q) w6 AX A2 cX c2 (lst n X) L2 n HPM.out.1 HPM.out.2 (by omega) (by rw [lst_length]; omega) hKl (lst_u64 HPM.out.2 _ _) HW.out HRX.out hBK.hR
        have hq1 : Eqn n (cv (padz n X) (rz q L2)) (rz q L1) := (cv_eqn (pad_eqn n X) (Eqn.refl n (rz q L2))).trans (by rw [hX]; exact div_back HE.out)
        rw [lst_length, rz_pad, lst_eqn hq1, hrs.out] at hMu
        have HGood := Lib.hid hGood
        have HMu := Lib.hid hMu
        clear hGood hMu hBK hq1 HRX
        go_wp2_with fail
        refine HGood.out.mono ?_
        rintro r w10 ⟨rfl, rfl⟩
        go_wp2_with fail
        refine HMu.out.mono ?_
        rintro r w11 ⟨V5, rfl, hO5, hB11⟩
        obtain ⟨A5, c5, rfl, hR5⟩ := hO5.rd
        obtain ⟨b5, o5, rfl, hb5, hc5⟩ := hR5 (by rw [cutL_length]; omega)
        have HC5 : Hid (∀ i, i < n → w11.cell? ⟨b5, o5 + i, none⟩ = some (.int .u64 (L1.getD i 0))) := Lib.hid (fun i hi => by
          have h1 := hc5 i (by rw [cutL_length]; exact hi)
          rw [cutL_get hi] at h1; exact h1)
        have HBy := Lib.hid (HB5.out.trans (hB11.mono HB5.out.size))
        have HL5 := Lib.hid (HL4.out.below HBy.out)
        have HK5 := Lib.hid (HK4.out.below HBy.out)
        have HFy := Lib.hid ((HF.out.below HBy.out).mono HBy.out.size)
        clear hO5 hB11 hR5 hc5 HMu HGood HB5 hX HE
        go_wp2
        go_loopw [102] (fun I wr => ∃ i : Nat, I = .int .i64 i ∧ i ≤ n ∧ wr = w11) (fun I _ => n - (intOf I).toNat)
        case atStart => exact ⟨0, rfl, by omega, rfl⟩
        case round =>
          obtain ⟨i, rfl, hi, rfl⟩ := hrel
          by_cases hlt : i < n
          · have d := HC5.out i hlt
            have HG1 := Lib.hid (hGt1.out i wr (by omega) HBy.out)
            obtain ⟨y, hy⟩ : ∃ y, y = L1.getD i 0 := ⟨_, rfl⟩
            rw [← hy] at d HG1
            have t : (y != y) = false := by simp
            clear hy
            go_wp2_with fail
            refine HG1.out.mono ?_
            rintro r w12 ⟨rfl, rfl⟩
            go_wp2
            go_roundw
            case rel => exact ⟨i + 1, by go_num, by omega, by first | rfl | trivial⟩
            case measure => simp [intOf]; omega
          · have hMl := Lib.hid (gMul_yes HP.out HO.out hg0 hqg.out HFy.out A1 A2 c1 c2 L1 L2 n hLl hKl HU.out HW.out HL5.out.hR HK5.out.hR HF2.out)
            have tj : decide ((i : Int) < (n : Int)) = false := decide_eq_false (by omega)
            go_wp2_with fail
            refine hMl.out.mono ?_
            rintro r w12 ⟨V6, rfl, hO6, hB12⟩
            obtain ⟨A6, c6, rfl, hR6⟩ := hO6.rd
            have hBq := HBy.out.trans (hB12.mono HBy.out.size)
            have hK6 := HK5.out.below hB12
            have hDv := gdiv_yes HP.out HO.out hg0 hqg.out ((HFy.out.below hB12).mono hB12.size) A6 A2 c6 c2 (lst n (cv (rz q L1) (rz q L2))) L2 n (by rw [lst_length]; omega) hKl (lst_u64 HPM.out.2 _ _) HW.out hR6 hK6.hR HZ2.out
            rw [HL3'.out, rz_pad] at hDv
            have HDv := Lib.hid hDv
            have HBq := Lib.hid hBq
            clear hMl hO6 hR6 hB12 hK6 hDv hBq
            go_wp2_with fail
            refine HDv.out.mono ?_
            rintro r w13 ⟨V7, U7, rfl, hO7, hE7, hB13⟩
            have hq2 : Eqn n (cv (padz n (cv (rz q L1) (rz q L2))) U7) (rz q L1) := (cv_eqn (pad_eqn n _) (Eqn.refl n U7)).trans (mul_back hE7)
            rw [lst_eqn hq2, hrs.out] at hO7
            obtain ⟨A7, c7, rfl, hR7⟩ := hO7.rd
            obtain ⟨b7, o7, rfl, hb7, hc7⟩ := hR7 (by rw [cutL_length]; omega)
            have HC7 : Hid (∀ i, i < n → w13.cell? ⟨b7, o7 + i, none⟩ = some (.int .u64 (L1.getD i 0))) := Lib.hid (fun i hi => by
              have h1 := hc7 i (by rw [cutL_length]; exact hi)
              rw [cutL_get hi] at h1; exact h1)
            have HBr := Lib.hid (HBq.out.trans (hB13.mono HBq.out.size))
            clear hO7 hE7 hB13 hq2 hR7 hc7 HDv HBq HBy HC5 hb5 HL5 HK5 HFy
            go_wp2
            go_loopw [143] (fun J wr => ∃ j : Nat, J = .int .i64 j ∧ j ≤ n ∧ wr = w13) (fun J _ => n - (intOf J).toNat)
            case atStart => exact ⟨0, rfl, by omega, rfl⟩
            case round =>
              obtain ⟨j, rfl, hj, rfl⟩ := hrel
              by_cases hlt' : j < n
              · have d := HC7.out j hlt'
                have HG1 := Lib.hid (hGt1.out j _ (by omega) HBr.out)
                obtain ⟨y, hy⟩ : ∃ y, y = L1.getD j 0 := ⟨_, rfl⟩
                rw [← hy] at d HG1
                have t : (y != y) = false := by simp
                clear hy
                go_wp2_with fail
                refine HG1.out.mono ?_
                rintro r w14 ⟨rfl, rfl⟩
                go_wp2
                go_roundw
                case rel => exact ⟨j + 1, by go_num, by omega, by first | rfl | trivial⟩
                case measure => simp [intOf]; omega
              · have tj' : decide ((j : Int) < (n : Int)) = false := decide_eq_false (by omega)
                go_wp2
                go_ret
                exact ⟨by first | rfl | simp, HBx.out.trans (HBr.out.mono HBx.out.size)⟩
      · have hNo := Lib.hid (gdiv_no HF.out A1 A2 c1 c2 L1 L2 x3 h03 h13 hLl hKl HU.out HW.out HL4.out.hR HK4.out.hR hz)
        have HFt1 := Lib.hid (HFt.out w3 (Below.refl _ _))
        have hBa : Below w.heap.size w (w3.alloc (.cells #[.slice A1 L1.length c1, .slice A2 L2.length c2] 29)) := HBx.out.alloc HBx.out.size _
        have HBa := Lib.hid hBa
        by_cases hs : sf2 q x3 L1 L2 = 0
        · have h0 : L2.getD 0 0 = 0 := by
            by_cases h : L2.getD 0 0 = 0
            · exact h
            · exact absurd (by rw [sfd_eq, hs, if_neg (by simp), if_neg h]) hz
          have hv : sfd q x3 L1 L2 = 14 := by rw [sfd_eq, hs, if_neg (by simp), if_pos h0]
          have hBl2 : Below w3.heap.size w3 (w3.alloc (.cells #[.slice A1 L1.length c1, .slice A2 L2.length c2] 29)) := (Below.refl _ _).alloc (Nat.le_refl _) _
          have hGt := r25get_any A2 c2 L2 0 _ (w3.alloc (.cells #[.slice A1 L1.length c1, .slice A2 L2.length c2] 29)) (by omega) hKl (HK4.out.below hBl2).hR
          rw [h0] at hGt
          have HG1 := Lib.hid hGt
          rw [hv] at hNo
          rw [hs] at HFt1
          clear hz hs h0 hv hBa hGt hBl2 HFt HL4 HK4
          go_wp2_with fail
          refine hNo.out.mono ?_
          rintro r w4 ⟨rfl, rfl⟩
          go_wp2_with fail
          refine HFt1.out.mono ?_
          rintro r w4 ⟨rfl, rfl⟩
          go_wp2_with fail
          refine HG1.out.mono ?_
          rintro r w4 ⟨rfl, rfl⟩
          go_wp2
          go_ret
          exact ⟨by first | rfl | simp, HBa.out⟩
        · have hv : sfd q x3 L1 L2 = sf2 q x3 L1 L2 := by rw [sfd_eq, if_pos hs]
          rw [hv] at hNo
          obtain ⟨z, hze⟩ : ∃ z, z = sf2 q x3 L1 L2 := ⟨_, rfl⟩
          rw [← hze] at hNo HFt1 hs
          have t1 : (z == 0) = false := beq_eq_false_iff_ne.2 hs
          have t2 : (z != 0) = true := by simp [hs]
          have t3 : (z == z) = true := by simp
          clear hz hs hv hBa hze HFt HL4 HK4
          go_wp2_with fail
          refine hNo.out.mono ?_
          rintro r w4 ⟨rfl, rfl⟩
          go_wp2_with fail
          refine HFt1.out.mono ?_
          rintro r w4 ⟨rfl, rfl⟩
          go_wp2
          go_ret
          exact ⟨by first | rfl | simp, HBa.out⟩
end Go.Proofs.YthhkljfgkihfgaaGreat
