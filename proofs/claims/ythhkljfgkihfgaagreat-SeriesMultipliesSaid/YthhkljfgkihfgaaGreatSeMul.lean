/- The law SeriesMultiplies. -/
import Derived.Test.YthhkljfgkihfgaaGreatAl25
import Derived.Test.YthhkljfgkihfgaaGreatRef25
import Derived.Test.YthhkljfgkihfgaaGreatMs25
import Derived.Test.YthhkljfgkihfgaaGreatClone2
set_option linter.unusedVariables false
set_option linter.unusedSimpArgs false
set_option linter.unusedSectionVars false
set_option linter.unusedVariables false
set_option linter.unusedSimpArgs false
namespace Go.Proofs.YthhkljfgkihfgaaGreat
open Go.RowKit
open Alg
set_option maxHeartbeats 16000000 in
set_option maxRecDepth 100000 in
theorem seriesMultiplies_walk (w : World) (A0 : Option Addr) (c0 : Nat) (kind0 kk0 pp0 : Int) (es0 : List Ent) (A1 : Option Addr) (c1 : Nat) (L1 : List Int) (A2 : Option Addr) (c2 : Nat) (L2 : List Int) (x3 : Int) (x4 : Int) (hs0 : SrcA w A0 c0 kind0 kk0 pp0 es0) (hl1 : LstA w A1 c1 L1) (hl2 : LstA w A2 c2 L2) (h03 : 0 ≤ x3) (h13 : x3 ≤ 18446744073709551615) (h04 : -9223372036854775808 ≤ x4) (h14 : x4 ≤ 9223372036854775807) :
    Calls Tryz.prog 16 #[.agg #[.int .i64 kind0, .int .i64 kk0, .int .u64 pp0, .slice A0 es0.length c0], .slice A1 L1.length c1, .slice A2 L2.length c2, .int .u64 x3, .int .i64 x4] w fun e w' => e = .returned (.bool true) ∧ Below w.heap.size w w' := by
  obtain ⟨i0, hi, hz0, hz1, hz2⟩ := info_parts info_u64
  have hLl := hl1.hl
  have hKl := hl2.hl
  have HU := Lib.hid hl1.hU
  have HW := Lib.hid hl2.hU
  have HS := Lib.hid hs0
  have hB0 := (Below.refl w.heap.size w).alloc (Nat.le_refl _) (.cells #[.int .i64 kind0, .int .i64 kk0, .int .u64 pp0, .slice A0 es0.length c0] 28)
  have b0 : (w.alloc (.cells #[.int .i64 kind0, .int .i64 kk0, .int .u64 pp0, .slice A0 es0.length c0] 28)).cell? ⟨w.heap.size, 0, none⟩ = some (.int .i64 kind0) := World.cell?_alloc_at _ _ _ _ rfl
  have b1 : (w.alloc (.cells #[.int .i64 kind0, .int .i64 kk0, .int .u64 pp0, .slice A0 es0.length c0] 28)).cell? ⟨w.heap.size, 1, none⟩ = some (.int .i64 kk0) := World.cell?_alloc_at _ _ _ _ rfl
  have b2 : (w.alloc (.cells #[.int .i64 kind0, .int .i64 kk0, .int .u64 pp0, .slice A0 es0.length c0] 28)).cell? ⟨w.heap.size, 2, none⟩ = some (.int .u64 pp0) := World.cell?_alloc_at _ _ _ _ rfl
  have b3 : (w.alloc (.cells #[.int .i64 kind0, .int .i64 kk0, .int .u64 pp0, .slice A0 es0.length c0] 28)).cell? ⟨w.heap.size, 3, none⟩ = some (.slice A0 es0.length c0) := World.cell?_alloc_at _ _ _ _ rfl
  have hs1 : w.heap.size + 1 ≤ (w.alloc (.cells #[.int .i64 kind0, .int .i64 kk0, .int .u64 pp0, .slice A0 es0.length c0] 28)).heap.size := by simp
  have hAl := Lib.hid (alive25_any (w.alloc (.cells #[.int .i64 kind0, .int .i64 kk0, .int .u64 pp0, .slice A0 es0.length c0] 28)))
  have HL0 := Lib.hid hl1
  have HK0 := Lib.hid hl2
  clear hs0 hl1 hl2
  go_enter Tryz.func16, Tryz.ntmps16
  go_wp2_with fail
  generalize w.alloc (.cells #[.int .i64 kind0, .int .i64 kk0, .int .u64 pp0, .slice A0 es0.length c0] 28) = w1 at *
  refine hAl.out.mono ?_
  rintro r w2 ⟨rfl, hB2⟩
  have d0 := cell_keep hB2 (by omega) b0
  have d1 := cell_keep hB2 (by omega) b1
  have d2 := cell_keep hB2 (by omega) b2
  have d3 := cell_keep hB2 (by omega) b3
  have hBw := hB0.trans (hB2.mono (show w.heap.size ≤ w1.heap.size by omega))
  clear b0 b1 b2 b3 hB0 hB2 hAl
  have hL2 := HL0.out.below hBw
  have hK2 := HK0.out.below hBw
  have hBl : Below w2.heap.size w2 (w2.alloc (.cells #[.slice A1 L1.length c1, .slice A2 L2.length c2] 29)) := (Below.refl _ _).alloc (Nat.le_refl _) _
  have hGr : Calls Tryz.prog 54 #[.slice (some ⟨w2.heap.size, 0, none⟩) 2 2, .int .i64 x4] (w2.alloc (.cells #[.slice A1 L1.length c1, .slice A2 L2.length c2] 29)) fun e w' => e = .returned (.bool (grt [L1.length, L2.length] x4)) ∧ _ = w' := great25_any w2.heap.size 2 [(A1, c1, L1.length), (A2, c2, L2.length)] x4 _ (by simp) (fun i e he => by
    match i, he with
    | 0, he => cases he; exact ⟨World.cell?_alloc_at _ _ _ _ rfl, hLl⟩
    | 1, he => cases he; exact ⟨World.cell?_alloc_at _ _ _ _ rfl, hKl⟩
    | i + 2, he => simp at he)
  have hBv := hBw.trans (hBl.mono hBw.size)
  have HL3 := Lib.hid ((hL2.below hBl))
  have HK3 := Lib.hid ((hK2.below hBl))
  have HBv := Lib.hid hBv
  have e0 := cell_keep hBl (World.block_lt_of_cell? _ _ d0) d0
  have e1 := cell_keep hBl (World.block_lt_of_cell? _ _ d1) d1
  have e2 := cell_keep hBl (World.block_lt_of_cell? _ _ d2) d2
  have e3 := cell_keep hBl (World.block_lt_of_cell? _ _ d3) d3
  have HGr := Lib.hid hGr
  clear hGr hL2 hK2 hBl d0 d1 d2 d3 hBw hBv HL0 HK0
  go_wp2_with fail
  generalize w2.alloc (.cells #[.slice A1 L1.length c1, .slice A2 L2.length c2] 29) = w2' at *
  refine HGr.out.mono ?_
  rintro r w3 ⟨rfl, rfl⟩
  rcases hgr : grt [L1.length, L2.length] x4 with _ | _
  case true =>
    go_wp2
    go_ret
    exact ⟨rfl, HBv.out⟩
  case false =>
    have hLL : L1.length ≤ 60 ∧ L2.length ≤ 60 := by
      unfold grt at hgr
      simp at hgr
      omega
    have hBw := HBv.out
    have hn40 : x4 ≤ 40 ∨ 512 < x4 := by
      unfold grt at hgr
      simp at hgr
      omega
    clear hgr HGr
    go_wp2_with fail
    refine (made_src (HS.out.below hBw)).mono ?_
    rintro r w3 ⟨v, p', g', rfl, hM, hB3⟩
    have hBx := hBw.trans (hB3.mono hBw.size)
    have hL4 := HL3.out.below hB3
    have hK4 := HK3.out.below hB3
    have HM := Lib.hid hM
    have HBx := Lib.hid hBx
    clear e0 e1 e2 e3 hBw hM hs1 hB3 HL3 HK3 HBv hBx
    have hB4 := (Below.refl w3.heap.size w3).alloc (Nat.le_refl _) (.cells #[] 25)
    have hown : (w3.alloc (.cells #[] 25)).ownsRow w3.heap.size 25 1 (.slice (some ⟨w3.heap.size, 0, none⟩) 0 0) 0 [] := World.ownsRow_lit w3 #[] 0 (Nat.le_refl _) (by unfold maxLen; omega) rfl
    go_wp2_with (at_builtin; refine wpList_clone rfl _ _ rfl w3.heap.size hB4.size _ rfl hown A1 c1 L1 rfl (hL4.below hB4) (by omega) ?_)
    intro v4 w4 hO4 hB4'
    have hB4 := hB4.trans hB4'
    have hL4 := hL4.below hB4
    have hK4 := hK4.below hB4
    have HO4 := Lib.hid hO4
    have HB4 := Lib.hid hB4
    clear hown hB4' hO4 hB4
    have hB5 := (Below.refl w4.heap.size w4).alloc (Nat.le_refl _) (.cells #[] 25)
    have hown : (w4.alloc (.cells #[] 25)).ownsRow w4.heap.size 25 1 (.slice (some ⟨w4.heap.size, 0, none⟩) 0 0) 0 [] := World.ownsRow_lit w4 #[] 0 (Nat.le_refl _) (by unfold maxLen; omega) rfl
    go_wp2_with (at_builtin; refine wpList_clone rfl _ _ rfl w4.heap.size hB5.size _ rfl hown A2 c2 L2 rfl (hK4.below hB5) (by omega) ?_)
    intro v5 w5 hO5 hB5'
    have hB5 := hB5.trans hB5'
    obtain ⟨AU, cU, rfl, hRU⟩ := (HO4.out.below hB5).rd
    obtain ⟨AV, cV, rfl, hRV⟩ := hO5.rd
    have HL5 := Lib.hid (hL4.below hB5)
    have HK5 := Lib.hid (hK4.below hB5)
    have hB35 := HB4.out.trans (hB5.mono HB4.out.size)
    have HRU := Lib.hid hRU
    have HRV := Lib.hid hRV
    have HBy := Lib.hid (HBx.out.trans (hB35.mono HBx.out.size))
    have HB35 := Lib.hid hB35
    have HS1 : Hid (∀ wz, Below w5.heap.size w5 wz → Calls Tryz.prog 59 #[.slice AU L1.length cU, .slice A1 L1.length c1] wz fun e w' => e = .returned (.bool true) ∧ Below wz.heap.size wz w') := Lib.hid (fun wz hz => by
      have h1 := same_any AU A1 cU c1 _ L1 L1 wz hLl hLl (HRU.out.below hz) (HL5.out.hR.below hz)
      rw [decide_eq_true rfl] at h1; exact h1)
    have HS2 : Hid (∀ wz, Below w5.heap.size w5 wz → Calls Tryz.prog 59 #[.slice AV L2.length cV, .slice A2 L2.length c2] wz fun e w' => e = .returned (.bool true) ∧ Below wz.heap.size wz w') := Lib.hid (fun wz hz => by
      have h1 := same_any AV A2 cV c2 _ L2 L2 wz hKl hKl (HRV.out.below hz) (HK5.out.hR.below hz)
      rw [decide_eq_true rfl] at h1; exact h1)
    clear hown hB5' hO5 hB5 hRU hRV hL4 hK4 HO4 HB4 hB35
    rcases HM.out with ⟨rfl, rfl, rfl⟩ | ⟨p3, hC, hF⟩
    · clear HM HRU HRV HL5 HK5 HBx HB35
      go_wp2_with fail
      refine (gMul_nil _ _ _ _ _ _ _ _).mono ?_
      rintro r w6 ⟨rfl, rfl⟩
      go_wp2_with fail
      refine (gpow_nil _ _ _ _ _ _).mono ?_
      rintro r w6 ⟨rfl, rfl⟩
      go_wp2_with fail
      refine (HS1.out _ (Below.refl _ _)).mono ?_
      rintro r w6 ⟨rfl, hB6⟩
      have HB6 := Lib.hid hB6
      clear hB6 HS1
      go_wp2_with fail
      refine (HS2.out _ HB6.out).mono ?_
      rintro r w7 ⟨rfl, hB7⟩
      have HB7 := Lib.hid (HB6.out.trans (hB7.mono HB6.out.size))
      clear hB7 HS2 HB6
      go_wp2
      go_ret
      exact ⟨by first | rfl | simp, HBy.out.trans (HB7.out.mono HBy.out.size)⟩
    · obtain ⟨q, rfl⟩ := Int.eq_ofNat_of_zero_le (show 0 ≤ p' by omega)
      have pm := hF.pmx
      haveI : NeZero q := ⟨by omega⟩
      obtain ⟨hp, hord⟩ := hC.nat
      have hg := hC.gr
      have HO : Hid (Ord (zt q g') (q - 1)) := Lib.hid hord
      have HP := Lib.hid hp
      have HF := Lib.hid hF
      have tp : ((q : Int) == 0) = false := by simp; omega
      have HPM := Lib.hid (And.intro p3 pm)
      have hg0 : 0 ≤ g' := by omega
      have hqg : Hid (g' < (q : Int)) := Lib.hid hg.2
      clear HM hC hp hord hg
      have HF5 := Lib.hid ((HF.out.below HB35.out).mono HB35.out.size)
      clear HF HB35
      have hFt2 : ∀ wz, Below w5.heap.size w5 wz → Calls Tryz.prog 57 #[.int .u64 (q : Int), .slice (some ⟨wz.heap.size, 0, none⟩) 2 2, .int .i64 x4] (wz.alloc (.cells #[.slice A1 L1.length c1, .slice A2 L2.length c2] 29)) fun e w' => e = .returned (.int .i64 (sf2 q x4 L1 L2)) ∧ wz.alloc (.cells #[.slice A1 L1.length c1, .slice A2 L2.length c2] 29) = w' := fun wz hz => by
        have hb := (Below.refl wz.heap.size wz).alloc (Nat.le_refl _) (.cells #[.slice A1 L1.length c1, .slice A2 L2.length c2] 29)
        have h1 := r25fault_any wz.heap.size 2 [(A1, c1, L1), (A2, c2, L2)] q x4 (wz.alloc (.cells #[.slice A1 L1.length c1, .slice A2 L2.length c2] 29)) HPM.out.1 HPM.out.2 h04 h14 (by simp) (fun i e he => by
          match i, he with
          | 0, he => cases he; exact ⟨World.cell?_alloc_at _ _ _ _ rfl, hLl, ((HL5.out.below hz).below hb).hR⟩
          | 1, he => cases he; exact ⟨World.cell?_alloc_at _ _ _ _ rfl, hKl, ((HK5.out.below hz).below hb).hR⟩
          | i + 2, he => simp at he)
        rw [show flt q x4 ([(A1, c1, L1), (A2, c2, L2)].map fun e => goodB q e.2.2) = sf2 q x4 L1 L2 from flt2 _ _ _ _] at h1
        exact h1
      have hFt1 : ∀ wz, Below w5.heap.size w5 wz → Calls Tryz.prog 57 #[.int .u64 (q : Int), .slice (some ⟨wz.heap.size, 0, none⟩) 1 1, .int .i64 x4] (wz.alloc (.cells #[.slice A1 L1.length c1] 29)) fun e w' => e = .returned (.int .i64 (sf1 q x4 L1)) ∧ wz.alloc (.cells #[.slice A1 L1.length c1] 29) = w' := fun wz hz => by
        have hb := (Below.refl wz.heap.size wz).alloc (Nat.le_refl _) (.cells #[.slice A1 L1.length c1] 29)
        have h1 := r25fault_any wz.heap.size 1 [(A1, c1, L1)] q x4 (wz.alloc (.cells #[.slice A1 L1.length c1] 29)) HPM.out.1 HPM.out.2 h04 h14 (by simp) (fun i e he => by
          match i, he with
          | 0, he => cases he; exact ⟨World.cell?_alloc_at _ _ _ _ rfl, hLl, ((HL5.out.below hz).below hb).hR⟩
          | i + 1, he => simp at he)
        rw [show flt q x4 ([(A1, c1, L1)].map fun e => goodB q e.2.2) = sf1 q x4 L1 from flt1 _ _ _] at h1
        exact h1
      have HFt2 := Lib.hid hFt2
      have HFt1 := Lib.hid hFt1
      clear hFt2 hFt1
      -- the power, and what it is held against
      by_cases hs1 : sf1 q x4 L1 = 0
      · obtain ⟨hsk, _⟩ := sf1_zero hs1
        obtain ⟨n1, n2, _⟩ := schk_zero hsk
        obtain ⟨n, rfl⟩ := Int.eq_ofNat_of_zero_le (show 0 ≤ x4 by omega)
        obtain ⟨k, rfl⟩ := Int.eq_ofNat_of_zero_le h03
        have n1' : 1 ≤ n := by omega
        have n2' : n ≤ 40 := by omega
        have HPw : Hid (∀ wz, Below w5.heap.size w5 wz → Calls Tryz.prog 63 #[v, .slice AU L1.length cU, .int .u64 k, .int .i64 n] wz fun e w' => ∃ V, e = .returned (.tuple #[V, .int .i64 0]) ∧ OwnU w' wz.heap.size V n (lst n (spw (rz q L1) k)) ∧ Below wz.heap.size wz w') := Lib.hid (fun wz hz => by
          have h1 := gpow_yes HP.out HO.out hg0 hqg.out ((HF5.out.below hz).mono hz.size) AU cU L1 k n (by omega) (by omega) hLl HU.out ((HRU.out.below hz).mono hz.size) hs1
          rw [Int.toNat_natCast] at h1
          exact h1)
        have HRp : Hid (∀ wz, Below w5.heap.size w5 wz → Calls Tryz.prog 64 #[.int .u64 (q : Int), .slice A1 L1.length c1, .int .u64 k, .int .i64 n] wz fun e w' => ∃ V, e = .returned V ∧ OwnU w' wz.heap.size V n (lst n (spw (rz q L1) k)) ∧ Below wz.heap.size wz w') := Lib.hid (fun wz hz =>
          r25pow_any (p := q) (k + 1) k wz A1 c1 L1 n (by omega) (by omega) HPM.out.1 HPM.out.2 (by omega) hLl HU.out ((HL5.out.below hz).hR))
        rw [hs1] at HFt1
        by_cases hs2 : sf2 q n L1 L2 = 0
        · have HMl : Hid (Calls Tryz.prog 62 #[v, .slice AU L1.length cU, .slice AV L2.length cV, .int .i64 n] w5 fun e w' => ∃ V, e = .returned (.tuple #[V, .int .i64 0]) ∧ OwnU w' w5.heap.size V n (lst n (cv (rz q L1) (rz q L2))) ∧ Below w5.heap.size w5 w') := Lib.hid (gMul_yes HP.out HO.out hg0 hqg.out HF5.out AU AV cU cV L1 L2 n hLl hKl HU.out HW.out HRU.out HRV.out hs2)
          have HRm : Hid (∀ wz, Below w5.heap.size w5 wz → Calls Tryz.prog 60 #[.int .u64 (q : Int), .slice A1 L1.length c1, .slice A2 L2.length c2, .int .i64 n] wz fun e w' => ∃ V, e = .returned V ∧ OwnU w' wz.heap.size V n (lst n (cv (rz q L1) (rz q L2))) ∧ Below wz.heap.size wz w') := Lib.hid (fun wz hz =>
            r25mul_any (p := q) wz A1 A2 c1 c2 L1 L2 n HPM.out.1 HPM.out.2 (by omega) hLl hKl HU.out HW.out (HL5.out.below hz).hR (HK5.out.below hz).hR)
          rw [hs2] at HFt2
          clear hs1 hs2 hsk n1 n2 h03 h13 h04 h14 hn40 HRU HRV HL5 HK5 HF5
          go_wp2_with fail
          refine HMl.out.mono ?_
          rintro r w6 ⟨V6, rfl, hO6, hB6⟩
          obtain ⟨A6, c6, rfl, hR6⟩ := hO6.rd
          have HR6 := Lib.hid hR6
          have HB6 := Lib.hid hB6
          clear hO6 hR6 hB6 HMl
          go_wp2_with fail
          refine (HPw.out w6 HB6.out).mono ?_
          rintro r w7 ⟨V7, rfl, hO7, hB7⟩
          obtain ⟨A7, c7, rfl, hR7⟩ := hO7.rd
          have HR7 := Lib.hid hR7
          have HR6 := Lib.hid ((HR6.out.below hB7).mono hB7.size)
          have HB7 := Lib.hid (HB6.out.trans (hB7.mono HB6.out.size))
          clear hO7 hR7 hB7 HPw HB6
          go_wp2_with fail
          refine (HS1.out _ HB7.out).mono ?_
          rintro r w8 ⟨rfl, hB8⟩
          have HR7 := Lib.hid ((HR7.out.below hB8).mono hB8.size)
          have HR6 := Lib.hid ((HR6.out.below hB8).mono hB8.size)
          have HB8 := Lib.hid (HB7.out.trans (hB8.mono HB7.out.size))
          clear hB8 HS1 HB7
          go_wp2_with fail
          refine (HS2.out _ HB8.out).mono ?_
          rintro r w9 ⟨rfl, hB9⟩
          have HR7 := Lib.hid ((HR7.out.below hB9).mono hB9.size)
          have HR6 := Lib.hid ((HR6.out.below hB9).mono hB9.size)
          have hB9' := HB8.out.trans (hB9.mono HB8.out.size)
          have HF2 := Lib.hid (HFt2.out w9 hB9')
          have hBl := (Below.refl w9.heap.size w9).alloc (Nat.le_refl _) (.cells #[.slice A1 L1.length c1, .slice A2 L2.length c2] 29)
          have hBa := hB9'.trans (hBl.mono hB9'.size)
          have HF1 := Lib.hid (HFt1.out _ hBa)
          have hBl2 := (Below.refl (w9.alloc (.cells #[.slice A1 L1.length c1, .slice A2 L2.length c2] 29)).heap.size (w9.alloc (.cells #[.slice A1 L1.length c1, .slice A2 L2.length c2] 29))).alloc (Nat.le_refl _) (.cells #[.slice A1 L1.length c1] 29)
          have HBb := Lib.hid (hBa.trans (hBl2.mono hBa.size))
          have HR7 := Lib.hid ((((HR7.out.below hBl).mono hBl.size).below hBl2).mono hBl2.size)
          have HR6 := Lib.hid ((((HR6.out.below hBl).mono hBl.size).below hBl2).mono hBl2.size)
          clear hB9 hB9' hBl hBa hBl2 HS2 HB8 HFt2 HFt1
          go_wp2_with fail
          generalize w9.alloc (.cells #[.slice A1 L1.length c1, .slice A2 L2.length c2] 29) = wa at *
          refine HF2.out.mono ?_
          rintro r wa' ⟨rfl, rfl⟩
          clear HF2
          go_wp2_with fail
          generalize wa.alloc (.cells #[.slice A1 L1.length c1] 29) = wb at *
          refine HF1.out.mono ?_
          rintro r wb' ⟨rfl, rfl⟩
          clear HF1
          go_wp2_with fail
          refine (HRm.out _ HBb.out).mono ?_
          rintro r wc ⟨Vc, rfl, hOc, hBc⟩
          obtain ⟨Ac, cc, rfl, hRc⟩ := hOc.rd
          have hSm := same_any A6 Ac c6 cc _ (lst n (cv (rz q L1) (rz q L2))) (lst n (cv (rz q L1) (rz q L2))) wc (by rw [lst_length]; omega) (by rw [lst_length]; omega) ((HR6.out.below hBc).mono hBc.size) hRc
          rw [lst_length, decide_eq_true rfl] at hSm
          have HSm := Lib.hid hSm
          have HR7 := Lib.hid ((HR7.out.below hBc).mono hBc.size)
          have HBc := Lib.hid (HBb.out.trans (hBc.mono HBb.out.size))
          clear hSm hOc hRc hBc HRm HR6 HBb
          go_wp2_with fail
          refine HSm.out.mono ?_
          rintro r wd ⟨rfl, hBd⟩
          have HR7 := Lib.hid ((HR7.out.below hBd).mono hBd.size)
          have HBd := Lib.hid (HBc.out.trans (hBd.mono HBc.out.size))
          clear hBd HSm HBc
          by_cases h12' : 12 < n
          · have t12 : decide ((12 : Int) < (n : Int)) = true := decide_eq_true (by omega)
            go_wp2
            go_ret
            exact ⟨by first | rfl | simp, HBy.out.trans (HBd.out.mono HBy.out.size)⟩
          · have t12 : decide ((12 : Int) < (n : Int)) = false := decide_eq_false (by omega)
            go_wp2_with fail
            refine (HRp.out _ HBd.out).mono ?_
            rintro r we ⟨Ve, rfl, hOe, hBe⟩
            obtain ⟨Ae, ce, rfl, hRe⟩ := hOe.rd
            have hSm := same_any A7 Ae c7 ce _ (lst n (spw (rz q L1) k)) (lst n (spw (rz q L1) k)) we (by rw [lst_length]; omega) (by rw [lst_length]; omega) ((HR7.out.below hBe).mono hBe.size) hRe
            rw [lst_length, decide_eq_true rfl] at hSm
            have HSm := Lib.hid hSm
            have HBe := Lib.hid (HBd.out.trans (hBe.mono HBd.out.size))
            clear hSm hOe hRe hBe HRp HR7 HBd
            go_wp2_with fail
            refine HSm.out.mono ?_
            rintro r wf ⟨rfl, hBf⟩
            have HBf := Lib.hid (HBe.out.trans (hBf.mono HBe.out.size))
            clear hBf HSm HBe
            go_wp2
            go_ret
            exact ⟨by first | rfl | simp, HBy.out.trans (HBf.out.mono HBy.out.size)⟩
        · have hNo := Lib.hid (gMul_no HF5.out AU AV cU cV L1 L2 n h04 h14 hLl hKl HU.out HW.out HRU.out HRV.out hs2)
          obtain ⟨z, hze⟩ : ∃ z, z = sf2 q n L1 L2 := ⟨_, rfl⟩
          rw [← hze] at hNo HFt2 hs2
          have t1 : (z == 0) = false := beq_eq_false_iff_ne.2 hs2
          have t2 : (z != 0) = true := by simp [hs2]
          have t3 : (z != z) = false := by simp
          clear hs1 hs2 hze hsk n1 n2 h03 h13 h04 h14 hn40 HRU HRV HL5 HK5 HF5
          go_wp2_with fail
          refine hNo.out.mono ?_
          rintro r w6 ⟨rfl, rfl⟩
          go_wp2_with fail
          refine (HPw.out _ (Below.refl _ _)).mono ?_
          rintro r w7 ⟨V7, rfl, hO7, hB7⟩
          obtain ⟨A7, c7, rfl, hR7⟩ := hO7.rd
          have HR7 := Lib.hid hR7
          have HB7 := Lib.hid hB7
          clear hO7 hR7 hB7 HPw hNo
          go_wp2_with fail
          refine (HS1.out _ HB7.out).mono ?_
          rintro r w8 ⟨rfl, hB8⟩
          have HR7 := Lib.hid ((HR7.out.below hB8).mono hB8.size)
          have HB8 := Lib.hid (HB7.out.trans (hB8.mono HB7.out.size))
          clear hB8 HS1 HB7
          go_wp2_with fail
          refine (HS2.out _ HB8.out).mono ?_
          rintro r w9 ⟨rfl, hB9⟩
          have HR7 := Lib.hid ((HR7.out.below hB9).mono hB9.size)
          have hB9' := HB8.out.trans (hB9.mono HB8.out.size)
          have HF2 := Lib.hid (HFt2.out w9 hB9')
          have hBl := (Below.refl w9.heap.size w9).alloc (Nat.le_refl _) (.cells #[.slice A1 L1.length c1, .slice A2 L2.length c2] 29)
          have hBa := hB9'.trans (hBl.mono hB9'.size)
          have HF1 := Lib.hid (HFt1.out _ hBa)
          have hBl2 := (Below.refl (w9.alloc (.cells #[.slice A1 L1.length c1, .slice A2 L2.length c2] 29)).heap.size (w9.alloc (.cells #[.slice A1 L1.length c1, .slice A2 L2.length c2] 29))).alloc (Nat.le_refl _) (.cells #[.slice A1 L1.length c1] 29)
          have HBd := Lib.hid (hBa.trans (hBl2.mono hBa.size))
          have HR7 := Lib.hid ((((HR7.out.below hBl).mono hBl.size).below hBl2).mono hBl2.size)
          clear hB9 hB9' hBl hBa hBl2 HS2 HB8 HFt2 HFt1
          go_wp2_with fail
          generalize w9.alloc (.cells #[.slice A1 L1.length c1, .slice A2 L2.length c2] 29) = wa at *
          refine HF2.out.mono ?_
          rintro r wa' ⟨rfl, rfl⟩
          clear HF2
          go_wp2_with fail
          generalize wa.alloc (.cells #[.slice A1 L1.length c1] 29) = wd at *
          refine HF1.out.mono ?_
          rintro r wb' ⟨rfl, rfl⟩
          clear HF1
          by_cases h12' : 12 < n
          · have t12 : decide ((12 : Int) < (n : Int)) = true := decide_eq_true (by omega)
            go_wp2
            go_ret
            exact ⟨by first | rfl | simp, HBy.out.trans (HBd.out.mono HBy.out.size)⟩
          · have t12 : decide ((12 : Int) < (n : Int)) = false := decide_eq_false (by omega)
            go_wp2_with fail
            refine (HRp.out _ HBd.out).mono ?_
            rintro r we ⟨Ve, rfl, hOe, hBe⟩
            obtain ⟨Ae, ce, rfl, hRe⟩ := hOe.rd
            have hSm := same_any A7 Ae c7 ce _ (lst n (spw (rz q L1) k)) (lst n (spw (rz q L1) k)) we (by rw [lst_length]; omega) (by rw [lst_length]; omega) ((HR7.out.below hBe).mono hBe.size) hRe
            rw [lst_length, decide_eq_true rfl] at hSm
            have HSm := Lib.hid hSm
            have HBe := Lib.hid (HBd.out.trans (hBe.mono HBd.out.size))
            clear hSm hOe hRe hBe HRp HR7 HBd
            go_wp2_with fail
            refine HSm.out.mono ?_
            rintro r wf ⟨rfl, hBf⟩
            have HBf := Lib.hid (HBe.out.trans (hBf.mono HBe.out.size))
            clear hBf HSm HBe
            go_wp2
            go_ret
            exact ⟨by first | rfl | simp, HBy.out.trans (HBf.out.mono HBy.out.size)⟩
      · have hs2 : sf2 q x4 L1 L2 ≠ 0 := fun h => hs1 (by
          obtain ⟨a, b, _⟩ := sf2_zero h
          unfold sf1; rw [a, b]; simp)
        have hNo := Lib.hid (gMul_no HF5.out AU AV cU cV L1 L2 x4 h04 h14 hLl hKl HU.out HW.out HRU.out HRV.out hs2)
        have hNp := Lib.hid (gpow_no HF5.out AU cU L1 x3 x4 h04 h14 hLl HU.out HRU.out hs1)
        obtain ⟨z, hze⟩ : ∃ z, z = sf2 q x4 L1 L2 := ⟨_, rfl⟩
        obtain ⟨y, hye⟩ : ∃ y, y = sf1 q x4 L1 := ⟨_, rfl⟩
        rw [← hze] at hNo HFt2 hs2
        rw [← hye] at hNp HFt1 hs1
        have t1 : (z == 0) = false := beq_eq_false_iff_ne.2 hs2
        have t2 : (z != 0) = true := by simp [hs2]
        have t3 : (z != z) = false := by simp
        have t4 : (y != 0) = true := by simp [hs1]
        have t5 : (y != y) = false := by simp
        clear hs1 hs2 hze hye hn40 HRU HRV HL5 HK5 HF5
        go_wp2_with fail
        refine hNo.out.mono ?_
        rintro r w6 ⟨rfl, rfl⟩
        go_wp2_with fail
        refine hNp.out.mono ?_
        rintro r w7 ⟨rfl, rfl⟩
        clear hNo hNp
        go_wp2_with fail
        refine (HS1.out _ (Below.refl _ _)).mono ?_
        rintro r w8 ⟨rfl, hB8⟩
        have HB8 := Lib.hid hB8
        clear hB8 HS1
        go_wp2_with fail
        refine (HS2.out _ HB8.out).mono ?_
        rintro r w9 ⟨rfl, hB9⟩
        have hB9' := HB8.out.trans (hB9.mono HB8.out.size)
        have HF2 := Lib.hid (HFt2.out w9 hB9')
        have hBl := (Below.refl w9.heap.size w9).alloc (Nat.le_refl _) (.cells #[.slice A1 L1.length c1, .slice A2 L2.length c2] 29)
        have hBa := hB9'.trans (hBl.mono hB9'.size)
        have HF1 := Lib.hid (HFt1.out _ hBa)
        have hBl2 := (Below.refl (w9.alloc (.cells #[.slice A1 L1.length c1, .slice A2 L2.length c2] 29)).heap.size (w9.alloc (.cells #[.slice A1 L1.length c1, .slice A2 L2.length c2] 29))).alloc (Nat.le_refl _) (.cells #[.slice A1 L1.length c1] 29)
        have HBd := Lib.hid (hBa.trans (hBl2.mono hBa.size))
        clear hB9 hB9' hBl hBa hBl2 HS2 HB8 HFt2 HFt1
        go_wp2_with fail
        generalize w9.alloc (.cells #[.slice A1 L1.length c1, .slice A2 L2.length c2] 29) = wa at *
        refine HF2.out.mono ?_
        rintro r wa' ⟨rfl, rfl⟩
        clear HF2
        go_wp2_with fail
        generalize wa.alloc (.cells #[.slice A1 L1.length c1] 29) = wd at *
        refine HF1.out.mono ?_
        rintro r wb' ⟨rfl, rfl⟩
        clear HF1
        go_wp2
        go_ret
        exact ⟨by first | rfl | simp, HBy.out.trans (HBd.out.mono HBy.out.size)⟩
end Go.Proofs.YthhkljfgkihfgaaGreat
