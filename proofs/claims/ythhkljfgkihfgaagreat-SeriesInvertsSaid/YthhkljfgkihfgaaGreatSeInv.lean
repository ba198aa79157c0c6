/- The law SeriesInverts. -/
import Derived.Test.YthhkljfgkihfgaaGreatAl25
import Derived.Test.YthhkljfgkihfgaaGreatRef25
import Derived.Test.YthhkljfgkihfgaaGreatMs25
set_option linter.unusedVariables false
set_option linter.unusedSimpArgs false
set_option linter.unusedSectionVars false
set_option linter.unusedVariables false
set_option linter.unusedSimpArgs false
namespace Go.Proofs.YthhkljfgkihfgaaGreat
open Go.RowKit
open Alg
set_option maxHeartbeats 4000000 in
set_option maxRecDepth 100000 in
theorem seriesInverts_walk (w : World) (A0 : Option Addr) (c0 : Nat) (kind0 kk0 pp0 : Int) (es0 : List Ent) (A1 : Option Addr) (c1 : Nat) (L1 : List Int) (x2 : Int) (hs0 : SrcA w A0 c0 kind0 kk0 pp0 es0) (hl1 : LstA w A1 c1 L1) (h02 : -9223372036854775808 ≤ x2) (h12 : x2 ≤ 9223372036854775807) :
    Calls Tryz.prog 14 #[.agg #[.int .i64 kind0, .int .i64 kk0, .int .u64 pp0, .slice A0 es0.length c0], .slice A1 L1.length c1, .int .i64 x2] w fun e w' => e = .returned (.bool true) ∧ Below w.heap.size w w' := by
  obtain ⟨i0, hi, hz0, hz1, hz2⟩ := info_parts info_u64
  have hLl := hl1.hl
  have HU := Lib.hid hl1.hU
  have HS := Lib.hid hs0
  have hB0 := (Below.refl w.heap.size w).alloc (Nat.le_refl _) (.cells #[.int .i64 kind0, .int .i64 kk0, .int .u64 pp0, .slice A0 es0.length c0] 28)
  have b0 : (w.alloc (.cells #[.int .i64 kind0, .int .i64 kk0, .int .u64 pp0, .slice A0 es0.length c0] 28)).cell? ⟨w.heap.size, 0, none⟩ = some (.int .i64 kind0) := World.cell?_alloc_at _ _ _ _ rfl
  have b1 : (w.alloc (.cells #[.int .i64 kind0, .int .i64 kk0, .int .u64 pp0, .slice A0 es0.length c0] 28)).cell? ⟨w.heap.size, 1, none⟩ = some (.int .i64 kk0) := World.cell?_alloc_at _ _ _ _ rfl
  have b2 : (w.alloc (.cells #[.int .i64 kind0, .int .i64 kk0, .int .u64 pp0, .slice A0 es0.length c0] 28)).cell? ⟨w.heap.size, 2, none⟩ = some (.int .u64 pp0) := World.cell?_alloc_at _ _ _ _ rfl
  have b3 : (w.alloc (.cells #[.int .i64 kind0, .int .i64 kk0, .int .u64 pp0, .slice A0 es0.length c0] 28)).cell? ⟨w.heap.size, 3, none⟩ = some (.slice A0 es0.length c0) := World.cell?_alloc_at _ _ _ _ rfl
  have hs1 : w.heap.size + 1 ≤ (w.alloc (.cells #[.int .i64 kind0, .int .i64 kk0, .int .u64 pp0, .slice A0 es0.length c0] 28)).heap.size := by simp
  have hAl := Lib.hid (alive25_any (w.alloc (.cells #[.int .i64 kind0, .int .i64 kk0, .int .u64 pp0, .slice A0 es0.length c0] 28)))
  have HL0 := Lib.hid hl1
  clear hs0 hl1
  go_enter Tryz.func14, Tryz.ntmps14
  go_wp2_with fail
  generalize w.alloc (.cells #[.int .i64 kind0, .int .i64 kk0, .int .u64 pp0, .slice A0 es0.length c0] 28) = w1 at *
  refine hAl.out.mono ?_
  rintro r w2 ⟨rfl, hB2⟩
  have d0 := cell_keep hB2 (by omega) b0
  have d1 := cell_keep hB2 (by omega) b1
  have d2 := cell_keep hB2 (by omega) b2
  have d3 := cell_keep hB2 (by omega) b3
  have hBw := hB0.trans (hB2.mono (show w.heap.size ≤ w1.heap.size by omega))
  clear b0 b1 b2 b3 hB0 hB2 hAl
  have hL2 := HL0.out.below hBw
  have hBl : Below w2.heap.size w2 (w2.alloc (.cells #[.slice A1 L1.length c1] 29)) := (Below.refl _ _).alloc (Nat.le_refl _) _
  have hGr : Calls Tryz.prog 54 #[.slice (some ⟨w2.heap.size, 0, none⟩) 1 1, .int .i64 x2] (w2.alloc (.cells #[.slice A1 L1.length c1] 29)) fun e w' => e = .returned (.bool (grt [L1.length] x2)) ∧ _ = w' := great25_any w2.heap.size 1 [(A1, c1, L1.length)] x2 _ (by simp) (fun i e he => by
    match i, he with
    | 0, he => cases he; exact ⟨World.cell?_alloc_at _ _ _ _ rfl, hLl⟩
    | i + 1, he => simp at he)
  have hBv := hBw.trans (hBl.mono hBw.size)
  have HL3 := Lib.hid ((hL2.below hBl))
  have HBv := Lib.hid hBv
  have e0 := cell_keep hBl (World.block_lt_of_cell? _ _ d0) d0
  have e1 := cell_keep hBl (World.block_lt_of_cell? _ _ d1) d1
  have e2 := cell_keep hBl (World.block_lt_of_cell? _ _ d2) d2
  have e3 := cell_keep hBl (World.block_lt_of_cell? _ _ d3) d3
  have HGr := Lib.hid hGr
  clear hGr hL2 hBl d0 d1 d2 d3 hBw hBv HL0
  go_wp2_with fail
  generalize w2.alloc (.cells #[.slice A1 L1.length c1] 29) = w2' at *
  refine HGr.out.mono ?_
  rintro r w3 ⟨rfl, rfl⟩
  rcases hgr : grt [L1.length] x2 with _ | _
  case true =>
    go_wp2
    go_ret
    exact ⟨rfl, HBv.out⟩
  case false =>
    have hL60 : L1.length ≤ 60 := by
      unfold grt at hgr
      simp at hgr
      exact hgr.1
    have hx40 : x2 ≤ 40 ∨ 512 < x2 := by
      unfold grt at hgr
      simp at hgr
      omega
    have hBw := HBv.out
    clear hgr HGr
    go_wp2_with fail
    refine (made_src (HS.out.below hBw)).mono ?_
    rintro r w3 ⟨v, p', g', rfl, hM, hB3⟩
    have hBx := hBw.trans (hB3.mono hBw.size)
    have HL4 := Lib.hid (HL3.out.below hB3)
    have HM := Lib.hid hM
    have HBx := Lib.hid hBx
    clear e0 e1 e2 e3 hBw hM hs1 hB3 HL3 HBv hBx
    rcases HM.out with ⟨rfl, rfl, rfl⟩ | ⟨p3, hC, hF⟩
    · clear HM
      go_wp2_with fail
      refine (ginv_nil _ _ _ _ _).mono ?_
      rintro r w4 ⟨rfl, rfl⟩
      go_wp2
      go_ret
      exact ⟨by first | rfl | simp, HBx.out⟩
    · obtain ⟨q, rfl⟩ := Int.eq_ofNat_of_zero_le (show 0 ≤ p' by omega)
      have pm := hF.pmx
      haveI : NeZero q := ⟨by omega⟩
      obtain ⟨hp, hord⟩ := hC.nat
      have hg := hC.gr
      have HO : Hid (Ord (zt q g') (q - 1)) := Lib.hid hord
      have HP := Lib.hid hp
      have HF := Lib.hid hF
      have tp : ((q : Int) == 0) = false := by simp; omega
      have HPM := Lib.hid (And.intro p3 pm)
      have hg0 : 0 ≤ g' := by omega
      have hqg : Hid (g' < (q : Int)) := Lib.hid hg.2
      clear HM hC hp hord hg
      have hFt : ∀ wz, Below w3.heap.size w3 wz → Calls Tryz.prog 57 #[.int .u64 (q : Int), .slice (some ⟨wz.heap.size, 0, none⟩) 1 1, .int .i64 x2] (wz.alloc (.cells #[.slice A1 L1.length c1] 29)) fun e w' => e = .returned (.int .i64 (sf1 q x2 L1)) ∧ wz.alloc (.cells #[.slice A1 L1.length c1] 29) = w' := fun wz hz => by
        have hb := (Below.refl wz.heap.size wz).alloc (Nat.le_refl _) (.cells #[.slice A1 L1.length c1] 29)
        have h1 := r25fault_any wz.heap.size 1 [(A1, c1, L1)] q x2 (wz.alloc (.cells #[.slice A1 L1.length c1] 29)) HPM.out.1 HPM.out.2 h02 h12 (by simp) (fun i e he => by
          match i, he with
          | 0, he => cases he; exact ⟨World.cell?_alloc_at _ _ _ _ rfl, hLl, ((HL4.out.below hz).below hb).hR⟩
          | i + 1, he => simp at he)
        rw [show flt q x2 ([(A1, c1, L1)].map fun e => goodB q e.2.2) = sf1 q x2 L1 from flt1 _ _ _] at h1
        exact h1
      have HFt := Lib.hid hFt
      clear hFt
      by_cases hz : sfi q x2 L1 = 0
      · obtain ⟨hf1, hne0, hl0⟩ := sfi_zero hz
        obtain ⟨hsk, hgd⟩ := sf1_zero hf1
        obtain ⟨n1, n2, _⟩ := schk_zero hsk
        obtain ⟨n, rfl⟩ := Int.eq_ofNat_of_zero_le (show 0 ≤ x2 by omega)
        have n1' : 1 ≤ n := by omega
        have n2' : n ≤ 40 := by omega
        have hI := Lib.hid (ginv_yes HP.out HO.out hg0 hqg.out HF.out A1 c1 L1 n hLl HU.out HL4.out.hR hz)
        rw [hf1] at HFt
        have HGt := Lib.hid (fun wz (hz : Below w3.heap.size w3 wz) => r25get_any A1 c1 L1 0 wz.heap.size wz (by omega) hLl (HL4.out.below hz).hR)
        have ty : (L1.getD 0 0 == 0) = false := by simpa using hne0
        obtain ⟨y0, hy0⟩ : ∃ y, y = L1.getD 0 0 := ⟨_, rfl⟩
        rw [← hy0] at HGt ty
        clear hz hne0 hl0 hf1 hsk hgd hy0 n1 n2 h02 h12 hx40
        go_wp2_with fail
        refine hI.out.mono ?_
        rintro r w4 ⟨V, U, rfl, hO4, hE, hB4⟩
        obtain ⟨AX, cX, rfl, hRX⟩ := hO4.rd
        have HB4 := Lib.hid hB4
        have HE := Lib.hid hE
        have hBl : Below w4.heap.size w4 (w4.alloc (.cells #[.slice A1 L1.length c1] 29)) := (Below.refl _ _).alloc (Nat.le_refl _) _
        have HF1 := Lib.hid (HFt.out w4 hB4)
        have hB5 := hB4.trans (hBl.mono hB4.size)
        have HG1 := Lib.hid (HGt.out _ hB5)
        have HRX := Lib.hid ((hRX.below hBl).mono hBl.size)
        have HB5 := Lib.hid hB5
        clear hO4 hE hB4 hBl hRX HFt HGt hI hB5 HB4
        go_wp2_with fail
        generalize w4.alloc (.cells #[.slice A1 L1.length c1] 29) = w5 at *
        refine HF1.out.mono ?_
        rintro r w6 ⟨rfl, rfl⟩
        go_wp2_with fail
        refine HG1.out.mono ?_
        rintro r w6 ⟨rfl, rfl⟩
        clear HF1 HG1
        go_wp2_with (at_make; refine wpList_make_full _ rfl _ _ 29 rfl w6.heap.size 25 i0 (.int .u64 0) 1 Tryz.underlying29 hi hz0 hz1 _ _ _ _ n rfl rfl ?l1 ?l2 ?b2 ?b3 (Nat.le_refl _) ?_)
        case l1 => omega
        case l2 => omega
        case b2 => rw [hz2]; omega
        case b3 => unfold maxLen; omega
        intro w8 hown hgrow
        have hown0 : OwnU w8 w6.heap.size (.slice (some ⟨w6.heap.size, 0, none⟩) n n) n (List.replicate n 0) := by
          unfold OwnU
          rw [ints_zero', ← toList_madeCells_one]; exact hown
        have hB8 : Below w6.heap.size w6 w8 := (Below.refl _ _).grown hgrow (Nat.le_refl _) (fun k h => by cases h)
        obtain ⟨G, hG⟩ : ∃ G, G = w6.heap.size := ⟨_, rfl⟩
        rw [← hG]
        have hGe : w6.heap.size ≤ G := by omega
        rw [show (⟨w6.heap.size, 0, none⟩ : Addr) = ⟨G, 0, none⟩ by rw [hG]] at hown0
        obtain ⟨c0, f0, _⟩ := own_set hown0 0 (by omega)
        have hO1 := (hown0.set 0 (by omega) 1).1
        rw [one_set (p := q) (by omega)] at hO1
        have hB9 : Below w6.heap.size w6 (w8.setCell ⟨G, 0, none⟩ (.int .u64 1)) := hB8.setCell hGe _
        have hc0 : (List.replicate n (0 : Int)).getD 0 0 = 0 := by
          rw [List.getD_eq_getElem?_getD, List.getElem?_replicate]; split <;> rfl
        rw [hc0] at c0
        have hRX9 := (HRX.out.below hB9).mono hB9.size
        have hGood := r11good_any AX cX _ q (lst n U) (w8.setCell ⟨G, 0, none⟩ (.int .u64 1)) (by rw [lst_length]; omega) hRX9
        rw [lst_length, lst_good] at hGood
        have hBz := HB5.out.trans (hB9.mono HB5.out.size)
        have hL9 := HL4.out.below hBz
        have hMu := r25mul_any (p := q) (w8.setCell ⟨G, 0, none⟩ (.int .u64 1)) A1 AX c1 cX L1 (lst n U) n HPM.out.1 HPM.out.2 (by omega) hLl (by rw [lst_length]; omega) HU.out (lst_u64 HPM.out.2 _ _) hL9.hR hRX9
        rw [lst_length, rz_pad, lst_eqn ((cv_eqn (Eqn.refl n (rz q L1)) (pad_eqn n U)).trans HE.out)] at hMu
        have HGood := Lib.hid hGood
        have HMu := Lib.hid hMu
        have HO1 := Lib.hid hO1
        have HBz := Lib.hid (HBx.out.trans (hBz.mono HBx.out.size))
        have i1 : (0 : Int) < (n : Int) := by omega
        clear hown hgrow hown0 hB8 hG hO1 hB9 hc0 hRX9 hGood hL9 hMu hBz HB5 HRX HL4 HE HBx
        go_wp2_with fail
        refine HGood.out.mono ?_
        rintro r w10 ⟨rfl, rfl⟩
        go_wp2_with fail
        refine HMu.out.mono ?_
        rintro r w11 ⟨V5, rfl, hO5, hB11⟩
        obtain ⟨A5, c5, rfl, hR5⟩ := hO5.rd
        obtain ⟨A6, c6, he6, hR6⟩ := (HO1.out.below hB11).rd
        cases he6
        have hSm := same_any A5 (some ⟨G, 0, none⟩) c5 n _ (lst n (uno : Nat → Fin q)) (lst n (uno : Nat → Fin q)) w11 (by rw [lst_length]; omega) (by rw [lst_length]; omega) hR5 hR6
        rw [lst_length, decide_eq_true rfl] at hSm
        have HSm := Lib.hid hSm
        have HBy := Lib.hid (HBz.out.trans (hB11.mono HBz.out.size))
        clear hSm hR5 hR6 hO5 hB11 HMu HGood HO1 HBz
        go_wp2_with fail
        refine HSm.out.mono ?_
        rintro r w12 ⟨rfl, hB12⟩
        have HBf := Lib.hid (HBy.out.trans (hB12.mono HBy.out.size))
        clear hB12 HBy
        go_wp2
        go_ret
        exact ⟨by first | rfl | simp, HBf.out⟩
      · have hNo := Lib.hid (ginv_no HF.out A1 c1 L1 x2 h02 h12 hLl HU.out HL4.out.hR hz)
        have HFt1 := Lib.hid (HFt.out w3 (Below.refl _ _))
        have hBa : Below w.heap.size w (w3.alloc (.cells #[.slice A1 L1.length c1] 29)) := HBx.out.alloc HBx.out.size _
        have HBa := Lib.hid hBa
        by_cases hs : sf1 q x2 L1 = 0
        · have h0 : L1.getD 0 0 = 0 := by
            by_cases h : L1.getD 0 0 = 0
            · exact h
            · exact absurd (by unfold sfi; rw [hs, if_neg (by simp), if_neg h]) hz
          have hv : sfi q x2 L1 = 14 := by unfold sfi; rw [hs, if_neg (by simp), if_pos h0]
          have hBl2 : Below w3.heap.size w3 (w3.alloc (.cells #[.slice A1 L1.length c1] 29)) := (Below.refl _ _).alloc (Nat.le_refl _) _
          have hGt := r25get_any A1 c1 L1 0 _ (w3.alloc (.cells #[.slice A1 L1.length c1] 29)) (by omega) hLl (HL4.out.below hBl2).hR
          rw [h0] at hGt
          have HG1 := Lib.hid hGt
          rw [hv] at hNo
          rw [hs] at HFt1
          clear hz hs h0 hv hBa hGt hBl2 HFt HL4
          go_wp2_with fail
          refine hNo.out.mono ?_
          rintro r w4 ⟨rfl, rfl⟩
          go_wp2_with fail
          refine HFt1.out.mono ?_
          rintro r w4 ⟨rfl, rfl⟩
          go_wp2_with fail
          refine HG1.out.mono ?_
          rintro r w4 ⟨rfl, rfl⟩
          go_wp2
          go_ret
          exact ⟨by first | rfl | simp, HBa.out⟩
        · have hv : sfi q x2 L1 = sf1 q x2 L1 := by unfold sfi; rw [if_pos hs]
          rw [hv] at hNo
          obtain ⟨z, hze⟩ : ∃ z, z = sf1 q x2 L1 := ⟨_, rfl⟩
          rw [← hze] at hNo HFt1 hs
          have t1 : (z == 0) = false := beq_eq_false_iff_ne.2 hs
          have t2 : (z != 0) = true := by simp [hs]
          have t3 : (z == z) = true := by simp
          clear hz hs hv hBa hze HFt HL4
          go_wp2_with fail
          refine hNo.out.mono ?_
          rintro r w4 ⟨rfl, rfl⟩
          go_wp2_with fail
          refine HFt1.out.mono ?_
          rintro r w4 ⟨rfl, rfl⟩
          go_wp2
          go_ret
          exact ⟨by first | rfl | simp, HBa.out⟩
end Go.Proofs.YthhkljfgkihfgaaGreat
