/- The law Radix2Folds. -/
import Derived.Test.YtjjfiidgjiekpaaGreatAl12
import Derived.Test.YtjjfiidgjiekpaaGreatWKnownFToFoldM
import Derived.Test.YtjjfiidgjiekpaaGreatWMadeBToMs12
import Derived.Test.YtjjfiidgjiekpaaGreatWR2UR2D
import Derived.Test.YtjjfiidgjiekpaaGreatWP2R2ABack
import Derived.Test.YtjjfiidgjiekpaaGreatWR2MToPadM
import Derived.Test.YtjjfiidgjiekpaaGreatRowsA
import Derived.Test.YtjjfiidgjiekpaaGreatQTail
import Derived.Deep.RegionLaw
import Derived.Deep.AppendLies
set_option linter.unusedVariables false
set_option linter.unusedSimpArgs false
set_option linter.unusedSectionVars false
set_option linter.unusedVariables false
set_option linter.unusedSimpArgs false
namespace Go.Proofs.YtjjfiidgjiekpaaGreat
open Go.RowKit
open Alg
set_option maxHeartbeats 16000000 in
set_option maxRecDepth 100000 in
theorem radix2Folds_walk (w : World) (A0 : Option Addr) (c0 : Nat) (kind0 kk0 pp0 : Int) (es0 : List Ent) (A1 : Option Addr) (c1 : Nat) (L1 : List Int) (hs0 : SrcA w A0 c0 kind0 kk0 pp0 es0) (hl1 : LstA w A1 c1 L1) (hcap : L1.length ≤ c1) :
    Calls Tryz.prog 8 #[.agg #[.int .i64 kind0, .int .i64 kk0, .int .u64 pp0, .slice A0 es0.length c0], .slice A1 L1.length c1] w fun e w' => e = .returned (.bool true) ∧ Below w.heap.size w w' := by
  have hLl := hl1.hl
  have HU := Lib.hid hl1.hU
  have HS := Lib.hid hs0
  have hB0 := (Below.refl w.heap.size w).alloc (Nat.le_refl _) (.cells #[.int .i64 kind0, .int .i64 kk0, .int .u64 pp0, .slice A0 es0.length c0] 25)
  have b0 : (w.alloc (.cells #[.int .i64 kind0, .int .i64 kk0, .int .u64 pp0, .slice A0 es0.length c0] 25)).cell? ⟨w.heap.size, 0, none⟩ = some (.int .i64 kind0) := World.cell?_alloc_at _ _ _ _ rfl
  have b1 : (w.alloc (.cells #[.int .i64 kind0, .int .i64 kk0, .int .u64 pp0, .slice A0 es0.length c0] 25)).cell? ⟨w.heap.size, 1, none⟩ = some (.int .i64 kk0) := World.cell?_alloc_at _ _ _ _ rfl
  have b2 : (w.alloc (.cells #[.int .i64 kind0, .int .i64 kk0, .int .u64 pp0, .slice A0 es0.length c0] 25)).cell? ⟨w.heap.size, 2, none⟩ = some (.int .u64 pp0) := World.cell?_alloc_at _ _ _ _ rfl
  have b3 : (w.alloc (.cells #[.int .i64 kind0, .int .i64 kk0, .int .u64 pp0, .slice A0 es0.length c0] 25)).cell? ⟨w.heap.size, 3, none⟩ = some (.slice A0 es0.length c0) := World.cell?_alloc_at _ _ _ _ rfl
  have hs1 : w.heap.size + 1 ≤ (w.alloc (.cells #[.int .i64 kind0, .int .i64 kk0, .int .u64 pp0, .slice A0 es0.length c0] 25)).heap.size := by simp
  have hAl := Lib.hid (alive12_any (w.alloc (.cells #[.int .i64 kind0, .int .i64 kk0, .int .u64 pp0, .slice A0 es0.length c0] 25)))
  have HL0 := Lib.hid hl1
  clear hs0 hl1
  go_enter Tryz.func8, Tryz.ntmps8
  go_wp2_with fail
  generalize w.alloc (.cells #[.int .i64 kind0, .int .i64 kk0, .int .u64 pp0, .slice A0 es0.length c0] 25) = w1 at *
  refine hAl.out.mono ?_
  rintro r w2 ⟨rfl, hB2⟩
  have d0 := cell_keep hB2 (by omega) b0
  have d1 := cell_keep hB2 (by omega) b1
  have d2 := cell_keep hB2 (by omega) b2
  have d3 := cell_keep hB2 (by omega) b3
  have hBw := hB0.trans (hB2.mono (show w.heap.size ≤ w1.heap.size by omega))
  clear b0 b1 b2 b3 hB0 hB2 hAl
  go_wp2_with fail
  refine (made_src (HS.out.below hBw)).mono ?_
  rintro r w3 ⟨v, p', g', rfl, hM, hB3⟩
  have hBx := hBw.trans (hB3.mono hBw.size)
  have HL4 := Lib.hid (HL0.out.below hBx)
  have HM := Lib.hid hM
  have HBx := Lib.hid hBx
  clear d0 d1 d2 d3 hBw hM hs1 hB3 HL0 hBx
  rcases HM.out with ⟨rfl, rfl, rfl⟩ | ⟨p3, hC, hF⟩
  · clear HM
    go_wp2
    go_ret
    exact ⟨by first | rfl | simp, HBx.out⟩
  · obtain ⟨q, rfl⟩ := Int.eq_ofNat_of_zero_le (show 0 ≤ p' by omega)
    have pm := hF.pmx
    haveI : NeZero q := ⟨by omega⟩
    obtain ⟨hp, hord⟩ := hC.nat
    have hg := hC.gr
    have HO : Hid (Ord (zt q g') (q - 1)) := Lib.hid hord
    have HP := Lib.hid hp
    have HF := Lib.hid hF
    have tp : ((q : Int) == 0) = false := by simp; omega
    have HPM := Lib.hid (And.intro p3 pm)
    have hg0 : 0 ≤ g' := by omega
    have hqg : Hid (g' < (q : Int)) := Lib.hid hg.2
    clear HM hC hp hord hg
    by_cases cc1 : L1.length < 2
    · have t1 : decide ((L1.length : Int) < 2) = true := decide_eq_true (by omega)
      go_wp2
      go_ret
      exact ⟨by first | rfl | simp, HBx.out⟩
    have t1 : decide ((L1.length : Int) < 2) = false := decide_eq_false (by omega)
    by_cases cc2 : 128 < L1.length
    · have t2 : decide ((128 : Int) < (L1.length : Int)) = true := decide_eq_true (by omega)
      go_wp2
      go_ret
      exact ⟨by first | rfl | simp, HBx.out⟩
    have t2 : decide ((128 : Int) < (L1.length : Int)) = false := decide_eq_false (by omega)
    have l0 : 2 ≤ L1.length := by omega
    have l1 : L1.length ≤ 128 := by omega
    have hFi := Lib.hid (r12fits_any L1.length w3 (by omega) (by omega))
    have hCk := Lib.hid (r11check_any q L1.length 128 w3 HPM.out.1 HPM.out.2 (by omega) (by omega))
    have hGd := Lib.hid (r11good_any A1 c1 _ q L1 w3 hLl HL4.out.hR)
    clear cc1 cc2
    by_cases c3 : p2 (L1.length : Int) = true
    case neg =>
      have c3' : p2 (L1.length : Int) = false := by simpa using c3
      rw [c3'] at hFi
      clear c3 c3' hCk hGd
      go_wp2_with fail
      refine hFi.out.mono ?_
      rintro r w4 ⟨rfl, rfl⟩
      go_wp2
      go_ret
      exact ⟨by first | rfl | simp, HBx.out⟩
    rw [c3] at hFi
    by_cases c4 : chk q L1.length 128 = 0
    case neg =>
      obtain ⟨z, hze⟩ : ∃ z, z = chk q L1.length 128 := ⟨_, rfl⟩
      rw [← hze] at hCk c4
      have tz : (z != 0) = true := by simp [c4]
      clear c3 c4 hze hGd
      go_wp2_with fail
      refine hFi.out.mono ?_
      rintro r w4 ⟨rfl, rfl⟩
      go_wp2_with fail
      refine hCk.out.mono ?_
      rintro r w4 ⟨rfl, rfl⟩
      go_wp2
      go_ret
      exact ⟨by first | rfl | simp, HBx.out⟩
    rw [c4] at hCk
    by_cases c5 : goodB q L1 = true
    case neg =>
      have c5' : goodB q L1 = false := by simpa using c5
      rw [c5'] at hGd
      clear c3 c4 c5 c5'
      go_wp2_with fail
      refine hFi.out.mono ?_
      rintro r w4 ⟨rfl, rfl⟩
      go_wp2_with fail
      refine hCk.out.mono ?_
      rintro r w4 ⟨rfl, rfl⟩
      go_wp2_with fail
      refine hGd.out.mono ?_
      rintro r w4 ⟨rfl, rfl⟩
      go_wp2
      go_ret
      exact ⟨by first | rfl | simp, HBx.out⟩
    rw [c5] at hGd
    have HC3 := Lib.hid c3
    have HC4 := Lib.hid c4
    have HC5 := Lib.hid c5
    obtain ⟨m, hm⟩ : ∃ m, L1.length = 2 * m := by
      obtain ⟨k, hk, he⟩ := pow2_of c3
      rcases k with _ | k
      · simp at he; omega
      · exact ⟨2 ^ k, by rw [he, Nat.pow_succ]; omega⟩
    have HM2 := Lib.hid hm
    have em : (L1.length : Int) / 2 = (m : Int) := by omega
    have em' : (L1.length : Int).tdiv 2 = (m : Int) := by rw [Int.tdiv_eq_ediv_of_nonneg (by omega)]; exact em
    have m1 : 1 ≤ m := by omega
    have m2 : m ≤ 64 := by omega
    clear c3 c4 c5 hm
    go_wp2_with fail
    refine hFi.out.mono ?_
    rintro r w4 ⟨rfl, rfl⟩
    go_wp2_with fail
    refine hCk.out.mono ?_
    rintro r w4 ⟨rfl, rfl⟩
    go_wp2_with fail
    refine hGd.out.mono ?_
    rintro r w4 ⟨rfl, rfl⟩
    clear hFi hCk hGd
    obtain ⟨i0, hi, hz0, hz1, hz2⟩ := info_parts info_u64
    go_wp2_with (at_make; refine wpList_make_full _ rfl _ _ 60 rfl w3.heap.size 22 i0 (.int .u64 0) 1 Tryz.underlying60 hi hz0 hz1 _ _ _ _ m rfl rfl ?l1 ?l2 ?b2 ?b3 (Nat.le_refl _) ?_)
    case l1 => omega
    case l2 => omega
    case b2 => rw [hz2]; omega
    case b3 => unfold maxLen; omega
    intro w8 hown hgrow
    obtain ⟨x, hx⟩ : ∃ x : Nat → Fin q, x = rz q L1 := ⟨_, rfl⟩
    have HX := Lib.hid hx
    obtain ⟨h, hh⟩ : ∃ h : Nat → Fin q, h = fun j => x j + x (j + m) := ⟨_, rfl⟩
    have HH : Hid (∀ j, h j = x j + x (j + m)) := Lib.hid (fun j => by rw [hh])
    have HL : Hid (∀ i, i < L1.length → L1.getD i 0 = ((x i).val : Int)) := Lib.hid (fun i hi => by
      have h1 := lst_get (f := rz q L1) hi
      rw [lst_rz HC5.out HU.out, ← hx] at h1
      exact h1)
    clear hx hh
    have hown0 : OwnU w8 w3.heap.size (.slice (some ⟨w3.heap.size, 0, none⟩) m m) m (part m (fun j => ((h j).val : Int)) 0) := by
      unfold OwnU
      rw [part_zero, ints_zero', ← toList_madeCells_one]; exact hown
    have hB8 : Below w3.heap.size w3 w8 := (Below.refl _ _).grown hgrow (Nat.le_refl _) (fun k h => by cases h)
    obtain ⟨G, hG⟩ : ∃ G, G = w3.heap.size := ⟨_, rfl⟩
    rw [← hG]
    have hGe : w3.heap.size ≤ G := by omega
    rw [show (⟨w3.heap.size, 0, none⟩ : Addr) = ⟨G, 0, none⟩ by rw [hG]] at hown0
    obtain ⟨bA, oA, hAe, hbA, hcA⟩ := HL4.out.hR (by omega)
    subst hAe
    have nSG : bA ≠ G := by omega
    have nSG' : G ≠ bA := by omega
    have HcA : Hid (∀ i, i < L1.length → w3.cell? ⟨bA, oA + i, none⟩ = some (.int .u64 ((x i).val : Int))) := Lib.hid (fun i hi => by rw [← HL.out i hi]; exact hcA i hi)
    have HO8 := Lib.hid hown0
    have HB8 := Lib.hid hB8
    clear hown hgrow hown0 hB8 hG hcA
    go_wp2
    go_loopw [62] (fun I wr => ∃ i : Nat, I = .int .i64 i ∧ i ≤ m ∧ Hid (OwnU wr w3.heap.size (.slice (some ⟨G, 0, none⟩) m m) m (part m (fun j => ((h j).val : Int)) i)) ∧ Hid (Below w3.heap.size w3 wr)) (fun I _ => m - (intOf I).toNat)
    case atStart => exact ⟨0, rfl, by omega, HO8, HB8⟩
    case round =>
      clear HO8 HB8
      obtain ⟨i, rfl, him, hO, hBr⟩ := hrel
      by_cases hlt : i < m
      · have k1 : i + m < L1.length := by have := HM2.out; omega
        have c0 := cell_keep hBr.out hbA (HcA.out i (by omega))
        have c1' := cell_keep hBr.out hbA (HcA.out (i + m) k1)
        have hF1 := HF.out.below hBr.out
        have hlp : ∀ x : Fin q, 0 ≤ ((x.val : Nat) : Int) ∧ ((x.val : Nat) : Int) ≤ 18446744073709551615 := fun x => by have := x.isLt; have := HPM.out.2; omega
        have hst : (part m (fun j => ((h j).val : Int)) i).set i ((h i).val : Int) = part m (fun j => ((h j).val : Int)) (i + 1) := part_step
        rw [HH.out i] at hst
        obtain ⟨x0, hx0⟩ : ∃ x0, x0 = x i := ⟨_, rfl⟩
        obtain ⟨y0, hy0⟩ : ∃ y0, y0 = x (i + m) := ⟨_, rfl⟩
        rw [← hx0] at c0 hst
        rw [← hy0] at c1' hst
        have HAd : Hid (∀ n, Calls Tryz.prog 31 #[v, .int .u64 (x0.val : Int), .int .u64 (y0.val : Int)] (wr.drewN n) fun e w' => e = .returned (.int .u64 ((x0 + y0).val : Int)) ∧ ∃ k, w' = (wr.drewN n).drewN k) := Lib.hid (fun n => by
          have h1 := fadd_fd (hF1.drewN n) (x0.val : Int) (y0.val : Int) (hlp x0).1 (hlp x0).2 (hlp y0).1 (hlp y0).2
          rw [ev_add, zt_of_val, zt_of_val] at h1
          exact h1)
        obtain ⟨z0, hz0'⟩ : ∃ z0, z0 = x0 + y0 := ⟨_, rfl⟩
        rw [← hz0'] at HAd hst
        have HST := Lib.hid hst
        obtain ⟨g0', f0, _⟩ := own_set hO.out i hlt
        have i1 : (0 : Int) ≤ (i : Int) := by omega
        have i2 : (i : Int) < (m : Int) := by omega
        have i3 : (i : Int) + (m : Int) < (L1.length : Int) := by omega
        clear hx0 hy0 hst hz0' hlp hF1 k1
        go_upto_region 11 with fail
        refine wp_region_qtail 15 (by kernel_rfl) (by kernel_rfl) ?_
        simp only [List.take_succ_cons, List.take_zero, List.drop_succ_cons, List.drop_zero]
        repeat (go_big_quiet_step ((first | (go_at_call 31; exact Calls.quiet_of (HAd.out _)))))
        refine wpQuiet_nil ?_
        intro _ hw'
        obtain ⟨nq, hw''⟩ := hw'
        subst hw''
        have hO1 := ((hO.out.drewN nq).set i hlt (z0.val : Int)).1
        rw [HST.out] at hO1
        have HO1 := Lib.hid hO1
        have HB1 : Hid (Below w3.heap.size w3 ((wr.drewN nq).setCell ⟨G, i, none⟩ (.int .u64 (z0.val : Int)))) := Lib.hid ((below_drewN hBr.out nq).setCell hGe _)
        clear hO1 hO hBr
        go_wp2
        go_roundw
        case rel => exact ⟨i + 1, by go_num, by omega, HO1, HB1⟩
        case measure => simp [intOf]; omega
      · have hie : i = m := by omega
        have hO1 := hO.out
        have hpf : part m (fun j => ((h j).val : Int)) m = lst m h := part_full _ _
        rw [hie, hpf] at hO1
        have HO1 := Lib.hid hO1
        have tj : decide ((i : Int) < (m : Int)) = false := decide_eq_false (by omega)
        clear hie hO1 hO hpf
        go_wp2_with fail
        have hf0 : fault13 q L1 = 0 := fault13_of (chk_mono HC4.out (by omega)) HC3.out HC5.out
        have hp2m : p2 (m : Int) = true := by
          have h1 := HC3.out
          rw [HM2.out, p2_cast] at h1
          rw [p2_cast]
          unfold p2N at *
          simp at *
          omega
        have hcm : chk q m 4096 = 0 := by
          obtain ⟨h1, h2, h3⟩ := chk_zero HC4.out
          unfold chk
          rw [if_neg (by omega), if_neg (by omega), if_pos]
          rw [HM2.out] at h3
          exact Int.emod_eq_zero_of_dvd (Int.dvd_trans ⟨2, by omega⟩ (Int.dvd_of_emod_eq_zero h3))
        have hU1 := up_yes HP.out HO.out hg0 hqg.out ((HF.out.below hBr.out).mono hBr.out.size) (some ⟨bA, oA, none⟩) c1 L1 false HU.out (HL4.out.below hBr.out).hR hf0
        have hUp : ∀ (F : Nat → Fin q) wz (V : Value) (B : Nat), Below w3.heap.size w3 wz → OwnU wz B V m (lst m F) → Calls Tryz.prog 37 #[v, V, .bool false] wz fun e w' => ∃ V, e = .returned (.tuple #[V, .int .i64 0]) ∧ OwnU w' wz.heap.size V m (lst m (tr (zt q g') m false F)) ∧ Below wz.heap.size wz w' := fun F wz V B hz hV => by
          obtain ⟨X, cx, rfl, hR⟩ := hV.rd
          have h1 := up_yes HP.out HO.out hg0 hqg.out ((HF.out.below hz).mono hz.size) X cx (lst m F) false (lst_u64 HPM.out.2 _ _) hR (fault13_lst F hcm hp2m)
          have h2 : lst m (tr (zt q g') m false (rz q (lst m F))) = lst m (tr (zt q g') m false F) := lst_congr fun i _ => tr_rz _ _ _ _ _
          rw [lst_length, h2] at h1
          exact h1
        have HU1 := Lib.hid hU1
        have HUp := Lib.hid hUp
        have HF0 := Lib.hid hf0
        have HP2 := Lib.hid hp2m
        have HCM := Lib.hid hcm
        clear hU1 hUp hf0 hp2m hcm
        refine HU1.out.mono ?_
        rintro r w10 ⟨V10, rfl, hO10, hB10⟩
        have HO10 := Lib.hid hO10
        have HB10 := Lib.hid (hBr.out.trans (hB10.mono hBr.out.size))
        have HO1 := Lib.hid (HO1.out.below hB10)
        clear hO10 hB10 HU1 hBr
        go_wp2_with fail
        refine (HUp.out h w10 _ _ HB10.out HO1.out).mono ?_
        rintro r w11 ⟨V11, rfl, hO11, hB11⟩
        have HO11 := Lib.hid hO11
        have HO10 := Lib.hid (HO10.out.below hB11)
        have HB11 := Lib.hid (HB10.out.trans (hB11.mono HB10.out.size))
        clear hO11 hB11 HO1 HB10
        have k3 : m ≤ c1 := by omega
        have k3' : (m : Int) ≤ (c1 : Int) := by omega
        have v1 : IntKind.i64.wrap (m : Int) = (m : Int) := IntWalk.i64_in _ (by omega)
        have v2 : (0 : Int) ≤ (m : Int) := by omega
        have hBe : Below w11.heap.size w11 ((w11.alloc (.cells #[] 22)).drew) := below_drewN ((Below.refl w11.heap.size w11).alloc (Nat.le_refl _) (.cells #[] 22)) 1
        have HBe := Lib.hid hBe
        have hownE : ((w11.alloc (.cells #[] 22)).drew).ownsRow w11.heap.size 22 1 (.slice (some ⟨w11.heap.size, 0, none⟩) 0 0) 0 [] := World.ownsRow_lit w11 #[] 0 (Nat.le_refl _) (by unfold maxLen; omega) rfl
        have HowE := Lib.hid hownE
        have HTk : Hid (∀ wz, Below w11.heap.size w11 wz → ∀ j u, (ints .u64 (L1.take m))[j]? = some u → wz.cell? ((⟨bA, oA, none⟩ : Addr).add j) = some u) := Lib.hid (fun wz hz j u hu => by
          have hj : j < (L1.take m).length := by
            rcases Nat.lt_or_ge j (L1.take m).length with h | h
            · exact h
            · rw [List.getElem?_eq_none (by rw [ints_length]; exact h)] at hu; cases hu
          have hj' : j < m := by rw [List.length_take] at hj; omega
          have hz' := HB11.out.trans (hz.mono HB11.out.size)
          have h1 := cell_keep hz' hbA (HcA.out j (by omega))
          rw [← HL.out j (by omega)] at h1
          rw [addrN]
          simp [ints, hj', List.getElem?_take] at hu
          obtain ⟨x, hx, rfl⟩ := hu
          rw [h1, List.getD_eq_getElem?_getD, hx]; rfl)
        have HTl : Hid ((ints .u64 (L1.take m)).length = m * 1) := Lib.hid (by rw [ints_length, List.length_take]; omega)
        have HT1 : Hid (∀ u ∈ ints .u64 (L1.take m), u.oneCell' = true) := Lib.hid (fun u hu => by
          obtain ⟨x, _, rfl⟩ := List.mem_map.1 hu
          rfl)
        clear hBe hownE
        have HDn : Hid (∀ wz (V : Value), Below w11.heap.size w11 wz → wz.ownsRow w11.heap.size 22 1 V (m + m) (ints .u64 (L1.take m) ++ ints .u64 (L1.take m)) → Calls Tryz.prog 38 #[v, V, .bool false] wz fun e w' => ∃ V, e = .returned (.tuple #[V, .int .i64 0]) ∧ OwnU w' wz.heap.size V L1.length (lst L1.length (tr (zt q g') L1.length false (rz q (L1.take m ++ L1.take m)))) ∧ Below wz.heap.size wz w') := Lib.hid (fun wz V hz hV => by
          have hl : (L1.take m ++ L1.take m).length = m + m := by have := HM2.out; rw [List.length_append, List.length_take]; omega
          have hll : m + m = L1.length := by have := HM2.out; omega
          have hV' : OwnU wz w11.heap.size V (m + m) (L1.take m ++ L1.take m) := by
            unfold OwnU
            have : ints .u64 (L1.take m ++ L1.take m) = ints .u64 (L1.take m) ++ ints .u64 (L1.take m) := by unfold ints; rw [List.map_append]
            rw [this]; exact hV
          obtain ⟨X, cx, rfl, hR⟩ := hV'.rd
          have hz' := HB11.out.trans (hz.mono HB11.out.size)
          have hU2 : U64s (L1.take m ++ L1.take m) := fun x hx => by
            rcases List.mem_append.1 hx with h | h <;> exact HU.out x (List.mem_of_mem_take h)
          have hG2 : goodB q (L1.take m ++ L1.take m) = true := by
            have h1 := HC5.out
            unfold goodB at *
            rw [List.all_eq_true] at *
            intro x hx
            rcases List.mem_append.1 hx with h | h <;> exact h1 x (List.mem_of_mem_take h)
          have hf2 : fault13 q (L1.take m ++ L1.take m) = 0 := fault13_of (by rw [hl, hll]; exact chk_mono HC4.out (by omega)) (by rw [hl, hll]; exact HC3.out) hG2
          have h1 := down_yes HP.out HO.out hg0 hqg.out ((HF.out.below hz').mono hz'.size) X cx (L1.take m ++ L1.take m) false hU2 hR hf2
          rw [hl, hll] at h1
          rw [hll]
          exact h1)
        go_upto_region 15 with fail
        go_region_law (first | (refine step_append_lies _ rfl (.tmp 96) (.tmp 100) 60 rfl w11.heap.size 22 i0 (.int .u64 0) 1 8 Tryz.underlying60 hi hz0 hz1 hz2 rfl (by decide) (.slice (some ⟨w11.heap.size, 0, none⟩) 0 0) 0 [] (by simp [Act.eval, Act.put]) HowE.out ⟨bA, oA, none⟩ m c1 (ints .u64 (L1.take m)) (by simp [Act.eval, Act.put]) HTl.out (HTk.out _ HBe.out) HT1.out m1 (by unfold maxLen; omega) (by omega) HBe.out.size _ rfl ?_; intro g1' cap1 wq hownq hgrowq horq hltq; simp only [Nat.zero_add, List.nil_append] at hownq ⊢; have HBq := Lib.hid (HBe.out.grown hgrowq HBe.out.size (fun k hk => by simp [Value.ownBlock] at hk; omega)); have HowQ := Lib.hid hownq; have hgq := (World.ownsRow.lt hownq g1' rfl).1; clear hownq hgrowq horq) | (refine step_append_lies _ rfl (.tmp 101) (.tmp 105) 60 rfl w11.heap.size 22 i0 (.int .u64 0) 1 8 Tryz.underlying60 hi hz0 hz1 hz2 rfl (by decide) (.slice (some ⟨g1', 0, none⟩) m cap1) m (ints .u64 (L1.take m)) (by simp [Act.eval, Act.put]) HowQ.out ⟨bA, oA, none⟩ m c1 (ints .u64 (L1.take m)) (by simp [Act.eval, Act.put]) HTl.out (HTk.out _ HBq.out) HT1.out m1 (by unfold maxLen; omega) (by omega) HBq.out.size _ rfl ?_; intro g2' cap2 ws hownr hgrowr horr hltr; have HBs := Lib.hid (HBq.out.grown hgrowr HBq.out.size (fun k hk => by simp [Value.ownBlock] at hk; omega)); have HowS := Lib.hid hownr; clear hownr hgrowr horr) | (go_simp; go_at_call 38; refine (HDn.out _ _ HBs.out HowS.out).mono ?_; rintro rq wt ⟨Vt, rfl, hOt, hBt⟩; have HOt := Lib.hid hOt; have HBt := Lib.hid (HBs.out.trans (hBt.mono HBs.out.size)); clear hOt hBt))
        go_wp2_with fail
        have HZt := Lib.hid (HB11.out.trans (HBt.out.mono HB11.out.size))
        have HTm : Hid ((L1.take m).length = m) := Lib.hid (by have := HM2.out; rw [List.length_take]; omega)
        have HD2 : Hid (Calls Tryz.prog 38 #[v, .slice (some ⟨bA, oA, none⟩) m c1, .bool false] wt fun e w' => ∃ V, e = .returned (.tuple #[V, .int .i64 0]) ∧ OwnU w' wt.heap.size V m (lst m (tr (zt q g') m false (rz q (L1.take m)))) ∧ Below wt.heap.size wt w') := Lib.hid (by
          have hl := HTm.out
          have hz' := HZt.out
          have hU2 : U64s (L1.take m) := fun x hx => HU.out x (List.mem_of_mem_take hx)
          have hG2 : goodB q (L1.take m) = true := by
            have h1 := HC5.out
            unfold goodB at *
            rw [List.all_eq_true] at *
            intro x hx
            exact h1 x (List.mem_of_mem_take hx)
          have hf2 : fault13 q (L1.take m) = 0 := fault13_of (by rw [hl]; exact HCM.out) (by rw [hl]; exact HP2.out) hG2
          have hRt : RdI wt wt.heap.size .u64 (some ⟨bA, oA, none⟩) (L1.take m) := fun _ => ⟨bA, oA, rfl, Nat.lt_of_lt_of_le hbA hz'.size, fun j hj => by
            rw [hl] at hj
            have h1 := cell_keep hz' hbA (HcA.out j (by have := HM2.out; omega))
            rw [h1, ← HL.out j (by have := HM2.out; omega)]
            congr 2
            rw [List.getD_eq_getElem?_getD, List.getD_eq_getElem?_getD, List.getElem?_take, if_pos hj]⟩
          have h1 := down_yes HP.out HO.out hg0 hqg.out ((HF.out.below hz').mono hz'.size) (some ⟨bA, oA, none⟩) c1 (L1.take m) false hU2 hRt hf2
          rw [hl] at h1
          exact h1)
        refine HD2.out.mono ?_
        rintro e w20 ⟨Vd, rfl, hOd, hBd⟩
        have HBz := Lib.hid (HZt.out.trans (hBd.mono HZt.out.size))
        obtain ⟨hdv, hd0⟩ := chk_dvd (by omega) HC4.out
        rw [HM2.out] at hdv
        have hm0 : 0 < m := by omega
        obtain ⟨Bf, hBf⟩ : ∃ Bf : Nat → Fin q, Bf = tr (zt q g') m false h := ⟨_, rfl⟩
        obtain ⟨Df, hDf⟩ : ∃ Df : Nat → Fin q, Df = tr (zt q g') m false (rz q (L1.take m)) := ⟨_, rfl⟩
        have HVa : Hid (∀ k, k < m → tr (zt q g') L1.length false (rz q L1) (2 * k) = Bf k) := Lib.hid (fun k hk => by
          rw [hBf, HM2.out, ← HX.out, ← tr_fold HP.out HO.out hdv hm0]
          exact tr_congr (fun j _ => (HH.out j).symm) k)
        have hcat : ∀ j, j < m → rz q (L1.take m ++ L1.take m) j = rz q (L1.take m) j ∧ rz q (L1.take m ++ L1.take m) (j + m) = rz q (L1.take m) j := fun j hj => by
          unfold rz
          rw [List.getD_eq_getElem?_getD, List.getD_eq_getElem?_getD, List.getD_eq_getElem?_getD, List.getElem?_append_left (by rw [HTm.out]; exact hj), List.getElem?_append_right (by rw [HTm.out]; omega), HTm.out, show j + m - m = j by omega]
          exact ⟨rfl, rfl⟩
        have HVc : Hid (∀ k, k < m → tr (zt q g') L1.length false (rz q (L1.take m ++ L1.take m)) (2 * k) = Df k + Df k ∧ tr (zt q g') L1.length false (rz q (L1.take m ++ L1.take m)) (2 * k + 1) = 0) := Lib.hid (fun k hk => by
          rw [hDf, HM2.out]
          exact ⟨tr_twice_even HP.out HO.out hdv hm0 _ _ (fun j hj => (hcat j hj).1) (fun j hj => (hcat j hj).2) k, tr_twice_odd HP.out HO.out hdv hm0 _ (rz q (L1.take m)) (fun j hj => (hcat j hj).1) (fun j hj => (hcat j hj).2) k⟩)
        have hoa := (HO10.out.below HBt.out).below hBd
        have hob := (HO11.out.below HBt.out).below hBd
        have hoc := HOt.out.below hBd
        rw [← hBf] at hob
        rw [← hDf] at hOd
        obtain ⟨Xa, ca, rfl, hRa⟩ := hoa.rd
        obtain ⟨Xb, cb, rfl, hRb⟩ := hob.rd
        obtain ⟨Xc, cc, rfl, hRc⟩ := hoc.rd
        obtain ⟨Xd, cd, rfl, hRd⟩ := hOd.rd
        obtain ⟨ba, pa, rfl, _, hca⟩ := hRa (by rw [lst_length]; omega)
        obtain ⟨bb, pb, rfl, _, hcb⟩ := hRb (by rw [lst_length]; omega)
        obtain ⟨bc, pc, rfl, _, hcc⟩ := hRc (by rw [lst_length]; omega)
        obtain ⟨bd, pd, rfl, _, hcd⟩ := hRd (by rw [lst_length]; omega)
        have HCe : Hid (∀ k, k < m → ∀ n, (w20.drewN n).cell? ⟨bb, pb + k, none⟩ = some (.int .u64 ((Bf k).val : Int)) ∧ (w20.drewN n).cell? ⟨ba, pa + 2 * k, none⟩ = some (.int .u64 ((Bf k).val : Int)) ∧ (w20.drewN n).cell? ⟨bc, pc + 2 * k, none⟩ = some (.int .u64 ((Df k + Df k : Fin q).val : Int)) ∧ (w20.drewN n).cell? ⟨bc, pc + (2 * k + 1), none⟩ = some (.int .u64 0) ∧ (w20.drewN n).cell? ⟨bd, pd + k, none⟩ = some (.int .u64 ((Df k).val : Int))) := Lib.hid (fun k hk n => by
          have l2 : 2 * k < L1.length := by have := HM2.out; omega
          have l3 : 2 * k + 1 < L1.length := by have := HM2.out; omega
          have e1 := hcb k (by rw [lst_length]; exact hk)
          have e2 := hca (2 * k) (by rw [lst_length]; exact l2)
          have e3 := hcc (2 * k) (by rw [lst_length]; exact l2)
          have e4 := hcc (2 * k + 1) (by rw [lst_length]; exact l3)
          have e5 := hcd k (by rw [lst_length]; exact hk)
          rw [lst_get hk] at e1 e5
          rw [lst_get l2, HVa.out k hk] at e2
          rw [lst_get l2, (HVc.out k hk).1] at e3
          rw [lst_get l3, (HVc.out k hk).2] at e4
          exact ⟨e1, e2, e3, e4, e5⟩)
        have HAd : Hid (∀ k, k < m → ∀ W, Below w3.heap.size w3 W → Calls Tryz.prog 31 #[v, .int .u64 ((Df k).val : Int), .int .u64 ((Df k).val : Int)] W fun e w' => e = .returned (.int .u64 ((Df k + Df k : Fin q).val : Int)) ∧ ∃ i, w' = W.drewN i) := Lib.hid (fun k hk W hW => by
          have hlt := (Df k).isLt
          have hmx := HPM.out.2
          have h1 := fadd_fd (HF.out.below hW) ((Df k).val : Int) ((Df k).val : Int) (by omega) (by omega) (by omega) (by omega)
          rw [ev_add, zt_of_val] at h1
          exact h1)
        clear hBf hDf hcat hoa hob hoc hOd hRa hRb hRc hRd hca hcb hcc hcd hdv hd0 hBd HD2 HVa HVc HO10 HO11 HOt HBt HZt
        go_wp2_with fail
        go_loopw [161] (fun I wr => ∃ k n : Nat, I = .int .i64 k ∧ k ≤ m ∧ wr = w20.drewN n) (fun I _ => m - (intOf I).toNat)
        case atStart => exact ⟨0, 0, rfl, by omega, rfl⟩
        case round =>
          obtain ⟨k, nz, rfl, hkm, rfl⟩ := hrel
          by_cases hlt : k < m
          · obtain ⟨e1, e2, e3, e4, e5⟩ := HCe.out k hlt nz
            have HAk' : Hid (∀ y, Calls Tryz.prog 31 #[v, .int .u64 ((Df k).val : Int), .int .u64 ((Df k).val : Int)] ((w20.drewN nz).drewN y) fun e w' => e = .returned (.int .u64 ((Df k + Df k : Fin q).val : Int)) ∧ ∃ i, w' = ((w20.drewN nz).drewN y).drewN i) := Lib.hid (fun y => HAd.out k hlt _ (below_drewN (below_drewN HBz.out nz) y))
            have HW : Hid (∀ y, ∃ j, (w20.drewN nz).drewN y = w20.drewN j) := Lib.hid (fun y => ⟨nz + y, by simp⟩)
            obtain ⟨E, hE⟩ : ∃ E : Int, E = ((Df k + Df k : Fin q).val : Int) := ⟨_, rfl⟩
            obtain ⟨D, hD⟩ : ∃ D : Int, D = ((Df k).val : Int) := ⟨_, rfl⟩
            obtain ⟨Bk, hB⟩ : ∃ Bk : Int, Bk = ((Bf k).val : Int) := ⟨_, rfl⟩
            rw [← hE] at e3 HAk'
            rw [← hD] at e5 HAk'
            rw [← hB] at e1 e2
            have i1 : (0 : Int) ≤ (k : Int) := by omega
            have i2 : (k : Int) < (m : Int) := by omega
            have i3 : 2 * (k : Int) < (L1.length : Int) := by have := HM2.out; omega
            have i4 : 2 * (k : Int) + 1 < (L1.length : Int) := by have := HM2.out; omega
            have n1 : (2 * (k : Int)).toNat = 2 * k := by omega
            have n2 : (2 * (k : Int) + 1).toNat = 2 * k + 1 := by omega
            have v3 : IntKind.i64.wrap (2 * (k : Int)) = 2 * (k : Int) := IntWalk.i64_in _ (by omega)
            have v4 : IntKind.i64.wrap (2 * (k : Int) + 1) = 2 * (k : Int) + 1 := IntWalk.i64_in _ (by omega)
            have b1 : (Bk != Bk) = false := by simp
            have b2 : (E != E) = false := by simp
            clear hE hD hB
            generalize w20.drewN nz = wq at *
            go_wp2_with fail
            go_quiet ((go_at_call 31; exact Calls.quiet_of (HAk'.out _)))
            obtain ⟨jz, hjz⟩ := HW.out nq
            have HJ := Lib.hid hjz
            clear hjz
            go_wp2
            go_roundw
            case rel => exact ⟨k + 1, jz, by go_num, by omega, HJ.out⟩
            case measure => simp [intOf]; omega
          · have hie : k = m := by omega
            have tj : decide ((k : Int) < (m : Int)) = false := decide_eq_false (by omega)
            clear hie
            go_wp2
            go_ret
            exact ⟨by first | rfl | simp, HBx.out.trans ((below_drewN HBz.out nz).mono HBx.out.size)⟩
