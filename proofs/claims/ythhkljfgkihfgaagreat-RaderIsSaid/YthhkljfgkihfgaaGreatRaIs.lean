/- The law RaderIs. -/
import Derived.Test.YthhkljfgkihfgaaGreatRaR
import Derived.Test.YthhkljfgkihfgaaGreatRef16F
import Derived.Test.YthhkljfgkihfgaaGreatMs16
import Derived.Test.YthhkljfgkihfgaaGreatSame16
import Derived.Test.YthhkljfgkihfgaaGreatR11
import Derived.Test.YthhkljfgkihfgaaGreatAl5
import Derived.Laws.AppendOwnNone
set_option linter.unusedVariables false
set_option linter.unusedSimpArgs false
set_option linter.unusedSectionVars false
set_option linter.unusedVariables false
set_option linter.unusedSimpArgs false
namespace Go.Proofs.YthhkljfgkihfgaaGreat
open Go.RowKit
open Alg
set_option maxHeartbeats 4000000 in
set_option maxRecDepth 100000 in
theorem raderIs_walk (w : World) (A0 : Option Addr) (c0 : Nat) (kind0 kk0 pp0 : Int) (es0 : List Ent) (A1 : Option Addr) (c1 : Nat) (L1 : List Int) (b2 : Bool) (hs0 : SrcA w A0 c0 kind0 kk0 pp0 es0) (hl1 : LstA w A1 c1 L1) :
    Calls Tryz.prog 12 #[.agg #[.int .i64 kind0, .int .i64 kk0, .int .u64 pp0, .slice A0 es0.length c0], .slice A1 L1.length c1, .bool b2] w fun e w' => e = .returned (.bool true) ∧ Below w.heap.size w w' := by
  obtain ⟨i0, hi, hz0, hz1, hz2⟩ := info_parts info_u64
  have hLl := hl1.hl
  have HU := Lib.hid hl1.hU
  have HS := Lib.hid hs0
  have hB0 := (Below.refl w.heap.size w).alloc (Nat.le_refl _) (.cells #[.int .i64 kind0, .int .i64 kk0, .int .u64 pp0, .slice A0 es0.length c0] 28)
  have b0 : (w.alloc (.cells #[.int .i64 kind0, .int .i64 kk0, .int .u64 pp0, .slice A0 es0.length c0] 28)).cell? ⟨w.heap.size, 0, none⟩ = some (.int .i64 kind0) := World.cell?_alloc_at _ _ _ _ rfl
  have b1 : (w.alloc (.cells #[.int .i64 kind0, .int .i64 kk0, .int .u64 pp0, .slice A0 es0.length c0] 28)).cell? ⟨w.heap.size, 1, none⟩ = some (.int .i64 kk0) := World.cell?_alloc_at _ _ _ _ rfl
  have b2 : (w.alloc (.cells #[.int .i64 kind0, .int .i64 kk0, .int .u64 pp0, .slice A0 es0.length c0] 28)).cell? ⟨w.heap.size, 2, none⟩ = some (.int .u64 pp0) := World.cell?_alloc_at _ _ _ _ rfl
  have b3 : (w.alloc (.cells #[.int .i64 kind0, .int .i64 kk0, .int .u64 pp0, .slice A0 es0.length c0] 28)).cell? ⟨w.heap.size, 3, none⟩ = some (.slice A0 es0.length c0) := World.cell?_alloc_at _ _ _ _ rfl
  have hs1 : w.heap.size + 1 ≤ (w.alloc (.cells #[.int .i64 kind0, .int .i64 kk0, .int .u64 pp0, .slice A0 es0.length c0] 28)).heap.size := by simp
  have hAl := Lib.hid (alive16_any (w.alloc (.cells #[.int .i64 kind0, .int .i64 kk0, .int .u64 pp0, .slice A0 es0.length c0] 28)))
  have HL0 := Lib.hid hl1
  clear hs0 hl1
  go_enter Tryz.func12, Tryz.ntmps12
  go_wp2_with fail
  generalize w.alloc (.cells #[.int .i64 kind0, .int .i64 kk0, .int .u64 pp0, .slice A0 es0.length c0] 28) = w1 at *
  refine hAl.out.mono ?_
  rintro r w2 ⟨rfl, hB2⟩
  have d0 := cell_keep hB2 (by omega) b0
  have d1 := cell_keep hB2 (by omega) b1
  have d2 := cell_keep hB2 (by omega) b2
  have d3 := cell_keep hB2 (by omega) b3
  have hBw := hB0.trans (hB2.mono (show w.heap.size ≤ w1.heap.size by omega))
  clear b0 b1 b2 b3 hB0 hB2 hAl
  by_cases hlong : 1100 < L1.length
  · have t : decide ((1100 : Int) < L1.length) = true := by simp; omega
    go_wp2
    go_ret
    exact ⟨rfl, hBw⟩
  · have t : decide ((1100 : Int) < L1.length) = false := by simp; omega
    have HBx0 := Lib.hid hBw
    go_wp2_with fail
    refine (made_src (HS.out.below hBw)).mono ?_
    rintro r w3 ⟨v, p', g', rfl, hM, hB3⟩
    have hBx := hBw.trans (hB3.mono hBw.size)
    have HM := Lib.hid hM
    clear d0 d1 d2 d3 hBw hM hs1 hB3
    have hL3 : LstA w3 A1 c1 L1 := HL0.out.below hBx
    have HL3 := Lib.hid hL3
    clear HL0 HBx0 t
    go_upto_region 6 with fail
    go_cut [10] (fun V wx => ∃ A' c', V = .slice A' L1.length c' ∧ RdI wx wx.heap.size .u64 A' L1 ∧ Below w3.heap.size w3 wx)
    case first =>
      have hB := (Below.refl w3.heap.size w3).alloc (Nat.le_refl _) (.cells #[] 25)
      have hown : (w3.alloc (.cells #[] 25)).ownsRow w3.heap.size 25 1 (.slice (some ⟨w3.heap.size, 0, none⟩) 0 0) 0 [] := World.ownsRow_lit w3 #[] 0 (Nat.le_refl _) (by unfold maxLen; omega) rfl
      obtain ⟨hLl, hLU, hLR, hAL⟩ := hL3
      rcases A1 with _ | ad
      · have hf : L1 = [] := by
          rcases Nat.eq_zero_or_pos L1.length with h | h
          · exact List.eq_nil_of_length_eq_zero h
          · obtain ⟨b, o, h, _⟩ := hLR h
            cases h
        have hc0 := hAL rfl
        subst hf
        subst hc0
        clear hLR hLl hLU hAL
        try clear hlong
        go_wp2_with (at_builtin; refine wpList_append_own_none rfl _ _ 29 rfl w3.heap.size 25 i0 1 Tryz.underlying29 hi _ 0 [] rfl hown rfl ?_)
        go_wp2
        go_meet
        exact ⟨_, _, rfl, fun h => by simp at h, hB⟩
      · have hcells : ∀ j u, (ints .u64 L1)[j]? = some u → w3.cell? (ad.add j) = some u := by
          intro j u hu
          have hj : j < L1.length := by
            rcases Nat.lt_or_ge j L1.length with h | h
            · exact h
            · rw [List.getElem?_eq_none (by rw [ints_length]; exact h)] at hu; cases hu
          obtain ⟨b, o, h, _, hc⟩ := hLR (by omega)
          have h' : ad = ⟨b, o, none⟩ := Option.some.inj h
          rw [h']
          have h2 := hc j hj
          have h3 : u = .int .u64 (L1.getD j 0) := by
            simp [ints, List.getElem?_eq_getElem hj] at hu
            rw [← hu, List.getD_eq_getElem?_getD, List.getElem?_eq_getElem hj]; rfl
          rw [h3, ← h2, addrN]
        have HC : Hid (∀ j u, (ints .u64 L1)[j]? = some u → (w3.alloc (.cells #[] 25)).cell? (ad.add j) = some u) := Lib.hid (fun j u hu => by
          have h1 := hcells j u hu
          exact (hB.cell (World.block_lt_of_cell? w3 _ h1)).trans h1)
        have H1 : Hid (∀ u ∈ ints .u64 L1, u.oneCell' = true) := Lib.hid (fun u hu => by
          obtain ⟨x, _, rfl⟩ := List.mem_map.1 hu
          rfl)
        clear hcells hLR hLU hAL
        go_wp2_with (at_builtin; refine wpList_append_own _ rfl _ _ 29 rfl w3.heap.size 25 i0 (.int .u64 0) 1 8 Tryz.underlying29 hi hz0 hz1 hz2 rfl (by decide) _ 0 [] rfl hown ad L1.length c1 (ints .u64 L1) rfl ?c0 HC.out H1.out ?c3 ?c4 ?c5 ?_)
        case c0 => rw [ints_length]; omega
        case c3 => unfold maxLen; omega
        case c4 => omega
        case c5 => simp
        intro v' w4 hown' hgrow _
        have hO : OwnU w4 w3.heap.size v' L1.length L1 := by
          unfold OwnU
          simpa using hown'
        have hB4 : Below w3.heap.size w3 w4 := hB.grown hgrow (by simp) (fun k hk => by simp [Value.ownBlock] at hk; omega)
        have HO := Lib.hid hO
        clear hown' hown hgrow hO hB
        go_wp2
        go_meet
        obtain ⟨A', c', he, hRd⟩ := HO.out.rd
        exact ⟨A', c', he, hRd, hB4⟩
    case rest =>
      clear hL3
      obtain ⟨A', c', rfl, hRl, hBc⟩ := hcut
      have hBz := hBx.trans (hBc.mono hBx.size)
      have hL4 := HL3.out.below hBc
      have HM4 := Lib.hid (HM.out.below' hBc)
      have HSm : Hid (∀ wz, Below wc.heap.size wc wz → Calls Tryz.prog 51 #[.slice A' L1.length c', .slice A1 L1.length c1] wz fun e w' => e = .returned (.bool true) ∧ Below wz.heap.size wz w') := Lib.hid (fun wz hz => by
        have h1 := same_any A' A1 c' c1 wz.heap.size L1 L1 wz (by omega) (by omega) ((hRl.below hz).mono hz.size) ((hL4.hR.below hz).mono hz.size)
        simpa using h1)
      have HL4 := Lib.hid hL4
      clear HM HL3 hBx hBc hL4
      rcases HM4.out with ⟨rfl, rfl, rfl⟩ | ⟨p3, hC, hF⟩
      · clear HM4
        go_wp2_with fail
        refine (rarun_nil _ _ _ _ _).mono ?_
        rintro r w5 ⟨rfl, rfl⟩
        go_wp2_with fail
        refine (HSm.out wc (Below.refl _ _)).mono ?_
        rintro r w6 ⟨rfl, hB6⟩
        go_wp2
        go_ret
        exact ⟨by first | rfl | simp, hBz.trans (hB6.mono hBz.size)⟩
      · obtain ⟨q, rfl⟩ := Int.eq_ofNat_of_zero_le (show 0 ≤ p' by omega)
        have pm := hF.pmx
        haveI : NeZero q := ⟨by omega⟩
        obtain ⟨hp, hord⟩ := hC.nat
        have hg := hC.gr
        have HO : Hid (Ord (zt q g') (q - 1)) := Lib.hid hord
        have HP := Lib.hid hp
        have HF := Lib.hid hF
        have tp : ((q : Int) == 0) = false := by simp; omega
        have HPM := Lib.hid (And.intro p3 pm)
        have hg0 : 0 ≤ g' := by omega
        have hqg : Hid (g' < (q : Int)) := Lib.hid hg.2
        have HFt : Hid (∀ wz, Below wc.heap.size wc wz → Calls Tryz.prog 52 #[.int .u64 q, .slice A1 L1.length c1] wz fun e w' => e = .returned (.int .i64 (faultR (rpad L1.length) q L1)) ∧ wz = w') := Lib.hid (fun wz hz => r16fault_any A1 c1 wz.heap.size q L1 wz p3 pm hLl (HL4.out.below hz).hR)
        clear HM4 hC hF hp hord hg p3 pm
        by_cases hf : faultR (rpad L1.length) q L1 = 0
        · rw [hf] at HFt
          obtain ⟨hck', _, hgd⟩ := faultR_parts hf
          have hck := chk_mono hck' (show (1024 : Int) ≤ 4096 by omega)
          have HY := Lib.hid (rarun_yes HP.out HO.out hg0 hqg.out HF.out A' c' L1 b2 HU.out hRl hf)
          have HRR : Hid (runR q g' L1 b2 = lst L1.length (tr (zt q g') L1.length b2 (rz q L1))) := Lib.hid (runR_eq b2 (by have := HPM.out.1; omega) HO.out hck)
          have HRn : Hid (∀ wz, Below wc.heap.size wc wz → Calls Tryz.prog 30 #[.int .u64 q, .int .u64 g', .slice A1 L1.length c1, .bool b2] wz fun r w' => ∃ V, r = .returned V ∧ OwnU w' wz.heap.size V L1.length (lst L1.length (tr (zt q g') L1.length b2 (rz q L1))) ∧ Below wz.heap.size wz w') := Lib.hid (fun wz hz => by
            have h1 := r11run_yes q g' L1 b2 A1 c1 wz HPM.out.1 HPM.out.2 hg0 hqg.out hck HU.out (HL4.out.below hz).hR
            rw [HRR.out] at h1
            exact h1)
          have hll : (lst L1.length (tr (zt q g') L1.length b2 (rz q L1))).length = L1.length := lst_length _ _
          obtain ⟨Y, hY⟩ : ∃ Y, Y = lst L1.length (tr (zt q g') L1.length b2 (rz q L1)) := ⟨_, rfl⟩
          rw [← hY] at HY HRn hll
          have HLL := Lib.hid hll
          have HS3 : Hid (∀ (X Z : Option Addr) (cx cz : Nat) wz, RdI wz wz.heap.size .u64 X Y → RdI wz wz.heap.size .u64 Z Y → Calls Tryz.prog 51 #[.slice X L1.length cx, .slice Z L1.length cz] wz fun e w' => e = .returned (.bool true) ∧ Below wz.heap.size wz w') := Lib.hid (fun X Z cx cz wz hx hz => by
            have h1 := same_any X Z cx cz wz.heap.size Y Y wz (by rw [HLL.out]; omega) (by rw [HLL.out]; omega) hx hz
            rw [HLL.out] at h1
            simpa using h1)
          clear hf hck hY HRR hll HF HO HP HU HL4
          go_wp2_with fail
          refine HY.out.mono ?_
          rintro r w5 ⟨V, rfl, hO5, hB5⟩
          obtain ⟨A5, c5, rfl, hR5⟩ := hO5.rd
          have HR5 := Lib.hid hR5
          clear hO5 hR5 HY hRl
          go_wp2_with fail
          refine (HSm.out w5 hB5).mono ?_
          rintro r w7 ⟨rfl, hB7⟩
          have hB57 := hB5.trans (hB7.mono hB5.size)
          have hBb := hBz.trans (hB57.mono hBz.size)
          have HR57 := Lib.hid ((HR5.out.below hB7).mono hB7.size)
          clear HSm HR5 hB5 hB7
          go_wp2_with fail
          refine (HFt.out w7 hB57).mono ?_
          rintro r w8 ⟨rfl, rfl⟩
          by_cases h32 : 31 < L1.length
          · have t3 : decide ((31 : Int) < L1.length) = true := by simp; omega
            clear h32
            go_wp2
            go_ret
            exact ⟨by first | rfl | simp, hBb⟩
          · have t3 : decide ((31 : Int) < L1.length) = false := by simp; omega
            clear h32
            go_wp2_with fail
            refine (HRn.out w7 hB57).mono ?_
            rintro r w8 ⟨V8, rfl, hO8, hB8⟩
            obtain ⟨A8, c8, rfl, hR8⟩ := hO8.rd
            have hBd := hBb.trans (hB8.mono hBb.size)
            have HR8 := Lib.hid hR8
            have HR58 := Lib.hid ((HR57.out.below hB8).mono hB8.size)
            clear hO8 hR8 HRn HR57 HFt
            go_wp2_with fail
            refine (HS3.out A5 A8 c5 c8 w8 HR58.out HR8.out).mono ?_
            rintro r w9 ⟨rfl, hB9⟩
            go_wp2
            go_ret
            exact ⟨by first | rfl | simp, hBd.trans (hB9.mono hBd.size)⟩
        · have HN := Lib.hid (rarun_no HF.out A' c' L1 b2 (by omega) HU.out hRl hf)
          have t2 : (faultR (rpad L1.length) q L1 != 0) = true := by simp [hf]
          obtain ⟨z, hz⟩ : ∃ z, z = faultR (rpad L1.length) q L1 := ⟨_, rfl⟩
          rw [← hz] at HN HFt t2
          clear hz hf hRl HF HO HP HU HL4
          go_wp2_with fail
          refine HN.out.mono ?_
          rintro r w5 ⟨rfl, hB5⟩
          go_wp2_with fail
          refine (HSm.out w5 hB5).mono ?_
          rintro r w6 ⟨rfl, hB6⟩
          have hB56 := hB5.trans (hB6.mono hB5.size)
          go_wp2_with fail
          refine (HFt.out w6 hB56).mono ?_
          rintro r w8 ⟨rfl, rfl⟩
          go_wp2
          go_ret
          exact ⟨by first | rfl | simp, hBz.trans (hB56.mono hBz.size)⟩
end Go.Proofs.YthhkljfgkihfgaaGreat
