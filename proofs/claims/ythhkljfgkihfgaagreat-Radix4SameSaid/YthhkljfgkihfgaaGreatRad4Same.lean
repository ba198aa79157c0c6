/- The law Radix4Same. -/
import Derived.Test.YthhkljfgkihfgaaGreatAl13
import Derived.Test.YthhkljfgkihfgaaGreatRef13
import Derived.Test.YthhkljfgkihfgaaGreatMs13
import Derived.Test.YthhkljfgkihfgaaGreatR11
import Derived.Test.YthhkljfgkihfgaaGreatWP2R2ABack
import Derived.Test.YthhkljfgkihfgaaGreatWR2UR2D
set_option linter.unusedVariables false
set_option linter.unusedSimpArgs false
set_option linter.unusedSectionVars false
set_option linter.unusedVariables false
set_option linter.unusedSimpArgs false
namespace Go.Proofs.YthhkljfgkihfgaaGreat
open Go.RowKit
open Alg
set_option maxHeartbeats 4000000 in
set_option maxRecDepth 100000 in
theorem radix4Same_walk (w : World) (A0 : Option Addr) (c0 : Nat) (kind0 kk0 pp0 : Int) (es0 : List Ent) (A1 : Option Addr) (c1 : Nat) (L1 : List Int) (b2 : Bool) (hs0 : SrcA w A0 c0 kind0 kk0 pp0 es0) (hl1 : LstA w A1 c1 L1) :
    Calls Tryz.prog 8 #[.agg #[.int .i64 kind0, .int .i64 kk0, .int .u64 pp0, .slice A0 es0.length c0], .slice A1 L1.length c1, .bool b2] w fun e w' => e = .returned (.bool true) ∧ Below w.heap.size w w' := by
  have hLl := hl1.hl
  have HU := Lib.hid hl1.hU
  have HS := Lib.hid hs0
  have hB0 := (Below.refl w.heap.size w).alloc (Nat.le_refl _) (.cells #[.int .i64 kind0, .int .i64 kk0, .int .u64 pp0, .slice A0 es0.length c0] 28)
  have b0 : (w.alloc (.cells #[.int .i64 kind0, .int .i64 kk0, .int .u64 pp0, .slice A0 es0.length c0] 28)).cell? ⟨w.heap.size, 0, none⟩ = some (.int .i64 kind0) := World.cell?_alloc_at _ _ _ _ rfl
  have b1 : (w.alloc (.cells #[.int .i64 kind0, .int .i64 kk0, .int .u64 pp0, .slice A0 es0.length c0] 28)).cell? ⟨w.heap.size, 1, none⟩ = some (.int .i64 kk0) := World.cell?_alloc_at _ _ _ _ rfl
  have b2 : (w.alloc (.cells #[.int .i64 kind0, .int .i64 kk0, .int .u64 pp0, .slice A0 es0.length c0] 28)).cell? ⟨w.heap.size, 2, none⟩ = some (.int .u64 pp0) := World.cell?_alloc_at _ _ _ _ rfl
  have b3 : (w.alloc (.cells #[.int .i64 kind0, .int .i64 kk0, .int .u64 pp0, .slice A0 es0.length c0] 28)).cell? ⟨w.heap.size, 3, none⟩ = some (.slice A0 es0.length c0) := World.cell?_alloc_at _ _ _ _ rfl
  have hs1 : w.heap.size + 1 ≤ (w.alloc (.cells #[.int .i64 kind0, .int .i64 kk0, .int .u64 pp0, .slice A0 es0.length c0] 28)).heap.size := by simp
  have hAl := Lib.hid (alive13_any (w.alloc (.cells #[.int .i64 kind0, .int .i64 kk0, .int .u64 pp0, .slice A0 es0.length c0] 28)))
  have HL0 := Lib.hid hl1
  clear hs0 hl1
  go_enter Tryz.func8, Tryz.ntmps8
  go_wp2_with fail
  generalize w.alloc (.cells #[.int .i64 kind0, .int .i64 kk0, .int .u64 pp0, .slice A0 es0.length c0] 28) = w1 at *
  refine hAl.out.mono ?_
  rintro r w2 ⟨rfl, hB2⟩
  have d0 := cell_keep hB2 (by omega) b0
  have d1 := cell_keep hB2 (by omega) b1
  have d2 := cell_keep hB2 (by omega) b2
  have d3 := cell_keep hB2 (by omega) b3
  have hBw := hB0.trans (hB2.mono (show w.heap.size ≤ w1.heap.size by omega))
  clear b0 b1 b2 b3 hB0 hB2 hAl
  go_wp2_with fail
  refine (made_src (HS.out.below hBw)).mono ?_
  rintro r w3 ⟨v, p', g', rfl, hM, hB3⟩
  have hBx := hBw.trans (hB3.mono hBw.size)
  have HM := Lib.hid hM
  clear d0 d1 d2 d3 hBw hM hs1 hB3
  have HL3 : Hid (LstA w3 A1 c1 L1) := Lib.hid (HL0.out.below hBx)
  clear HL0
  rcases HM.out with ⟨rfl, rfl, rfl⟩ | ⟨p3, hC, hF⟩
  · clear HM
    go_wp2
    go_ret
    exact ⟨rfl, hBx⟩
  · obtain ⟨q, rfl⟩ := Int.eq_ofNat_of_zero_le (show 0 ≤ p' by omega)
    have pm := hF.pmx
    haveI : NeZero q := ⟨by omega⟩
    obtain ⟨hp, hord⟩ := hC.nat
    have hg := hC.gr
    have HO : Hid (Ord (zt q g') (q - 1)) := Lib.hid hord
    have HP := Lib.hid hp
    have HF := Lib.hid hF
    have tp : ((q : Int) == 0) = false := by simp; omega
    have HPM := Lib.hid (And.intro p3 pm)
    have hg0 : 0 ≤ g' := by omega
    have hqg : Hid (g' < (q : Int)) := Lib.hid hg.2
    have HFt := Lib.hid (r13fault_any A1 c1 w3.heap.size q L1 w3 p3 pm hLl HL3.out.hR)
    clear HM hC hF hp hord hg p3 pm
    by_cases hlong : 256 < L1.length
    · have t : decide ((256 : Int) < L1.length) = true := by simp; omega
      go_wp2
      go_ret
      exact ⟨rfl, hBx⟩
    · have t : decide ((256 : Int) < L1.length) = false := by simp; omega
      by_cases hf : fault13 q L1 = 0
      · rw [hf] at HFt
        obtain ⟨hck, hp2, hgd⟩ := fault13_parts hf
        obtain ⟨hdv, hn0⟩ := chk_dvd (by have := HP.out.1; omega) hck
        have hff : ∀ F : Nat → Fin q, fault13 q (lst L1.length F) = 0 := fun F => fault13_lst F hck hp2
        have HRn : Hid (∀ (inv : Bool) (X : Option Addr) (cx : Nat) wz, Below w3.heap.size w3 wz → RdI wz wz.heap.size .u64 X L1 → Calls Tryz.prog 37 #[v, .slice X L1.length cx, .bool inv] wz fun e w' => ∃ V, e = .returned (.tuple #[V, .int .i64 0]) ∧ OwnU w' wz.heap.size V L1.length (lst L1.length (tr (zt q g') L1.length inv (rz q L1))) ∧ Below wz.heap.size wz w') := Lib.hid (fun inv X cx wz hz hR => r4run_yes HP.out HO.out hg0 hqg.out ((HF.out.below hz).mono hz.size) X cx L1 inv HU.out hR hf)
        obtain ⟨Y, hY⟩ : ∃ Y, Y = lst L1.length (tr (zt q g') L1.length b2 (rz q L1)) := ⟨_, rfl⟩
        have hYl : Y.length = L1.length := by rw [hY]; exact lst_length _ _
        have hbk : lst L1.length (tr (zt q g') L1.length (!b2) (rz q Y)) = L1 := by rw [hY]; exact back_lst HP.out HO.out hdv hn0 b2 hgd HU.out
        have HRb : Hid (∀ (X : Option Addr) (cx : Nat) wz, Below w3.heap.size w3 wz → RdI wz wz.heap.size .u64 X Y → Calls Tryz.prog 37 #[v, .slice X L1.length cx, .bool (!b2)] wz fun e w' => ∃ V, e = .returned (.tuple #[V, .int .i64 0]) ∧ OwnU w' wz.heap.size V L1.length L1 ∧ Below wz.heap.size wz w') := Lib.hid (fun X cx wz hz hR => by
          have h1 := r4run_yes HP.out HO.out hg0 hqg.out ((HF.out.below hz).mono hz.size) X cx Y (!b2) (by rw [hY]; exact lst_u64 HPM.out.2 _ _) hR (by rw [hY]; exact hff _)
          rw [hYl, hbk] at h1
          exact h1)
        have HSm : Hid (∀ (M : List Int) (X Z : Option Addr) (cx cz : Nat) wz, M.length = L1.length → RdI wz wz.heap.size .u64 X M → RdI wz wz.heap.size .u64 Z M → Calls Tryz.prog 38 #[.slice X L1.length cx, .slice Z L1.length cz] wz fun e w' => e = .returned (.bool true) ∧ Below wz.heap.size wz w') := Lib.hid (fun M X Z cx cz wz hM hx hz => by
          have h1 := same_any X Z cx cz wz.heap.size M M wz (by omega) (by omega) hx hz
          rw [hM] at h1
          simpa using h1)
        have HYl := Lib.hid hYl
        have HR3 := Lib.hid HL3.out.hR
        have HR0 := Lib.hid (HRn.out b2)
        rw [← hY] at HR0
        have HS0 : Hid (∀ (X : Option Addr) (cx : Nat) wz, Below w3.heap.size w3 wz → RdI wz wz.heap.size .u64 X L1 → Calls Tryz.prog 25 #[v, .slice X L1.length cx, .bool b2] wz fun e w' => ∃ V, e = .returned (.tuple #[V, .int .i64 0]) ∧ OwnU w' wz.heap.size V L1.length Y ∧ Below wz.heap.size wz w') := Lib.hid (fun X cx wz hz hR => by
          rw [hY]
          exact up_yes HP.out HO.out hg0 hqg.out ((HF.out.below hz).mono hz.size) X cx L1 b2 HU.out hR hf)
        clear hf hff hbk hY hYl hdv hn0 hgd HRn HF HP HO HU HL3
        go_wp2_with fail
        refine HFt.out.mono ?_
        rintro r w4 ⟨rfl, rfl⟩
        go_wp2_with fail
        refine (HR0.out A1 c1 w3 (Below.refl _ _) HR3.out).mono ?_
        rintro r w5 ⟨V5, rfl, hO5, hB5⟩
        obtain ⟨A5, c5, rfl, hR5⟩ := hO5.rd
        have HR5 := Lib.hid hR5
        have HR35 := Lib.hid ((HR3.out.below hB5).mono hB5.size)
        clear hO5 hR5
        go_wp2_with fail
        refine (HS0.out A1 c1 w5 hB5 HR35.out).mono ?_
        rintro r w6 ⟨V6, rfl, hO6, hB6⟩
        obtain ⟨A6, c6, rfl, hR6⟩ := hO6.rd
        have hB36 := hB5.trans (hB6.mono hB5.size)
        have HR6 := Lib.hid hR6
        have HR56 := Lib.hid ((HR5.out.below hB6).mono hB6.size)
        have HR36 := Lib.hid ((HR35.out.below hB6).mono hB6.size)
        clear hO6 hR6 hB5 hB6 HR35 HR5 HR3
        go_wp2_with fail
        refine (HRb.out A5 c5 w6 hB36 HR56.out).mono ?_
        rintro r w7 ⟨V7, rfl, hO7, hB7⟩
        obtain ⟨A7, c7, rfl, hR7⟩ := hO7.rd
        have hB37 := hB36.trans (hB7.mono hB36.size)
        have HR7 := Lib.hid hR7
        have HR57 := Lib.hid ((HR56.out.below hB7).mono hB7.size)
        have HR37 := Lib.hid ((HR36.out.below hB7).mono hB7.size)
        have HR67 := Lib.hid ((HR6.out.below hB7).mono hB7.size)
        clear hO7 hR7 hB36 hB7 HR56 HR6 HR36
        go_wp2_with fail
        refine (HSm.out Y A5 A6 c5 c6 w7 HYl.out HR57.out HR67.out).mono ?_
        rintro r w8 ⟨rfl, hB8⟩
        have hB38 := hB37.trans (hB8.mono hB37.size)
        have HR78 := Lib.hid ((HR7.out.below hB8).mono hB8.size)
        have HR38 := Lib.hid ((HR37.out.below hB8).mono hB8.size)
        clear HR57 HR67 HR37 HR7 hB37 hB8
        go_wp2_with fail
        refine (HSm.out L1 A7 A1 c7 c1 w8 rfl HR78.out HR38.out).mono ?_
        rintro r w9 ⟨rfl, hB9⟩
        have hB39 := hB38.trans (hB9.mono hB38.size)
        go_wp2
        go_ret
        exact ⟨by first | rfl | simp, hBx.trans (hB39.mono hBx.size)⟩
      · have t1 : (fault13 q L1 != 0) = true := by simp [hf]
        obtain ⟨z, hz⟩ : ∃ z, z = fault13 q L1 := ⟨_, rfl⟩
        rw [← hz] at HFt t1
        clear hz hf
        go_wp2_with fail
        refine HFt.out.mono ?_
        rintro r w4 ⟨rfl, rfl⟩
        go_wp2
        go_ret
        exact ⟨rfl, hBx⟩
end Go.Proofs.YthhkljfgkihfgaaGreat
