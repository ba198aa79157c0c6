/- The law ChirpSizes. -/
import Derived.Test.YthhkljfgkihfgaaGreatAl17
import Derived.Test.YthhkljfgkihfgaaGreatMs17
set_option linter.unusedVariables false
set_option linter.unusedSimpArgs false
set_option linter.unusedSectionVars false
set_option linter.unusedVariables false
set_option linter.unusedSimpArgs false
namespace Go.Proofs.YthhkljfgkihfgaaGreat
open Go.RowKit
open Alg
set_option maxHeartbeats 2000000 in
set_option maxRecDepth 100000 in
theorem chirpSizes_walk (w : World) (A0 : Option Addr) (c0 : Nat) (kind0 kk0 pp0 : Int) (es0 : List Ent) (x1 : Int) (x2 : Int) (hs0 : SrcA w A0 c0 kind0 kk0 pp0 es0) (h01 : -9223372036854775808 ≤ x1) (h11 : x1 ≤ 9223372036854775807) (h02 : -9223372036854775808 ≤ x2) (h12 : x2 ≤ 9223372036854775807) :
    Calls Tryz.prog 10 #[.agg #[.int .i64 kind0, .int .i64 kk0, .int .u64 pp0, .slice A0 es0.length c0], .int .i64 x1, .int .i64 x2] w fun e w' => e = .returned (.bool true) ∧ Below w.heap.size w w' := by
  have hP := Lib.hid (fun wz => cpad_any x1 wz h01 h11)
  have hP2 := Lib.hid (fun wz => rcpad_any x1 wz h01 h11)
  have hH := Lib.hid (fun wz => chalf_any x2 x1 wz h02 h12 h01 h11)
  have hH2 := Lib.hid (fun wz => rchalf_any x2 x1 wz h02 h12 h01 h11)
  obtain ⟨z1, hz1⟩ : ∃ z, z = cpad x1 := ⟨_, rfl⟩
  obtain ⟨z2, hz2⟩ : ∃ z, z = chf x2 x1 := ⟨_, rfl⟩
  rw [← hz1] at hP hP2
  rw [← hz2] at hH hH2
  have t1 : (z1 != z1) = false := by simp
  have t2 : (z2 != z2) = false := by simp
  clear hz1 hz2
  have HS := Lib.hid hs0
  have hB0 := (Below.refl w.heap.size w).alloc (Nat.le_refl _) (.cells #[.int .i64 kind0, .int .i64 kk0, .int .u64 pp0, .slice A0 es0.length c0] 28)
  have b0 : (w.alloc (.cells #[.int .i64 kind0, .int .i64 kk0, .int .u64 pp0, .slice A0 es0.length c0] 28)).cell? ⟨w.heap.size, 0, none⟩ = some (.int .i64 kind0) := World.cell?_alloc_at _ _ _ _ rfl
  have b1 : (w.alloc (.cells #[.int .i64 kind0, .int .i64 kk0, .int .u64 pp0, .slice A0 es0.length c0] 28)).cell? ⟨w.heap.size, 1, none⟩ = some (.int .i64 kk0) := World.cell?_alloc_at _ _ _ _ rfl
  have b2 : (w.alloc (.cells #[.int .i64 kind0, .int .i64 kk0, .int .u64 pp0, .slice A0 es0.length c0] 28)).cell? ⟨w.heap.size, 2, none⟩ = some (.int .u64 pp0) := World.cell?_alloc_at _ _ _ _ rfl
  have b3 : (w.alloc (.cells #[.int .i64 kind0, .int .i64 kk0, .int .u64 pp0, .slice A0 es0.length c0] 28)).cell? ⟨w.heap.size, 3, none⟩ = some (.slice A0 es0.length c0) := World.cell?_alloc_at _ _ _ _ rfl
  have hs1 : w.heap.size + 1 ≤ (w.alloc (.cells #[.int .i64 kind0, .int .i64 kk0, .int .u64 pp0, .slice A0 es0.length c0] 28)).heap.size := by simp
  have hAl := Lib.hid (alive17_any (w.alloc (.cells #[.int .i64 kind0, .int .i64 kk0, .int .u64 pp0, .slice A0 es0.length c0] 28)))
  clear hs0
  go_enter Tryz.func10, Tryz.ntmps10
  go_wp2_with fail
  generalize w.alloc (.cells #[.int .i64 kind0, .int .i64 kk0, .int .u64 pp0, .slice A0 es0.length c0] 28) = w1 at *
  refine hAl.out.mono ?_
  rintro r w2 ⟨rfl, hB2⟩
  have d0 := cell_keep hB2 (by omega) b0
  have d1 := cell_keep hB2 (by omega) b1
  have d2 := cell_keep hB2 (by omega) b2
  have d3 := cell_keep hB2 (by omega) b3
  have hBw := hB0.trans (hB2.mono (show w.heap.size ≤ w1.heap.size by omega))
  clear b0 b1 b2 b3 hB0 hB2 hAl
  go_wp2_with fail
  refine (made_src (HS.out.below hBw)).mono ?_
  rintro r w3 ⟨v, p', g', rfl, hM, hB3⟩
  have hBx := hBw.trans (hB3.mono hBw.size)
  have HM := Lib.hid hM
  clear d0 d1 d2 d3 hBw hM hs1 hB3
  go_wp2_with fail
  refine (hP.out _).mono ?_
  rintro r w4 ⟨rfl, rfl⟩
  go_wp2_with fail
  refine (hP2.out _).mono ?_
  rintro r w4 ⟨rfl, rfl⟩
  go_wp2_with fail
  refine (hH.out _).mono ?_
  rintro r w4 ⟨rfl, rfl⟩
  go_wp2_with fail
  refine (hH2.out _).mono ?_
  rintro r w4 ⟨rfl, rfl⟩
  rcases HM.out with ⟨rfl, rfl, rfl⟩ | ⟨p3, hC, hF⟩
  · clear HM
    go_wp2_with fail
    refine (cfits_nil x1 _ h01 h11).mono ?_
    rintro r w4 ⟨rfl, rfl⟩
    go_wp2
    go_ret
    exact ⟨by first | rfl | simp, hBx⟩
  · have pm := hF.pmx
    have hF1 := Lib.hid (cfits_fd hF x1 h01 h11)
    have hF2 := Lib.hid (fun wz => rcfits_any p' x1 wz p3 pm h01 h11)
    obtain ⟨b, hb⟩ : ∃ b, b = fitR (cpad x1) p' := ⟨_, rfl⟩
    rw [← hb] at hF1 hF2
    have t3 : (b == b) = true := by simp
    have tp : (p' == 0) = false := by simp; omega
    clear hb HM hC hF
    go_wp2_with fail
    refine hF1.out.mono ?_
    rintro r w4 ⟨rfl, rfl⟩
    go_wp2_with fail
    refine (hF2.out _).mono ?_
    rintro r w4 ⟨rfl, rfl⟩
    go_wp2
    go_ret
    exact ⟨by first | rfl | simp, hBx⟩
end Go.Proofs.YthhkljfgkihfgaaGreat
