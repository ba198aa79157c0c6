/- The document's Fault of layer 13. -/
import Derived.Test.YthhkljfgkihfgaaGreatWP2R2ABack
set_option linter.unusedVariables false
set_option linter.unusedSimpArgs false
set_option linter.unusedSectionVars false
set_option linter.unusedVariables false
set_option linter.unusedSimpArgs false
namespace Go.Proofs.YthhkljfgkihfgaaGreat
open Go.RowKit
theorem r13fault_any (A : Option Addr) (c n : Nat) (p : Int) (L : List Int) (w : World) (p1 : 3 ≤ p) (p2' : p < 9223372036854775808) (hl : L.length ≤ 140737488351232) (hR : RdI w n .u64 A L) :
    Calls Tryz.prog 36 #[.int .u64 p, .slice A L.length c] w fun e w' => e = .returned (.int .i64 (fault13 p L)) ∧ w = w' := by
  have hC := Lib.hid (fun w => r11check_any p L.length 4096 w p1 p2' (by omega) (by omega))
  have hF := Lib.hid (fun w => r12fits_any L.length w (by omega) (by omega))
  have hG := Lib.hid (r11good_any A c n p L w hl hR)
  by_cases c1 : chk p L.length 4096 = 0
  · rw [c1] at hC
    by_cases c2 : p2 L.length = false
    · have HV : Hid (fault13 p L = 11) := Lib.hid (by unfold fault13; rw [if_neg (by simp [c1]), if_pos c2])
      rw [c2] at hF
      clear c1 c2 hR
      go_enter Tryz.func36, Tryz.ntmps36
      go_wp2_with fail
      refine (hC.out _).mono ?_
      rintro e w1 ⟨rfl, rfl⟩
      go_wp2_with fail
      refine (hF.out _).mono ?_
      rintro e w1 ⟨rfl, rfl⟩
      go_wp2
      go_ret
      exact ⟨ret_int HV.out.symm, rfl⟩
    · have c2' : p2 L.length = true := by simpa using c2
      rw [c2'] at hF
      by_cases c3 : goodB p L = false
      · have HV : Hid (fault13 p L = 9) := Lib.hid (by unfold fault13; rw [if_neg (by simp [c1]), if_neg c2, if_pos c3])
        rw [c3] at hG
        clear c1 c2 c2' c3 hR
        go_enter Tryz.func36, Tryz.ntmps36
        go_wp2_with fail
        refine (hC.out _).mono ?_
        rintro e w1 ⟨rfl, rfl⟩
        go_wp2_with fail
        refine (hF.out _).mono ?_
        rintro e w1 ⟨rfl, rfl⟩
        go_wp2_with fail
        refine hG.out.mono ?_
        rintro e w1 ⟨rfl, rfl⟩
        go_wp2
        go_ret
        exact ⟨ret_int HV.out.symm, rfl⟩
      · have HV : Hid (fault13 p L = 0) := Lib.hid (by unfold fault13; rw [if_neg (by simp [c1]), if_neg c2, if_neg c3])
        have c3' : goodB p L = true := by simpa using c3
        rw [c3'] at hG
        clear c1 c2 c2' c3 c3' hR
        go_enter Tryz.func36, Tryz.ntmps36
        go_wp2_with fail
        refine (hC.out _).mono ?_
        rintro e w1 ⟨rfl, rfl⟩
        go_wp2_with fail
        refine (hF.out _).mono ?_
        rintro e w1 ⟨rfl, rfl⟩
        go_wp2_with fail
        refine hG.out.mono ?_
        rintro e w1 ⟨rfl, rfl⟩
        go_wp2
        go_ret
        exact ⟨ret_int HV.out.symm, rfl⟩
  · have HV : Hid (fault13 p L = chk p L.length 4096) := Lib.hid (by unfold fault13; rw [if_pos c1])
    obtain ⟨z, hz⟩ : ∃ z, z = chk p L.length 4096 := ⟨_, rfl⟩
    rw [← hz] at hC HV c1
    have t : (z != 0) = true := by simp [c1]
    clear hz c1 hR
    go_enter Tryz.func36, Tryz.ntmps36
    go_wp2_with fail
    refine (hC.out _).mono ?_
    rintro e w1 ⟨rfl, rfl⟩
    go_wp2
    go_ret
    exact ⟨ret_int HV.out.symm, rfl⟩
end Go.Proofs.YthhkljfgkihfgaaGreat
