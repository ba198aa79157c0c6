/- The document's Fault of layer 16. -/
import Derived.Test.YthhkljfgkihfgaaGreatFaultR
import Derived.Test.YthhkljfgkihfgaaGreatFit16
set_option linter.unusedVariables false
set_option linter.unusedSimpArgs false
set_option linter.unusedSectionVars false
set_option linter.unusedVariables false
set_option linter.unusedSimpArgs false
namespace Go.Proofs.YthhkljfgkihfgaaGreat
open Go.RowKit
open Alg
theorem r16fault_any (A : Option Addr) (c n : Nat) (p : Int) (L : List Int) (w : World) (p1 : 3 ≤ p) (p2' : p < 9223372036854775808) (hl : L.length ≤ 140737488351232) (hR : RdI w n .u64 A L) :
    Calls Tryz.prog 52 #[.int .u64 p, .slice A L.length c] w fun e w' => e = .returned (.int .i64 (faultR (rpad L.length) p L)) ∧ w = w' := by
  have hC := Lib.hid (fun w => r11check_any p L.length 1024 w p1 p2' (by omega) (by omega))
  have hF : Hid (∀ wz, Calls Tryz.prog 102 #[.int .u64 p, .int .i64 L.length] wz fun e w' => e = .returned (.bool (fitR (rpad L.length) p)) ∧ wz = w') := Lib.hid (fun wz => rfits_any p L.length wz p1 p2' (by omega) (by omega))
  have hG := Lib.hid (r11good_any A c n p L w hl hR)
  have HV : Hid (faultR (rpad L.length) p L = if chk p L.length 1024 ≠ 0 then chk p L.length 1024 else if fitR (rpad L.length) p = false then 11 else if goodB p L = false then 9 else 0) := Lib.hid rfl
  by_cases c1 : chk p L.length 1024 = 0
  · rw [c1] at hC
    by_cases c2 : fitR (rpad L.length) p = false
    · have HV2 : Hid (faultR (rpad L.length) p L = 11) := Lib.hid (by rw [HV.out, if_neg (by simp [c1]), if_pos c2])
      rw [c2] at hF
      clear c1 c2 hR
      go_enter Tryz.func52, Tryz.ntmps52
      go_wp2_with fail
      refine (hC.out _).mono ?_
      rintro e w1 ⟨rfl, rfl⟩
      go_wp2_with fail
      refine (hF.out _).mono ?_
      rintro e w1 ⟨rfl, rfl⟩
      go_wp2
      go_ret
      exact ⟨ret_int HV2.out.symm, rfl⟩
    · have c2' : fitR (rpad L.length) p = true := by simpa using c2
      rw [c2'] at hF
      obtain ⟨b, hb⟩ : ∃ b, b = goodB p L := ⟨_, rfl⟩
      rw [← hb] at hG
      have HV2 : Hid (faultR (rpad L.length) p L = if b = false then 9 else 0) := Lib.hid (by rw [HV.out, if_neg (by simp [c1]), if_neg c2, hb])
      clear c1 c2 c2' hb hR
      go_enter Tryz.func52, Tryz.ntmps52
      go_wp2_with fail
      refine (hC.out _).mono ?_
      rintro e w1 ⟨rfl, rfl⟩
      go_wp2_with fail
      refine (hF.out _).mono ?_
      rintro e w1 ⟨rfl, rfl⟩
      go_wp2_with fail
      refine hG.out.mono ?_
      rintro e w1 ⟨rfl, rfl⟩
      cases b
      · go_wp2
        go_ret
        exact ⟨by rw [HV2.out]; first | rfl | simp, rfl⟩
      · go_wp2
        go_ret
        exact ⟨by rw [HV2.out]; first | rfl | simp, rfl⟩
  · have HV2 : Hid (faultR (rpad L.length) p L = chk p L.length 1024) := Lib.hid (by rw [HV.out, if_pos c1])
    obtain ⟨z, hz⟩ : ∃ z, z = chk p L.length 1024 := ⟨_, rfl⟩
    rw [← hz] at hC HV2 c1
    have t : (z != 0) = true := by simp [c1]
    clear hz c1 hR
    go_enter Tryz.func52, Tryz.ntmps52
    go_wp2_with fail
    refine (hC.out _).mono ?_
    rintro e w1 ⟨rfl, rfl⟩
    go_wp2
    go_ret
    exact ⟨ret_int HV2.out.symm, rfl⟩
end Go.Proofs.YthhkljfgkihfgaaGreat
