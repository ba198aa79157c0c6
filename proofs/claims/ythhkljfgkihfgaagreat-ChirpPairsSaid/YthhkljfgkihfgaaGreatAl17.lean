/- The law's first check: alive, of layer 17. -/
import Derived.Test.YthhkljfgkihfgaaGreatSm17
import Derived.Test.YthhkljfgkihfgaaGreatChR
import Derived.Test.YthhkljfgkihfgaaGreatSame17
set_option linter.unusedVariables false
set_option linter.unusedSimpArgs false
set_option linter.unusedSectionVars false
set_option linter.unusedVariables false
set_option linter.unusedSimpArgs false
namespace Go.Proofs.YthhkljfgkihfgaaGreat
open Go.RowKit
open Alg
theorem alive17_val : lst (p := 17) 2 (tr (zt 17 3) 2 false (rz 17 [1, 0])) = [1, 1] := by decide +kernel
theorem fault17_17 : faultR (cpad 2) 17 [1, 0] = 0 := by decide
theorem chf45 : chf 4 5 = 1 := by decide
theorem cpad3 : cpad 3 = 8 := by decide
theorem alive17_any (w : World) : Calls Tryz.prog 32 #[] w fun e w' => e = .returned (.bool true) ∧ Below w.heap.size w w' := by
  have hH := Lib.hid (fun wz => chalf_any 4 5 wz (by omega) (by omega) (by omega) (by omega))
  have hP := Lib.hid (fun wz => cpad_any 3 wz (by omega) (by omega))
  rw [chf45] at hH
  rw [cpad3] at hP
  go_enter Tryz.func32, Tryz.ntmps32
  go_wp2_with fail
  refine (small_at 17 3 gen17 oddP17 w).mono ?_
  rintro r w1 ⟨v, rfl, hC, hF, hB1⟩
  have HC : Hid (Ord (zt 17 3) (17 - 1)) := Lib.hid ((Cert.nat (q := 17) hC).2)
  have HF := Lib.hid hF
  clear hC hF
  go_wp2_with fail
  have hL1 := RdU.lit w1 [1, 0]
  have hB2 := (Below.refl w1.heap.size w1).alloc (Nat.le_refl _) (.cells (ints .u64 [1, 0]).toArray 25)
  have hBw := hB1.trans (hB2.mono hB1.size)
  have hsz : (w1.alloc (.cells (ints .u64 [1, 0]).toArray 25)).heap.size = w1.heap.size + 1 := by simp
  have hF2 := (HF.out.below hB2).mono hB2.size
  have hR := chrun_yes (p := 17) prime17 HC.out (by omega) (by omega) hF2 (some ⟨w1.heap.size, 0, none⟩) 2 [1, 0] false (fun x hx => by simp at hx; omega) (by rw [hsz]; exact hL1) fault17_17
  refine hR.mono ?_
  rintro r w2 ⟨V, rfl, hO, hB3⟩
  have hv : (lst (p := 17) 2 (tr (zt 17 3) 2 false (rz 17 [1, 0]))) = [1, 1] := alive17_val
  have hO' : OwnU w2 (w1.alloc (.cells (ints .u64 [1, 0]).toArray 25)).heap.size V 2 [1, 1] := hv ▸ hO
  obtain ⟨A, c, rfl, hRd⟩ := hO'.rd
  have hBz := hBw.trans (hB3.mono hBw.size)
  clear hL1 hB2 hBw hF2 hR hO hO' hv hB3
  go_wp2_with fail
  have hL2 := RdU.lit w2 [1, 1]
  have hB4 := (Below.refl w2.heap.size w2).alloc (Nat.le_refl _) (.cells (ints .u64 [1, 1]).toArray 25)
  refine (same_any A (some ⟨w2.heap.size, 0, none⟩) c 2 (w2.heap.size + 1) [1, 1] [1, 1] _ (by simp) (by simp) ((hRd.below hB4).mono (Nat.le_succ _)) hL2).mono ?_
  rintro r w3 ⟨rfl, hB5⟩
  have hBf := (hBz.alloc hBz.size (.cells (ints .u64 [1, 1]).toArray 25)).trans (hB5.mono (by have := hBz.size; simp; omega))
  clear hL2 hB4 hRd hB5
  go_wp2_with fail
  refine (hH.out _).mono ?_
  rintro r w4 ⟨rfl, rfl⟩
  go_wp2_with fail
  refine (hP.out _).mono ?_
  rintro r w4 ⟨rfl, rfl⟩
  go_wp2
  go_ret
  exact ⟨by first | rfl | simp, hBf⟩
end Go.Proofs.YthhkljfgkihfgaaGreat
