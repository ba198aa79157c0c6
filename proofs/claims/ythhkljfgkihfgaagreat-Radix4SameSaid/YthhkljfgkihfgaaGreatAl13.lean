/- The law's first check: alive, of layer 13. -/
import Derived.Test.YthhkljfgkihfgaaGreatAl5
import Derived.Test.YthhkljfgkihfgaaGreatRad4F
import Derived.Test.YthhkljfgkihfgaaGreatSame13
set_option linter.unusedVariables false
set_option linter.unusedSimpArgs false
set_option linter.unusedSectionVars false
set_option linter.unusedVariables false
set_option linter.unusedSimpArgs false
namespace Go.Proofs.YthhkljfgkihfgaaGreat
open Go.RowKit
open Alg
theorem alive13_any (w : World) : Calls Tryz.prog 34 #[] w fun e w' => e = .returned (.bool true) ∧ Below w.heap.size w w' := by
  go_enter Tryz.func34, Tryz.ntmps34
  go_wp2_with fail
  refine (small5_any w).mono ?_
  rintro r w1 ⟨v, rfl, hC, hF, hB1⟩
  have HC : Hid (Ord (zt 5 2) (5 - 1)) := Lib.hid ((Cert.nat (q := 5) hC).2)
  have HF := Lib.hid hF
  clear hC hF
  go_wp2_with fail
  have hL1 := RdU.lit w1 [1, 2, 3, 4]
  have hB2 := (Below.refl w1.heap.size w1).alloc (Nat.le_refl _) (.cells (ints .u64 [1, 2, 3, 4]).toArray 25)
  have hBw := hB1.trans (hB2.mono hB1.size)
  have hsz : (w1.alloc (.cells (ints .u64 [1, 2, 3, 4]).toArray 25)).heap.size = w1.heap.size + 1 := by simp
  have hF2 := (HF.out.below hB2).mono hB2.size
  have hR := r4run_yes (p := 5) prime5 HC.out (by omega) (by omega) hF2 (some ⟨w1.heap.size, 0, none⟩) 4 [1, 2, 3, 4] false (fun x hx => by simp at hx; omega) (by rw [hsz]; exact hL1) fault13_5
  refine hR.mono ?_
  rintro r w2 ⟨V, rfl, hO, hB3⟩
  have hv : (lst (p := 5) 4 (tr (zt 5 2) 4 false (rz 5 [1, 2, 3, 4]))) = [0, 4, 3, 2] := alive13_val
  have hO' : OwnU w2 (w1.alloc (.cells (ints .u64 [1, 2, 3, 4]).toArray 25)).heap.size V 4 [0, 4, 3, 2] := hv ▸ hO
  obtain ⟨A, c, rfl, hRd⟩ := hO'.rd
  have hBz := hBw.trans (hB3.mono hBw.size)
  clear hL1 hB2 hBw hF2 hR hO hO' hv hB3
  go_wp2_with fail
  have hL2 := RdU.lit w2 [0, 4, 3, 2]
  have hB4 := (Below.refl w2.heap.size w2).alloc (Nat.le_refl _) (.cells (ints .u64 [0, 4, 3, 2]).toArray 25)
  refine (same_any A (some ⟨w2.heap.size, 0, none⟩) c 4 (w2.heap.size + 1) [0, 4, 3, 2] [0, 4, 3, 2] _ (by simp) (by simp) ((hRd.below hB4).mono (Nat.le_succ _)) hL2).mono ?_
  rintro r w3 ⟨rfl, hB5⟩
  have hBf := (hBz.alloc hBz.size (.cells (ints .u64 [0, 4, 3, 2]).toArray 25)).trans (hB5.mono (by have := hBz.size; simp; omega))
  clear hL2 hB4 hRd hB5
  go_wp2
  go_ret
  exact ⟨by first | rfl | simp, hBf⟩
end Go.Proofs.YthhkljfgkihfgaaGreat
