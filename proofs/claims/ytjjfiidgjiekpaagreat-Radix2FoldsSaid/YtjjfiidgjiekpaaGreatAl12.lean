/- The law's first check: alive, of layer 12. -/
import Derived.Test.YtjjfiidgjiekpaaGreatAl5
import Derived.Test.YtjjfiidgjiekpaaGreatWR2UR2D
import Derived.Test.YtjjfiidgjiekpaaGreatWContToSame12
set_option linter.unusedVariables false
set_option linter.unusedSimpArgs false
set_option linter.unusedSectionVars false
set_option linter.unusedVariables false
set_option linter.unusedSimpArgs false
namespace Go.Proofs.YtjjfiidgjiekpaaGreat
open Go.RowKit
open Alg
theorem alive12_any (w : World) : Calls Tryz.prog 32 #[] w fun e w' => e = .returned (.bool true) ∧ Below w.heap.size w w' := by
  go_enter Tryz.func32, Tryz.ntmps32
  go_wp2_with fail
  refine (small5_any w).mono ?_
  rintro r w1 ⟨v, rfl, hC, hF, hB1⟩
  have HC : Hid (Ord (zt 5 2) (5 - 1)) := Lib.hid ((Cert.nat (q := 5) hC).2)
  have HF := Lib.hid hF
  clear hC hF
  go_wp2_with fail
  have hL1 := RdU.lit w1 [1, 2, 3, 4]
  have hB2 := (Below.refl w1.heap.size w1).alloc (Nat.le_refl _) (.cells (ints .u64 [1, 2, 3, 4]).toArray 22)
  have hBw := hB1.trans (hB2.mono hB1.size)
  have hsz : (w1.alloc (.cells (ints .u64 [1, 2, 3, 4]).toArray 22)).heap.size = w1.heap.size + 1 := by simp
  have hF2 := (HF.out.below hB2).mono hB2.size
  have hR := up_yes (p := 5) prime5 HC.out (by omega) (by omega) hF2 (some ⟨w1.heap.size, 0, none⟩) 4 [1, 2, 3, 4] false (fun x hx => by simp at hx; omega) (by rw [hsz]; exact hL1) fault13_5
  refine hR.mono ?_
  rintro r w2 ⟨V, rfl, hO, hB3⟩
  have hv : (lst (p := 5) 4 (tr (zt 5 2) 4 false (rz 5 [1, 2, 3, 4]))) = [0, 4, 3, 2] := alive13_val
  have hO' : OwnU w2 (w1.alloc (.cells (ints .u64 [1, 2, 3, 4]).toArray 22)).heap.size V 4 [0, 4, 3, 2] := hv ▸ hO
  obtain ⟨A, c, rfl, hRd⟩ := hO'.rd
  have hBz := hBw.trans (hB3.mono hBw.size)
  have hF3 := Lib.hid ((hF2.below hB3).mono hB3.size)
  clear hL1 hB2 hBw hF2 hR hO hO' hv hB3
  go_wp2_with fail
  have hL1 := RdU.lit w2 [1, 2, 3, 4]
  have hB2 := (Below.refl w2.heap.size w2).alloc (Nat.le_refl _) (.cells (ints .u64 [1, 2, 3, 4]).toArray 22)
  have hBy := hBz.trans (hB2.mono hBz.size)
  have hsz : (w2.alloc (.cells (ints .u64 [1, 2, 3, 4]).toArray 22)).heap.size = w2.heap.size + 1 := by simp
  have hF2 := (hF3.out.below hB2).mono hB2.size
  have hR := down_yes (p := 5) prime5 HC.out (by omega) (by omega) hF2 (some ⟨w2.heap.size, 0, none⟩) 4 [1, 2, 3, 4] false (fun x hx => by simp at hx; omega) (by rw [hsz]; exact hL1) fault13_5
  refine hR.mono ?_
  rintro r w3 ⟨V, rfl, hO, hB3⟩
  have hv : (lst (p := 5) 4 (tr (zt 5 2) 4 false (rz 5 [1, 2, 3, 4]))) = [0, 4, 3, 2] := alive13_val
  have hO' : OwnU w3 (w2.alloc (.cells (ints .u64 [1, 2, 3, 4]).toArray 22)).heap.size V 4 [0, 4, 3, 2] := hv ▸ hO
  obtain ⟨A', c', rfl, hRd'⟩ := hO'.rd
  have hBx := hBy.trans (hB3.mono hBy.size)
  have hRd3 := ((hRd.below hB2).below (hB3.mono hB2.size)).mono (Nat.le_trans hB2.size hB3.size)
  clear hL1 hB2 hBy hF2 hR hO hO' hv hB3 hRd
  go_wp2_with fail
  have hL2 := RdU.lit w3 [0, 4, 3, 2]
  have hB4 := (Below.refl w3.heap.size w3).alloc (Nat.le_refl _) (.cells (ints .u64 [0, 4, 3, 2]).toArray 22)
  refine (same_any A (some ⟨w3.heap.size, 0, none⟩) c 4 (w3.heap.size + 1) [0, 4, 3, 2] [0, 4, 3, 2] _ (by simp) (by simp) ((hRd3.below hB4).mono (Nat.le_succ _)) hL2).mono ?_
  rintro r w4 ⟨rfl, hB5⟩
  have hBf := (hBx.alloc hBx.size (.cells (ints .u64 [0, 4, 3, 2]).toArray 22)).trans (hB5.mono (by have := hBx.size; simp; omega))
  have hsz3 : w3.heap.size ≤ (w3.alloc (.cells (ints .u64 [0, 4, 3, 2]).toArray 22)).heap.size := by simp
  have hRa := ((hRd3.below hB4).mono hsz3).below hB5 |>.mono hB5.size
  have hRb := ((hRd'.below hB4).mono hsz3).below hB5 |>.mono hB5.size
  clear hL2 hB4 hRd3 hRd' hB5 hsz3
  go_wp2_with fail
  refine (same_any A' A c' c w4.heap.size [0, 4, 3, 2] [0, 4, 3, 2] w4 (by simp) (by simp) hRb hRa).mono ?_
  rintro r w5 ⟨rfl, hB6⟩
  have hBg := hBf.trans (hB6.mono hBf.size)
  clear hRa hRb hB6
  go_wp2
  go_ret
  exact ⟨by first | rfl | simp, hBg⟩
end Go.Proofs.YtjjfiidgjiekpaaGreat
