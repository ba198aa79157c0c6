/- The law's same: are two lists the same? -/
import Derived.Test.YthhkljfgkihfgaaGreatWContToRef05
set_option linter.unusedVariables false
set_option linter.unusedSimpArgs false
set_option linter.unusedSectionVars false
namespace Go.Proofs.YthhkljfgkihfgaaGreat
open Go.RowKit

set_option maxHeartbeats 400000 in
theorem same_any (A B : Option Addr) (c d n : Nat) (xs ys : List Int) (w : World) (hx : xs.length ≤ 140737488351232) (hy : ys.length ≤ 140737488351232) (hX : RdI w n .u64 A xs) (hY : RdI w n .u64 B ys) :
   Calls Tryz.prog 59 #[.slice A xs.length c, .slice B ys.length d] w fun e w' => e = .returned (.bool (decide (xs = ys))) ∧ Below w.heap.size w w' := by
  by_cases hl : xs.length = ys.length
  · have h1 : ((xs.length : Int) != ys.length) = false := by simp [hl]
    have HL := Lib.hid hl
    clear hl
    go_enter Tryz.func59, Tryz.ntmps59
    go_wp2
    go_loopw [5, 13] (fun _ i wr => ∃ k : Nat, ∃ n, k ≤ xs.length ∧ i = .int .i64 k ∧ wr = w.drewN n ∧ Hid (xs.take k = ys.take k)) (fun _ i _ => xs.length - (intOf i).toNat)
    case atStart => exact ⟨0, 0, Nat.zero_le _, rfl, rfl, Lib.hid rfl⟩
    case round =>
      obtain ⟨k, n, hk, rfl, rfl, H⟩ := hrel
      by_cases hlt : k < xs.length
      · obtain ⟨a, o, rfl, _, ha⟩ := hX (by omega)
        obtain ⟨b, o', rfl, _, hb⟩ := hY (by have := HL.out; omega)
        have hky : k < ys.length := by have := HL.out; omega
        have ga := ha k hlt
        have gb := hb k hky
        clear ha hb hX hY
        obtain ⟨x, hx⟩ : ∃ x, x = xs.getD k 0 := ⟨_, rfl⟩
        obtain ⟨y, hy⟩ : ∃ y, y = ys.getD k 0 := ⟨_, rfl⟩
        rw [← hx] at ga
        rw [← hy] at gb
        have HX := Lib.hid hx
        have HY := Lib.hid hy
        clear hx hy
        by_cases e : x = y
        · have t1 : (x != y) = false := by simp [e]
          have HT := Lib.hid (take_ext H.out hlt hky (by rw [← HX.out, ← HY.out, e]))
          clear e
          go_wp2
          go_quiet (fail)
          go_wp2
          go_roundw
          case rel => exact ⟨k + 1, _, by omega, by go_num, rfl, HT⟩
          case measure => simp [intOf]; omega
        · have t1 : (x != y) = true := by simp [e]
          have HE := Lib.hid e
          clear e
          go_wp2
          go_quiet (fail)
          go_wp2
          go_ret
          refine ⟨ret_bool ?_, by first | exact below_drewN (Below.refl _ _) _ | exact below_drewN (below_drewN (Below.refl _ _) _) _⟩
          symm
          rw [decide_eq_false_iff_not]
          intro h
          exact HE.out (by rw [HX.out, HY.out, h])
      · obtain rfl : k = xs.length := by omega
        go_wp2
        go_ret
        refine ⟨ret_bool ?_, below_drewN (Below.refl _ _) _⟩
        symm
        rw [decide_eq_true_iff]
        have := H.out
        rw [List.take_length, HL.out, List.take_length] at this
        exact this
  · have h1 : ((xs.length : Int) != ys.length) = true := by simp; omega
    go_enter Tryz.func59, Tryz.ntmps59
    go_wp2
    go_ret
    refine ⟨ret_bool ?_, Below.refl _ _⟩
    symm
    rw [decide_eq_false_iff_not]
    exact fun h => hl (by rw [h])
end Go.Proofs.YthhkljfgkihfgaaGreat
