/- What the types of the laws' arguments give: lists of numbers. -/
import Derived.Test.YtjjfiidgjiekpaaGreatWMontBFopsDft
import Derived.Test.YtjjfiidgjiekpaaGreatOpen
set_option linter.unusedVariables false
set_option linter.unusedSimpArgs false
set_option linter.unusedSectionVars false
set_option linter.unusedVariables false
set_option linter.unusedSimpArgs false
namespace Go.Proofs.YtjjfiidgjiekpaaGreat
open Go.RowKit Go.ChangeShapes Go.WideShapes
theorem bytesOf_u64 : Tryz.prog.bytesOf 22 = 8 := by kernel_rfl
section
variable {H : Type} {enc : TypeId × Value → H} {w : World}
theorem open_u64s {n : Nat} {cs : List Value} {y : DataW H × List MemPlace} (h : DataW.trod enc Tryz.prog w 0 (fun _ => true) true n 60 cs = some y)
    (hw : ∀ k ∈ y.1.weights Tryz.prog 60, k ≤ reachBytes) :
    ∃ A c L, cs = [.slice A L.length c] ∧ L.length ≤ 140737488351232 ∧ RdI w w.heap.size .u64 A L ∧ U64s L ∧ (A = none → c = 0) := by
  rcases Go.Deep.open_slice Tryz.underlying60 h with ⟨rfl, rfl⟩ | ⟨a, len, cap, m, n', D, Pl, rfl, hb, hl, hm, hmm, rfl, hi⟩
  · exact ⟨none, 0, [], rfl, by simp, fun h => by simp at h, fun x hx => by simp at hx, fun _ => rfl⟩
  · have hmc : m = cap := by simpa using hmm
    subst hmc
    have hsz : m * 8 ≤ reachBytes := by
      refine hw _ ?_
      simp only [DataW.weights, Tryz.underlying60, bytesOf_u64]
      simp only [List.length_map, List.length_range, List.mem_cons]
      left; congr 1; omega
    rw [reach_eq] at hsz
    have hel : ∀ i, i < len → ∃ x : Int, w.cell? (a.add i) = some (.int .u64 x) ∧ 0 ≤ x ∧ x ≤ 18446744073709551615 := fun i hil => by
      obtain ⟨cs', hc, ht⟩ := hi i (by omega)
      rw [cellsOf_u64, Nat.mul_one] at hc
      obtain ⟨_, hcl, hat⟩ := World.cells?_some hc
      obtain ⟨x, hx, _, wx⟩ := DataW.trod_int Tryz.underlying22 ht
      subst hx
      have a0 := hat 0 (by omega)
      have e0 : (a.add i).add 0 = a.add i := by simp [Addr.add]
      rw [e0] at a0
      exact ⟨x, a0, (u64_of_wf wx).1, (u64_of_wf wx).2⟩
    obtain ⟨L, hfl, hfs⟩ := list_of len hel
    refine ⟨some a, m, L, by rw [hfl], by omega, fun hpos => ?_, fun x hx => ?_, fun h => by cases h⟩
    · have h0 := (hfs 0 L[0] (List.getElem?_eq_getElem hpos)).1
      have e0 : a.add 0 = a := by simp [Addr.add]
      rw [e0] at h0
      have hs := World.cell?_spot h0
      have hblk := World.block_lt_of_cell? w _ h0
      refine ⟨a.block, a.off, by cases a; simp at hs; subst hs; rfl, hblk, fun j hj => ?_⟩
      have c0 := (hfs j L[j] (List.getElem?_eq_getElem hj)).1
      rw [addr_add hs] at c0
      rw [getD_of L j 0 L[j] (List.getElem?_eq_getElem hj)]
      exact c0
    · obtain ⟨j, hj, rfl⟩ := List.getElem_of_mem hx
      exact (hfs j L[j] (List.getElem?_eq_getElem hj)).2
end
end Go.Proofs.YtjjfiidgjiekpaaGreat
