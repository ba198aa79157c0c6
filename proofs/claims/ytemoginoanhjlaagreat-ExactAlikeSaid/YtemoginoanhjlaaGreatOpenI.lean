/- What the types of the laws' arguments give: lists of whole numbers. -/
import Derived.Test.YtemoginoanhjlaaGreatExB
import Derived.Test.YtemoginoanhjlaaGreatWOpenOpenU
set_option linter.unusedVariables false
set_option linter.unusedSimpArgs false
set_option linter.unusedSectionVars false
set_option linter.unusedVariables false
set_option linter.unusedSimpArgs false
namespace Go.Proofs.YtemoginoanhjlaaGreat
open Go.RowKit Go.ChangeShapes Go.WideShapes
/-- A list of whole numbers. -/
structure LstI (w : World) (A : Option Addr) (c : Nat) (L : List Int) : Prop where
  hl : L.length ≤ 140737488351232
  hU : I64s L
  hR : RdI w w.heap.size .i64 A L
  hA : A = none → c = 0
theorem LstI.below {w w' : World} {A : Option Addr} {c : Nat} {L : List Int} (h : LstI w A c L) (hb : Below w.heap.size w w') : LstI w' A c L :=
  ⟨h.hl, h.hU, (h.hR.below hb).mono hb.size, h.hA⟩
theorem bytesOf_i64x : Tryz.prog.bytesOf 3 = 8 := by kernel_rfl
section
variable {H : Type} {enc : TypeId × Value → H} {w : World}
theorem open_i64s {n : Nat} {cs : List Value} {y : DataW H × List MemPlace} (h : DataW.trod enc Tryz.prog w 0 (fun _ => true) true n 56 cs = some y)
    (hw : ∀ k ∈ y.1.weights Tryz.prog 56, k ≤ reachBytes) :
    ∃ A c L, cs = [.slice A L.length c] ∧ L.length ≤ 140737488351232 ∧ RdI w w.heap.size .i64 A L ∧ I64s L ∧ (A = none → c = 0) := by
  rcases Go.Deep.open_slice Tryz.underlying56 h with ⟨rfl, rfl⟩ | ⟨a, len, cap, m, n', D, Pl, rfl, hb, hl, hm, hmm, rfl, hi⟩
  · exact ⟨none, 0, [], rfl, by simp, fun h => by simp at h, fun x hx => by simp at hx, fun _ => rfl⟩
  · have hmc : m = cap := by simpa using hmm
    subst hmc
    have hsz : m * 8 ≤ reachBytes := by
      refine hw _ ?_
      simp only [DataW.weights, Tryz.underlying56, bytesOf_i64x]
      simp only [List.length_map, List.length_range, List.mem_cons]
      left; congr 1; omega
    rw [reach_eq] at hsz
    have hel : ∀ i, i < len → ∃ x : Int, w.cell? (a.add i) = some (.int .i64 x) ∧ -9223372036854775808 ≤ x ∧ x ≤ 9223372036854775807 := fun i hil => by
      obtain ⟨cs', hc, ht⟩ := hi i (by omega)
      rw [cellsOf_int, Nat.mul_one] at hc
      obtain ⟨_, hcl, hat⟩ := World.cells?_some hc
      obtain ⟨x, hx, _, wx⟩ := DataW.trod_int Tryz.underlying3 ht
      subst hx
      have a0 := hat 0 (by omega)
      have e0 : (a.add i).add 0 = a.add i := by simp [Addr.add]
      rw [e0] at a0
      exact ⟨x, a0, (i64_of_wf wx).1, (i64_of_wf wx).2⟩
    obtain ⟨L, hfl, hfs⟩ := list_of len hel
    refine ⟨some a, m, L, by rw [hfl], by omega, fun hpos => ?_, fun x hx => ?_, fun h => by cases h⟩
    · have h0 := (hfs 0 L[0] (List.getElem?_eq_getElem hpos)).1
      have e0 : a.add 0 = a := by simp [Addr.add]
      rw [e0] at h0
      have hs := World.cell?_spot h0
      have hblk := World.block_lt_of_cell? w _ h0
      refine ⟨a.block, a.off, by cases a; simp at hs; subst hs; rfl, hblk, fun j hj => ?_⟩
      have c0 := (hfs j L[j] (List.getElem?_eq_getElem hj)).1
      rw [addr_add hs] at c0
      rw [getD_of L j 0 L[j] (List.getElem?_eq_getElem hj)]
      exact c0
    · obtain ⟨j, hj, rfl⟩ := List.getElem_of_mem hx
      exact (hfs j L[j] (List.getElem?_eq_getElem hj)).2
end
end Go.Proofs.YtemoginoanhjlaaGreat
