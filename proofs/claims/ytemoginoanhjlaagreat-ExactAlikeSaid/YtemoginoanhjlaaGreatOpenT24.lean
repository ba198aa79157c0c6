/- What the laws' arguments are in memory: three sources; three words. -/
import Derived.Test.YtemoginoanhjlaaGreatWOpenOpenU
import Derived.Test.YtemoginoanhjlaaGreatWRef06ToMs24
import Derived.Test.YtemoginoanhjlaaGreatArr
import Derived.OpenShut
set_option linter.unusedVariables false
set_option linter.unusedSimpArgs false
set_option linter.unusedSectionVars false
namespace Go.Proofs.YtemoginoanhjlaaGreat
open Go.RowKit Go.ChangeShapes Go.WideShapes
theorem list12 {α : Type} {l : List α} (h : l.length = 12) : ∃ a b c d e f g i j k m n, l = [a, b, c, d, e, f, g, i, j, k, m, n] := by
  match l, h with
  | [a, b, c, d, e, f, g, i, j, k, m, n], _ => exact ⟨a, b, c, d, e, f, g, i, j, k, m, n, rfl⟩
theorem cellsOf_three : Tryz.prog.cellsOf 55 = 12 := by kernel_rfl
theorem cellsOf_w3 : Tryz.prog.cellsOf 58 = 3 := by kernel_rfl
theorem cellsOf_limb : Tryz.prog.cellsOf 69 = 3 := by kernel_rfl
theorem okWide_array {P : Program} {w : World} {r : Reach} {base : Nat} {t e : TypeId} {n : Nat} {v : Value} (ht : P.underlying t = some (.array n e)) (h : Value.okWide P w r base t v) : ∃ cs, v = .agg cs ∧ cs.size = P.cellsOf t := by
  simp only [Value.okWide, ht] at h
  obtain ⟨cs, h1, h2, _⟩ := h
  exact ⟨cs, h1, h2⟩
section
variable {H : Type} {enc : TypeId × Value → H} {w : World}
theorem open_threes {n : Nat} {cs : List Value} {y : DataW H × List MemPlace} (h : DataW.trod enc Tryz.prog w 0 (fun _ => true) true n 55 cs = some y)
    (hw : ∀ k ∈ y.1.weights Tryz.prog 55, k ≤ reachBytes) : ∃ ca cb cc, cs = ca ++ cb ++ cc ∧ SrcArg w ca ∧ SrcArg w cb ∧ SrcArg w cc := by
  obtain ⟨xs, m, _, rfl, hlen, hxl, hf⟩ := DataW.trod_struct Tryz.underlying55 h
  rw [cellsOf_three] at hlen
  obtain ⟨c0, c1, c2, c3, c4, c5, c6, c7, c8, c9, c10, c11, rfl⟩ := list12 hlen
  have h0 := hf 0 _ rfl
  have h1 := hf 1 _ rfl
  have h2 := hf 2 _ rfl
  obtain ⟨x0, x1, x2, rfl⟩ := list3 (show xs.length = 3 from hxl)
  simp [cellsOf_src] at h0 h1 h2
  exact ⟨[c0, c1, c2, c3], [c4, c5, c6, c7], [c8, c9, c10, c11], rfl,
    open_src h0 (fun k hk => hw k (by
      simp only [DataW.weights, Tryz.underlying55, List.map_cons, List.map_nil, DataW.weightsEach, List.mem_append]
      exact .inl hk)),
    open_src h1 (fun k hk => hw k (by
      simp only [DataW.weights, Tryz.underlying55, List.map_cons, List.map_nil, DataW.weightsEach, List.mem_append]
      exact .inr (.inl hk))),
    open_src h2 (fun k hk => hw k (by
      simp only [DataW.weights, Tryz.underlying55, List.map_cons, List.map_nil, DataW.weightsEach, List.mem_append]
      exact .inr (.inr (.inl hk))))⟩
theorem open_words {t : TypeId} (ht : Tryz.prog.underlying t = some (.array 3 22)) (hc : Tryz.prog.cellsOf t = 3) {n : Nat} {cs : List Value} {y : DataW H × List MemPlace} (h : DataW.trod enc Tryz.prog w 0 (fun _ => true) true n t cs = some y) :
    ∃ a b c : Nat, cs = [.int .u64 (a : Int), .int .u64 (b : Int), .int .u64 (c : Int)] ∧ a < 18446744073709551616 ∧ b < 18446744073709551616 ∧ c < 18446744073709551616 := by
  obtain ⟨xs, m, _, rfl, hlen, hxl, hf⟩ := DataW.trod_array ht h
  rw [hc] at hlen
  obtain ⟨c0, c1, c2, rfl⟩ := list3 hlen
  have h0 := hf 0 (by omega)
  have h1 := hf 1 (by omega)
  have h2 := hf 2 (by omega)
  obtain ⟨x0, x1, x2, rfl⟩ := list3 hxl
  simp [cellsOf_u64] at h0 h1 h2
  obtain ⟨a, ha, _, wa⟩ := DataW.trod_int Tryz.underlying22 h0
  obtain ⟨b, hb, _, wb⟩ := DataW.trod_int Tryz.underlying22 h1
  obtain ⟨c, hcc, _, wc⟩ := DataW.trod_int Tryz.underlying22 h2
  simp at ha hb hcc
  subst ha; subst hb; subst hcc
  have a0 := u64_of_wf wa
  have b0 := u64_of_wf wb
  have d0 := u64_of_wf wc
  refine ⟨a.toNat, b.toNat, c.toNat, ?_, by omega, by omega, by omega⟩
  rw [Int.toNat_of_nonneg a0.1, Int.toNat_of_nonneg b0.1, Int.toNat_of_nonneg d0.1]
end
end Go.Proofs.YtemoginoanhjlaaGreat
