/- A list's capacity, out of what an argument is in memory. -/
import Derived.Test.YtjjfiidgjiekpaaGreatOpenU
set_option linter.unusedVariables false
set_option linter.unusedSimpArgs false
set_option linter.unusedSectionVars false
namespace Go.Proofs.YtjjfiidgjiekpaaGreat
open Go.RowKit
section
variable {H : Type} {enc : TypeId × Value → H} {w : World}
theorem open_u64s_cap {n : Nat} {cs : List Value} {y : DataW H × List MemPlace} (h : DataW.trod enc Tryz.prog w 0 (fun _ => true) true n 60 cs = some y) {A : Option Addr} {k c : Nat} (hcs : cs = [.slice A k c]) : k ≤ c := by
  rcases Go.Deep.open_slice Tryz.underlying60 h with ⟨rfl, rfl⟩ | ⟨a, len, cap, m, n', D, Pl, rfl, hb, hl, hm, hmm, rfl, hi⟩
  · simp at hcs; omega
  · simp at hcs; omega
end
end Go.Proofs.YtjjfiidgjiekpaaGreat
